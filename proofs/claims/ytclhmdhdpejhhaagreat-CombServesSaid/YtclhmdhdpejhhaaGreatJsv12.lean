/- Lwd Lmw Splain Ow: what the law needs of these -/import Derived.Laws.BitsLemmas
import Derived.Test.YtclhmdhdpejhhaaGreatJsv11
set_option linter.unusedVariables false
namespace Go.Proofs.Tryz
open Go.L Go.Rp
@[simp] theorem zy(a b:Int):bop prog .lss 3 (.int .i64 a) (.int .i64 b)=some (.bool (decide (a < b))):=by kernel_rfl
@[simp] theorem KT(a b:Int):bop prog .leq 3 (.int .i64 a) (.int .i64 b)=some (.bool (decide (a<=b))):=by kernel_rfl
@[simp] theorem Qg(a b:Int):bop prog .gtr 3 (.int .i64 a) (.int .i64 b)=some (.bool (decide (a > b))):=by kernel_rfl
@[simp] theorem Z7(a b:Int):bop prog .geq 3 (.int .i64 a) (.int .i64 b)=some (.bool (decide (a ≥ b))):=by kernel_rfl
@[simp] theorem ZT(a b:Int):bop prog .eql 3 (.int .i64 a) (.int .i64 b)=some (.bool (a == b)):=by kernel_rfl
@[simp] theorem KU(a b:Int):bop prog .neq 3 (.int .i64 a) (.int .i64 b)=some (.bool (a != b)):=by kernel_rfl
@[simp] theorem zA(a b:Int):bop prog .add 3 (.int .i64 a) (.int .i64 b)=some (.int .i64 (IntKind.i64.wrap (a+b))):=by kernel_rfl
@[simp] theorem ZF(a b:Int):bop prog .sub 3 (.int .i64 a) (.int .i64 b)=some (.int .i64 (IntKind.i64.wrap (a - b))):=by kernel_rfl
@[simp] theorem zuB(a b:Int):bop prog .lss 21 (.int .i32 a) (.int .i32 b)=some (.bool (decide (a < b))):=by kernel_rfl
@[simp] theorem zdd(a b:Int):bop prog .leq 21 (.int .i32 a) (.int .i32 b)=some (.bool (decide (a<=b))):=by kernel_rfl
@[simp] theorem zuC(a b:Int):bop prog .gtr 21 (.int .i32 a) (.int .i32 b)=some (.bool (decide (a > b))):=by kernel_rfl
@[simp] theorem zi3(a b:Int):bop prog .geq 21 (.int .i32 a) (.int .i32 b)=some (.bool (decide (a ≥ b))):=by kernel_rfl
@[simp] theorem zuD(a b:Int):bop prog .eql 21 (.int .i32 a) (.int .i32 b)=some (.bool (a == b)):=by kernel_rfl
@[simp] theorem zi4(a b:Int):bop prog .neq 21 (.int .i32 a) (.int .i32 b)=some (.bool (a != b)):=by kernel_rfl
@[simp] theorem zuE(a b:Int):bop prog .add 21 (.int .i32 a) (.int .i32 b)=some (.int .i32 (IntKind.i32.wrap (a+b))):=by kernel_rfl
@[simp] theorem zuF(a b:Int):bop prog .sub 21 (.int .i32 a) (.int .i32 b)=some (.int .i32 (IntKind.i32.wrap (a - b))):=by kernel_rfl
@[simp] theorem zvg(a b:Int):bop prog .lss 5 (.int .u8 a) (.int .u8 b)=some (.bool (decide (a < b))):=by kernel_rfl
@[simp] theorem zvh(a b:Int):bop prog .leq 5 (.int .u8 a) (.int .u8 b)=some (.bool (decide (a<=b))):=by kernel_rfl
@[simp] theorem zvi(a b:Int):bop prog .gtr 5 (.int .u8 a) (.int .u8 b)=some (.bool (decide (a > b))):=by kernel_rfl
@[simp] theorem zvj(a b:Int):bop prog .geq 5 (.int .u8 a) (.int .u8 b)=some (.bool (decide (a ≥ b))):=by kernel_rfl
@[simp] theorem Jt(a b:Int):bop prog .eql 5 (.int .u8 a) (.int .u8 b)=some (.bool (a == b)):=by kernel_rfl
@[simp] theorem zvk(a b:Int):bop prog .neq 5 (.int .u8 a) (.int .u8 b)=some (.bool (a != b)):=by kernel_rfl
@[simp] theorem zvl(a b:Int):bop prog .add 5 (.int .u8 a) (.int .u8 b)=some (.int .u8 (IntKind.u8.wrap (a+b))):=by kernel_rfl
@[simp] theorem zvm(a b:Int):bop prog .sub 5 (.int .u8 a) (.int .u8 b)=some (.int .u8 (IntKind.u8.wrap (a - b))):=by kernel_rfl
@[simp] theorem Yu(b:Bool):uop .not (.bool b)=some (.bool !b):=rfl
@[simp] theorem zti(a b:Bool):bop prog .eql 4 (.bool a) (.bool b)=some (.bool (a == b)):=by kernel_rfl
@[simp] theorem zwI(x:Int):Wz prog 35 [(0,.int .u8 2),(1,.int .i32 x)]=some [.int .u8 2,.int .i32 x]:=by kernel_rfl
@[simp] theorem zwJ:kds prog 12 3=some [0]:=by kernel_rfl
theorem w64{n:Int}(h1:-9223372036854775808<=n)(h2:n < 9223372036854775808):IntKind.i64.wrap n=n:=by rw[IntKind.wrap_i64];omega
theorem w8{n:Int}(h1:0<=n)(h2:n < 256):IntKind.u8.wrap n=n:=by rw[IntKind.wrap_u8];omega
theorem Xl{k:Nat}(h:k < lim):IntKind.i64.wrap ((k:Int)+1)=((k+1:Nat):Int):=by unfold lim at h;rw[w64] <;> omega
@[simp] theorem zv0{R:Type}(n:Nat)(cs:List V)(k:Nat->List V->Option R):zwb (some (.box n cs)) k=k n cs:=rfl
@[simp] theorem Kf{R:Type}(es:List (V×V))(k:List (V×V)->Option R):zbL (some (.map es)) k=k es:=rfl
@[simp] theorem zwf(k:IntKind)(n:Int):V.free (.int k n)=true:=rfl
@[simp] theorem zv1(b:Bool):V.free (.bool b)=true:=rfl
@[simp] theorem zwg(v:Value):V.free (.val v)=true:=rfl
@[simp] theorem zwK(s:Nat)(l:List (List V))(x:Bool):V.free (.sl s l x)=V.free.freeLL l:=rfl
@[simp] theorem zwh(l:List V):V.free (.agg l)=V.free.freeL l:=rfl
@[simp] theorem zv2:V.free.freeL []=true:=rfl
@[simp] theorem zvn(v:V)(l:List V):V.free.freeL (v :: l)=(v.free && V.free.freeL l):=rfl
@[simp] theorem zvo:V.free.freeLL []=true:=rfl
@[simp] theorem zi5(v:List V)(l:List (List V)):V.free.freeLL (v :: l)=(V.free.freeL v && V.free.freeLL l):=rfl
theorem zi6 {α : Type} (v : α -> List V) (hv : ∀ x, V.free.freeL (v x) = true) : ∀ l : List α, V.free.freeLL (l.map v) = true
 | []=>rfl
 | x :: l=>by rw[zW,zi5,hv,zi6 v hv l];rfl
@[simp] theorem zv3(k:IntKind)(l:List Int):V.free.freeLL (l.map (Qs k))=true:=zi6 _ (fun _=>rfl) l
@[simp] theorem zqA(k:IntKind)(n:Int):V.simple.simpleL [.int k n]=true:=rfl
@[simp] theorem zpS(b:Bool):V.simple.simpleL [.bool b]=true:=rfl
theorem Y0{args:List V}{vs:List V}{h' h:ze}(ha:V.free.freeL args=true)(hv:V.free.freeL vs=true):gcw args (some (.ret vs,h')) h=some (.ret vs,h):=by
 simp[gcw,ha,hv]
end Go.Proofs.Tryz
set_option linter.unusedSimpArgs false
namespace Go.L
theorem zI{h:ze}{b n:Nat}{cs:List V}(hb:h[b]?=some (.box n cs))(o:Nat):Zv h (.ptr b o)=some (cs,n,o):=by simp only[Zv,hb]
theorem Zq(h:ze)(n:Nat)(cs:List V)(o:Nat):Zv h (.iptr n cs o)=some (cs,n,o):=rfl
theorem XJ{sz n:Nat}{l:List (List V)}{es:List V}(h:l[n]?=some es)(b:Bool):Jz sz n (.sl sz l b)=some (.iptr sz es 0):=by simp[Jz,h]
@[simp] theorem j9(h:ze)(sz:Nat)(l:List (List V))(b:Bool):ZI h (.sl sz l b)=some (sz,l):=rfl
@[simp] theorem zwL(sz:Nat)(l:List (List V))(b:Bool):zcm (.sl sz l b)=some l.length:=rfl
@[simp] theorem zwi{R:Type}(l:List V)(k:List V->Option R):zwT (.agg l) k=k l:=rfl
theorem zcA{h:ze}{b:Nat}{es:List (V×V)}(hb:h[b]?=some (.map es)):Yy h (.map b)=some es:=by simp only[Yy,hb]
section
variable {α:Type} [DecidableEq α] {kf:α->V} {ks:List Nat}
end
end Go.L
namespace Go.Rp
end Go.Rp
namespace Go.Proofs.Tryz
open Go.L Go.Rp
set_option maxRecDepth 100000
def _root_.Go.Rp.O.w(o:O):List V:=[.int .u8 o.k,.int .i32 o.v]
def _root_.Go.Rp.R.w(r:R):List V:=[.int .u8 r.c,.int .i32 r.v]
theorem zcB(l:List O)(n:Nat):(l.map O.w)[n]?=(l[n]?).map O.w:=zF
theorem zcC(l:List R)(n:Nat):(l.map R.w)[n]?=(l[n]?).map R.w:=zF
theorem Jn(o:O):List.take 2 (O.w o)=O.w o:=rfl
theorem Qz(o:O):(O.w o).length=2:=rfl
theorem KB(o:O):setR [V.int .u8 0,.int .i32 0] 0 (O.w o)=O.w o:=rfl
end Go.Proofs.Tryz
