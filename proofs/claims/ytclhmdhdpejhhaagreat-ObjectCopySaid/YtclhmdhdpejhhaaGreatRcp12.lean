/- Lwd Lmw Splain Ow: what the law needs of these -/
import Derived.Laws.BitsLemmas
import Derived.Test.YtclhmdhdpejhhaaGreatRcp11
set_option linter.unusedVariables false
namespace Go.Proofs.Tryz
open Go.L Go.Rp
@[simp] theorem zC (a b : Int) : bop prog .lss 3 (.int .i64 a) (.int .i64 b) = some (.bool (decide (a < b))) := by kernel_rfl
@[simp] theorem Yh (a b : Int) : bop prog .leq 3 (.int .i64 a) (.int .i64 b) = some (.bool (decide (a <= b))) := by kernel_rfl
@[simp] theorem XO (a b : Int) : bop prog .gtr 3 (.int .i64 a) (.int .i64 b) = some (.bool (decide (a > b))) := by kernel_rfl
@[simp] theorem Xm (a b : Int) : bop prog .geq 3 (.int .i64 a) (.int .i64 b) = some (.bool (decide (a ≥ b))) := by kernel_rfl
@[simp] theorem Xi (a b : Int) : bop prog .eql 3 (.int .i64 a) (.int .i64 b) = some (.bool (a == b)) := by kernel_rfl
@[simp] theorem KY (a b : Int) : bop prog .neq 3 (.int .i64 a) (.int .i64 b) = some (.bool (a != b)) := by kernel_rfl
@[simp] theorem zM (a b : Int) : bop prog .add 3 (.int .i64 a) (.int .i64 b) = some (.int .i64 (IntKind.i64.wrap (a + b))) := by kernel_rfl
@[simp] theorem ZH (a b : Int) : bop prog .sub 3 (.int .i64 a) (.int .i64 b) = some (.int .i64 (IntKind.i64.wrap (a - b))) := by kernel_rfl
@[simp] theorem zpN (a b : Int) : bop prog .lss 21 (.int .i32 a) (.int .i32 b) = some (.bool (decide (a < b))) := by kernel_rfl
@[simp] theorem zbd (a b : Int) : bop prog .leq 21 (.int .i32 a) (.int .i32 b) = some (.bool (decide (a <= b))) := by kernel_rfl
@[simp] theorem zpO (a b : Int) : bop prog .gtr 21 (.int .i32 a) (.int .i32 b) = some (.bool (decide (a > b))) := by kernel_rfl
@[simp] theorem zg0 (a b : Int) : bop prog .geq 21 (.int .i32 a) (.int .i32 b) = some (.bool (decide (a ≥ b))) := by kernel_rfl
@[simp] theorem zpP (a b : Int) : bop prog .eql 21 (.int .i32 a) (.int .i32 b) = some (.bool (a == b)) := by kernel_rfl
@[simp] theorem zg1 (a b : Int) : bop prog .neq 21 (.int .i32 a) (.int .i32 b) = some (.bool (a != b)) := by kernel_rfl
@[simp] theorem zpQ (a b : Int) : bop prog .add 21 (.int .i32 a) (.int .i32 b) = some (.int .i32 (IntKind.i32.wrap (a + b))) := by kernel_rfl
@[simp] theorem zg2 (a b : Int) : bop prog .sub 21 (.int .i32 a) (.int .i32 b) = some (.int .i32 (IntKind.i32.wrap (a - b))) := by kernel_rfl
@[simp] theorem zqc (a b : Int) : bop prog .lss 5 (.int .u8 a) (.int .u8 b) = some (.bool (decide (a < b))) := by kernel_rfl
@[simp] theorem zqd (a b : Int) : bop prog .leq 5 (.int .u8 a) (.int .u8 b) = some (.bool (decide (a <= b))) := by kernel_rfl
@[simp] theorem zqe (a b : Int) : bop prog .gtr 5 (.int .u8 a) (.int .u8 b) = some (.bool (decide (a > b))) := by kernel_rfl
@[simp] theorem zqf (a b : Int) : bop prog .geq 5 (.int .u8 a) (.int .u8 b) = some (.bool (decide (a ≥ b))) := by kernel_rfl
@[simp] theorem QG (a b : Int) : bop prog .eql 5 (.int .u8 a) (.int .u8 b) = some (.bool (a == b)) := by kernel_rfl
@[simp] theorem zqg (a b : Int) : bop prog .neq 5 (.int .u8 a) (.int .u8 b) = some (.bool (a != b)) := by kernel_rfl
@[simp] theorem zjk (a b : Int) : bop prog .add 5 (.int .u8 a) (.int .u8 b) = some (.int .u8 (IntKind.u8.wrap (a + b))) := by kernel_rfl
@[simp] theorem zqh (a b : Int) : bop prog .sub 5 (.int .u8 a) (.int .u8 b) = some (.int .u8 (IntKind.u8.wrap (a - b))) := by kernel_rfl
@[simp] theorem zbP (b : Bool) : uop .not (.bool b) = some (.bool !b) := rfl
@[simp] theorem zoZ (a b : Bool) : bop prog .eql 4 (.bool a) (.bool b) = some (.bool (a == b)) := by kernel_rfl
@[simp] theorem zq0 (x : Int) : Ji prog 35 [(0, .int .u8 2), (1, .int .i32 x)] = some [.int .u8 2, .int .i32 x] := by kernel_rfl
@[simp] theorem zq1 : kds prog 12 3 = some [0] := by kernel_rfl
theorem w64 {n : Int} (h1 : -9223372036854775808 <= n) (h2 : n < 9223372036854775808) : IntKind.i64.wrap n = n := by rw [IntKind.wrap_i64]; omega
theorem w8 {n : Int} (h1 : 0 <= n) (h2 : n < 256) : IntKind.u8.wrap n = n := by rw [IntKind.wrap_u8]; omega
theorem XF {k : Nat} (h : k < lim) : IntKind.i64.wrap ((k : Int) + 1) = ((k + 1 : Nat) : Int) := by unfold lim at h; rw [w64] <;> omega
@[simp] theorem zqu {R : Type} (n : Nat) (cs : List V) (k : Nat -> List V -> Option R) : zqE (some (.box n cs)) k = k n cs := rfl
@[simp] theorem zev {R : Type} (es : List (V × V)) (k : List (V × V) -> Option R) : zgX (some (.map es)) k = k es := rfl
@[simp] theorem zqI (k : IntKind) (n : Int) : V.free (.int k n) = true := rfl
@[simp] theorem zqv (b : Bool) : V.free (.bool b) = true := rfl
@[simp] theorem zqJ (v : Value) : V.free (.val v) = true := rfl
@[simp] theorem zq2 (s : Nat) (l : List (List V)) (x : Bool) : V.free (.sl s l x) = V.free.freeLL l := rfl
@[simp] theorem zqK (l : List V) : V.free (.agg l) = V.free.freeL l := rfl
@[simp] theorem zqw : V.free.freeL [] = true := rfl
@[simp] theorem zqi (v : V) (l : List V) : V.free.freeL (v :: l) = (v.free && V.free.freeL l) := rfl
@[simp] theorem zqj : V.free.freeLL [] = true := rfl
@[simp] theorem zg3 (v : List V) (l : List (List V)) : V.free.freeLL (v :: l) = (V.free.freeL v && V.free.freeLL l) := rfl
theorem zg4 {α : Type} (v : α -> List V) (hv : ∀ x, V.free.freeL (v x) = true) : ∀ l : List α, V.free.freeLL (l.map v) = true
 | [] => rfl
 | x :: l => by rw [zU, zg3, hv, zg4 v hv l]; rfl
@[simp] theorem zqx (k : IntKind) (l : List Int) : V.free.freeLL (l.map (XA k)) = true := zg4 _ (fun _ => rfl) l
@[simp] theorem znj (k : IntKind) (n : Int) : V.simple.simpleL [.int k n] = true := rfl
@[simp] theorem zmA (b : Bool) : V.simple.simpleL [.bool b] = true := rfl
theorem zkG {args : List V} {vs : List V} {h' h : ze} (ha : V.free.freeL args = true) (hv : V.free.freeL vs = true) : gcw args (some (.ret vs, h')) h = some (.ret vs, h) := by
 simp [gcw, ha, hv]
@[simp] theorem zcI (k : IntKind) (l : List Int) (n : Nat) : (l.map (XA k))[n]? = (l[n]?).map (XA k) := zJ
end Go.Proofs.Tryz
set_option linter.unusedSimpArgs false
namespace Go.L
theorem zx {h : ze} {b n : Nat} {cs : List V} (hb : h[b]? = some (.box n cs)) (o : Nat) : zu h (.ptr b o) = some (cs, n, o) := by simp only [zu, hb]
theorem XP (h : ze) (n : Nat) (cs : List V) (o : Nat) : zu h (.iptr n cs o) = some (cs, n, o) := rfl
theorem QW {sz n : Nat} {l : List (List V)} {es : List V} (h : l[n]? = some es) (b : Bool) : Xa sz n (.sl sz l b) = some (.iptr sz es 0) := by simp [Xa, h]
@[simp] theorem QX (h : ze) (sz : Nat) (l : List (List V)) (b : Bool) : Xq h (.sl sz l b) = some (sz, l) := rfl
@[simp] theorem zq3 (sz : Nat) (l : List (List V)) (b : Bool) : zan (.sl sz l b) = some l.length := rfl
@[simp] theorem zqL {R : Type} (l : List V) (k : List V -> Option R) : zq9 (.agg l) k = k l := rfl
theorem zaB {h : ze} {b : Nat} {es : List (V × V)} (hb : h[b]? = some (.map es)) : Yu h (.map b) = some es := by simp only [Yu, hb]
section
variable {α : Type} [DecidableEq α] {kf : α -> V} {ks : List Nat}
end
end Go.L
namespace Go.Rp
end Go.Rp
namespace Go.Proofs.Tryz
open Go.L Go.Rp
set_option maxRecDepth 100000
def _root_.Go.Rp.O.w (o : O) : List V := [.int .u8 o.k, .int .i32 o.v]
def _root_.Go.Rp.R.w (r : R) : List V := [.int .u8 r.c, .int .i32 r.v]
theorem zqk (e : Nat) (a : List O) (x : O) (h : a.length + 1 < lim) : app e 2 (.own e 2 (a.map O.w)) [O.w x] = some ((a ++ [x]).map O.w) := by
 simp [app, h]
theorem zqM (x : O) : jX prog 23 1 [(0, .agg (O.w x))] = some (2, [O.w x]) := by kernel_rfl
theorem zaC (l : List O) (n : Nat) : (l.map O.w)[n]? = (l[n]?).map O.w := zJ
theorem qf (l : List R) (n : Nat) : (l.map R.w)[n]? = (l[n]?).map R.w := zJ
theorem QB (o : O) : List.take 2 (O.w o) = O.w o := rfl
theorem XR (o : O) : (O.w o).length = 2 := rfl
theorem W3 (o : O) : setR [V.int .u8 0, .int .i32 0] 0 (O.w o) = O.w o := rfl
end Go.Proofs.Tryz
