/- Lwd Lmw Splain Ow: what the law needs of these -/
import Derived.Laws.BitsLemmas
import Derived.Test.YtclhmdhdpejhhaaGreatRpl11
set_option linter.unusedVariables false
namespace Go.Proofs.Tryz
open Go.L Go.Rp
@[simp] theorem zu (a b : Int) : bop prog .lss 3 (.int .i64 a) (.int .i64 b) = some (.bool (decide (a < b))) := by kernel_rfl
@[simp] theorem QB (a b : Int) : bop prog .leq 3 (.int .i64 a) (.int .i64 b) = some (.bool (decide (a <= b))) := by kernel_rfl
@[simp] theorem Xy (a b : Int) : bop prog .gtr 3 (.int .i64 a) (.int .i64 b) = some (.bool (decide (a > b))) := by kernel_rfl
@[simp] theorem Xj (a b : Int) : bop prog .geq 3 (.int .i64 a) (.int .i64 b) = some (.bool (decide (a ≥ b))) := by kernel_rfl
@[simp] theorem Xk (a b : Int) : bop prog .eql 3 (.int .i64 a) (.int .i64 b) = some (.bool (a == b)) := by kernel_rfl
@[simp] theorem KW (a b : Int) : bop prog .neq 3 (.int .i64 a) (.int .i64 b) = some (.bool (a != b)) := by kernel_rfl
@[simp] theorem zK (a b : Int) : bop prog .add 3 (.int .i64 a) (.int .i64 b) = some (.int .i64 (IntKind.i64.wrap (a + b))) := by kernel_rfl
@[simp] theorem ZO (a b : Int) : bop prog .sub 3 (.int .i64 a) (.int .i64 b) = some (.int .i64 (IntKind.i64.wrap (a - b))) := by kernel_rfl
@[simp] theorem zpu (a b : Int) : bop prog .lss 21 (.int .i32 a) (.int .i32 b) = some (.bool (decide (a < b))) := by kernel_rfl
@[simp] theorem za6 (a b : Int) : bop prog .leq 21 (.int .i32 a) (.int .i32 b) = some (.bool (decide (a <= b))) := by kernel_rfl
@[simp] theorem zpv (a b : Int) : bop prog .gtr 21 (.int .i32 a) (.int .i32 b) = some (.bool (decide (a > b))) := by kernel_rfl
@[simp] theorem zgU (a b : Int) : bop prog .geq 21 (.int .i32 a) (.int .i32 b) = some (.bool (decide (a ≥ b))) := by kernel_rfl
@[simp] theorem zpw (a b : Int) : bop prog .eql 21 (.int .i32 a) (.int .i32 b) = some (.bool (a == b)) := by kernel_rfl
@[simp] theorem zgV (a b : Int) : bop prog .neq 21 (.int .i32 a) (.int .i32 b) = some (.bool (a != b)) := by kernel_rfl
@[simp] theorem zpx (a b : Int) : bop prog .add 21 (.int .i32 a) (.int .i32 b) = some (.int .i32 (IntKind.i32.wrap (a + b))) := by kernel_rfl
@[simp] theorem zgW (a b : Int) : bop prog .sub 21 (.int .i32 a) (.int .i32 b) = some (.int .i32 (IntKind.i32.wrap (a - b))) := by kernel_rfl
@[simp] theorem zpW (a b : Int) : bop prog .lss 5 (.int .u8 a) (.int .u8 b) = some (.bool (decide (a < b))) := by kernel_rfl
@[simp] theorem zpX (a b : Int) : bop prog .leq 5 (.int .u8 a) (.int .u8 b) = some (.bool (decide (a <= b))) := by kernel_rfl
@[simp] theorem zpY (a b : Int) : bop prog .gtr 5 (.int .u8 a) (.int .u8 b) = some (.bool (decide (a > b))) := by kernel_rfl
@[simp] theorem zpZ (a b : Int) : bop prog .geq 5 (.int .u8 a) (.int .u8 b) = some (.bool (decide (a ≥ b))) := by kernel_rfl
@[simp] theorem QH (a b : Int) : bop prog .eql 5 (.int .u8 a) (.int .u8 b) = some (.bool (a == b)) := by kernel_rfl
@[simp] theorem zp0 (a b : Int) : bop prog .neq 5 (.int .u8 a) (.int .u8 b) = some (.bool (a != b)) := by kernel_rfl
@[simp] theorem zi7 (a b : Int) : bop prog .add 5 (.int .u8 a) (.int .u8 b) = some (.int .u8 (IntKind.u8.wrap (a + b))) := by kernel_rfl
@[simp] theorem zp1 (a b : Int) : bop prog .sub 5 (.int .u8 a) (.int .u8 b) = some (.int .u8 (IntKind.u8.wrap (a - b))) := by kernel_rfl
@[simp] theorem Y9 (b : Bool) : uop .not (.bool b) = some (.bool !b) := rfl
@[simp] theorem zoK (a b : Bool) : bop prog .eql 4 (.bool a) (.bool b) = some (.bool (a == b)) := by kernel_rfl
@[simp] theorem zqT (x : Int) : Ww prog 35 [(0, .int .u8 2), (1, .int .i32 x)] = some [.int .u8 2, .int .i32 x] := by kernel_rfl
@[simp] theorem zqU : kds prog 12 3 = some [0] := by kernel_rfl
theorem w64 {n : Int} (h1 : -9223372036854775808 <= n) (h2 : n < 9223372036854775808) : IntKind.i64.wrap n = n := by rw [IntKind.wrap_i64]; omega
theorem w8 {n : Int} (h1 : 0 <= n) (h2 : n < 256) : IntKind.u8.wrap n = n := by rw [IntKind.wrap_u8]; omega
theorem Xu {k : Nat} (h : k < lim) : IntKind.i64.wrap ((k : Int) + 1) = ((k + 1 : Nat) : Int) := by unfold lim at h; rw [w64] <;> omega
@[simp] theorem zqi {R : Type} (n : Nat) (cs : List V) (k : Nat -> List V -> Option R) : zqs (some (.box n cs)) k = k n cs := rfl
@[simp] theorem zeq {R : Type} (es : List (V × V)) (k : List (V × V) -> Option R) : zgR (some (.map es)) k = k es := rfl
@[simp] theorem zqw (k : IntKind) (n : Int) : V.free (.int k n) = true := rfl
@[simp] theorem zqj (b : Bool) : V.free (.bool b) = true := rfl
@[simp] theorem zqx (v : Value) : V.free (.val v) = true := rfl
@[simp] theorem zqV (s : Nat) (l : List (List V)) (x : Bool) : V.free (.sl s l x) = V.free.freeLL l := rfl
@[simp] theorem zqy (l : List V) : V.free (.agg l) = V.free.freeL l := rfl
@[simp] theorem zqk : V.free.freeL [] = true := rfl
@[simp] theorem zp2 (v : V) (l : List V) : V.free.freeL (v :: l) = (v.free && V.free.freeL l) := rfl
@[simp] theorem zp3 : V.free.freeLL [] = true := rfl
@[simp] theorem zgX (v : List V) (l : List (List V)) : V.free.freeLL (v :: l) = (V.free.freeL v && V.free.freeLL l) := rfl
theorem qI {α : Type} (v : α -> List V) (hv : ∀ x, V.free.freeL (v x) = true) : ∀ l : List α, V.free.freeLL (l.map v) = true
 | [] => rfl
 | x :: l => by rw [zT, zgX, hv, qI v hv l]; rfl
@[simp] theorem zql (k : IntKind) (l : List Int) : V.free.freeLL (l.map (Xh k)) = true := qI _ (fun _ => rfl) l
@[simp] theorem zmO (k : IntKind) (n : Int) : V.simple.simpleL [.int k n] = true := rfl
@[simp] theorem zl8 (b : Bool) : V.simple.simpleL [.bool b] = true := rfl
theorem zfr {args : List V} {vs : List V} {h' h : zd} (ha : V.free.freeL args = true) (hv : V.free.freeL vs = true) : gcw args (some (.ret vs, h')) h = some (.ret vs, h) := by
 simp [gcw, ha, hv]
@[simp] theorem zcE (k : IntKind) (l : List Int) (n : Nat) : (l.map (Xh k))[n]? = (l[n]?).map (Xh k) := zF
end Go.Proofs.Tryz
set_option linter.unusedSimpArgs false
namespace Go.L
theorem zE {h : zd} {b n : Nat} {cs : List V} (hb : h[b]? = some (.box n cs)) (o : Nat) : zw h (.ptr b o) = some (cs, n, o) := by simp only [zw, hb]
theorem Xg (h : zd) (n : Nat) (cs : List V) (o : Nat) : zw h (.iptr n cs o) = some (cs, n, o) := rfl
theorem Qd {sz n : Nat} {l : List (List V)} {es : List V} (h : l[n]? = some es) (b : Bool) : ZW sz n (.sl sz l b) = some (.iptr sz es 0) := by simp [ZW, h]
@[simp] theorem Q9 (h : zd) (sz : Nat) (l : List (List V)) (b : Bool) : XB h (.sl sz l b) = some (sz, l) := rfl
@[simp] theorem zoL (sz : Nat) (l : List (List V)) (b : Bool) : qq (.sl sz l b) = some l.length := rfl
@[simp] theorem zqz {R : Type} (l : List V) (k : List V -> Option R) : zq0 (.agg l) k = k l := rfl
theorem zay {h : zd} {b : Nat} {es : List (V × V)} (hb : h[b]? = some (.map es)) : Yy h (.map b) = some es := by simp only [Yy, hb]
section
variable {α : Type} [DecidableEq α] {kf : α -> V} {ks : List Nat}
end
end Go.L
namespace Go.Rp
end Go.Rp
namespace Go.Proofs.Tryz
open Go.L Go.Rp
set_option maxRecDepth 100000
def _root_.Go.Rp.O.w (o : O) : List V := [.int .u8 o.k, .int .i32 o.v]
def _root_.Go.Rp.R.w (r : R) : List V := [.int .u8 r.c, .int .i32 r.v]
theorem zp4 (e : Nat) (a : List O) (x : O) (h : a.length + 1 < lim) : app e 2 (.own e 2 (a.map O.w)) [O.w x] = some ((a ++ [x]).map O.w) := by
 simp [app, h]
theorem zqA (x : O) : Yx prog 23 1 [(0, .agg (O.w x))] = some (2, [O.w x]) := by kernel_rfl
theorem zaz (l : List O) (n : Nat) : (l.map O.w)[n]? = (l[n]?).map O.w := zF
theorem j9 (l : List R) (n : Nat) : (l.map R.w)[n]? = (l[n]?).map R.w := zF
theorem QC (o : O) : List.take 2 (O.w o) = O.w o := rfl
theorem XN (o : O) : (O.w o).length = 2 := rfl
theorem W6 (o : O) : setR [V.int .u8 0, .int .i32 0] 0 (O.w o) = O.w o := rfl
end Go.Proofs.Tryz
