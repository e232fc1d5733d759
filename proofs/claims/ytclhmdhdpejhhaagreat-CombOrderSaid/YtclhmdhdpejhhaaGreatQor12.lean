/- Lwd Lmw Splain Ow: what the law needs of these -/
import Derived.Laws.BitsLemmas
import Derived.Test.YtclhmdhdpejhhaaGreatQor11
set_option linter.unusedVariables false
namespace Go.Proofs.Tryz
open Go.L Go.Rp
@[simp] theorem bop_i64_lss (a b : Int) : bop prog .lss 3 (.int .i64 a) (.int .i64 b) = some (.bool (decide (a < b))) := by kernel_rfl
@[simp] theorem bop_i64_leq (a b : Int) : bop prog .leq 3 (.int .i64 a) (.int .i64 b) = some (.bool (decide (a <= b))) := by kernel_rfl
@[simp] theorem bop_i64_gtr (a b : Int) : bop prog .gtr 3 (.int .i64 a) (.int .i64 b) = some (.bool (decide (a > b))) := by kernel_rfl
@[simp] theorem bop_i64_geq (a b : Int) : bop prog .geq 3 (.int .i64 a) (.int .i64 b) = some (.bool (decide (a ≥ b))) := by kernel_rfl
@[simp] theorem bop_i64_eql (a b : Int) : bop prog .eql 3 (.int .i64 a) (.int .i64 b) = some (.bool (a == b)) := by kernel_rfl
@[simp] theorem bop_i64_neq (a b : Int) : bop prog .neq 3 (.int .i64 a) (.int .i64 b) = some (.bool (a != b)) := by kernel_rfl
@[simp] theorem bop_i64_add (a b : Int) : bop prog .add 3 (.int .i64 a) (.int .i64 b) = some (.int .i64 (IntKind.i64.wrap (a + b))) := by kernel_rfl
@[simp] theorem bop_i64_sub (a b : Int) : bop prog .sub 3 (.int .i64 a) (.int .i64 b) = some (.int .i64 (IntKind.i64.wrap (a - b))) := by kernel_rfl
@[simp] theorem bop_i32_lss (a b : Int) : bop prog .lss 21 (.int .i32 a) (.int .i32 b) = some (.bool (decide (a < b))) := by kernel_rfl
@[simp] theorem bop_i32_leq (a b : Int) : bop prog .leq 21 (.int .i32 a) (.int .i32 b) = some (.bool (decide (a <= b))) := by kernel_rfl
@[simp] theorem bop_i32_gtr (a b : Int) : bop prog .gtr 21 (.int .i32 a) (.int .i32 b) = some (.bool (decide (a > b))) := by kernel_rfl
@[simp] theorem bop_i32_geq (a b : Int) : bop prog .geq 21 (.int .i32 a) (.int .i32 b) = some (.bool (decide (a ≥ b))) := by kernel_rfl
@[simp] theorem bop_i32_eql (a b : Int) : bop prog .eql 21 (.int .i32 a) (.int .i32 b) = some (.bool (a == b)) := by kernel_rfl
@[simp] theorem bop_i32_neq (a b : Int) : bop prog .neq 21 (.int .i32 a) (.int .i32 b) = some (.bool (a != b)) := by kernel_rfl
@[simp] theorem bop_i32_add (a b : Int) : bop prog .add 21 (.int .i32 a) (.int .i32 b) = some (.int .i32 (IntKind.i32.wrap (a + b))) := by kernel_rfl
@[simp] theorem bop_i32_sub (a b : Int) : bop prog .sub 21 (.int .i32 a) (.int .i32 b) = some (.int .i32 (IntKind.i32.wrap (a - b))) := by kernel_rfl
@[simp] theorem bop_u8_lss (a b : Int) : bop prog .lss 5 (.int .u8 a) (.int .u8 b) = some (.bool (decide (a < b))) := by kernel_rfl
@[simp] theorem bop_u8_leq (a b : Int) : bop prog .leq 5 (.int .u8 a) (.int .u8 b) = some (.bool (decide (a <= b))) := by kernel_rfl
@[simp] theorem bop_u8_gtr (a b : Int) : bop prog .gtr 5 (.int .u8 a) (.int .u8 b) = some (.bool (decide (a > b))) := by kernel_rfl
@[simp] theorem bop_u8_geq (a b : Int) : bop prog .geq 5 (.int .u8 a) (.int .u8 b) = some (.bool (decide (a ≥ b))) := by kernel_rfl
@[simp] theorem bop_u8_eql (a b : Int) : bop prog .eql 5 (.int .u8 a) (.int .u8 b) = some (.bool (a == b)) := by kernel_rfl
@[simp] theorem bop_u8_neq (a b : Int) : bop prog .neq 5 (.int .u8 a) (.int .u8 b) = some (.bool (a != b)) := by kernel_rfl
@[simp] theorem bop_u8_add (a b : Int) : bop prog .add 5 (.int .u8 a) (.int .u8 b) = some (.int .u8 (IntKind.u8.wrap (a + b))) := by kernel_rfl
@[simp] theorem bop_u8_sub (a b : Int) : bop prog .sub 5 (.int .u8 a) (.int .u8 b) = some (.int .u8 (IntKind.u8.wrap (a - b))) := by kernel_rfl
@[simp] theorem uop_not (b : Bool) : uop .not (.bool b) = some (.bool !b) := rfl
@[simp] theorem bop_bool_eql (a b : Bool) : bop prog .eql 4 (.bool a) (.bool b) = some (.bool (a == b)) := by kernel_rfl
@[simp] theorem bld_got (x : Int) : bldV prog 35 [(0, .int .u8 2), (1, .int .i32 x)] = some [.int .u8 2, .int .i32 x] := by kernel_rfl
@[simp] theorem kds_int : kds prog 12 3 = some [0] := by kernel_rfl
theorem w64 {n : Int} (h1 : -9223372036854775808 <= n) (h2 : n < 9223372036854775808) : IntKind.i64.wrap n = n := by rw [IntKind.wrap_i64]; omega
theorem step64 {k : Nat} (h : k < lim) : IntKind.i64.wrap ((k : Int) + 1) = ((k + 1 : Nat) : Int) := by unfold lim at h; rw [w64] <;> omega
@[simp] theorem boxAt_box {R : Type} (n : Nat) (cs : List V) (k : Nat -> List V -> Option R) : boxAt (some (.box n cs)) k = k n cs := rfl
@[simp] theorem mapAt_map {R : Type} (es : List (V × V)) (k : List (V × V) -> Option R) : mapAt (some (.map es)) k = k es := rfl
@[simp] theorem free_int (k : IntKind) (n : Int) : V.free (.int k n) = true := rfl
@[simp] theorem free_bool (b : Bool) : V.free (.bool b) = true := rfl
@[simp] theorem free_val (v : Value) : V.free (.val v) = true := rfl
@[simp] theorem free_sl (s : Nat) (l : List (List V)) (x : Bool) : V.free (.sl s l x) = V.free.freeLL l := rfl
@[simp] theorem free_agg (l : List V) : V.free (.agg l) = V.free.freeL l := rfl
@[simp] theorem freeL_nil : V.free.freeL [] = true := rfl
@[simp] theorem freeL_cons (v : V) (l : List V) : V.free.freeL (v :: l) = (v.free && V.free.freeL l) := rfl
@[simp] theorem freeLL_nil : V.free.freeLL [] = true := rfl
@[simp] theorem freeLL_cons (v : List V) (l : List (List V)) : V.free.freeLL (v :: l) = (V.free.freeL v && V.free.freeLL l) := rfl
theorem free_map {α : Type} (v : α -> List V) (hv : ∀ x, V.free.freeL (v x) = true) : ∀ l : List α, V.free.freeLL (l.map v) = true
  | [] => rfl
  | x :: l => by rw [List.map_cons, freeLL_cons, hv, free_map v hv l]; rfl
@[simp] theorem free_ints (k : IntKind) (l : List Int) : V.free.freeLL (l.map (intV k)) = true := free_map _ (fun _ => rfl) l
@[simp] theorem simple_one_int (k : IntKind) (n : Int) : V.simple.simpleL [.int k n] = true := rfl
@[simp] theorem simple_one_bool (b : Bool) : V.simple.simpleL [.bool b] = true := rfl
theorem gcw_ret {args : List V} {vs : List V} {h' h : Heap} (ha : V.free.freeL args = true) (hv : V.free.freeL vs = true) : gcw args (some (.ret vs, h')) h = some (.ret vs, h) := by
  simp [gcw, ha, hv]
end Go.Proofs.Tryz
set_option linter.unusedVariables false
set_option linter.unusedSimpArgs false
namespace Go.L
theorem cellsP_box {h : Heap} {b n : Nat} {cs : List V} (hb : h[b]? = some (.box n cs)) (o : Nat) : cellsP h (.ptr b o) = some (cs, n, o) := by simp only [cellsP, hb]
theorem cellsP_iptr (h : Heap) (n : Nat) (cs : List V) (o : Nat) : cellsP h (.iptr n cs o) = some (cs, n, o) := rfl
theorem idxP_sl {sz n : Nat} {l : List (List V)} {es : List V} (h : l[n]? = some es) (b : Bool) : idxP sz n (.sl sz l b) = some (.iptr sz es 0) := by simp [idxP, h]
@[simp] theorem slcH_sl (h : Heap) (sz : Nat) (l : List (List V)) (b : Bool) : slcH h (.sl sz l b) = some (sz, l) := rfl
@[simp] theorem lenP_sl (sz : Nat) (l : List (List V)) (b : Bool) : lenP (.sl sz l b) = some l.length := rfl
@[simp] theorem aggK_agg {R : Type} (l : List V) (k : List V -> Option R) : aggK (.agg l) k = k l := rfl
section
variable {α : Type} [DecidableEq α] {kf : α -> V} {ks : List Nat}
end
end Go.L
namespace Go.Rp
end Go.Rp
set_option linter.unusedVariables false
set_option linter.unusedSimpArgs false
namespace Go.Proofs.Tryz
open Go.L Go.Rp
set_option maxRecDepth 100000
def _root_.Go.Rp.O.w (o : O) : List V := [.int .u8 o.k, .int .i32 o.v]
def _root_.Go.Rp.R.w (r : R) : List V := [.int .u8 r.c, .int .i32 r.v]
theorem ow_take (o : O) : List.take 2 (O.w o) = O.w o := rfl
theorem ow_len (o : O) : (O.w o).length = 2 := rfl
theorem set_o (o : O) : setR [V.int .u8 0, .int .i32 0] 0 (O.w o) = O.w o := rfl
end Go.Proofs.Tryz
