import Derived.Test.YtodgpfffnnlbhaaLset
import Derived.Laws.BitsLemmas
/-! L: what single operations of the program come to -/
set_option linter.unusedVariables false
namespace Go.Proofs.Try
open Go.L Go.Rp
@[simp] theorem bop_i64_lss (a b : Int) : bop prog .lss 3 (.int .i64 a) (.int .i64 b) = some (.bool (decide (a < b))) := by kernel_rfl
@[simp] theorem bop_i64_leq (a b : Int) : bop prog .leq 3 (.int .i64 a) (.int .i64 b) = some (.bool (decide (a ≤ b))) := by kernel_rfl
@[simp] theorem bop_i64_gtr (a b : Int) : bop prog .gtr 3 (.int .i64 a) (.int .i64 b) = some (.bool (decide (a > b))) := by kernel_rfl
@[simp] theorem bop_i64_geq (a b : Int) : bop prog .geq 3 (.int .i64 a) (.int .i64 b) = some (.bool (decide (a ≥ b))) := by kernel_rfl
@[simp] theorem bop_i64_eql (a b : Int) : bop prog .eql 3 (.int .i64 a) (.int .i64 b) = some (.bool (a == b)) := by kernel_rfl
@[simp] theorem bop_i64_neq (a b : Int) : bop prog .neq 3 (.int .i64 a) (.int .i64 b) = some (.bool (a != b)) := by kernel_rfl
@[simp] theorem bop_i64_add (a b : Int) : bop prog .add 3 (.int .i64 a) (.int .i64 b) = some (.int .i64 (IntKind.i64.wrap (a + b))) := by kernel_rfl
@[simp] theorem bop_i64_sub (a b : Int) : bop prog .sub 3 (.int .i64 a) (.int .i64 b) = some (.int .i64 (IntKind.i64.wrap (a - b))) := by kernel_rfl
@[simp] theorem bop_i32_lss (a b : Int) : bop prog .lss 21 (.int .i32 a) (.int .i32 b) = some (.bool (decide (a < b))) := by kernel_rfl
@[simp] theorem bop_i32_leq (a b : Int) : bop prog .leq 21 (.int .i32 a) (.int .i32 b) = some (.bool (decide (a ≤ b))) := by kernel_rfl
@[simp] theorem bop_i32_gtr (a b : Int) : bop prog .gtr 21 (.int .i32 a) (.int .i32 b) = some (.bool (decide (a > b))) := by kernel_rfl
@[simp] theorem bop_i32_geq (a b : Int) : bop prog .geq 21 (.int .i32 a) (.int .i32 b) = some (.bool (decide (a ≥ b))) := by kernel_rfl
@[simp] theorem bop_i32_eql (a b : Int) : bop prog .eql 21 (.int .i32 a) (.int .i32 b) = some (.bool (a == b)) := by kernel_rfl
@[simp] theorem bop_i32_neq (a b : Int) : bop prog .neq 21 (.int .i32 a) (.int .i32 b) = some (.bool (a != b)) := by kernel_rfl
@[simp] theorem bop_i32_add (a b : Int) : bop prog .add 21 (.int .i32 a) (.int .i32 b) = some (.int .i32 (IntKind.i32.wrap (a + b))) := by kernel_rfl
@[simp] theorem bop_i32_sub (a b : Int) : bop prog .sub 21 (.int .i32 a) (.int .i32 b) = some (.int .i32 (IntKind.i32.wrap (a - b))) := by kernel_rfl
@[simp] theorem bop_u8_lss (a b : Int) : bop prog .lss 5 (.int .u8 a) (.int .u8 b) = some (.bool (decide (a < b))) := by kernel_rfl
@[simp] theorem bop_u8_leq (a b : Int) : bop prog .leq 5 (.int .u8 a) (.int .u8 b) = some (.bool (decide (a ≤ b))) := by kernel_rfl
@[simp] theorem bop_u8_gtr (a b : Int) : bop prog .gtr 5 (.int .u8 a) (.int .u8 b) = some (.bool (decide (a > b))) := by kernel_rfl
@[simp] theorem bop_u8_geq (a b : Int) : bop prog .geq 5 (.int .u8 a) (.int .u8 b) = some (.bool (decide (a ≥ b))) := by kernel_rfl
@[simp] theorem bop_u8_eql (a b : Int) : bop prog .eql 5 (.int .u8 a) (.int .u8 b) = some (.bool (a == b)) := by kernel_rfl
@[simp] theorem bop_u8_neq (a b : Int) : bop prog .neq 5 (.int .u8 a) (.int .u8 b) = some (.bool (a != b)) := by kernel_rfl
@[simp] theorem bop_u8_add (a b : Int) : bop prog .add 5 (.int .u8 a) (.int .u8 b) = some (.int .u8 (IntKind.u8.wrap (a + b))) := by kernel_rfl
@[simp] theorem bop_u8_sub (a b : Int) : bop prog .sub 5 (.int .u8 a) (.int .u8 b) = some (.int .u8 (IntKind.u8.wrap (a - b))) := by kernel_rfl
@[simp] theorem uop_not (b : Bool) : uop .not (.bool b) = some (.bool !b) := rfl
@[simp] theorem bop_bool_eql (a b : Bool) : bop prog .eql 4 (.bool a) (.bool b) = some (.bool (a == b)) := by kernel_rfl
theorem bop_res_neq (a b c d : Int) : bop prog .neq 34 (.agg [.int .u8 a, .int .i32 b]) (.agg [.int .u8 c, .int .i32 d]) = some (.bool (!(a == c && (b == d && true)))) := by kernel_rfl
@[simp] theorem bop_res (r r' : R) : bop prog .neq 34 (.agg [.int .u8 r.c, .int .i32 r.v]) (.agg [.int .u8 r'.c, .int .i32 r'.v]) = some (.bool (decide (r ≠ r'))) := by
  rw [bop_res_neq]
  congr 2
  obtain ⟨a, b⟩ := r
  obtain ⟨c, d⟩ := r'
  by_cases h1 : a = c <;> by_cases h2 : b = d <;> simp [h1, h2]
@[simp] theorem bld_got (x : Int) : bldV prog 34 [(0, .int .u8 2), (1, .int .i32 x)] = some [.int .u8 2, .int .i32 x] := by kernel_rfl
@[simp] theorem kds_int : kds prog 12 3 = some [0] := by kernel_rfl
theorem w64 {n : Int} (h1 : -9223372036854775808 ≤ n) (h2 : n < 9223372036854775808) : IntKind.i64.wrap n = n := by rw [IntKind.wrap_i64]; omega
theorem w8 {n : Int} (h1 : 0 ≤ n) (h2 : n < 256) : IntKind.u8.wrap n = n := by rw [IntKind.wrap_u8]; omega
theorem step64 {k : Nat} (h : k < lim) : IntKind.i64.wrap ((k : Int) + 1) = ((k + 1 : Nat) : Int) := by unfold lim at h; rw [w64] <;> omega
@[simp] theorem boxAt_box {R : Type} (n : Nat) (cs : List V) (k : Nat → List V → Option R) : boxAt (some (.box n cs)) k = k n cs := rfl
@[simp] theorem mapAt_map {R : Type} (es : List (V × V)) (k : List (V × V) → Option R) : mapAt (some (.map es)) k = k es := rfl
/-- no addresses -/
@[simp] theorem free_int (k : IntKind) (n : Int) : V.free (.int k n) = true := rfl
@[simp] theorem free_bool (b : Bool) : V.free (.bool b) = true := rfl
@[simp] theorem free_val (v : Value) : V.free (.val v) = true := rfl
@[simp] theorem free_sl (s : Nat) (l : List (List V)) (x : Bool) : V.free (.sl s l x) = V.free.freeLL l := rfl
@[simp] theorem free_agg (l : List V) : V.free (.agg l) = V.free.freeL l := rfl
@[simp] theorem freeL_nil : V.free.freeL [] = true := rfl
@[simp] theorem freeL_cons (v : V) (l : List V) : V.free.freeL (v :: l) = (v.free && V.free.freeL l) := rfl
@[simp] theorem freeLL_nil : V.free.freeLL [] = true := rfl
@[simp] theorem freeLL_cons (v : List V) (l : List (List V)) : V.free.freeLL (v :: l) = (V.free.freeL v && V.free.freeLL l) := rfl
theorem free_map {α : Type} (v : α → List V) (hv : ∀ x, V.free.freeL (v x) = true) : ∀ l : List α, V.free.freeLL (l.map v) = true
  | [] => rfl
  | x :: l => by rw [List.map_cons, freeLL_cons, hv, free_map v hv l]; rfl
@[simp] theorem free_ints (k : IntKind) (l : List Int) : V.free.freeLL (l.map (intV k)) = true := free_map _ (fun _ => rfl) l
@[simp] theorem free_sps (l : List Sp) : V.free.freeLL (l.map Sp.v) = true := free_map _ (fun _ => rfl) l
@[simp] theorem free_aps (l : List Ap) : V.free.freeLL (l.map Ap.v) = true := free_map _ (fun _ => rfl) l
@[simp] theorem simple_one_int (k : IntKind) (n : Int) : V.simple.simpleL [.int k n] = true := rfl
@[simp] theorem simple_one_bool (b : Bool) : V.simple.simpleL [.bool b] = true := rfl
/-- a pure call -/
theorem gcw_ret {args : List V} {vs : List V} {h' h : Heap} (ha : V.free.freeL args = true) (hv : V.free.freeL vs = true) : gcw args (some (.ret vs, h')) h = some (.ret vs, h) := by
  simp [gcw, ha, hv]
@[simp] theorem get_ints (k : IntKind) (l : List Int) (n : Nat) : (l.map (intV k))[n]? = (l[n]?).map (intV k) := List.getElem?_map
/-- a map whose keys are integers, and that is a set -/
def setE (l : List Int) : List (V × V) := l.map fun n => (.int .i64 n, .agg [])
theorem find_set (a : Int) : ∀ (l : List Int) (i : Nat), findI [0] (.int .i64 a) (setE l) i = some (((l.findIdx? (· == a))).map (· + i))
  | [], i => rfl
  | n :: l, i => by
    have h1 : keq [0] (.int .i64 a) (.int .i64 n) = some (a == n) := by
      show some (a == n && true) = _
      rw [Bool.and_true]
    unfold setE
    rw [List.map_cons, findI, h1, List.findIdx?_cons]
    by_cases h : a = n
    · subst h; simp
    · have h2 : (a == n) = false := by simpa using h
      have h3 : (n == a) = false := by simp [Ne.symm h]
      rw [h2, h3]
      simp only [Bool.false_eq_true, if_false]
      have := find_set a l (i + 1)
      unfold setE at this
      rw [this]
      cases l.findIdx? (· == a) <;> simp; omega
theorem find_set_none {a : Int} {l : List Int} (h : a ∉ l) : findI [0] (.int .i64 a) (setE l) 0 = some none := by
  rw [find_set]
  have : l.findIdx? (· == a) = none := by rw [List.findIdx?_eq_none_iff]; intro x hx; simp; rintro rfl; exact h hx
  rw [this]; rfl
theorem find_set_some {a : Int} {l : List Int} (h : a ∈ l) : ∃ j : Nat, j < l.length ∧ findI [0] (.int .i64 a) (setE l) 0 = some (some j) ∧ (setE l)[j]? = some (.int .i64 a, .agg []) := by
  rw [find_set]
  cases hf : l.findIdx? (· == a) with
  | none =>
    rw [List.findIdx?_eq_none_iff] at hf
    have := hf a h
    simp at this
  | some j =>
    obtain ⟨hlt, hj, _⟩ := List.findIdx?_eq_some_iff_getElem.1 hf
    have hj : l[j] = a := by simpa using hj
    exact ⟨j, hlt, by simp, by unfold setE; rw [List.getElem?_map, List.getElem?_eq_getElem hlt, hj]; rfl⟩
theorem upd_set (l : List Int) (a : Int) : upd (setE l) (.int .i64 a) (.agg []) none = setE (l ++ [a]) := by simp [upd, setE]
end Go.Proofs.Try
