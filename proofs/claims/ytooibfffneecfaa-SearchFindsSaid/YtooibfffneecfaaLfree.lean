import Derived.Test.YtooibfffneecfaaLkey
import Derived.Test.YtooibfffneecfaaLfi
/-! search.Find: what may come next -/
set_option linter.unusedVariables false
set_option linter.unusedSimpArgs false
namespace Go.Proofs.Try
open Go.L Go.Rp
set_option maxRecDepth 100000
theorem bop_shr (a k : Nat) (hk : k < 64) : bop prog .shr 97 (.int .u64 (a : Int)) (.int .i64 (k : Int)) = some (.int .u64 ((a / 2 ^ k : Nat) : Int)) := by
  have : ∀ a b : Int, bop prog .shr 97 (.int .u64 a) (.int .i64 b) = (if b < 0 then none else some (.int .u64 (a.fdiv (2 ^ (min b.toNat 64))))) := fun a b => by kernel_rfl
  rw [this, if_neg (by omega), Int.toNat_natCast, Nat.min_eq_left (by omega)]
  have h2 : ((2 : Int) ^ k) = ((2 ^ k : Nat) : Int) := by simp
  rw [h2, Int.fdiv_eq_ediv_of_nonneg _ (Int.natCast_nonneg _)]
  rfl
theorem bop_shl1 (k : Nat) (hk : k < 64) : bop prog .shl 97 (.int .u64 1) (.int .i64 (k : Int)) = some (.int .u64 ((2 ^ k : Nat) : Int)) := by
  have : ∀ a b : Int, bop prog .shl 97 (.int .u64 a) (.int .i64 b) = (if b < 0 then none else some (.int .u64 (IntKind.u64.wrap (a * 2 ^ (min b.toNat 64))))) := fun a b => by kernel_rfl
  rw [this, if_neg (by omega), Int.toNat_natCast, Nat.min_eq_left (by omega), Int.one_mul]
  have h2 : ((2 : Int) ^ k) = ((2 ^ k : Nat) : Int) := by simp
  have h3 : 2 ^ k < 2 ^ 64 := Nat.pow_lt_pow_right (by decide) hk
  have h4 : IntKind.u64.wrap ((2 ^ k : Nat) : Int) = ((2 ^ k : Nat) : Int) := by
    have : IntKind.u64.wrap ((2 ^ k : Nat) : Int) = ((2 ^ k : Nat) : Int) % 18446744073709551616 := by simp [IntKind.wrap, IntKind.bits, IntKind.signed]
    rw [this]
    generalize 2 ^ k = q at h3
    omega
  rw [h2, h4]
theorem bop_and64 (a b : Nat) (ha : a < 2 ^ 64) (hb : b < 2 ^ 64) : bop prog .and 97 (.int .u64 (a : Int)) (.int .u64 (b : Int)) = some (.int .u64 ((a &&& b : Nat) : Int)) := by
  have : ∀ a b : Int, bop prog .and 97 (.int .u64 a) (.int .u64 b) = some (.int .u64 (IntKind.u64.wrap (BitVec.ofInt 64 a &&& BitVec.ofInt 64 b).toNat)) := fun a b => by kernel_rfl
  have hw : ∀ n : Int, IntKind.u64.wrap n = n % 18446744073709551616 := fun n => by simp [IntKind.wrap, IntKind.bits, IntKind.signed]
  have hlt : a &&& b < 2 ^ 64 := Nat.and_lt_two_pow _ hb
  rw [this, hw, BitVec.toNat_and, BitVec.ofInt_natCast, BitVec.ofInt_natCast, BitVec.toNat_ofNat, BitVec.toNat_ofNat, Nat.mod_eq_of_lt ha, Nat.mod_eq_of_lt hb]
  congr 2
  omega
theorem bop_or64 (a b : Nat) (ha : a < 2 ^ 64) (hb : b < 2 ^ 64) : bop prog .or 97 (.int .u64 (a : Int)) (.int .u64 (b : Int)) = some (.int .u64 ((a ||| b : Nat) : Int)) := by
  have : ∀ a b : Int, bop prog .or 97 (.int .u64 a) (.int .u64 b) = some (.int .u64 (IntKind.u64.wrap (BitVec.ofInt 64 a ||| BitVec.ofInt 64 b).toNat)) := fun a b => by kernel_rfl
  have hw : ∀ n : Int, IntKind.u64.wrap n = n % 18446744073709551616 := fun n => by simp [IntKind.wrap, IntKind.bits, IntKind.signed]
  have hlt : a ||| b < 2 ^ 64 := Nat.or_lt_two_pow ha hb
  rw [this, hw, BitVec.toNat_or, BitVec.ofInt_natCast, BitVec.ofInt_natCast, BitVec.toNat_ofNat, BitVec.toNat_ofNat, Nat.mod_eq_of_lt ha, Nat.mod_eq_of_lt hb]
  congr 2
  omega
theorem bop_u64_eql (a b : Int) : bop prog .eql 97 (.int .u64 a) (.int .u64 b) = some (.bool (a == b)) := by kernel_rfl
theorem and_one (a k : Nat) : a / 2 ^ k &&& 1 = (a.testBit k).toNat := by
  rw [Nat.and_one_is_mod, Nat.testBit_eq_decide_div_mod_eq]
  rcases Nat.mod_two_eq_zero_or_one (a / 2 ^ k) with h | h <;> simp [h]
theorem bit_zero (a k : Nat) : (((a.testBit k).toNat : Int) == 0) = !(a.testBit k) := by cases a.testBit k <;> rfl
theorem bit_f : (((false).toNat : Int) == 0) = true := rfl
theorem bit_t : (((true).toNat : Int) == 0) = false := rfl
/-- may an operation come next, as far as it is asked? -/
def FreeFrom (l : List Sp) (k dn j : Nat) (x : Sp) : Prop := ∀ (i : Nat) y, j ≤ i → l[i]? = some y → i ≠ k → dn.testBit i = false → before y x = false
theorem free_loop (N : Nat) (z : Nat) (l : List Sp) (b : Bool) (p k dn : Nat) (x : Sp) (u : V) (H : Heap) (hz : z = 8 ∨ l = []) (hH : H[1]? = some (.box 1 [.sl z (l.map Sp.v) b])) (hl : l.length ≤ 8) (hd : dn < 2 ^ 64) (hx : l[k]? = some x) : ∀ (d j M : Nat), j + d = l.length → d < M →
    ∃ r, loopx M (lFree_l4 (N + 1) (k : Int) (dn : Int) 1 (.sl z (l.map Sp.v) b) (p, l.map Sp.v)) [u, .int .i64 (j : Int)] H = some (.ret [.bool r], H) ∧ (r = true ↔ dn.testBit k = false ∧ FreeFrom l k dn j x)
  | d, j, 0, _, h => by omega
  | 0, j, M + 1, hj, _ => by
    obtain rfl : j = l.length := by omega
    have hk : k < 64 := by have := (List.getElem?_eq_some_iff.1 hx).1; omega
    have hq : dn / 2 ^ k < 2 ^ 64 := Nat.lt_of_le_of_lt (Nat.div_le_self _ _) hd
    have h1 := bop_and64 (dn / 2 ^ k) 1 hq (by decide)
    refine ⟨!(dn.testBit k), ?_, ?_⟩
    · rw [loopx_succ]
      simp only [lFree_l4, gv, List.getD_cons_succ, List.getD_cons_zero, List.length_map, bop_i64_lss, bd_some, bv_bool, Int.lt_irrefl, decide_false, Bool.false_eq_true, if_false, bop_shr _ _ hk]
      rw [show (V.int .u64 1) = .int .u64 ((1 : Nat) : Int) from rfl, h1]
      simp only [bd_some, bop_u64_eql, and_one, bit_zero]
    · constructor
      · intro h
        refine ⟨by simpa using h, fun i y hi hy => ?_⟩
        have := (List.getElem?_eq_some_iff.1 hy).1
        omega
      · intro h
        rw [h.1]; rfl
  | d + 1, j, M + 1, hj, hM => by
    have hlt : (j : Int) < (l.length : Int) := by omega
    obtain ⟨y, hy⟩ : ∃ y, l[j]? = some y := ⟨_, List.getElem?_eq_getElem (by omega)⟩
    have hj64 : j < 64 := by omega
    obtain rfl : z = 8 := hz.resolve_right (by rintro rfl; simp at hx)
    obtain ⟨r, hr, hiff⟩ := free_loop N 8 l b p k dn x u H hz hH hl hd hx d (j + 1) M (by omega) (by omega)
    have hq : dn / 2 ^ j < 2 ^ 64 := Nat.lt_of_le_of_lt (Nat.div_le_self _ _) hd
    have h1 := bop_and64 (dn / 2 ^ j) 1 hq (by decide)
    have hset : setR [V.int .i64 0, .int .i64 0, .int .u8 0, .int .i32 0, .int .u8 0, .int .i32 0, .int .i64 0, .int .i64 0] 0 (Sp.v y) = Sp.v y := rfl
    have hone : (V.int .u64 1) = .int .u64 ((1 : Nat) : Int) := rfl
    have hnext : (∀ (P : Prop), (P ↔ dn.testBit k = false ∧ FreeFrom l k dn (j + 1) x) → (j ≠ k → dn.testBit j = false → before y x = false) → (P ↔ dn.testBit k = false ∧ FreeFrom l k dn j x)) := fun P hP hb => hP.trans ⟨fun h => ⟨h.1, fun i y' hi hy' => by
      rcases Nat.lt_or_ge j i with h' | h'
      · exact h.2 i y' h' hy'
      · obtain rfl : i = j := by omega
        rw [hy] at hy'; cases hy'
        exact hb⟩, fun h => ⟨h.1, fun i y' hi hy' => h.2 i y' (by omega) hy'⟩⟩
    by_cases hjk : j = k
    · subst hjk
      refine ⟨r, ?_, hnext _ hiff (fun h => absurd rfl h)⟩
      have hne : ((j : Int) != (j : Int)) = false := by simp
      rw [loopx_succ]
      simp only [lFree_l4, gv, List.getD_cons_succ, List.getD_cons_zero, List.length_map, bop_i64_lss, bd_some, bv_bool, hlt, decide_true, if_true, nv_nat, bdS_some, slk_sl, get_sps, hy, Option.map_some, List.drop_zero, spv_all, spv_len, Nat.le_refl, bop_i64_neq, hne, Bool.false_eq_true, if_false, bop_i64_add, step64 (show j < lim by unfold lim; omega)]
      exact hr
    · have hne : ((j : Int) != (k : Int)) = true := by simp; omega
      cases hbit : dn.testBit j with
      | true =>
        refine ⟨r, ?_, hnext _ hiff (fun _ h => by rw [hbit] at h; cases h)⟩
        rw [loopx_succ]
        simp only [lFree_l4, gv, List.getD_cons_succ, List.getD_cons_zero, List.length_map, bop_i64_lss, bd_some, bv_bool, hlt, decide_true, if_true, nv_nat, bdS_some, slk_sl, get_sps, hy, Option.map_some, List.drop_zero, spv_all, spv_len, Nat.le_refl, bop_i64_neq, hne, bop_shr _ _ hj64, hone, h1, bop_u64_eql, and_one, bit_zero, bit_f, bit_t, hbit, Bool.not_true, Bool.false_eq_true, if_false, bop_i64_add, step64 (show j < lim by unfold lim; omega)]
        exact hr
      | false =>
        cases hb : before y x with
        | true =>
          refine ⟨false, ?_, fun h => (by cases h), fun h => ?_⟩
          · rw [loopx_succ]
            simp only [lFree_l4, gv, List.getD_cons_succ, List.getD_cons_zero, List.length_map, bop_i64_lss, bd_some, bv_bool, hlt, decide_true, if_true, nv_nat, bdS_some, slk_sl, get_sps, hy, hx, Option.map_some, List.drop_zero, spv_all, spv_len, Nat.le_refl, bop_i64_neq, hne, bop_shr _ _ hj64, hone, h1, bop_u64_eql, and_one, bit_zero, bit_f, bit_t, hbit, Bool.not_false, hH, boxAt_box, Nat.zero_add, Nat.lt_add_one, and_self, List.getElem?_cons_zero, hset, before_call, cl_ret, one1_one, hb]
          · have := h.2 j y (Nat.le_refl _) hy hjk hbit
            rw [hb] at this; cases this
        | false =>
          refine ⟨r, ?_, hnext _ hiff (fun _ _ => hb)⟩
          rw [loopx_succ]
          simp only [lFree_l4, gv, List.getD_cons_succ, List.getD_cons_zero, List.length_map, bop_i64_lss, bd_some, bv_bool, hlt, decide_true, if_true, nv_nat, bdS_some, slk_sl, get_sps, hy, hx, Option.map_some, List.drop_zero, spv_all, spv_len, Nat.le_refl, bop_i64_neq, hne, bop_shr _ _ hj64, hone, h1, bop_u64_eql, and_one, bit_zero, bit_f, bit_t, hbit, Bool.not_false, hH, boxAt_box, Nat.zero_add, Nat.lt_add_one, and_self, List.getElem?_cons_zero, hset, before_call, cl_ret, one1_one, hb, Bool.false_eq_true, if_false, bop_i64_add, step64 (show j < lim by unfold lim; omega)]
          exact hr
theorem free_call (n z : Nat) (l : List Sp) (b : Bool) (k dn : Nat) (x : Sp) (H : Heap) (hz : z = 8 ∨ l = []) (hH : H[1]? = some (.box 1 [.sl z (l.map Sp.v) b])) (hl : l.length ≤ 8) (hd : dn < 2 ^ 64) (hx : l[k]? = some x) (hn : l.length + 3 ≤ n) :
    ∃ r, call n 39 [.int .i64 (k : Int), .int .u64 (dn : Int), .ptr 1 0] H = some (.ret [.bool r], H) ∧ (r = true ↔ dn.testBit k = false ∧ FreeFrom l k dn 0 x) := by
  obtain ⟨N, rfl⟩ : ∃ N, n = N + 1 + 1 := ⟨n - 2, by omega⟩
  obtain ⟨r, hr, hiff⟩ := free_loop N z l b z k dn x (.bool false) H hz hH hl hd hx l.length 0 (N + 1) (by omega) (by omega)
  refine ⟨r, ?_, hiff⟩
  rw [lFree_eq, lFree, hH]
  simp only [boxAt_box, Nat.zero_add, Nat.lt_add_one, and_self, Nat.le_refl, if_true, List.getElem?_cons_zero, bd_some, slc_sl]
  exact hr
end Go.Proofs.Try
