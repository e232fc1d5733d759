import Derived.Test.YtffncipacppjoaaSheap
/-! the law SpecParts: it returns true -/
set_option linter.unusedVariables false
set_option linter.unusedSimpArgs false
namespace Go.Proofs.Try
open Go.L Go.Rp
set_option maxRecDepth 100000
theorem bop_rem {a b : Int} (h : b ≠ 0) : bop prog .rem 3 (.int .i64 a) (.int .i64 b) = some (.int .i64 (a.tmod b)) := by
  have : bop prog .rem 3 (.int .i64 a) (.int .i64 b) = if b = 0 then none else some (.int .i64 (a.tmod b)) := by kernel_rfl
  rw [this, if_neg h]
theorem app_rs0 (e : Nat) (b : List R) (h : b.length < lim) : app e 2 (.own e 2 []) (b.map R.w) = some (b.map R.w) := by
  simp [app, h]
theorem app_rs (e : Nat) (a b : List R) (h : a.length + b.length < lim) : app e 2 (.own e 2 (a.map R.w)) (b.map R.w) = some ((a ++ b).map R.w) := by
  simp [app, h]
/-- SpecParts -/
theorem parts_law_call (x0 x1 x3 : Int) (c : List Int) (b : Bool) (h0 : 0 ≤ x0) (h3 : 0 ≤ x3) (h3' : x3 ≤ 255) (hc : small c = true) : call 101 8 [.int .u8 x0, .int .i64 x1, .sl 1 (c.map (intV .u8)) b, .int .u8 x3] [] = some (.ret [.bool true], []) := by
  refine (lawParts_eq 100 x0 x1 _ b x3 []).trans ?_
  have key : lawParts 100 x0 x1 (c.map (intV .u8)) b x3 = some (.ret [.bool true], []) := by
    unfold lawParts
    simp only [List.length_map]
    by_cases hbig : ((c.length : Int) > 100)
    · rw [if_pos (by simpa using hbig), known_call, cl_ret, one1_one]
    · rw [if_neg (by simpa using hbig)]
      have e1 : Int.tmod x0 3 = x0 % 3 := Int.tmod_eq_emod_of_nonneg h0
      have ho : IntKind.u8.wrap (1 + Int.tmod x0 3) = 1 + x0 % 3 := by rw [e1, w8] <;> omega
      have ho0 : 0 ≤ 1 + x0 % 3 := by omega
      have hol := ops_len c 5
      have hok := ops_k (kinds := 5) hc (by decide)
      rw [ops_call 100 c 1 b 5 [] (.inl rfl) hc (by decide) (by decide) (by omega), cl_ret, one1_one]
      generalize ops c 5 = os at hol hok
      generalize 1 + x0 % 3 = o at ho ho0
      have hw3 : IntKind.i64.wrap x3 = x3 := by rw [w64] <;> omega
      have hwl : IntKind.i64.wrap ((os.length : Int) + 1) = ((os.length + 1 : Nat) : Int) := by rw [w64] <;> omega
      obtain ⟨k, hk⟩ : ∃ k : Nat, Int.tmod x3 ((os.length + 1 : Nat) : Int) = (k : Int) := ⟨(Int.tmod x3 ((os.length + 1 : Nat) : Int)).toNat, by
        rw [Int.toNat_of_nonneg]; rw [Int.tmod_eq_emod_of_nonneg h3]; exact Int.emod_nonneg _ (by omega)⟩
      have hkl : k ≤ os.length := by
        have h1 : Int.tmod x3 ((os.length + 1 : Nat) : Int) = x3 % ((os.length + 1 : Nat) : Int) := Int.tmod_eq_emod_of_nonneg h3
        have h2 := Int.emod_lt_of_pos x3 (show 0 < ((os.length + 1 : Nat) : Int) by omega)
        omega
      have c1 : call 100 17 [.int .u8 o, .int .i64 x1, .sl 0 [] false, .sl 2 (os.map O.w) false] [] = _ := run_call 100 o x1 0 [] false 2 os false [] (.inr rfl) (.inl rfl) ho0 hok (by unfold lim; simp only [List.length_nil]; omega) (by simp only [List.length_nil]; omega)
      have c2 : call 100 17 [.int .u8 o, .int .i64 x1, .sl 0 [] false, .sl 2 ((os.take k).map O.w) false] [] = _ := run_call 100 o x1 0 [] false 2 (os.take k) false [] (.inr rfl) (.inl rfl) ho0 (fun x hx => hok x (List.mem_of_mem_take hx)) (by unfold lim; simp only [List.length_nil, List.length_take]; omega) (by simp only [List.length_nil, List.length_take]; omega)
      have l2 := run_len o x1 (os.take k) []
      simp only [List.length_nil, List.length_take] at l2
      have l1 := run_len o x1 os []
      simp only [List.length_nil] at l1
      have c3 : call 100 17 [.int .u8 o, .int .i64 x1, .sl 1 ((run o x1 [] (os.take k)).1.map (intV .i32)) false, .sl 2 ((os.drop k).map O.w) false] [] = _ := run_call 100 o x1 1 (run o x1 [] (os.take k)).1 false 2 (os.drop k) false [] (.inl rfl) (.inl rfl) ho0 (fun x hx => hok x (List.mem_of_mem_drop hx)) (by unfold lim; simp only [List.length_drop]; omega) (by simp only [List.length_drop]; omega)
      have l3 := run_len o x1 (os.drop k) (run o x1 [] (os.take k)).1
      simp only [List.length_drop] at l3
      have hsp := run_append o x1 (os.take k) (os.drop k) []
      rw [List.take_append_drop] at hsp
      have hR1 : (run o x1 [] os).1 = (run o x1 (run o x1 [] (os.take k)).1 (os.drop k)).1 := by rw [hsp]
      have hR2 : (run o x1 [] os).2 = (run o x1 [] (os.take k)).2 ++ (run o x1 (run o x1 [] (os.take k)).1 (os.drop k)).2 := by rw [hsp]
      have c4 := same_call 100 (run o x1 [] os).1 (run o x1 (run o x1 [] (os.take k)).1 (os.drop k)).1 1 1 false false [] (.inl rfl) (.inl rfl) (by unfold lim; omega) (by omega)
      have c5 := told_call 100 (run o x1 [] os).2 ((run o x1 [] (os.take k)).2 ++ (run o x1 (run o x1 [] (os.take k)).1 (os.drop k)).2) 2 2 false false [] (.inl rfl) (.inl rfl) (by unfold lim; omega) (by omega)
      have a1 := app_rs0 30 (run o x1 [] (os.take k)).2 (by unfold lim; omega)
      have a2 := app_rs 30 (run o x1 [] (os.take k)).2 (run o x1 (run o x1 [] (os.take k)).1 (os.drop k)).2 (by unfold lim; omega)
      have hkn := known_call
      rw [decide_eq_true hR1] at c4
      rw [decide_eq_true hR2] at c5
      clear hR1 hR2 hsp
      generalize call 100 = C at c1 c2 c3 c4 c5 hkn ⊢
      have f1 : (0 ≤ k ∧ k ≤ os.length ∧ True ∧ True ∧ True) := ⟨by omega, hkl, trivial, trivial, trivial⟩
      simp only [slc_sl, bd_some, List.length_map, hwl, hw3, bop_rem (show ((os.length + 1 : Nat) : Int) ≠ 0 by omega), hk, ho, c1, c2, c3, cl_ret, List.getElem?_cons_zero, List.getElem?_cons_succ, slk_sl, nv_nat, bdS_some, Nat.zero_le, hkl, true_or, true_and, and_self, if_true, List.drop_zero, ← List.map_take, ← List.map_drop, List.take_length, Nat.le_refl, a1, a2, hkn, one1_one, bv_bool, c4, c5]
  rw [key]
  exact gcw_ret (by simp) (by simp)
end Go.Proofs.Try
