import Derived.Test.YtodgpfffnnlbhaaSo5
/-! slices.stableCmpFunc, SortStableFunc at []int: what they come to -/
set_option linter.unusedVariables false
set_option linter.unusedSimpArgs false
namespace Go.Proofs.Try
open Go.L Go.Rp
set_option maxRecDepth 100000
@[simp] theorem bop_i64_mul (a b : Int) : bop prog .mul 3 (.int .i64 a) (.int .i64 b) = some (.int .i64 (IntKind.i64.wrap (a * b))) := by kernel_rfl
section
variable {K : Int → Int} {D : Int → Prop} {H : Heap} {c : V} {n0 : Nat} {p : Nat → Int}
theorem chunks_ge {bs : Nat} (hb : 0 < bs) (f lo len : Nat) (h : bs ≤ len) (hf : len ≤ f) : chunks K p bs f lo len = sR K p lo bs ++ chunks K p bs f (lo + bs) (len - bs) := by
  rcases Nat.lt_or_ge bs len with h1 | h1
  · exact chunks_gt hb f lo len h1 hf
  · obtain rfl : len = bs := by omega
    rw [chunks_le f lo len (Nat.le_refl _) (by omega), Nat.sub_self, chunks_le f _ 0 (by omega) (by omega)]
    simp [sR]
theorem stab_first (hc : CmpOk n0 c H K D) (n k f : Nat) (hD : ∀ x ∈ rng p 0 k, D x) (hl : 2 * k + 100 < lim) (hn : n0 + k + 25 ≤ n) (hf : k ≤ f) (hf0 : 0 < f) : ∀ (M len a : Nat) (P : List Int), a = P.length → a + len = k → len < M → ∃ u v : Nat,
    loopx M (lStab_l0 n k c) [.sl 1 (iL (P ++ rng p a len)) false, .int .i64 (a : Int), .int .i64 ((a + 20 : Nat) : Int)] H = loopx n (lStab_l13 n k c) [.sl 1 (iL (P ++ chunks K p 20 f a len)) false, .int .i64 20, .int .i64 (u : Int), .int .i64 (v : Int)] H
  | 0, _, _, _, _, _, h => by omega
  | M + 1, len, a, P, ha, hk, hM => by
    rw [loopx_succ]
    by_cases h : 20 ≤ len
    · have h1 : ((a + 20 : Nat) : Int) ≤ (k : Int) := by omega
      have e1 : IntKind.i64.wrap (((a + 20 : Nat) : Int) + 20) = ((a + 20 + 20 : Nat) : Int) := wN (by omega) (by omega)
      have hr : rng p a len = rng p a 20 ++ rng p (a + 20) (len - 20) := by rw [← rng_add]; congr 1; omega
      have hi := ins_call hc n a 20 P (rng p (a + 20) (len - 20)) ha (fun x hx => hD x (rng_sub (by omega) (by omega) hx)) (by rw [rng_len]; omega) (by omega) (by omega)
      obtain ⟨u, v, e⟩ := stab_first hc n k f hD hl hn hf hf0 M (len - 20) (a + 20) (P ++ sR K p a 20) (by rw [List.length_append, sR_len]; omega) (by omega) (by omega)
      refine ⟨u, v, ?_⟩
      simp only [lStab_l0, gv, List.getD_cons_succ, List.getD_cons_zero, bop_i64_leq, bd_some, bv_bool, h1, decide_true, if_true, lsl]
      rw [hr, hi, clm_ret]
      simp only [bop_i64_add, bd_some, e1]
      rw [chunks_ge (by omega) f a len h (by omega), ← List.append_assoc, ← List.append_assoc]
      exact e
    · have h1 : ¬ ((a + 20 : Nat) : Int) ≤ (k : Int) := by omega
      have hi := ins_call hc n a len P [] ha (fun x hx => hD x (rng_sub (by omega) (by omega) hx)) (by simp; omega) (by omega) (by omega)
      rw [List.append_nil, List.append_nil, hk] at hi
      refine ⟨a, a + 20, ?_⟩
      simp only [lStab_l0, gv, List.getD_cons_succ, List.getD_cons_zero, bop_i64_leq, bd_some, bv_bool, h1, decide_false, Bool.false_eq_true, if_false, lsl]
      rw [hi, clm_ret, chunks_le f a len (by omega) hf0]
theorem stab_round (hp : Mono p) (hc : CmpOk n0 c H K D) (n k f bs : Nat) (st14 : List V) (next16 : List V → Heap → Option (Res × Heap)) (hst : st14.getD 1 (.bool false) = .int .i64 (bs : Int)) (hb : 0 < bs) (hbk : bs < k) (hD : ∀ x ∈ rng p 0 k, D x) (hl : 4 * k + 100 < lim) (hn : n0 + 2 * k + 8 ≤ n) (hf : k ≤ f) : ∀ (M len a : Nat) (P : List Int), a = P.length → a + len = k → len < M → ∃ u v : Nat,
    loopx M (lStab_l20 n k c st14 next16) [.sl 1 (iL (P ++ chunks K p bs f a len)) false, .int .i64 (a : Int), .int .i64 ((a + 2 * bs : Nat) : Int)] H = next16 [.sl 1 (iL (P ++ chunks K p (2 * bs) f a len)) false, .int .i64 ((2 * bs : Nat) : Int), .int .i64 (u : Int), .int .i64 (v : Int)] H
  | 0, _, _, _, _, _, h => by omega
  | M + 1, len, a, P, ha, hk, hM => by
    rw [loopx_succ]
    have e1 : IntKind.i64.wrap ((a : Int) + (bs : Int)) = ((a + bs : Nat) : Int) := wN (by omega) (by omega)
    have e2 : IntKind.i64.wrap (2 * (bs : Int)) = ((2 * bs : Nat) : Int) := wN (by omega) (by omega)
    have e3 : IntKind.i64.wrap ((bs : Int) * 2) = ((2 * bs : Nat) : Int) := wN (by omega) (by omega)
    by_cases h : 2 * bs ≤ len
    · have h1 : ((a + 2 * bs : Nat) : Int) ≤ (k : Int) := by omega
      have e4 : IntKind.i64.wrap (((a + 2 * bs : Nat) : Int) + ((2 * bs : Nat) : Int)) = ((a + 2 * bs + 2 * bs : Nat) : Int) := wN (by omega) (by omega)
      have hs := sym_sR hp hc n a bs bs P (chunks K p bs f (a + bs + bs) (len - bs - bs)) ha hb hb (by omega) (fun x hx => hD x (rng_sub (by omega) (by omega) hx)) (by omega)
      obtain ⟨u, v, e⟩ := stab_round hp hc n k f bs st14 next16 hst hb hbk hD hl hn hf M (len - 2 * bs) (a + 2 * bs) (P ++ sR K p a (2 * bs)) (by rw [List.length_append, sR_len]; omega) (by omega) (by omega)
      refine ⟨u, v, ?_⟩
      rw [chunks_ge hb f a len (by omega) (by omega), chunks_ge hb f (a + bs) (len - bs) (by omega) (by omega), chunks_ge (bs := 2 * bs) (by omega) f a len h (by omega)]
      simp only [lStab_l20, gv, List.getD_cons_succ, List.getD_cons_zero, hst, bop_i64_leq, bd_some, bv_bool, h1, decide_true, if_true, bop_i64_add, e1, lsl]
      rw [show ((a + bs + bs : Nat) : Int) = ((a + 2 * bs : Nat) : Int) by omega] at hs
      rw [hs, clm_ret]
      simp only [bop_i64_mul, bop_i64_add, bd_some, e2, e4]
      rw [show bs + bs = 2 * bs by omega, show a + bs + bs = a + 2 * bs by omega, show len - bs - bs = len - 2 * bs by omega, ← List.append_assoc, ← List.append_assoc]
      exact e
    · have h1 : ¬ ((a + 2 * bs : Nat) : Int) ≤ (k : Int) := by omega
      refine ⟨a, a + 2 * bs, ?_⟩
      simp only [lStab_l20, gv, List.getD_cons_succ, List.getD_cons_zero, hst, bop_i64_leq, bd_some, bv_bool, h1, decide_false, Bool.false_eq_true, if_false, bop_i64_add, e1, bop_i64_lss, lsl]
      by_cases h2 : bs < len
      · have h3 : ((a + bs : Nat) : Int) < (k : Int) := by omega
        have hs := sym_sR hp hc n a bs (len - bs) P [] ha hb (by omega) (by omega) (fun x hx => hD x (rng_sub (by omega) (by omega) hx)) (by omega)
        rw [List.append_nil, List.append_nil, show a + bs + (len - bs) = k by omega, show bs + (len - bs) = len by omega] at hs
        simp only [h3, decide_true, if_true]
        rw [chunks_ge hb f a len (by omega) (by omega), chunks_le f (a + bs) (len - bs) (by omega) (by omega), chunks_le (bs := 2 * bs) f a len (by omega) (by omega), hs, clm_ret]
        simp only [bop_i64_mul, bd_some, e3]
      · have h3 : ¬ ((a + bs : Nat) : Int) < (k : Int) := by omega
        simp only [h3, decide_false, Bool.false_eq_true, if_false, bop_i64_mul, bd_some, e3]
        rw [chunks_le f a len (by omega) (by omega), chunks_le (bs := 2 * bs) f a len (by omega) (by omega)]
theorem stab_all (hp : Mono p) (hc : CmpOk n0 c H K D) (n k f : Nat) (hD : ∀ x ∈ rng p 0 k, D x) (hl : 4 * k + 100 < lim) (hn : n0 + 2 * k + 8 ≤ n) (hf : k ≤ f) (hf0 : 0 < f) : ∀ (M bs u v : Nat), 0 < bs → k < M + bs → 0 < M →
    loopx M (lStab_l13 n k c) [.sl 1 (iL (chunks K p bs f 0 k)) false, .int .i64 (bs : Int), .int .i64 (u : Int), .int .i64 (v : Int)] H = some (.ret [.sl 1 (iL (sR K p 0 k)) false], H)
  | 0, _, _, _, _, _, h => by omega
  | M + 1, bs, u, v, hb, hM, _ => by
    rw [loopx_succ]
    by_cases h : bs < k
    · have h1 : (bs : Int) < (k : Int) := by omega
      have e2 : IntKind.i64.wrap (2 * (bs : Int)) = ((2 * bs : Nat) : Int) := wN (by omega) (by omega)
      obtain ⟨u', v', e⟩ := stab_round hp hc n k f bs [.sl 1 (iL (chunks K p bs f 0 k)) false, .int .i64 (bs : Int), .int .i64 (u : Int), .int .i64 (v : Int)] (loopx M (lStab_l13 n k c)) rfl hb h hD hl hn hf n k 0 [] rfl (by omega) (by omega)
      have ih := stab_all hp hc n k f hD hl hn hf hf0 M (2 * bs) u' v' (by omega) (by omega) (by omega)
      simp only [List.nil_append, Nat.zero_add] at e
      simp only [lStab_l13, gv, List.getD_cons_succ, List.getD_cons_zero, bop_i64_lss, bd_some, bv_bool, h1, decide_true, if_true, bop_i64_mul, e2, lsl]
      exact e.trans ih
    · have h1 : ¬ (bs : Int) < (k : Int) := by omega
      simp only [lStab_l13, gv, List.getD_cons_succ, List.getD_cons_zero, bop_i64_lss, bd_some, bv_bool, h1, decide_false, Bool.false_eq_true, if_false, lsl]
      rw [chunks_le f 0 k (by omega) hf0]
/-- a stable sort of the numbers below k -/
theorem sort_call (hp : Mono p) (hc : CmpOk n0 c H K D) (n k : Nat) (hD : ∀ x ∈ rng p 0 k, D x) (hl : 4 * k + 100 < lim) (hn : n0 + 2 * k + 40 ≤ n) :
    call n 80 [.sl 1 (iL (rng p 0 k)) false, c] H = some (.ret [.sl 1 (iL (sR K p 0 k)) false], H) := by
  obtain ⟨N, rfl⟩ : ∃ N, n = N + 2 := ⟨n - 2, by omega⟩
  obtain ⟨u, v, e⟩ := stab_first hc N k (k + 1) hD (by omega) (by omega) (by omega) (by omega) N k 0 [] rfl (by omega) (by omega)
  have e2 := stab_all hp hc N k (k + 1) hD hl (by omega) (by omega) (by omega) N 20 u v (by omega) (by omega) (by omega)
  rw [lSort_eq]
  unfold lSort
  rw [lStab_eq]
  unfold lStab
  simp only [List.nil_append] at e
  rw [show ((20 : Nat) : Int) = (20 : Int) from rfl] at e2
  have e3 : (((iL (rng p 0 k)).length : Nat) : Int) = (k : Int) := by rw [iL_len, rng_len]
  rw [e3]
  have e4 := e.trans e2
  rw [show (((0 : Nat) + 20 : Nat) : Int) = (20 : Int) from rfl, show (((0 : Nat)) : Int) = (0 : Int) from rfl] at e4
  rw [e4, clm_ret]
end
end Go.Proofs.Try
