import Derived.Test.YtodgpfffnnlbhaaHa
import Derived.Test.YtodgpfffnnlbhaaHlb
import Derived.Test.YtodgpfffnnlbhaaPlain
/-! history.Before; the law HistoryBefore: it returns true -/
set_option linter.unusedVariables false
set_option linter.unusedSimpArgs false
namespace Go.Proofs.Try
open Go.L Go.Rp
set_option maxRecDepth 100000
theorem known19_call : call 100 26 [] [] = some (.ret [.bool true], []) := known19_true
theorem before_ints (n : Nat) (x0_0 x0_1 x0_2 x0_3 x0_4 x0_5 x0_6 x0_7 x1_0 x1_1 x1_2 x1_3 x1_4 x1_5 x1_6 x1_7 : Int) (h : Heap) :
    call (n + 1) 29 [(V.agg [(V.int .i64 x0_0), (V.int .i64 x0_1), (V.int .u8 x0_2), (V.int .i32 x0_3), (V.int .u8 x0_4), (V.int .i32 x0_5), (V.int .i64 x0_6), (V.int .i64 x0_7)]), (V.agg [(V.int .i64 x1_0), (V.int .i64 x1_1), (V.int .u8 x1_2), (V.int .i32 x1_3), (V.int .u8 x1_4), (V.int .i32 x1_5), (V.int .i64 x1_6), (V.int .i64 x1_7)])] h = some (.ret [.bool (decide (0 ≤ x0_7) && decide (x0_7 < x1_6))], h) := by
  rw [hBefore_eq]
  have key : hBefore n x0_0 x0_1 x0_2 x0_3 x0_4 x0_5 x0_6 x0_7 x1_0 x1_1 x1_2 x1_3 x1_4 x1_5 x1_6 x1_7 = some (.ret [.bool (decide (0 ≤ x0_7) && decide (x0_7 < x1_6))], []) := by
    unfold hBefore
    by_cases h0 : (0 : Int) ≤ x0_7
    · simp [h0]
    · simp [h0]
  rw [key]
  exact gcw_ret (by simp) (by simp)
theorem before_call (n : Nat) (a b : Sp) (h : Heap) : call (n + 1) 29 [.agg a.v, .agg b.v] h = some (.ret [.bool (decide (0 ≤ a.to) && decide (a.to < b.fr))], h) :=
  before_ints n _ _ _ _ _ _ _ _ _ _ _ _ _ _ _ _ h
/-- HistoryBefore -/
theorem before_law_call (a b c : Sp) : call 101 11 [.agg a.v, .agg b.v, .agg c.v] [] = some (.ret [.bool true], []) := by
  refine (lBefore_eq 100 _ _ _ _ _ _ _ _ _ _ _ _ _ _ _ _ _ _ _ _ _ _ _ _ []).trans ?_
  have key : lBefore 100 a.th a.sq a.op.k a.op.v a.res.c a.res.v a.fr a.to b.th b.sq b.op.k b.op.v b.res.c b.res.v b.fr b.to c.th c.sq c.op.k c.op.v c.res.c c.res.v c.fr c.to = some (.ret [.bool true], []) := by
    unfold lBefore
    have hk := known19_call
    have hb := before_ints 99
    generalize call 100 = C at hk hb ⊢
    generalize a.to = at'
    generalize b.to = bt
    generalize c.to = ct
    generalize a.fr = af
    generalize b.fr = bf
    generalize c.fr = cf
    have hm : (decide ((0 : Int) ≤ -1)) = false := rfl
    simp only [hk, hb, clS_ret, cl_ret, one1_one, bd_some, bv_bool, uop_not, bop_bool_eql, hm, Bool.false_and, Bool.not_false, if_true]
    by_cases p1 : af ≤ at' <;> by_cases p2 : bf ≤ bt <;> by_cases p3 : cf ≤ ct <;> by_cases p4 : (0 : Int) ≤ at' <;> by_cases p5 : at' < bf <;> by_cases p6 : (0 : Int) ≤ bt <;> simp [p1, p2, p3, p4, p5, p6, Int.not_lt, Int.not_le] <;> (try split) <;> (try simp_all) <;> omega
  rw [key]
  exact gcw_ret (by simp) (by simp)
end Go.Proofs.Try
