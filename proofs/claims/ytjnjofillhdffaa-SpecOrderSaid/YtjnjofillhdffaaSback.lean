import Derived.Test.YtjnjofillhdffaaSops
/-! words for the laws of layer 8 -/
set_option linter.unusedVariables false
set_option linter.unusedSimpArgs false
namespace Go.Proofs.Try
open Go.L Go.Rp
set_option maxRecDepth 100000
theorem eql_res (a b c d : Int) : bop prog .eql 34 (.agg [.int .u8 a, .int .i32 b]) (.agg [.int .u8 c, .int .i32 d]) = some (.bool (a == c && (b == d && true))) := by kernel_rfl
theorem known_true2 : call 119 24 [] [] = some (.ret [.bool true], []) := by kernel_rfl
theorem known_true3 : call 999 24 [] [] = some (.ret [.bool true], []) := by kernel_rfl
end Go.Proofs.Try
