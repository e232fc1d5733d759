import Derived.Test.YtodgpfffnnlbhaaLset
import Derived.Test.YtodgpfffnnlbhaaLwd
/-! reaperlaw04.Ops: PRINTED BY A PROGRAM OF MINE (lift6.lean) -/
set_option linter.unusedVariables false
namespace Go.Proofs.Try
open Go.L
set_option maxRecDepth 100000
noncomputable def lOps_l0 (n : Nat) (c : V) (kinds : Int) (st1 : List V) (hh2 : Heap) (next3 : List V → Heap → Option (Res × Heap)) : Option (Res × Heap) :=
 (bd (slcH hh2 c) fun p4 =>
 (bd (bop prog .lss 3 (gv st1 2) (V.int .i64 ((p4.2).length : Int))) fun v5 =>
 (bv v5 fun b6 => if b6 then
 (bd (bop prog .lss 3 (gv st1 2) (V.int .i64 80)) fun v7 =>
 (bv v7 fun b8 => if b8 then
 (bdS (nv (gv st1 2)) fun n9 =>
 (bd (idxP 1 n9 c) fun p10 =>
 (bd3 (cellsP hh2 p10) fun cs12 m11 o13 => if (o13 + 1 ≤ m11 ∧ 0 < 1) then
 (bd (cs12)[o13]? fun v14 =>
 (bd (bop prog .rem 5 v14 (V.int .u8 kinds)) fun v15 =>
 (bd (bop prog .add 5 (V.int .u8 1) v15) fun v16 =>
 (bdS (nv (gv st1 2)) fun n17 =>
 (bd (idxP 1 n17 c) fun p18 =>
 (bd3 (cellsP hh2 p18) fun cs20 m19 o21 => if (o21 + 1 ≤ m19 ∧ 0 < 1) then
 (bd (cs20)[o21]? fun v22 =>
 (bd (bop prog .quo 5 v22 (V.int .u8 8)) fun v23 =>
 (bd (cvt prog 5 21 v23) fun v24 =>
 (bd (bop prog .sub 21 v24 (V.int .i32 9)) fun v25 =>
 (bd (bldV prog 38 [(0, v16), (1, v25)]) fun cs26 =>
 (bd (bslV prog 24 1 [(0, (V.agg cs26))]) fun p27 =>
 (bd (app 38 2 (S.own 38 2 (lsl (gv st1 1))) p27.2) fun l28 =>
 (bd (bop prog .add 3 (gv st1 2) (V.int .i64 1)) fun v29 =>
 (next3 [(V.sl 2 (lsl (gv st1 0)) false), (V.sl 2 l28 false), v29] hh2))))))))) else none)))))) else none)))
 else
 some (Res.ret [(V.sl 2 (lsl (gv st1 1)) false)], hh2)))
 else
 some (Res.ret [(V.sl 2 (lsl (gv st1 1)) false)], hh2))))
noncomputable def lOps (n : Nat) (c : V) (kinds : Int) (h : Heap) : Option (Res × Heap) :=
 (loopx n (lOps_l0 n c kinds) [(V.sl 2 [] false), (V.sl 2 [] false), (V.int .i64 0)] h)
theorem lOps_eq (n : Nat) (c : V) (kinds : Int) (h : Heap) : call (n + 1) 14 [c, (V.int .u8 kinds)] h = lOps n c kinds h := by kernel_rfl
end Go.Proofs.Try
