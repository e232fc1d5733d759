import Derived.Test.YtooibfffneecfaaLwd
/-! reaperref20.Find: PRINTED BY A PROGRAM OF MINE (lift2.lean): each function as a Lean definition, and that L reckons just that -/
set_option linter.unusedVariables false
namespace Go.Proofs.Try
open Go.L
set_option maxRecDepth 100000
noncomputable def lPlace14_l0 (n : Nat) (x0 : V) (x1 : Int) (st1 : List V) (hh2 : Heap) (next3 : List V → Heap → Option (Res × Heap)) : Option (Res × Heap) :=
 (bd (slc x0) fun p4 =>
 (bd (bop prog .lss 3 (gv st1 1) (V.int .i64 ((p4.2).length : Int))) fun v5 =>
 (bv v5 fun b6 => if b6 then
 (bdS (nv (gv st1 1)) fun n7 =>
 (slk x0 fun q8 l9 x10 => if (q8 = 1) then
 (bd (l9)[n7]? fun es11 =>
 (bd (es11)[0]? fun v12 =>
 (bd (bop prog .eql 3 v12 (V.int .i64 x1)) fun v13 =>
 (bv v13 fun b14 => if b14 then
 some (Res.ret [(gv st1 1)], hh2)
 else
 (bd (bop prog .add 3 (gv st1 1) (V.int .i64 1)) fun v15 =>
 (next3 [(gv st1 0), v15] hh2)))))) else none))
 else
 some (Res.ret [(V.int .i64 (-1))], hh2))))
noncomputable def lPlace14 (n : Nat) (x0 : V) (x1 : Int) : Option (Res × Heap) :=
 (loopx n (lPlace14_l0 n x0 x1) [(V.int .i64 0), (V.int .i64 0)] [])
theorem lPlace14_eq (n : Nat) (x0 : V) (x1 : Int) (h : Heap) : call (n + 1) 54 [x0, (V.int .i64 x1)] h = gcw [x0, (V.int .i64 x1)] (lPlace14 n x0 x1) h := by kernel_rfl
noncomputable def lBefore19 (n : Nat) (x0_0 : Int) (x0_1 : Int) (x0_2 : Int) (x0_3 : Int) (x0_4 : Int) (x0_5 : Int) (x0_6 : Int) (x0_7 : Int) (x1_0 : Int) (x1_1 : Int) (x1_2 : Int) (x1_3 : Int) (x1_4 : Int) (x1_5 : Int) (x1_6 : Int) (x1_7 : Int) : Option (Res × Heap) :=
 (if (decide (x0_7 ≥ 0)) then
 some (Res.ret [(V.bool (decide (x0_7 < x1_6)))], [])
 else
 some (Res.ret [(V.bool false)], []))
theorem lBefore19_eq (n : Nat) (x0_0 : Int) (x0_1 : Int) (x0_2 : Int) (x0_3 : Int) (x0_4 : Int) (x0_5 : Int) (x0_6 : Int) (x0_7 : Int) (x1_0 : Int) (x1_1 : Int) (x1_2 : Int) (x1_3 : Int) (x1_4 : Int) (x1_5 : Int) (x1_6 : Int) (x1_7 : Int) (h : Heap) : call (n + 1) 55 [(V.agg [(V.int .i64 x0_0), (V.int .i64 x0_1), (V.int .u8 x0_2), (V.int .i32 x0_3), (V.int .u8 x0_4), (V.int .i32 x0_5), (V.int .i64 x0_6), (V.int .i64 x0_7)]), (V.agg [(V.int .i64 x1_0), (V.int .i64 x1_1), (V.int .u8 x1_2), (V.int .i32 x1_3), (V.int .u8 x1_4), (V.int .i32 x1_5), (V.int .i64 x1_6), (V.int .i64 x1_7)])] h = gcw [(V.agg [(V.int .i64 x0_0), (V.int .i64 x0_1), (V.int .u8 x0_2), (V.int .i32 x0_3), (V.int .u8 x0_4), (V.int .i32 x0_5), (V.int .i64 x0_6), (V.int .i64 x0_7)]), (V.agg [(V.int .i64 x1_0), (V.int .i64 x1_1), (V.int .u8 x1_2), (V.int .i32 x1_3), (V.int .u8 x1_4), (V.int .i32 x1_5), (V.int .i64 x1_6), (V.int .i64 x1_7)])] (lBefore19 n x0_0 x0_1 x0_2 x0_3 x0_4 x0_5 x0_6 x0_7 x1_0 x1_1 x1_2 x1_3 x1_4 x1_5 x1_6 x1_7) h := by kernel_rfl
noncomputable def lTry20_l17 (n : Nat) (x0 : Int) (x1 : Int) (x2 : V) (x3 : V) (x4 : V) (st6 : List V) (next8 : List V → Heap → Option (Res × Heap)) (st18 : List V) (hh19 : Heap) (next20 : List V → Heap → Option (Res × Heap)) : Option (Res × Heap) :=
 (bd (slc x2) fun p21 =>
 (bd (bop prog .lss 3 (gv st18 1) (V.int .i64 ((p21.2).length : Int))) fun v22 =>
 (bv v22 fun b23 => if b23 then
 (bv (gv st18 0) fun b24 => if b24 then
 (bd (bop prog .eql 3 (gv st18 1) (gv st6 2)) fun v25 =>
 (bv v25 fun b26 => if b26 then
 (bd (bop prog .add 3 (gv st18 1) (V.int .i64 1)) fun v27 =>
 (next20 [(V.bool true), v27] hh19))
 else
 (cl (call n 54 [x3, (gv st18 1)] hh19) (fun r28 h29 =>
 (one1 r28 fun v31 =>
 (bd (bop prog .geq 3 v31 (V.int .i64 0)) fun v32 =>
 (bv v32 fun b33 => if b33 then
 (bd (bop prog .add 3 (gv st18 1) (V.int .i64 1)) fun v34 =>
 (next20 [(V.bool true), v34] h29))
 else
 (bdS (nv (gv st18 1)) fun n35 =>
 (slk x2 fun q36 l37 x38 => if (q36 = 8) then
 (bd (l37)[n35]? fun es39 =>
 (bdS (nv (gv st6 2)) fun n40 =>
 (slk x2 fun q41 l42 x43 => if (q41 = 8) then
 (bd (l42)[n40]? fun es44 =>
 (cl (call n 55 [(V.agg ((es39).drop 0 |>.take 8)), (V.agg ((es44).drop 0 |>.take 8))] h29) (fun r45 h46 =>
 (one1 r45 fun v48 =>
 (bd (uop .not v48) fun v49 =>
 (bd (bop prog .add 3 (gv st18 1) (V.int .i64 1)) fun v50 =>
 (next20 [v49, v50] h46))))) (fun z47 h46 => none))) else none))) else none)))))) (fun z30 h29 => none))))
 else
 (bd (bop prog .add 3 (gv st18 1) (V.int .i64 1)) fun v51 =>
 (next20 [(V.bool false), v51] hh19)))
 else
 (bd (uop .not (gv st18 0)) fun v52 =>
 (bv v52 fun b53 => if b53 then
 (bd (bop prog .add 3 (gv st6 2) (V.int .i64 1)) fun v54 =>
 (next8 [(gv st6 0), (gv st6 1), v54] hh19))
 else
 (bdS (nv (gv st6 2)) fun n55 =>
 (slk x2 fun q56 l57 x58 => if (q56 = 8) then
 (bd (l57)[n55]? fun es59 =>
 (cl (call n 29 [(V.int .u8 x0), (V.int .i64 x1), x4, (V.agg ((es59).drop 2 |>.take 2))] hh19) (fun r60 h61 =>
 (bd (r60)[0]? fun v63 =>
 (bd (r60)[1]? fun v64 =>
 (if ((V.cells v64)).length = 2 then
 (if (((V.cells v64)).length ≤ 2) then
 (bdS (nv (gv st6 2)) fun n65 =>
 (slk x2 fun q66 l67 x68 => if (q66 = 8) then
 (bd (l67)[n65]? fun es69 =>
 (bd (es69)[7]? fun v70 =>
 (bd (bop prog .geq 3 v70 (V.int .i64 0)) fun v71 =>
 (bv v71 fun b72 => if b72 then
 (bdS (nv (gv st6 2)) fun n73 =>
 (slk x2 fun q74 l75 x76 => if (q74 = 8) then
 (bd (l75)[n73]? fun es77 =>
 (bd (bop prog .neq 32 (V.agg (((setR [(V.int .u8 0), (V.int .i32 0)] 0 (V.cells v64))).drop 0 |>.take 2)) (V.agg ((es77).drop 4 |>.take 2))) fun v78 =>
 (bv v78 fun b79 => if b79 then
 (bd (bop prog .add 3 (gv st6 2) (V.int .i64 1)) fun v80 =>
 (next8 [(gv st6 0), (gv st6 1), v80] h61))
 else
 (bdS (slc x3) fun p81 =>
 (if (23 = 23 ∧ (p81.1 = 1 ∨ (p81.2).isEmpty = true)) then
 (bd (app 3 1 (S.own 3 1 []) p81.2) fun l82 =>
 (bd (bslV prog 23 1 [(0, (gv st6 2))]) fun p83 =>
 (bd (app 3 1 (S.own 3 1 l82) p83.2) fun l84 =>
 (cl (call n 57 [(V.int .u8 x0), (V.int .i64 x1), x2, (V.sl 1 l84 false), v63] h61) (fun r85 h86 =>
 (bd (r85)[0]? fun v88 =>
 (bd (r85)[1]? fun v89 =>
 (bv v89 fun b90 => if b90 then
 some (Res.ret [v88, (V.bool true)], h86)
 else
 (bd (bop prog .add 3 (gv st6 2) (V.int .i64 1)) fun v91 =>
 (next8 [(gv st6 0), (gv st6 1), v91] h86)))))) (fun z87 h86 => some (Res.pan z87, h86)))))) else none))))) else none))
 else
 (bdS (slc x3) fun p92 =>
 (if (23 = 23 ∧ (p92.1 = 1 ∨ (p92.2).isEmpty = true)) then
 (bd (app 3 1 (S.own 3 1 []) p92.2) fun l93 =>
 (bd (bslV prog 23 1 [(0, (gv st6 2))]) fun p94 =>
 (bd (app 3 1 (S.own 3 1 l93) p94.2) fun l95 =>
 (cl (call n 57 [(V.int .u8 x0), (V.int .i64 x1), x2, (V.sl 1 l95 false), v63] h61) (fun r96 h97 =>
 (bd (r96)[0]? fun v99 =>
 (bd (r96)[1]? fun v100 =>
 (bv v100 fun b101 => if b101 then
 some (Res.ret [v99, (V.bool true)], h97)
 else
 (bd (bop prog .add 3 (gv st6 2) (V.int .i64 1)) fun v102 =>
 (next8 [(gv st6 0), (gv st6 1), v102] h97)))))) (fun z98 h97 => some (Res.pan z98, h97)))))) else none)))))) else none)) else none) else none)))) (fun z62 h61 => some (Res.pan z62, h61)))) else none)))))))
noncomputable def lTry20_l5 (n : Nat) (x0 : Int) (x1 : Int) (x2 : V) (x3 : V) (x4 : V) (st6 : List V) (hh7 : Heap) (next8 : List V → Heap → Option (Res × Heap)) : Option (Res × Heap) :=
 (bd (slc x2) fun p9 =>
 (bd (bop prog .lss 3 (gv st6 2) (V.int .i64 ((p9.2).length : Int))) fun v10 =>
 (bv v10 fun b11 => if b11 then
 (cl (call n 54 [x3, (gv st6 2)] hh7) (fun r12 h13 =>
 (one1 r12 fun v15 =>
 (bd (bop prog .lss 3 v15 (V.int .i64 0)) fun v16 =>
 (loopx n (lTry20_l17 n x0 x1 x2 x3 x4 st6 next8) [v16, (V.int .i64 0)] h13)))) (fun z14 h13 => some (Res.pan z14, h13)))
 else
 some (Res.ret [(V.sl 1 [] false), (V.bool false)], hh7))))
noncomputable def lTry20 (n : Nat) (x0 : Int) (x1 : Int) (x2 : V) (x3 : V) (x4 : V) : Option (Res × Heap) :=
 (cl (call n 30 [(V.int .u8 x0), (V.int .i64 x1), x2, x3] []) (fun r0 h1 =>
 (one1 r0 fun v3 =>
 (bv v3 fun b4 => if b4 then
 some (Res.ret [x3, (V.bool true)], h1)
 else
 (loopx n (lTry20_l5 n x0 x1 x2 x3 x4) [(V.sl 1 [] false), (V.bool false), (V.int .i64 0)] h1)))) (fun z2 h1 => some (Res.pan z2, h1)))
theorem lTry20_eq (n : Nat) (x0 : Int) (x1 : Int) (x2 : V) (x3 : V) (x4 : V) (h : Heap) : call (n + 1) 57 [(V.int .u8 x0), (V.int .i64 x1), x2, x3, x4] h = gcw [(V.int .u8 x0), (V.int .i64 x1), x2, x3, x4] (lTry20 n x0 x1 x2 x3 x4) h := by kernel_rfl
noncomputable def lFind20 (n : Nat) (x0 : Int) (x1 : Int) (x2 : V) : Option (Res × Heap) :=
 (bd (slc x2) fun p0 =>
 (if (decide (((p0.2).length : Int) > 8)) then
 some (Res.ret [(V.sl 1 [] false), (V.bool false)], [])
 else
 (cl (call n 57 [(V.int .u8 x0), (V.int .i64 x1), x2, (V.sl 0 [] false), (V.sl 0 [] false)] []) (fun r1 h2 =>
 (bd (r1)[0]? fun v4 =>
 (bd (r1)[1]? fun v5 =>
 some (Res.ret [v4, v5], h2)))) (fun z3 h2 => some (Res.pan z3, h2)))))
theorem lFind20_eq (n : Nat) (x0 : Int) (x1 : Int) (x2 : V) (h : Heap) : call (n + 1) 31 [(V.int .u8 x0), (V.int .i64 x1), x2] h = gcw [(V.int .u8 x0), (V.int .i64 x1), x2] (lFind20 n x0 x1 x2) h := by kernel_rfl
end Go.Proofs.Try
