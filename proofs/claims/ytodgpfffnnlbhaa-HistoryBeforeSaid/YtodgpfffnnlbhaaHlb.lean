import Derived.Test.YtodgpfffnnlbhaaLset
import Derived.Test.YtodgpfffnnlbhaaLwd
/-! the law HistoryBefore, printed -/
set_option linter.unusedVariables false
namespace Go.Proofs.Try
open Go.L
set_option maxRecDepth 100000
noncomputable def lBefore (n : Nat) (x0_0 : Int) (x0_1 : Int) (x0_2 : Int) (x0_3 : Int) (x0_4 : Int) (x0_5 : Int) (x0_6 : Int) (x0_7 : Int) (x1_0 : Int) (x1_1 : Int) (x1_2 : Int) (x1_3 : Int) (x1_4 : Int) (x1_5 : Int) (x1_6 : Int) (x1_7 : Int) (x2_0 : Int) (x2_1 : Int) (x2_2 : Int) (x2_3 : Int) (x2_4 : Int) (x2_5 : Int) (x2_6 : Int) (x2_7 : Int) : Option (Res × Heap) :=
 (if (decide (x0_6 ≤ x0_7)) then
 (if (decide (x1_6 ≤ x1_7)) then
 (if (!(decide (x2_6 ≤ x2_7))) then
 (clS (call n 26 [] []) fun r0 =>
 (one1 r0 fun v3 =>
 (bv v3 fun b4 => if b4 then
 (clS (call n 29 [(V.agg [(V.int .i64 x0_0), (V.int .i64 x0_1), (V.int .u8 x0_2), (V.int .i32 x0_3), (V.int .u8 x0_4), (V.int .i32 x0_5), (V.int .i64 x0_6), (V.int .i64 (-1))]), (V.agg [(V.int .i64 x1_0), (V.int .i64 x1_1), (V.int .u8 x1_2), (V.int .i32 x1_3), (V.int .u8 x1_4), (V.int .i32 x1_5), (V.int .i64 x1_6), (V.int .i64 x1_7)])] []) fun r5 =>
 (one1 r5 fun v8 =>
 (bd (uop .not v8) fun v9 =>
 (bv v9 fun b10 => if b10 then
 (clS (call n 29 [(V.agg [(V.int .i64 x0_0), (V.int .i64 x0_1), (V.int .u8 x0_2), (V.int .i32 x0_3), (V.int .u8 x0_4), (V.int .i32 x0_5), (V.int .i64 x0_6), (V.int .i64 x0_7)]), (V.agg [(V.int .i64 x1_0), (V.int .i64 x1_1), (V.int .u8 x1_2), (V.int .i32 x1_3), (V.int .u8 x1_4), (V.int .i32 x1_5), (V.int .i64 x1_6), (V.int .i64 x1_7)])] []) fun r11 =>
 (one1 r11 fun v14 =>
 (if (decide (x0_7 ≥ 0)) then
 (bd (bop prog .eql 4 v14 (V.bool (decide (x1_6 > x0_7)))) fun v15 =>
 some (Res.ret [v15], []))
 else
 (bd (bop prog .eql 4 v14 (V.bool false)) fun v16 =>
 some (Res.ret [v16], [])))))
 else
 some (Res.ret [(V.bool false)], [])))))
 else
 some (Res.ret [(V.bool false)], []))))
 else
 (cl (call n 29 [(V.agg [(V.int .i64 x0_0), (V.int .i64 x0_1), (V.int .u8 x0_2), (V.int .i32 x0_3), (V.int .u8 x0_4), (V.int .i32 x0_5), (V.int .i64 x0_6), (V.int .i64 x0_7)]), (V.agg [(V.int .i64 x1_0), (V.int .i64 x1_1), (V.int .u8 x1_2), (V.int .i32 x1_3), (V.int .u8 x1_4), (V.int .i32 x1_5), (V.int .i64 x1_6), (V.int .i64 x1_7)])] []) (fun r17 h18 =>
 (one1 r17 fun v20 =>
 (bd (uop .not v20) fun v21 =>
 (bv v21 fun b22 => if b22 then
 (cl (call n 29 [(V.agg [(V.int .i64 x0_0), (V.int .i64 x0_1), (V.int .u8 x0_2), (V.int .i32 x0_3), (V.int .u8 x0_4), (V.int .i32 x0_5), (V.int .i64 x0_6), (V.int .i64 x0_7)]), (V.agg [(V.int .i64 x1_0), (V.int .i64 x1_1), (V.int .u8 x1_2), (V.int .i32 x1_3), (V.int .u8 x1_4), (V.int .i32 x1_5), (V.int .i64 x1_6), (V.int .i64 x1_7)])] h18) (fun r23 h24 =>
 (one1 r23 fun v26 =>
 (bd (uop .not v26) fun v27 =>
 (bv v27 fun b28 => if b28 then
 (clS (call n 26 [] []) fun r29 =>
 (one1 r29 fun v32 =>
 (bv v32 fun b33 => if b33 then
 (clS (call n 29 [(V.agg [(V.int .i64 x0_0), (V.int .i64 x0_1), (V.int .u8 x0_2), (V.int .i32 x0_3), (V.int .u8 x0_4), (V.int .i32 x0_5), (V.int .i64 x0_6), (V.int .i64 (-1))]), (V.agg [(V.int .i64 x1_0), (V.int .i64 x1_1), (V.int .u8 x1_2), (V.int .i32 x1_3), (V.int .u8 x1_4), (V.int .i32 x1_5), (V.int .i64 x1_6), (V.int .i64 x1_7)])] []) fun r34 =>
 (one1 r34 fun v37 =>
 (bd (uop .not v37) fun v38 =>
 (bv v38 fun b39 => if b39 then
 (clS (call n 29 [(V.agg [(V.int .i64 x0_0), (V.int .i64 x0_1), (V.int .u8 x0_2), (V.int .i32 x0_3), (V.int .u8 x0_4), (V.int .i32 x0_5), (V.int .i64 x0_6), (V.int .i64 x0_7)]), (V.agg [(V.int .i64 x1_0), (V.int .i64 x1_1), (V.int .u8 x1_2), (V.int .i32 x1_3), (V.int .u8 x1_4), (V.int .i32 x1_5), (V.int .i64 x1_6), (V.int .i64 x1_7)])] []) fun r40 =>
 (one1 r40 fun v43 =>
 (if (decide (x0_7 ≥ 0)) then
 (bd (bop prog .eql 4 v43 (V.bool (decide (x1_6 > x0_7)))) fun v44 =>
 some (Res.ret [v44], h24))
 else
 (bd (bop prog .eql 4 v43 (V.bool false)) fun v45 =>
 some (Res.ret [v45], h24)))))
 else
 some (Res.ret [(V.bool false)], h24)))))
 else
 some (Res.ret [(V.bool false)], h24))))
 else
 (cl (call n 29 [(V.agg [(V.int .i64 x1_0), (V.int .i64 x1_1), (V.int .u8 x1_2), (V.int .i32 x1_3), (V.int .u8 x1_4), (V.int .i32 x1_5), (V.int .i64 x1_6), (V.int .i64 x1_7)]), (V.agg [(V.int .i64 x2_0), (V.int .i64 x2_1), (V.int .u8 x2_2), (V.int .i32 x2_3), (V.int .u8 x2_4), (V.int .i32 x2_5), (V.int .i64 x2_6), (V.int .i64 x2_7)])] h24) (fun r46 h47 =>
 (one1 r46 fun v49 =>
 (bd (uop .not v49) fun v50 =>
 (bv v50 fun b51 => if b51 then
 (clS (call n 26 [] []) fun r52 =>
 (one1 r52 fun v55 =>
 (bv v55 fun b56 => if b56 then
 (clS (call n 29 [(V.agg [(V.int .i64 x0_0), (V.int .i64 x0_1), (V.int .u8 x0_2), (V.int .i32 x0_3), (V.int .u8 x0_4), (V.int .i32 x0_5), (V.int .i64 x0_6), (V.int .i64 (-1))]), (V.agg [(V.int .i64 x1_0), (V.int .i64 x1_1), (V.int .u8 x1_2), (V.int .i32 x1_3), (V.int .u8 x1_4), (V.int .i32 x1_5), (V.int .i64 x1_6), (V.int .i64 x1_7)])] []) fun r57 =>
 (one1 r57 fun v60 =>
 (bd (uop .not v60) fun v61 =>
 (bv v61 fun b62 => if b62 then
 (clS (call n 29 [(V.agg [(V.int .i64 x0_0), (V.int .i64 x0_1), (V.int .u8 x0_2), (V.int .i32 x0_3), (V.int .u8 x0_4), (V.int .i32 x0_5), (V.int .i64 x0_6), (V.int .i64 x0_7)]), (V.agg [(V.int .i64 x1_0), (V.int .i64 x1_1), (V.int .u8 x1_2), (V.int .i32 x1_3), (V.int .u8 x1_4), (V.int .i32 x1_5), (V.int .i64 x1_6), (V.int .i64 x1_7)])] []) fun r63 =>
 (one1 r63 fun v66 =>
 (if (decide (x0_7 ≥ 0)) then
 (bd (bop prog .eql 4 v66 (V.bool (decide (x1_6 > x0_7)))) fun v67 =>
 some (Res.ret [v67], h47))
 else
 (bd (bop prog .eql 4 v66 (V.bool false)) fun v68 =>
 some (Res.ret [v68], h47)))))
 else
 some (Res.ret [(V.bool false)], h47)))))
 else
 some (Res.ret [(V.bool false)], h47))))
 else
 (cl (call n 29 [(V.agg [(V.int .i64 x0_0), (V.int .i64 x0_1), (V.int .u8 x0_2), (V.int .i32 x0_3), (V.int .u8 x0_4), (V.int .i32 x0_5), (V.int .i64 x0_6), (V.int .i64 x0_7)]), (V.agg [(V.int .i64 x2_0), (V.int .i64 x2_1), (V.int .u8 x2_2), (V.int .i32 x2_3), (V.int .u8 x2_4), (V.int .i32 x2_5), (V.int .i64 x2_6), (V.int .i64 x2_7)])] h47) (fun r69 h70 =>
 (one1 r69 fun v72 =>
 (clS (call n 26 [] []) fun r73 =>
 (one1 r73 fun v76 =>
 (bv v76 fun b77 => if b77 then
 (bv v72 fun b78 => if b78 then
 (clS (call n 29 [(V.agg [(V.int .i64 x0_0), (V.int .i64 x0_1), (V.int .u8 x0_2), (V.int .i32 x0_3), (V.int .u8 x0_4), (V.int .i32 x0_5), (V.int .i64 x0_6), (V.int .i64 (-1))]), (V.agg [(V.int .i64 x1_0), (V.int .i64 x1_1), (V.int .u8 x1_2), (V.int .i32 x1_3), (V.int .u8 x1_4), (V.int .i32 x1_5), (V.int .i64 x1_6), (V.int .i64 x1_7)])] []) fun r79 =>
 (one1 r79 fun v82 =>
 (bd (uop .not v82) fun v83 =>
 (bv v83 fun b84 => if b84 then
 (clS (call n 29 [(V.agg [(V.int .i64 x0_0), (V.int .i64 x0_1), (V.int .u8 x0_2), (V.int .i32 x0_3), (V.int .u8 x0_4), (V.int .i32 x0_5), (V.int .i64 x0_6), (V.int .i64 x0_7)]), (V.agg [(V.int .i64 x1_0), (V.int .i64 x1_1), (V.int .u8 x1_2), (V.int .i32 x1_3), (V.int .u8 x1_4), (V.int .i32 x1_5), (V.int .i64 x1_6), (V.int .i64 x1_7)])] []) fun r85 =>
 (one1 r85 fun v88 =>
 (if (decide (x0_7 ≥ 0)) then
 (bd (bop prog .eql 4 v88 (V.bool (decide (x1_6 > x0_7)))) fun v89 =>
 some (Res.ret [v89], h70))
 else
 (bd (bop prog .eql 4 v88 (V.bool false)) fun v90 =>
 some (Res.ret [v90], h70)))))
 else
 some (Res.ret [(V.bool false)], h70)))))
 else
 some (Res.ret [(V.bool false)], h70))
 else
 some (Res.ret [(V.bool false)], h70)))))) (fun z71 h70 => some (Res.pan z71, h70))))))) (fun z48 h47 => some (Res.pan z48, h47))))))) (fun z25 h24 => some (Res.pan z25, h24)))
 else
 (cl (call n 29 [(V.agg [(V.int .i64 x1_0), (V.int .i64 x1_1), (V.int .u8 x1_2), (V.int .i32 x1_3), (V.int .u8 x1_4), (V.int .i32 x1_5), (V.int .i64 x1_6), (V.int .i64 x1_7)]), (V.agg [(V.int .i64 x0_0), (V.int .i64 x0_1), (V.int .u8 x0_2), (V.int .i32 x0_3), (V.int .u8 x0_4), (V.int .i32 x0_5), (V.int .i64 x0_6), (V.int .i64 x0_7)])] h18) (fun r91 h92 =>
 (one1 r91 fun v94 =>
 (bd (uop .not v94) fun v95 =>
 (bv v95 fun b96 => if b96 then
 (cl (call n 29 [(V.agg [(V.int .i64 x0_0), (V.int .i64 x0_1), (V.int .u8 x0_2), (V.int .i32 x0_3), (V.int .u8 x0_4), (V.int .i32 x0_5), (V.int .i64 x0_6), (V.int .i64 x0_7)]), (V.agg [(V.int .i64 x1_0), (V.int .i64 x1_1), (V.int .u8 x1_2), (V.int .i32 x1_3), (V.int .u8 x1_4), (V.int .i32 x1_5), (V.int .i64 x1_6), (V.int .i64 x1_7)])] h92) (fun r97 h98 =>
 (one1 r97 fun v100 =>
 (bd (uop .not v100) fun v101 =>
 (bv v101 fun b102 => if b102 then
 (clS (call n 26 [] []) fun r103 =>
 (one1 r103 fun v106 =>
 (bv v106 fun b107 => if b107 then
 (clS (call n 29 [(V.agg [(V.int .i64 x0_0), (V.int .i64 x0_1), (V.int .u8 x0_2), (V.int .i32 x0_3), (V.int .u8 x0_4), (V.int .i32 x0_5), (V.int .i64 x0_6), (V.int .i64 (-1))]), (V.agg [(V.int .i64 x1_0), (V.int .i64 x1_1), (V.int .u8 x1_2), (V.int .i32 x1_3), (V.int .u8 x1_4), (V.int .i32 x1_5), (V.int .i64 x1_6), (V.int .i64 x1_7)])] []) fun r108 =>
 (one1 r108 fun v111 =>
 (bd (uop .not v111) fun v112 =>
 (bv v112 fun b113 => if b113 then
 (clS (call n 29 [(V.agg [(V.int .i64 x0_0), (V.int .i64 x0_1), (V.int .u8 x0_2), (V.int .i32 x0_3), (V.int .u8 x0_4), (V.int .i32 x0_5), (V.int .i64 x0_6), (V.int .i64 x0_7)]), (V.agg [(V.int .i64 x1_0), (V.int .i64 x1_1), (V.int .u8 x1_2), (V.int .i32 x1_3), (V.int .u8 x1_4), (V.int .i32 x1_5), (V.int .i64 x1_6), (V.int .i64 x1_7)])] []) fun r114 =>
 (one1 r114 fun v117 =>
 (if (decide (x0_7 ≥ 0)) then
 (bd (bop prog .eql 4 v117 (V.bool (decide (x1_6 > x0_7)))) fun v118 =>
 some (Res.ret [v118], h98))
 else
 (bd (bop prog .eql 4 v117 (V.bool false)) fun v119 =>
 some (Res.ret [v119], h98)))))
 else
 some (Res.ret [(V.bool false)], h98)))))
 else
 some (Res.ret [(V.bool false)], h98))))
 else
 (cl (call n 29 [(V.agg [(V.int .i64 x1_0), (V.int .i64 x1_1), (V.int .u8 x1_2), (V.int .i32 x1_3), (V.int .u8 x1_4), (V.int .i32 x1_5), (V.int .i64 x1_6), (V.int .i64 x1_7)]), (V.agg [(V.int .i64 x2_0), (V.int .i64 x2_1), (V.int .u8 x2_2), (V.int .i32 x2_3), (V.int .u8 x2_4), (V.int .i32 x2_5), (V.int .i64 x2_6), (V.int .i64 x2_7)])] h98) (fun r120 h121 =>
 (one1 r120 fun v123 =>
 (bd (uop .not v123) fun v124 =>
 (bv v124 fun b125 => if b125 then
 (clS (call n 26 [] []) fun r126 =>
 (one1 r126 fun v129 =>
 (bv v129 fun b130 => if b130 then
 (clS (call n 29 [(V.agg [(V.int .i64 x0_0), (V.int .i64 x0_1), (V.int .u8 x0_2), (V.int .i32 x0_3), (V.int .u8 x0_4), (V.int .i32 x0_5), (V.int .i64 x0_6), (V.int .i64 (-1))]), (V.agg [(V.int .i64 x1_0), (V.int .i64 x1_1), (V.int .u8 x1_2), (V.int .i32 x1_3), (V.int .u8 x1_4), (V.int .i32 x1_5), (V.int .i64 x1_6), (V.int .i64 x1_7)])] []) fun r131 =>
 (one1 r131 fun v134 =>
 (bd (uop .not v134) fun v135 =>
 (bv v135 fun b136 => if b136 then
 (clS (call n 29 [(V.agg [(V.int .i64 x0_0), (V.int .i64 x0_1), (V.int .u8 x0_2), (V.int .i32 x0_3), (V.int .u8 x0_4), (V.int .i32 x0_5), (V.int .i64 x0_6), (V.int .i64 x0_7)]), (V.agg [(V.int .i64 x1_0), (V.int .i64 x1_1), (V.int .u8 x1_2), (V.int .i32 x1_3), (V.int .u8 x1_4), (V.int .i32 x1_5), (V.int .i64 x1_6), (V.int .i64 x1_7)])] []) fun r137 =>
 (one1 r137 fun v140 =>
 (if (decide (x0_7 ≥ 0)) then
 (bd (bop prog .eql 4 v140 (V.bool (decide (x1_6 > x0_7)))) fun v141 =>
 some (Res.ret [v141], h121))
 else
 (bd (bop prog .eql 4 v140 (V.bool false)) fun v142 =>
 some (Res.ret [v142], h121)))))
 else
 some (Res.ret [(V.bool false)], h121)))))
 else
 some (Res.ret [(V.bool false)], h121))))
 else
 (cl (call n 29 [(V.agg [(V.int .i64 x0_0), (V.int .i64 x0_1), (V.int .u8 x0_2), (V.int .i32 x0_3), (V.int .u8 x0_4), (V.int .i32 x0_5), (V.int .i64 x0_6), (V.int .i64 x0_7)]), (V.agg [(V.int .i64 x2_0), (V.int .i64 x2_1), (V.int .u8 x2_2), (V.int .i32 x2_3), (V.int .u8 x2_4), (V.int .i32 x2_5), (V.int .i64 x2_6), (V.int .i64 x2_7)])] h121) (fun r143 h144 =>
 (one1 r143 fun v146 =>
 (clS (call n 26 [] []) fun r147 =>
 (one1 r147 fun v150 =>
 (bv v150 fun b151 => if b151 then
 (bv v146 fun b152 => if b152 then
 (clS (call n 29 [(V.agg [(V.int .i64 x0_0), (V.int .i64 x0_1), (V.int .u8 x0_2), (V.int .i32 x0_3), (V.int .u8 x0_4), (V.int .i32 x0_5), (V.int .i64 x0_6), (V.int .i64 (-1))]), (V.agg [(V.int .i64 x1_0), (V.int .i64 x1_1), (V.int .u8 x1_2), (V.int .i32 x1_3), (V.int .u8 x1_4), (V.int .i32 x1_5), (V.int .i64 x1_6), (V.int .i64 x1_7)])] []) fun r153 =>
 (one1 r153 fun v156 =>
 (bd (uop .not v156) fun v157 =>
 (bv v157 fun b158 => if b158 then
 (clS (call n 29 [(V.agg [(V.int .i64 x0_0), (V.int .i64 x0_1), (V.int .u8 x0_2), (V.int .i32 x0_3), (V.int .u8 x0_4), (V.int .i32 x0_5), (V.int .i64 x0_6), (V.int .i64 x0_7)]), (V.agg [(V.int .i64 x1_0), (V.int .i64 x1_1), (V.int .u8 x1_2), (V.int .i32 x1_3), (V.int .u8 x1_4), (V.int .i32 x1_5), (V.int .i64 x1_6), (V.int .i64 x1_7)])] []) fun r159 =>
 (one1 r159 fun v162 =>
 (if (decide (x0_7 ≥ 0)) then
 (bd (bop prog .eql 4 v162 (V.bool (decide (x1_6 > x0_7)))) fun v163 =>
 some (Res.ret [v163], h144))
 else
 (bd (bop prog .eql 4 v162 (V.bool false)) fun v164 =>
 some (Res.ret [v164], h144)))))
 else
 some (Res.ret [(V.bool false)], h144)))))
 else
 some (Res.ret [(V.bool false)], h144))
 else
 some (Res.ret [(V.bool false)], h144)))))) (fun z145 h144 => some (Res.pan z145, h144))))))) (fun z122 h121 => some (Res.pan z122, h121))))))) (fun z99 h98 => some (Res.pan z99, h98)))
 else
 (clS (call n 26 [] []) fun r165 =>
 (one1 r165 fun v168 =>
 (bv v168 fun b169 => if b169 then
 some (Res.ret [(V.bool false)], h92)
 else
 some (Res.ret [(V.bool false)], h92)))))))) (fun z93 h92 => some (Res.pan z93, h92))))))) (fun z19 h18 => some (Res.pan z19, h18))))
 else
 (clS (call n 26 [] []) fun r170 =>
 (one1 r170 fun v173 =>
 (bv v173 fun b174 => if b174 then
 (clS (call n 29 [(V.agg [(V.int .i64 x0_0), (V.int .i64 x0_1), (V.int .u8 x0_2), (V.int .i32 x0_3), (V.int .u8 x0_4), (V.int .i32 x0_5), (V.int .i64 x0_6), (V.int .i64 (-1))]), (V.agg [(V.int .i64 x1_0), (V.int .i64 x1_1), (V.int .u8 x1_2), (V.int .i32 x1_3), (V.int .u8 x1_4), (V.int .i32 x1_5), (V.int .i64 x1_6), (V.int .i64 x1_7)])] []) fun r175 =>
 (one1 r175 fun v178 =>
 (bd (uop .not v178) fun v179 =>
 (bv v179 fun b180 => if b180 then
 (clS (call n 29 [(V.agg [(V.int .i64 x0_0), (V.int .i64 x0_1), (V.int .u8 x0_2), (V.int .i32 x0_3), (V.int .u8 x0_4), (V.int .i32 x0_5), (V.int .i64 x0_6), (V.int .i64 x0_7)]), (V.agg [(V.int .i64 x1_0), (V.int .i64 x1_1), (V.int .u8 x1_2), (V.int .i32 x1_3), (V.int .u8 x1_4), (V.int .i32 x1_5), (V.int .i64 x1_6), (V.int .i64 x1_7)])] []) fun r181 =>
 (one1 r181 fun v184 =>
 (if (decide (x0_7 ≥ 0)) then
 (bd (bop prog .eql 4 v184 (V.bool (decide (x1_6 > x0_7)))) fun v185 =>
 some (Res.ret [v185], []))
 else
 (bd (bop prog .eql 4 v184 (V.bool false)) fun v186 =>
 some (Res.ret [v186], [])))))
 else
 some (Res.ret [(V.bool false)], [])))))
 else
 some (Res.ret [(V.bool false)], [])))))
 else
 (clS (call n 26 [] []) fun r187 =>
 (one1 r187 fun v190 =>
 (bv v190 fun b191 => if b191 then
 (clS (call n 29 [(V.agg [(V.int .i64 x0_0), (V.int .i64 x0_1), (V.int .u8 x0_2), (V.int .i32 x0_3), (V.int .u8 x0_4), (V.int .i32 x0_5), (V.int .i64 x0_6), (V.int .i64 (-1))]), (V.agg [(V.int .i64 x1_0), (V.int .i64 x1_1), (V.int .u8 x1_2), (V.int .i32 x1_3), (V.int .u8 x1_4), (V.int .i32 x1_5), (V.int .i64 x1_6), (V.int .i64 x1_7)])] []) fun r192 =>
 (one1 r192 fun v195 =>
 (bd (uop .not v195) fun v196 =>
 (bv v196 fun b197 => if b197 then
 (clS (call n 29 [(V.agg [(V.int .i64 x0_0), (V.int .i64 x0_1), (V.int .u8 x0_2), (V.int .i32 x0_3), (V.int .u8 x0_4), (V.int .i32 x0_5), (V.int .i64 x0_6), (V.int .i64 x0_7)]), (V.agg [(V.int .i64 x1_0), (V.int .i64 x1_1), (V.int .u8 x1_2), (V.int .i32 x1_3), (V.int .u8 x1_4), (V.int .i32 x1_5), (V.int .i64 x1_6), (V.int .i64 x1_7)])] []) fun r198 =>
 (one1 r198 fun v201 =>
 (if (decide (x0_7 ≥ 0)) then
 (bd (bop prog .eql 4 v201 (V.bool (decide (x1_6 > x0_7)))) fun v202 =>
 some (Res.ret [v202], []))
 else
 (bd (bop prog .eql 4 v201 (V.bool false)) fun v203 =>
 some (Res.ret [v203], [])))))
 else
 some (Res.ret [(V.bool false)], [])))))
 else
 some (Res.ret [(V.bool false)], [])))))
theorem lBefore_eq (n : Nat) (x0_0 : Int) (x0_1 : Int) (x0_2 : Int) (x0_3 : Int) (x0_4 : Int) (x0_5 : Int) (x0_6 : Int) (x0_7 : Int) (x1_0 : Int) (x1_1 : Int) (x1_2 : Int) (x1_3 : Int) (x1_4 : Int) (x1_5 : Int) (x1_6 : Int) (x1_7 : Int) (x2_0 : Int) (x2_1 : Int) (x2_2 : Int) (x2_3 : Int) (x2_4 : Int) (x2_5 : Int) (x2_6 : Int) (x2_7 : Int) (h : Heap) : call (n + 1) 11 [(V.agg [(V.int .i64 x0_0), (V.int .i64 x0_1), (V.int .u8 x0_2), (V.int .i32 x0_3), (V.int .u8 x0_4), (V.int .i32 x0_5), (V.int .i64 x0_6), (V.int .i64 x0_7)]), (V.agg [(V.int .i64 x1_0), (V.int .i64 x1_1), (V.int .u8 x1_2), (V.int .i32 x1_3), (V.int .u8 x1_4), (V.int .i32 x1_5), (V.int .i64 x1_6), (V.int .i64 x1_7)]), (V.agg [(V.int .i64 x2_0), (V.int .i64 x2_1), (V.int .u8 x2_2), (V.int .i32 x2_3), (V.int .u8 x2_4), (V.int .i32 x2_5), (V.int .i64 x2_6), (V.int .i64 x2_7)])] h = gcw [(V.agg [(V.int .i64 x0_0), (V.int .i64 x0_1), (V.int .u8 x0_2), (V.int .i32 x0_3), (V.int .u8 x0_4), (V.int .i32 x0_5), (V.int .i64 x0_6), (V.int .i64 x0_7)]), (V.agg [(V.int .i64 x1_0), (V.int .i64 x1_1), (V.int .u8 x1_2), (V.int .i32 x1_3), (V.int .u8 x1_4), (V.int .i32 x1_5), (V.int .i64 x1_6), (V.int .i64 x1_7)]), (V.agg [(V.int .i64 x2_0), (V.int .i64 x2_1), (V.int .u8 x2_2), (V.int .i32 x2_3), (V.int .u8 x2_4), (V.int .i32 x2_5), (V.int .i64 x2_6), (V.int .i64 x2_7)])] (lBefore n x0_0 x0_1 x0_2 x0_3 x0_4 x0_5 x0_6 x0_7 x1_0 x1_1 x1_2 x1_3 x1_4 x1_5 x1_6 x1_7 x2_0 x2_1 x2_2 x2_3 x2_4 x2_5 x2_6 x2_7) h := by kernel_rfl
end Go.Proofs.Try
