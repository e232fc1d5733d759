import Derived.Test.YtodgpfffnnlbhaaLset
import Derived.Test.YtodgpfffnnlbhaaLwd
/-! reaperlaw19.Spans, of any slices: PRINTED BY A PROGRAM OF MINE (lift6.lean) -/
set_option linter.unusedVariables false
namespace Go.Proofs.Try
open Go.L
set_option maxRecDepth 100000
noncomputable def lSpn_l7 (n : Nat) (o : Int) (m : Int) (d : V) (v6 : V) (st8 : List V) (hh9 : Heap) (next10 : List V → Heap → Option (Res × Heap)) : Option (Res × Heap) :=
 (bd (slcH hh9 v6) fun p11 =>
 (bd (bop prog .lss 3 (gv st8 5) (V.int .i64 ((p11.2).length : Int))) fun v12 =>
 (bv v12 fun b13 => if b13 then
 (bdS (nv (gv st8 5)) fun n14 =>
 (bd (idxP 2 n14 v6) fun p15 =>
 (bd3 (cellsP hh9 p15) fun cs17 m16 o18 => if (o18 + 2 ≤ m16 ∧ 0 < 2) then
 (cl (call n 52 [(V.int .u8 o), (V.int .i64 m), (gv st8 4), (V.agg ((cs17).drop o18 |>.take 2))] hh9) (fun r19 h20 =>
 (bd (r19)[0]? fun v22 =>
 (bd (r19)[1]? fun v23 =>
 (if ((V.cells v23)).length = 2 then
 (if (((V.cells v23)).length ≤ 2) then
 (bd (slcH h20 d) fun p24 =>
 (bd (bop prog .lss 3 (gv st8 5) (V.int .i64 ((p24.2).length : Int))) fun v25 =>
 (bv v25 fun b26 => if b26 then
 (bdS (nv (gv st8 5)) fun n27 =>
 (bd (idxP 1 n27 d) fun p28 =>
 (bd3 (cellsP h20 p28) fun cs30 m29 o31 => if (o31 + 1 ≤ m29 ∧ 0 < 1) then
 (bd (cs30)[o31]? fun v32 =>
 (bd (bop prog .rem 5 v32 (V.int .u8 9)) fun v33 =>
 (bd (cvt prog 5 3 v33) fun v34 =>
 (bdS (nv (gv st8 5)) fun n35 =>
 (bd (idxP 1 n35 d) fun p36 =>
 (bd3 (cellsP h20 p36) fun cs38 m37 o39 => if (o39 + 1 ≤ m37 ∧ 0 < 1) then
 (bd (cs38)[o39]? fun v40 =>
 (bd (bop prog .quo 5 v40 (V.int .u8 9)) fun v41 =>
 (bd (bop prog .rem 5 v41 (V.int .u8 9)) fun v42 =>
 (bd (cvt prog 5 3 v42) fun v43 =>
 (bd (bop prog .rem 3 (gv st8 5) (V.int .i64 3)) fun v44 =>
 (bd (bop prog .quo 3 (gv st8 5) (V.int .i64 3)) fun v45 =>
 (bd (bop prog .add 3 v45 (V.int .i64 1)) fun v46 =>
 (bdS (nv (gv st8 5)) fun n47 =>
 (bd (idxP 2 n47 v6) fun p48 =>
 (bd3 (cellsP h20 p48) fun cs50 m49 o51 => if (o51 + 2 ≤ m49 ∧ 0 < 2) then
 (bd (bop prog .mul 3 (V.int .i64 4) (gv st8 5)) fun v52 =>
 (bd (bop prog .sub 3 v52 v34) fun v53 =>
 (bd (evBsL [(some (V.int .i64 0)), (valB h20 v53)]) fun a54 => bd (mm true a54) fun v55 =>
 (bd (bop prog .mul 3 (V.int .i64 4) (gv st8 5)) fun v56 =>
 (bd (bop prog .add 3 v56 v43) fun v57 =>
 (bd (bldV prog 54 [(0, v44), (1, v46), (2, (V.agg ((cs50).drop o51 |>.take 2))), (3, (V.agg (((setR [(V.int .u8 0), (V.int .i32 0)] 0 (V.cells v23))).drop 0 |>.take 2))), (4, v55), (5, v57)]) fun cs58 =>
 (if (cs58).length = 8 then
 (if ((cs58).length ≤ 8) then
 (bd (slcH h20 d) fun p59 =>
 (bd (bop prog .lss 3 (gv st8 5) (V.int .i64 ((p59.2).length : Int))) fun v60 =>
 (bv v60 fun b61 => if b61 then
 (bdS (nv (gv st8 5)) fun n62 =>
 (bd (idxP 1 n62 d) fun p63 =>
 (bd3 (cellsP h20 p63) fun cs65 m64 o66 => if (o66 + 1 ≤ m64 ∧ 0 < 1) then
 (bd (cs65)[o66]? fun v67 =>
 (bd (bop prog .geq 5 v67 (V.int .u8 240)) fun v68 =>
 (bv v68 fun b69 => if b69 then
 (bd (bslV prog 49 1 [(0, (V.agg (((setR (setR (setR [(V.int .i64 0), (V.int .i64 0), (V.int .u8 0), (V.int .i32 0), (V.int .u8 0), (V.int .i32 0), (V.int .i64 0), (V.int .i64 0)] 0 cs58) 7 [(V.int .i64 (-1))]) 4 [(V.int .u8 0), (V.int .i32 0)])).drop 0 |>.take 8)))]) fun p70 =>
 (bd (app 54 8 (S.own 54 8 (lsl (gv st8 2))) p70.2) fun l71 =>
 (bd (bop prog .rem 3 (gv st8 5) (V.int .i64 3)) fun v72 =>
 (bd (bop prog .quo 3 (gv st8 5) (V.int .i64 3)) fun v73 =>
 (bd (bop prog .add 3 v73 (V.int .i64 1)) fun v74 =>
 (bdS (nv (gv st8 5)) fun n75 =>
 (bd (idxP 2 n75 v6) fun p76 =>
 (bd3 (cellsP h20 p76) fun cs78 m77 o79 => if (o79 + 2 ≤ m77 ∧ 0 < 2) then
 (bd (bldV prog 60 [(0, v72), (1, v74), (2, (V.agg ((cs78).drop o79 |>.take 2))), (3, (V.agg (((setR [(V.int .u8 0), (V.int .i32 0)] 0 (V.cells v23))).drop 0 |>.take 2)))]) fun cs80 =>
 (bd (bslV prog 50 1 [(0, (V.agg cs80))]) fun p81 =>
 (bd (app 60 7 (S.own 60 7 (lsl (gv st8 3))) p81.2) fun l82 =>
 (bd (bop prog .add 3 (gv st8 5) (V.int .i64 1)) fun v83 =>
 (next10 [(V.sl 8 (lsl (gv st8 0)) false), (V.sl 7 (lsl (gv st8 1)) false), (V.sl 8 l71 false), (V.sl 7 l82 false), v22, v83] h20))))) else none))))))))
 else
 (bd (bslV prog 49 1 [(0, (V.agg (((setR [(V.int .i64 0), (V.int .i64 0), (V.int .u8 0), (V.int .i32 0), (V.int .u8 0), (V.int .i32 0), (V.int .i64 0), (V.int .i64 0)] 0 cs58)).drop 0 |>.take 8)))]) fun p84 =>
 (bd (app 54 8 (S.own 54 8 (lsl (gv st8 2))) p84.2) fun l85 =>
 (bd (bop prog .rem 3 (gv st8 5) (V.int .i64 3)) fun v86 =>
 (bd (bop prog .quo 3 (gv st8 5) (V.int .i64 3)) fun v87 =>
 (bd (bop prog .add 3 v87 (V.int .i64 1)) fun v88 =>
 (bdS (nv (gv st8 5)) fun n89 =>
 (bd (idxP 2 n89 v6) fun p90 =>
 (bd3 (cellsP h20 p90) fun cs92 m91 o93 => if (o93 + 2 ≤ m91 ∧ 0 < 2) then
 (bd (bldV prog 60 [(0, v86), (1, v88), (2, (V.agg ((cs92).drop o93 |>.take 2))), (3, (V.agg (((setR [(V.int .u8 0), (V.int .i32 0)] 0 (V.cells v23))).drop 0 |>.take 2)))]) fun cs94 =>
 (bd (bslV prog 50 1 [(0, (V.agg cs94))]) fun p95 =>
 (bd (app 60 7 (S.own 60 7 (lsl (gv st8 3))) p95.2) fun l96 =>
 (bd (bop prog .add 3 (gv st8 5) (V.int .i64 1)) fun v97 =>
 (next10 [(V.sl 8 (lsl (gv st8 0)) false), (V.sl 7 (lsl (gv st8 1)) false), (V.sl 8 l85 false), (V.sl 7 l96 false), v22, v97] h20))))) else none))))))))))) else none)))
 else
 (bd (bslV prog 49 1 [(0, (V.agg (((setR [(V.int .i64 0), (V.int .i64 0), (V.int .u8 0), (V.int .i32 0), (V.int .u8 0), (V.int .i32 0), (V.int .i64 0), (V.int .i64 0)] 0 cs58)).drop 0 |>.take 8)))]) fun p98 =>
 (bd (app 54 8 (S.own 54 8 (lsl (gv st8 2))) p98.2) fun l99 =>
 (bd (bop prog .rem 3 (gv st8 5) (V.int .i64 3)) fun v100 =>
 (bd (bop prog .quo 3 (gv st8 5) (V.int .i64 3)) fun v101 =>
 (bd (bop prog .add 3 v101 (V.int .i64 1)) fun v102 =>
 (bdS (nv (gv st8 5)) fun n103 =>
 (bd (idxP 2 n103 v6) fun p104 =>
 (bd3 (cellsP h20 p104) fun cs106 m105 o107 => if (o107 + 2 ≤ m105 ∧ 0 < 2) then
 (bd (bldV prog 60 [(0, v100), (1, v102), (2, (V.agg ((cs106).drop o107 |>.take 2))), (3, (V.agg (((setR [(V.int .u8 0), (V.int .i32 0)] 0 (V.cells v23))).drop 0 |>.take 2)))]) fun cs108 =>
 (bd (bslV prog 50 1 [(0, (V.agg cs108))]) fun p109 =>
 (bd (app 60 7 (S.own 60 7 (lsl (gv st8 3))) p109.2) fun l110 =>
 (bd (bop prog .add 3 (gv st8 5) (V.int .i64 1)) fun v111 =>
 (next10 [(V.sl 8 (lsl (gv st8 0)) false), (V.sl 7 (lsl (gv st8 1)) false), (V.sl 8 l99 false), (V.sl 7 l110 false), v22, v111] h20))))) else none))))))))))) else none) else none))))))) else none)))))))))) else none)))))) else none)))
 else
 (bd (bop prog .rem 3 (gv st8 5) (V.int .i64 3)) fun v112 =>
 (bd (bop prog .quo 3 (gv st8 5) (V.int .i64 3)) fun v113 =>
 (bd (bop prog .add 3 v113 (V.int .i64 1)) fun v114 =>
 (bdS (nv (gv st8 5)) fun n115 =>
 (bd (idxP 2 n115 v6) fun p116 =>
 (bd3 (cellsP h20 p116) fun cs118 m117 o119 => if (o119 + 2 ≤ m117 ∧ 0 < 2) then
 (bd (bop prog .mul 3 (V.int .i64 4) (gv st8 5)) fun v120 =>
 (bd (bop prog .sub 3 v120 (V.int .i64 0)) fun v121 =>
 (bd (evBsL [(some (V.int .i64 0)), (valB h20 v121)]) fun a122 => bd (mm true a122) fun v123 =>
 (bd (bop prog .mul 3 (V.int .i64 4) (gv st8 5)) fun v124 =>
 (bd (bop prog .add 3 v124 (V.int .i64 1)) fun v125 =>
 (bd (bldV prog 54 [(0, v112), (1, v114), (2, (V.agg ((cs118).drop o119 |>.take 2))), (3, (V.agg (((setR [(V.int .u8 0), (V.int .i32 0)] 0 (V.cells v23))).drop 0 |>.take 2))), (4, v123), (5, v125)]) fun cs126 =>
 (if (cs126).length = 8 then
 (if ((cs126).length ≤ 8) then
 (bd (slcH h20 d) fun p127 =>
 (bd (bop prog .lss 3 (gv st8 5) (V.int .i64 ((p127.2).length : Int))) fun v128 =>
 (bv v128 fun b129 => if b129 then
 (bdS (nv (gv st8 5)) fun n130 =>
 (bd (idxP 1 n130 d) fun p131 =>
 (bd3 (cellsP h20 p131) fun cs133 m132 o134 => if (o134 + 1 ≤ m132 ∧ 0 < 1) then
 (bd (cs133)[o134]? fun v135 =>
 (bd (bop prog .geq 5 v135 (V.int .u8 240)) fun v136 =>
 (bv v136 fun b137 => if b137 then
 (bd (bslV prog 49 1 [(0, (V.agg (((setR (setR (setR [(V.int .i64 0), (V.int .i64 0), (V.int .u8 0), (V.int .i32 0), (V.int .u8 0), (V.int .i32 0), (V.int .i64 0), (V.int .i64 0)] 0 cs126) 7 [(V.int .i64 (-1))]) 4 [(V.int .u8 0), (V.int .i32 0)])).drop 0 |>.take 8)))]) fun p138 =>
 (bd (app 54 8 (S.own 54 8 (lsl (gv st8 2))) p138.2) fun l139 =>
 (bd (bop prog .rem 3 (gv st8 5) (V.int .i64 3)) fun v140 =>
 (bd (bop prog .quo 3 (gv st8 5) (V.int .i64 3)) fun v141 =>
 (bd (bop prog .add 3 v141 (V.int .i64 1)) fun v142 =>
 (bdS (nv (gv st8 5)) fun n143 =>
 (bd (idxP 2 n143 v6) fun p144 =>
 (bd3 (cellsP h20 p144) fun cs146 m145 o147 => if (o147 + 2 ≤ m145 ∧ 0 < 2) then
 (bd (bldV prog 60 [(0, v140), (1, v142), (2, (V.agg ((cs146).drop o147 |>.take 2))), (3, (V.agg (((setR [(V.int .u8 0), (V.int .i32 0)] 0 (V.cells v23))).drop 0 |>.take 2)))]) fun cs148 =>
 (bd (bslV prog 50 1 [(0, (V.agg cs148))]) fun p149 =>
 (bd (app 60 7 (S.own 60 7 (lsl (gv st8 3))) p149.2) fun l150 =>
 (bd (bop prog .add 3 (gv st8 5) (V.int .i64 1)) fun v151 =>
 (next10 [(V.sl 8 (lsl (gv st8 0)) false), (V.sl 7 (lsl (gv st8 1)) false), (V.sl 8 l139 false), (V.sl 7 l150 false), v22, v151] h20))))) else none))))))))
 else
 (bd (bslV prog 49 1 [(0, (V.agg (((setR [(V.int .i64 0), (V.int .i64 0), (V.int .u8 0), (V.int .i32 0), (V.int .u8 0), (V.int .i32 0), (V.int .i64 0), (V.int .i64 0)] 0 cs126)).drop 0 |>.take 8)))]) fun p152 =>
 (bd (app 54 8 (S.own 54 8 (lsl (gv st8 2))) p152.2) fun l153 =>
 (bd (bop prog .rem 3 (gv st8 5) (V.int .i64 3)) fun v154 =>
 (bd (bop prog .quo 3 (gv st8 5) (V.int .i64 3)) fun v155 =>
 (bd (bop prog .add 3 v155 (V.int .i64 1)) fun v156 =>
 (bdS (nv (gv st8 5)) fun n157 =>
 (bd (idxP 2 n157 v6) fun p158 =>
 (bd3 (cellsP h20 p158) fun cs160 m159 o161 => if (o161 + 2 ≤ m159 ∧ 0 < 2) then
 (bd (bldV prog 60 [(0, v154), (1, v156), (2, (V.agg ((cs160).drop o161 |>.take 2))), (3, (V.agg (((setR [(V.int .u8 0), (V.int .i32 0)] 0 (V.cells v23))).drop 0 |>.take 2)))]) fun cs162 =>
 (bd (bslV prog 50 1 [(0, (V.agg cs162))]) fun p163 =>
 (bd (app 60 7 (S.own 60 7 (lsl (gv st8 3))) p163.2) fun l164 =>
 (bd (bop prog .add 3 (gv st8 5) (V.int .i64 1)) fun v165 =>
 (next10 [(V.sl 8 (lsl (gv st8 0)) false), (V.sl 7 (lsl (gv st8 1)) false), (V.sl 8 l153 false), (V.sl 7 l164 false), v22, v165] h20))))) else none))))))))))) else none)))
 else
 (bd (bslV prog 49 1 [(0, (V.agg (((setR [(V.int .i64 0), (V.int .i64 0), (V.int .u8 0), (V.int .i32 0), (V.int .u8 0), (V.int .i32 0), (V.int .i64 0), (V.int .i64 0)] 0 cs126)).drop 0 |>.take 8)))]) fun p166 =>
 (bd (app 54 8 (S.own 54 8 (lsl (gv st8 2))) p166.2) fun l167 =>
 (bd (bop prog .rem 3 (gv st8 5) (V.int .i64 3)) fun v168 =>
 (bd (bop prog .quo 3 (gv st8 5) (V.int .i64 3)) fun v169 =>
 (bd (bop prog .add 3 v169 (V.int .i64 1)) fun v170 =>
 (bdS (nv (gv st8 5)) fun n171 =>
 (bd (idxP 2 n171 v6) fun p172 =>
 (bd3 (cellsP h20 p172) fun cs174 m173 o175 => if (o175 + 2 ≤ m173 ∧ 0 < 2) then
 (bd (bldV prog 60 [(0, v168), (1, v170), (2, (V.agg ((cs174).drop o175 |>.take 2))), (3, (V.agg (((setR [(V.int .u8 0), (V.int .i32 0)] 0 (V.cells v23))).drop 0 |>.take 2)))]) fun cs176 =>
 (bd (bslV prog 50 1 [(0, (V.agg cs176))]) fun p177 =>
 (bd (app 60 7 (S.own 60 7 (lsl (gv st8 3))) p177.2) fun l178 =>
 (bd (bop prog .add 3 (gv st8 5) (V.int .i64 1)) fun v179 =>
 (next10 [(V.sl 8 (lsl (gv st8 0)) false), (V.sl 7 (lsl (gv st8 1)) false), (V.sl 8 l167 false), (V.sl 7 l178 false), v22, v179] h20))))) else none))))))))))) else none) else none))))))) else none))))))))) else none) else none)))) (fun z21 h20 => some (Res.pan z21, h20))) else none)))
 else
 some (Res.ret [(V.row (hh9).length 8 0 ((lsl (gv st8 2))).length), (V.row ((hh9 ++ [(HB.row 54 8 (lsl (gv st8 2)) true)])).length 7 0 ((lsl (gv st8 3))).length)], ((hh9 ++ [(HB.row 54 8 (lsl (gv st8 2)) true)]) ++ [(HB.row 60 7 (lsl (gv st8 3)) true)])))))
noncomputable def lSpn_l180 (n : Nat) (o : Int) (m : Int) (d : V) (v3 : V) (st181 : List V) (hh182 : Heap) (next183 : List V → Heap → Option (Res × Heap)) : Option (Res × Heap) :=
 (bd (slcH hh182 v3) fun p184 =>
 (bd (bop prog .lss 3 (gv st181 5) (V.int .i64 ((p184.2).length : Int))) fun v185 =>
 (bv v185 fun b186 => if b186 then
 (bdS (nv (gv st181 5)) fun n187 =>
 (bd (idxP 2 n187 v3) fun p188 =>
 (bd3 (cellsP hh182 p188) fun cs190 m189 o191 => if (o191 + 2 ≤ m189 ∧ 0 < 2) then
 (cl (call n 52 [(V.int .u8 o), (V.int .i64 m), (gv st181 4), (V.agg ((cs190).drop o191 |>.take 2))] hh182) (fun r192 h193 =>
 (bd (r192)[0]? fun v195 =>
 (bd (r192)[1]? fun v196 =>
 (if ((V.cells v196)).length = 2 then
 (if (((V.cells v196)).length ≤ 2) then
 (bd (slcH h193 d) fun p197 =>
 (bd (bop prog .lss 3 (gv st181 5) (V.int .i64 ((p197.2).length : Int))) fun v198 =>
 (bv v198 fun b199 => if b199 then
 (bdS (nv (gv st181 5)) fun n200 =>
 (bd (idxP 1 n200 d) fun p201 =>
 (bd3 (cellsP h193 p201) fun cs203 m202 o204 => if (o204 + 1 ≤ m202 ∧ 0 < 1) then
 (bd (cs203)[o204]? fun v205 =>
 (bd (bop prog .rem 5 v205 (V.int .u8 9)) fun v206 =>
 (bd (cvt prog 5 3 v206) fun v207 =>
 (bdS (nv (gv st181 5)) fun n208 =>
 (bd (idxP 1 n208 d) fun p209 =>
 (bd3 (cellsP h193 p209) fun cs211 m210 o212 => if (o212 + 1 ≤ m210 ∧ 0 < 1) then
 (bd (cs211)[o212]? fun v213 =>
 (bd (bop prog .quo 5 v213 (V.int .u8 9)) fun v214 =>
 (bd (bop prog .rem 5 v214 (V.int .u8 9)) fun v215 =>
 (bd (cvt prog 5 3 v215) fun v216 =>
 (bd (bop prog .rem 3 (gv st181 5) (V.int .i64 3)) fun v217 =>
 (bd (bop prog .quo 3 (gv st181 5) (V.int .i64 3)) fun v218 =>
 (bd (bop prog .add 3 v218 (V.int .i64 1)) fun v219 =>
 (bdS (nv (gv st181 5)) fun n220 =>
 (bd (idxP 2 n220 v3) fun p221 =>
 (bd3 (cellsP h193 p221) fun cs223 m222 o224 => if (o224 + 2 ≤ m222 ∧ 0 < 2) then
 (bd (bop prog .mul 3 (V.int .i64 4) (gv st181 5)) fun v225 =>
 (bd (bop prog .sub 3 v225 v207) fun v226 =>
 (bd (evBsL [(some (V.int .i64 0)), (valB h193 v226)]) fun a227 => bd (mm true a227) fun v228 =>
 (bd (bop prog .mul 3 (V.int .i64 4) (gv st181 5)) fun v229 =>
 (bd (bop prog .add 3 v229 v216) fun v230 =>
 (bd (bldV prog 54 [(0, v217), (1, v219), (2, (V.agg ((cs223).drop o224 |>.take 2))), (3, (V.agg (((setR [(V.int .u8 0), (V.int .i32 0)] 0 (V.cells v196))).drop 0 |>.take 2))), (4, v228), (5, v230)]) fun cs231 =>
 (if (cs231).length = 8 then
 (if ((cs231).length ≤ 8) then
 (bd (slcH h193 d) fun p232 =>
 (bd (bop prog .lss 3 (gv st181 5) (V.int .i64 ((p232.2).length : Int))) fun v233 =>
 (bv v233 fun b234 => if b234 then
 (bdS (nv (gv st181 5)) fun n235 =>
 (bd (idxP 1 n235 d) fun p236 =>
 (bd3 (cellsP h193 p236) fun cs238 m237 o239 => if (o239 + 1 ≤ m237 ∧ 0 < 1) then
 (bd (cs238)[o239]? fun v240 =>
 (bd (bop prog .geq 5 v240 (V.int .u8 240)) fun v241 =>
 (bv v241 fun b242 => if b242 then
 (bd (bslV prog 49 1 [(0, (V.agg (((setR (setR (setR [(V.int .i64 0), (V.int .i64 0), (V.int .u8 0), (V.int .i32 0), (V.int .u8 0), (V.int .i32 0), (V.int .i64 0), (V.int .i64 0)] 0 cs231) 7 [(V.int .i64 (-1))]) 4 [(V.int .u8 0), (V.int .i32 0)])).drop 0 |>.take 8)))]) fun p243 =>
 (bd (app 54 8 (S.own 54 8 (lsl (gv st181 2))) p243.2) fun l244 =>
 (bd (bop prog .rem 3 (gv st181 5) (V.int .i64 3)) fun v245 =>
 (bd (bop prog .quo 3 (gv st181 5) (V.int .i64 3)) fun v246 =>
 (bd (bop prog .add 3 v246 (V.int .i64 1)) fun v247 =>
 (bdS (nv (gv st181 5)) fun n248 =>
 (bd (idxP 2 n248 v3) fun p249 =>
 (bd3 (cellsP h193 p249) fun cs251 m250 o252 => if (o252 + 2 ≤ m250 ∧ 0 < 2) then
 (bd (bldV prog 60 [(0, v245), (1, v247), (2, (V.agg ((cs251).drop o252 |>.take 2))), (3, (V.agg (((setR [(V.int .u8 0), (V.int .i32 0)] 0 (V.cells v196))).drop 0 |>.take 2)))]) fun cs253 =>
 (bd (bslV prog 50 1 [(0, (V.agg cs253))]) fun p254 =>
 (bd (app 60 7 (S.own 60 7 (lsl (gv st181 3))) p254.2) fun l255 =>
 (bd (bop prog .add 3 (gv st181 5) (V.int .i64 1)) fun v256 =>
 (next183 [(V.sl 8 (lsl (gv st181 0)) false), (V.sl 7 (lsl (gv st181 1)) false), (V.sl 8 l244 false), (V.sl 7 l255 false), v195, v256] h193))))) else none))))))))
 else
 (bd (bslV prog 49 1 [(0, (V.agg (((setR [(V.int .i64 0), (V.int .i64 0), (V.int .u8 0), (V.int .i32 0), (V.int .u8 0), (V.int .i32 0), (V.int .i64 0), (V.int .i64 0)] 0 cs231)).drop 0 |>.take 8)))]) fun p257 =>
 (bd (app 54 8 (S.own 54 8 (lsl (gv st181 2))) p257.2) fun l258 =>
 (bd (bop prog .rem 3 (gv st181 5) (V.int .i64 3)) fun v259 =>
 (bd (bop prog .quo 3 (gv st181 5) (V.int .i64 3)) fun v260 =>
 (bd (bop prog .add 3 v260 (V.int .i64 1)) fun v261 =>
 (bdS (nv (gv st181 5)) fun n262 =>
 (bd (idxP 2 n262 v3) fun p263 =>
 (bd3 (cellsP h193 p263) fun cs265 m264 o266 => if (o266 + 2 ≤ m264 ∧ 0 < 2) then
 (bd (bldV prog 60 [(0, v259), (1, v261), (2, (V.agg ((cs265).drop o266 |>.take 2))), (3, (V.agg (((setR [(V.int .u8 0), (V.int .i32 0)] 0 (V.cells v196))).drop 0 |>.take 2)))]) fun cs267 =>
 (bd (bslV prog 50 1 [(0, (V.agg cs267))]) fun p268 =>
 (bd (app 60 7 (S.own 60 7 (lsl (gv st181 3))) p268.2) fun l269 =>
 (bd (bop prog .add 3 (gv st181 5) (V.int .i64 1)) fun v270 =>
 (next183 [(V.sl 8 (lsl (gv st181 0)) false), (V.sl 7 (lsl (gv st181 1)) false), (V.sl 8 l258 false), (V.sl 7 l269 false), v195, v270] h193))))) else none))))))))))) else none)))
 else
 (bd (bslV prog 49 1 [(0, (V.agg (((setR [(V.int .i64 0), (V.int .i64 0), (V.int .u8 0), (V.int .i32 0), (V.int .u8 0), (V.int .i32 0), (V.int .i64 0), (V.int .i64 0)] 0 cs231)).drop 0 |>.take 8)))]) fun p271 =>
 (bd (app 54 8 (S.own 54 8 (lsl (gv st181 2))) p271.2) fun l272 =>
 (bd (bop prog .rem 3 (gv st181 5) (V.int .i64 3)) fun v273 =>
 (bd (bop prog .quo 3 (gv st181 5) (V.int .i64 3)) fun v274 =>
 (bd (bop prog .add 3 v274 (V.int .i64 1)) fun v275 =>
 (bdS (nv (gv st181 5)) fun n276 =>
 (bd (idxP 2 n276 v3) fun p277 =>
 (bd3 (cellsP h193 p277) fun cs279 m278 o280 => if (o280 + 2 ≤ m278 ∧ 0 < 2) then
 (bd (bldV prog 60 [(0, v273), (1, v275), (2, (V.agg ((cs279).drop o280 |>.take 2))), (3, (V.agg (((setR [(V.int .u8 0), (V.int .i32 0)] 0 (V.cells v196))).drop 0 |>.take 2)))]) fun cs281 =>
 (bd (bslV prog 50 1 [(0, (V.agg cs281))]) fun p282 =>
 (bd (app 60 7 (S.own 60 7 (lsl (gv st181 3))) p282.2) fun l283 =>
 (bd (bop prog .add 3 (gv st181 5) (V.int .i64 1)) fun v284 =>
 (next183 [(V.sl 8 (lsl (gv st181 0)) false), (V.sl 7 (lsl (gv st181 1)) false), (V.sl 8 l272 false), (V.sl 7 l283 false), v195, v284] h193))))) else none))))))))))) else none) else none))))))) else none)))))))))) else none)))))) else none)))
 else
 (bd (bop prog .rem 3 (gv st181 5) (V.int .i64 3)) fun v285 =>
 (bd (bop prog .quo 3 (gv st181 5) (V.int .i64 3)) fun v286 =>
 (bd (bop prog .add 3 v286 (V.int .i64 1)) fun v287 =>
 (bdS (nv (gv st181 5)) fun n288 =>
 (bd (idxP 2 n288 v3) fun p289 =>
 (bd3 (cellsP h193 p289) fun cs291 m290 o292 => if (o292 + 2 ≤ m290 ∧ 0 < 2) then
 (bd (bop prog .mul 3 (V.int .i64 4) (gv st181 5)) fun v293 =>
 (bd (bop prog .sub 3 v293 (V.int .i64 0)) fun v294 =>
 (bd (evBsL [(some (V.int .i64 0)), (valB h193 v294)]) fun a295 => bd (mm true a295) fun v296 =>
 (bd (bop prog .mul 3 (V.int .i64 4) (gv st181 5)) fun v297 =>
 (bd (bop prog .add 3 v297 (V.int .i64 1)) fun v298 =>
 (bd (bldV prog 54 [(0, v285), (1, v287), (2, (V.agg ((cs291).drop o292 |>.take 2))), (3, (V.agg (((setR [(V.int .u8 0), (V.int .i32 0)] 0 (V.cells v196))).drop 0 |>.take 2))), (4, v296), (5, v298)]) fun cs299 =>
 (if (cs299).length = 8 then
 (if ((cs299).length ≤ 8) then
 (bd (slcH h193 d) fun p300 =>
 (bd (bop prog .lss 3 (gv st181 5) (V.int .i64 ((p300.2).length : Int))) fun v301 =>
 (bv v301 fun b302 => if b302 then
 (bdS (nv (gv st181 5)) fun n303 =>
 (bd (idxP 1 n303 d) fun p304 =>
 (bd3 (cellsP h193 p304) fun cs306 m305 o307 => if (o307 + 1 ≤ m305 ∧ 0 < 1) then
 (bd (cs306)[o307]? fun v308 =>
 (bd (bop prog .geq 5 v308 (V.int .u8 240)) fun v309 =>
 (bv v309 fun b310 => if b310 then
 (bd (bslV prog 49 1 [(0, (V.agg (((setR (setR (setR [(V.int .i64 0), (V.int .i64 0), (V.int .u8 0), (V.int .i32 0), (V.int .u8 0), (V.int .i32 0), (V.int .i64 0), (V.int .i64 0)] 0 cs299) 7 [(V.int .i64 (-1))]) 4 [(V.int .u8 0), (V.int .i32 0)])).drop 0 |>.take 8)))]) fun p311 =>
 (bd (app 54 8 (S.own 54 8 (lsl (gv st181 2))) p311.2) fun l312 =>
 (bd (bop prog .rem 3 (gv st181 5) (V.int .i64 3)) fun v313 =>
 (bd (bop prog .quo 3 (gv st181 5) (V.int .i64 3)) fun v314 =>
 (bd (bop prog .add 3 v314 (V.int .i64 1)) fun v315 =>
 (bdS (nv (gv st181 5)) fun n316 =>
 (bd (idxP 2 n316 v3) fun p317 =>
 (bd3 (cellsP h193 p317) fun cs319 m318 o320 => if (o320 + 2 ≤ m318 ∧ 0 < 2) then
 (bd (bldV prog 60 [(0, v313), (1, v315), (2, (V.agg ((cs319).drop o320 |>.take 2))), (3, (V.agg (((setR [(V.int .u8 0), (V.int .i32 0)] 0 (V.cells v196))).drop 0 |>.take 2)))]) fun cs321 =>
 (bd (bslV prog 50 1 [(0, (V.agg cs321))]) fun p322 =>
 (bd (app 60 7 (S.own 60 7 (lsl (gv st181 3))) p322.2) fun l323 =>
 (bd (bop prog .add 3 (gv st181 5) (V.int .i64 1)) fun v324 =>
 (next183 [(V.sl 8 (lsl (gv st181 0)) false), (V.sl 7 (lsl (gv st181 1)) false), (V.sl 8 l312 false), (V.sl 7 l323 false), v195, v324] h193))))) else none))))))))
 else
 (bd (bslV prog 49 1 [(0, (V.agg (((setR [(V.int .i64 0), (V.int .i64 0), (V.int .u8 0), (V.int .i32 0), (V.int .u8 0), (V.int .i32 0), (V.int .i64 0), (V.int .i64 0)] 0 cs299)).drop 0 |>.take 8)))]) fun p325 =>
 (bd (app 54 8 (S.own 54 8 (lsl (gv st181 2))) p325.2) fun l326 =>
 (bd (bop prog .rem 3 (gv st181 5) (V.int .i64 3)) fun v327 =>
 (bd (bop prog .quo 3 (gv st181 5) (V.int .i64 3)) fun v328 =>
 (bd (bop prog .add 3 v328 (V.int .i64 1)) fun v329 =>
 (bdS (nv (gv st181 5)) fun n330 =>
 (bd (idxP 2 n330 v3) fun p331 =>
 (bd3 (cellsP h193 p331) fun cs333 m332 o334 => if (o334 + 2 ≤ m332 ∧ 0 < 2) then
 (bd (bldV prog 60 [(0, v327), (1, v329), (2, (V.agg ((cs333).drop o334 |>.take 2))), (3, (V.agg (((setR [(V.int .u8 0), (V.int .i32 0)] 0 (V.cells v196))).drop 0 |>.take 2)))]) fun cs335 =>
 (bd (bslV prog 50 1 [(0, (V.agg cs335))]) fun p336 =>
 (bd (app 60 7 (S.own 60 7 (lsl (gv st181 3))) p336.2) fun l337 =>
 (bd (bop prog .add 3 (gv st181 5) (V.int .i64 1)) fun v338 =>
 (next183 [(V.sl 8 (lsl (gv st181 0)) false), (V.sl 7 (lsl (gv st181 1)) false), (V.sl 8 l326 false), (V.sl 7 l337 false), v195, v338] h193))))) else none))))))))))) else none)))
 else
 (bd (bslV prog 49 1 [(0, (V.agg (((setR [(V.int .i64 0), (V.int .i64 0), (V.int .u8 0), (V.int .i32 0), (V.int .u8 0), (V.int .i32 0), (V.int .i64 0), (V.int .i64 0)] 0 cs299)).drop 0 |>.take 8)))]) fun p339 =>
 (bd (app 54 8 (S.own 54 8 (lsl (gv st181 2))) p339.2) fun l340 =>
 (bd (bop prog .rem 3 (gv st181 5) (V.int .i64 3)) fun v341 =>
 (bd (bop prog .quo 3 (gv st181 5) (V.int .i64 3)) fun v342 =>
 (bd (bop prog .add 3 v342 (V.int .i64 1)) fun v343 =>
 (bdS (nv (gv st181 5)) fun n344 =>
 (bd (idxP 2 n344 v3) fun p345 =>
 (bd3 (cellsP h193 p345) fun cs347 m346 o348 => if (o348 + 2 ≤ m346 ∧ 0 < 2) then
 (bd (bldV prog 60 [(0, v341), (1, v343), (2, (V.agg ((cs347).drop o348 |>.take 2))), (3, (V.agg (((setR [(V.int .u8 0), (V.int .i32 0)] 0 (V.cells v196))).drop 0 |>.take 2)))]) fun cs349 =>
 (bd (bslV prog 50 1 [(0, (V.agg cs349))]) fun p350 =>
 (bd (app 60 7 (S.own 60 7 (lsl (gv st181 3))) p350.2) fun l351 =>
 (bd (bop prog .add 3 (gv st181 5) (V.int .i64 1)) fun v352 =>
 (next183 [(V.sl 8 (lsl (gv st181 0)) false), (V.sl 7 (lsl (gv st181 1)) false), (V.sl 8 l340 false), (V.sl 7 l351 false), v195, v352] h193))))) else none))))))))))) else none) else none))))))) else none))))))))) else none) else none)))) (fun z194 h193 => some (Res.pan z194, h193))) else none)))
 else
 some (Res.ret [(V.row (hh182).length 8 0 ((lsl (gv st181 2))).length), (V.row ((hh182 ++ [(HB.row 54 8 (lsl (gv st181 2)) true)])).length 7 0 ((lsl (gv st181 3))).length)], ((hh182 ++ [(HB.row 54 8 (lsl (gv st181 2)) true)]) ++ [(HB.row 60 7 (lsl (gv st181 3)) true)])))))
noncomputable def lSpn (n : Nat) (o : Int) (m : Int) (c : V) (d : V) (h : Heap) : Option (Res × Heap) :=
 (cl (call n 14 [c, (V.int .u8 4)] h) (fun r0 h1 =>
 (one1 r0 fun v3 =>
 (bd (slcH h1 v3) fun p4 =>
 (if (decide (((p4.2).length : Int) > 14)) then
 (bd (lenP v3) fun n5 =>
 (bd (sliceP 2 0 14 (none : Option Nat) true v3) fun v6 =>
 (loopx n (lSpn_l7 n o m d v6) [(V.sl 8 [] false), (V.sl 7 [] false), (V.sl 8 [] false), (V.sl 7 [] false), (V.sl 1 [] false), (V.int .i64 0)] h1)))
 else
 (loopx n (lSpn_l180 n o m d v3) [(V.sl 8 [] false), (V.sl 7 [] false), (V.sl 8 [] false), (V.sl 7 [] false), (V.sl 1 [] false), (V.int .i64 0)] h1))))) (fun z2 h1 => some (Res.pan z2, h1)))
theorem lSpn_eq (n : Nat) (o : Int) (m : Int) (c : V) (d : V) (h : Heap) : call (n + 1) 27 [(V.int .u8 o), (V.int .i64 m), c, d] h = lSpn n o m c d h := by kernel_rfl
end Go.Proofs.Try
