import Derived.Test.YtjnjofillhdffaaLwd
/-! laws of layer 8: PRINTED BY A PROGRAM OF MINE (lift4.lean) -/
set_option linter.unusedVariables false
namespace Go.Proofs.Try
open Go.L
set_option maxRecDepth 100000
noncomputable def lawOrd3_l7 (n : Nat) (ol : List (List V)) (v3 : V) (st8 : List V) (hh9 : Heap) (next10 : List V → Heap → Option (Res × Heap)) : Option (Res × Heap) :=
 (bd (slc v3) fun p11 =>
 (bd (bop prog .lss 3 (gv st8 2) (V.int .i64 ((p11.2).length : Int))) fun v12 =>
 (bv v12 fun b13 => if b13 then
 (bdS (nv (gv st8 2)) fun n14 =>
 (slk v3 fun q15 l16 x17 => if (q15 = 1) then
 (bd (l16)[n14]? fun es18 =>
 (bd (es18)[0]? fun v19 =>
 (bd (bop prog .lss 3 v19 (V.int .i64 0)) fun v20 =>
 (bv v20 fun b21 => if b21 then
 some (Res.ret [(V.bool false)], hh9)
 else
 (bdS (nv (gv st8 2)) fun n22 =>
 (slk v3 fun q23 l24 x25 => if (q23 = 1) then
 (bd (l24)[n22]? fun es26 =>
 (bd (es26)[0]? fun v27 =>
 (bd (bop prog .geq 3 v27 (V.int .i64 ((ol).length : Int))) fun v28 =>
 (bv v28 fun b29 => if b29 then
 some (Res.ret [(V.bool false)], hh9)
 else
 (bdS (nv (gv st8 2)) fun n30 =>
 (slk v3 fun q31 l32 x33 => if (q31 = 1) then
 (bd (l32)[n30]? fun es34 =>
 (bd (es34)[0]? fun v35 =>
 (bdS (nv v35) fun n36 =>
 (if (1 = 1 ∧ n36 < ((lsl (gv st8 1))).length ∧ (some 50 : Option Nat) ≠ some 6) then
 (bd ((lsl (gv st8 1)))[n36]? fun es37 =>
 (bd (es37)[0]? fun v38 =>
 (bv v38 fun b39 => if b39 then
 some (Res.ret [(V.bool false)], hh9)
 else
 (bdS (nv (gv st8 2)) fun n40 =>
 (slk v3 fun q41 l42 x43 => if (q41 = 1) then
 (bd (l42)[n40]? fun es44 =>
 (bd (es44)[0]? fun v45 =>
 (bdS (nv v45) fun n46 =>
 (if (1 = 1 ∧ n46 < ((lsl (gv st8 1))).length ∧ (some 70 : Option Nat) ≠ some 6) then
 (bd ((lsl (gv st8 1)))[n46]? fun es47 =>
 (bd (bop prog .eql 3 (gv st8 2) (V.int .i64 0)) fun v48 =>
 (bv v48 fun b49 => if b49 then
 (bd (bop prog .add 3 (gv st8 2) (V.int .i64 1)) fun v50 =>
 (next10 [(gv st8 0), (V.sl 1 (((lsl (gv st8 1))).set n46 (setR es47 0 [(V.bool true)])) false), v50, (V.bool false)] hh9))
 else
 (bd (bop prog .sub 3 (gv st8 2) (V.int .i64 1)) fun v51 =>
 (bdS (nv v51) fun n52 =>
 (slk v3 fun q53 l54 x55 => if (q53 = 1) then
 (bd (l54)[n52]? fun es56 =>
 (bd (es56)[0]? fun v57 =>
 (bdS (nv v57) fun n58 =>
 (bd (ol)[n58]? fun es59 =>
 (if (((es59).drop 0 |>.take 2)).length = 2 then
 (if ((((es59).drop 0 |>.take 2)).length ≤ 2) then
 (bdS (nv (gv st8 2)) fun n60 =>
 (slk v3 fun q61 l62 x63 => if (q61 = 1) then
 (bd (l62)[n60]? fun es64 =>
 (bd (es64)[0]? fun v65 =>
 (bdS (nv v65) fun n66 =>
 (bd (ol)[n66]? fun es67 =>
 (if (((es67).drop 0 |>.take 2)).length = 2 then
 (if ((((es67).drop 0 |>.take 2)).length ≤ 2) then
 (bd ((setR [(V.int .u8 0), (V.int .i32 0)] 0 ((es59).drop 0 |>.take 2)))[0]? fun v68 =>
 (bd (bop prog .eql 5 v68 (V.int .u8 1)) fun v69 =>
 (bd ((setR [(V.int .u8 0), (V.int .i32 0)] 0 ((es67).drop 0 |>.take 2)))[0]? fun v70 =>
 (bd (bop prog .eql 5 v70 (V.int .u8 1)) fun v71 =>
 (bv v69 fun b72 => if b72 then
 (bv v71 fun b73 => if b73 then
 (bd ((setR [(V.int .u8 0), (V.int .i32 0)] 0 ((es59).drop 0 |>.take 2)))[1]? fun v74 =>
 (bd ((setR [(V.int .u8 0), (V.int .i32 0)] 0 ((es67).drop 0 |>.take 2)))[1]? fun v75 =>
 (bd (bop prog .lss 21 v74 v75) fun v76 =>
 (bv v76 fun b77 => if b77 then
 (bd (bop prog .add 3 (gv st8 2) (V.int .i64 1)) fun v78 =>
 (next10 [(gv st8 0), (V.sl 1 (((lsl (gv st8 1))).set n46 (setR es47 0 [(V.bool true)])) false), v78, (V.bool false)] hh9))
 else
 (bd ((setR [(V.int .u8 0), (V.int .i32 0)] 0 ((es59).drop 0 |>.take 2)))[1]? fun v79 =>
 (bd ((setR [(V.int .u8 0), (V.int .i32 0)] 0 ((es67).drop 0 |>.take 2)))[1]? fun v80 =>
 (bd (bop prog .eql 21 v79 v80) fun v81 =>
 (bv v81 fun b82 => if b82 then
 (bd (bop prog .sub 3 (gv st8 2) (V.int .i64 1)) fun v83 =>
 (bdS (nv v83) fun n84 =>
 (slk v3 fun q85 l86 x87 => if (q85 = 1) then
 (bd (l86)[n84]? fun es88 =>
 (bd (es88)[0]? fun v89 =>
 (bdS (nv (gv st8 2)) fun n90 =>
 (slk v3 fun q91 l92 x93 => if (q91 = 1) then
 (bd (l92)[n90]? fun es94 =>
 (bd (es94)[0]? fun v95 =>
 (bd (bop prog .lss 3 v89 v95) fun v96 =>
 (bv v96 fun b97 => if b97 then
 (bd (bop prog .add 3 (gv st8 2) (V.int .i64 1)) fun v98 =>
 (next10 [(gv st8 0), (V.sl 1 (((lsl (gv st8 1))).set n46 (setR es47 0 [(V.bool true)])) false), v98, (V.bool false)] hh9))
 else
 (bv v69 fun b99 => if b99 then
 (bd (uop .not v71) fun v100 =>
 (bv v100 fun b101 => if b101 then
 (bd (bop prog .add 3 (gv st8 2) (V.int .i64 1)) fun v102 =>
 (next10 [(gv st8 0), (V.sl 1 (((lsl (gv st8 1))).set n46 (setR es47 0 [(V.bool true)])) false), v102, (V.bool false)] hh9))
 else
 (bd (uop .not v69) fun v103 =>
 (bv v103 fun b104 => if b104 then
 (bd (uop .not v71) fun v105 =>
 (bv v105 fun b106 => if b106 then
 (bd (bop prog .sub 3 (gv st8 2) (V.int .i64 1)) fun v107 =>
 (bdS (nv v107) fun n108 =>
 (slk v3 fun q109 l110 x111 => if (q109 = 1) then
 (bd (l110)[n108]? fun es112 =>
 (bd (es112)[0]? fun v113 =>
 (bdS (nv (gv st8 2)) fun n114 =>
 (slk v3 fun q115 l116 x117 => if (q115 = 1) then
 (bd (l116)[n114]? fun es118 =>
 (bd (es118)[0]? fun v119 =>
 (bd (bop prog .lss 3 v113 v119) fun v120 =>
 (bd (uop .not v120) fun v121 =>
 (bv v121 fun b122 => if b122 then
 some (Res.ret [(V.bool false)], hh9)
 else
 (bd (bop prog .add 3 (gv st8 2) (V.int .i64 1)) fun v123 =>
 (next10 [(gv st8 0), (V.sl 1 (((lsl (gv st8 1))).set n46 (setR es47 0 [(V.bool true)])) false), v123, (V.bool false)] hh9))))))) else none)))) else none)))
 else
 some (Res.ret [(V.bool false)], hh9)))
 else
 some (Res.ret [(V.bool false)], hh9)))))
 else
 (bd (uop .not v69) fun v124 =>
 (bv v124 fun b125 => if b125 then
 (bd (uop .not v71) fun v126 =>
 (bv v126 fun b127 => if b127 then
 (bd (bop prog .sub 3 (gv st8 2) (V.int .i64 1)) fun v128 =>
 (bdS (nv v128) fun n129 =>
 (slk v3 fun q130 l131 x132 => if (q130 = 1) then
 (bd (l131)[n129]? fun es133 =>
 (bd (es133)[0]? fun v134 =>
 (bdS (nv (gv st8 2)) fun n135 =>
 (slk v3 fun q136 l137 x138 => if (q136 = 1) then
 (bd (l137)[n135]? fun es139 =>
 (bd (es139)[0]? fun v140 =>
 (bd (bop prog .lss 3 v134 v140) fun v141 =>
 (bd (uop .not v141) fun v142 =>
 (bv v142 fun b143 => if b143 then
 some (Res.ret [(V.bool false)], hh9)
 else
 (bd (bop prog .add 3 (gv st8 2) (V.int .i64 1)) fun v144 =>
 (next10 [(gv st8 0), (V.sl 1 (((lsl (gv st8 1))).set n46 (setR es47 0 [(V.bool true)])) false), v144, (V.bool false)] hh9))))))) else none)))) else none)))
 else
 some (Res.ret [(V.bool false)], hh9)))
 else
 some (Res.ret [(V.bool false)], hh9)))))))) else none)))) else none)))
 else
 (bv v69 fun b145 => if b145 then
 (bd (uop .not v71) fun v146 =>
 (bv v146 fun b147 => if b147 then
 (bd (bop prog .add 3 (gv st8 2) (V.int .i64 1)) fun v148 =>
 (next10 [(gv st8 0), (V.sl 1 (((lsl (gv st8 1))).set n46 (setR es47 0 [(V.bool true)])) false), v148, (V.bool false)] hh9))
 else
 (bd (uop .not v69) fun v149 =>
 (bv v149 fun b150 => if b150 then
 (bd (uop .not v71) fun v151 =>
 (bv v151 fun b152 => if b152 then
 (bd (bop prog .sub 3 (gv st8 2) (V.int .i64 1)) fun v153 =>
 (bdS (nv v153) fun n154 =>
 (slk v3 fun q155 l156 x157 => if (q155 = 1) then
 (bd (l156)[n154]? fun es158 =>
 (bd (es158)[0]? fun v159 =>
 (bdS (nv (gv st8 2)) fun n160 =>
 (slk v3 fun q161 l162 x163 => if (q161 = 1) then
 (bd (l162)[n160]? fun es164 =>
 (bd (es164)[0]? fun v165 =>
 (bd (bop prog .lss 3 v159 v165) fun v166 =>
 (bd (uop .not v166) fun v167 =>
 (bv v167 fun b168 => if b168 then
 some (Res.ret [(V.bool false)], hh9)
 else
 (bd (bop prog .add 3 (gv st8 2) (V.int .i64 1)) fun v169 =>
 (next10 [(gv st8 0), (V.sl 1 (((lsl (gv st8 1))).set n46 (setR es47 0 [(V.bool true)])) false), v169, (V.bool false)] hh9))))))) else none)))) else none)))
 else
 some (Res.ret [(V.bool false)], hh9)))
 else
 some (Res.ret [(V.bool false)], hh9)))))
 else
 (bd (uop .not v69) fun v170 =>
 (bv v170 fun b171 => if b171 then
 (bd (uop .not v71) fun v172 =>
 (bv v172 fun b173 => if b173 then
 (bd (bop prog .sub 3 (gv st8 2) (V.int .i64 1)) fun v174 =>
 (bdS (nv v174) fun n175 =>
 (slk v3 fun q176 l177 x178 => if (q176 = 1) then
 (bd (l177)[n175]? fun es179 =>
 (bd (es179)[0]? fun v180 =>
 (bdS (nv (gv st8 2)) fun n181 =>
 (slk v3 fun q182 l183 x184 => if (q182 = 1) then
 (bd (l183)[n181]? fun es185 =>
 (bd (es185)[0]? fun v186 =>
 (bd (bop prog .lss 3 v180 v186) fun v187 =>
 (bd (uop .not v187) fun v188 =>
 (bv v188 fun b189 => if b189 then
 some (Res.ret [(V.bool false)], hh9)
 else
 (bd (bop prog .add 3 (gv st8 2) (V.int .i64 1)) fun v190 =>
 (next10 [(gv st8 0), (V.sl 1 (((lsl (gv st8 1))).set n46 (setR es47 0 [(V.bool true)])) false), v190, (V.bool false)] hh9))))))) else none)))) else none)))
 else
 some (Res.ret [(V.bool false)], hh9)))
 else
 some (Res.ret [(V.bool false)], hh9))))))))))))
 else
 (bv v69 fun b191 => if b191 then
 (bd (uop .not v71) fun v192 =>
 (bv v192 fun b193 => if b193 then
 (bd (bop prog .add 3 (gv st8 2) (V.int .i64 1)) fun v194 =>
 (next10 [(gv st8 0), (V.sl 1 (((lsl (gv st8 1))).set n46 (setR es47 0 [(V.bool true)])) false), v194, (V.bool false)] hh9))
 else
 (bd (uop .not v69) fun v195 =>
 (bv v195 fun b196 => if b196 then
 (bd (uop .not v71) fun v197 =>
 (bv v197 fun b198 => if b198 then
 (bd (bop prog .sub 3 (gv st8 2) (V.int .i64 1)) fun v199 =>
 (bdS (nv v199) fun n200 =>
 (slk v3 fun q201 l202 x203 => if (q201 = 1) then
 (bd (l202)[n200]? fun es204 =>
 (bd (es204)[0]? fun v205 =>
 (bdS (nv (gv st8 2)) fun n206 =>
 (slk v3 fun q207 l208 x209 => if (q207 = 1) then
 (bd (l208)[n206]? fun es210 =>
 (bd (es210)[0]? fun v211 =>
 (bd (bop prog .lss 3 v205 v211) fun v212 =>
 (bd (uop .not v212) fun v213 =>
 (bv v213 fun b214 => if b214 then
 some (Res.ret [(V.bool false)], hh9)
 else
 (bd (bop prog .add 3 (gv st8 2) (V.int .i64 1)) fun v215 =>
 (next10 [(gv st8 0), (V.sl 1 (((lsl (gv st8 1))).set n46 (setR es47 0 [(V.bool true)])) false), v215, (V.bool false)] hh9))))))) else none)))) else none)))
 else
 some (Res.ret [(V.bool false)], hh9)))
 else
 some (Res.ret [(V.bool false)], hh9)))))
 else
 (bd (uop .not v69) fun v216 =>
 (bv v216 fun b217 => if b217 then
 (bd (uop .not v71) fun v218 =>
 (bv v218 fun b219 => if b219 then
 (bd (bop prog .sub 3 (gv st8 2) (V.int .i64 1)) fun v220 =>
 (bdS (nv v220) fun n221 =>
 (slk v3 fun q222 l223 x224 => if (q222 = 1) then
 (bd (l223)[n221]? fun es225 =>
 (bd (es225)[0]? fun v226 =>
 (bdS (nv (gv st8 2)) fun n227 =>
 (slk v3 fun q228 l229 x230 => if (q228 = 1) then
 (bd (l229)[n227]? fun es231 =>
 (bd (es231)[0]? fun v232 =>
 (bd (bop prog .lss 3 v226 v232) fun v233 =>
 (bd (uop .not v233) fun v234 =>
 (bv v234 fun b235 => if b235 then
 some (Res.ret [(V.bool false)], hh9)
 else
 (bd (bop prog .add 3 (gv st8 2) (V.int .i64 1)) fun v236 =>
 (next10 [(gv st8 0), (V.sl 1 (((lsl (gv st8 1))).set n46 (setR es47 0 [(V.bool true)])) false), v236, (V.bool false)] hh9))))))) else none)))) else none)))
 else
 some (Res.ret [(V.bool false)], hh9)))
 else
 some (Res.ret [(V.bool false)], hh9)))))
 else
 (bv v69 fun b237 => if b237 then
 (bd (uop .not v71) fun v238 =>
 (bv v238 fun b239 => if b239 then
 (bd (bop prog .add 3 (gv st8 2) (V.int .i64 1)) fun v240 =>
 (next10 [(gv st8 0), (V.sl 1 (((lsl (gv st8 1))).set n46 (setR es47 0 [(V.bool true)])) false), v240, (V.bool false)] hh9))
 else
 (bd (uop .not v69) fun v241 =>
 (bv v241 fun b242 => if b242 then
 (bd (uop .not v71) fun v243 =>
 (bv v243 fun b244 => if b244 then
 (bd (bop prog .sub 3 (gv st8 2) (V.int .i64 1)) fun v245 =>
 (bdS (nv v245) fun n246 =>
 (slk v3 fun q247 l248 x249 => if (q247 = 1) then
 (bd (l248)[n246]? fun es250 =>
 (bd (es250)[0]? fun v251 =>
 (bdS (nv (gv st8 2)) fun n252 =>
 (slk v3 fun q253 l254 x255 => if (q253 = 1) then
 (bd (l254)[n252]? fun es256 =>
 (bd (es256)[0]? fun v257 =>
 (bd (bop prog .lss 3 v251 v257) fun v258 =>
 (bd (uop .not v258) fun v259 =>
 (bv v259 fun b260 => if b260 then
 some (Res.ret [(V.bool false)], hh9)
 else
 (bd (bop prog .add 3 (gv st8 2) (V.int .i64 1)) fun v261 =>
 (next10 [(gv st8 0), (V.sl 1 (((lsl (gv st8 1))).set n46 (setR es47 0 [(V.bool true)])) false), v261, (V.bool false)] hh9))))))) else none)))) else none)))
 else
 some (Res.ret [(V.bool false)], hh9)))
 else
 some (Res.ret [(V.bool false)], hh9)))))
 else
 (bd (uop .not v69) fun v262 =>
 (bv v262 fun b263 => if b263 then
 (bd (uop .not v71) fun v264 =>
 (bv v264 fun b265 => if b265 then
 (bd (bop prog .sub 3 (gv st8 2) (V.int .i64 1)) fun v266 =>
 (bdS (nv v266) fun n267 =>
 (slk v3 fun q268 l269 x270 => if (q268 = 1) then
 (bd (l269)[n267]? fun es271 =>
 (bd (es271)[0]? fun v272 =>
 (bdS (nv (gv st8 2)) fun n273 =>
 (slk v3 fun q274 l275 x276 => if (q274 = 1) then
 (bd (l275)[n273]? fun es277 =>
 (bd (es277)[0]? fun v278 =>
 (bd (bop prog .lss 3 v272 v278) fun v279 =>
 (bd (uop .not v279) fun v280 =>
 (bv v280 fun b281 => if b281 then
 some (Res.ret [(V.bool false)], hh9)
 else
 (bd (bop prog .add 3 (gv st8 2) (V.int .i64 1)) fun v282 =>
 (next10 [(gv st8 0), (V.sl 1 (((lsl (gv st8 1))).set n46 (setR es47 0 [(V.bool true)])) false), v282, (V.bool false)] hh9))))))) else none)))) else none)))
 else
 some (Res.ret [(V.bool false)], hh9)))
 else
 some (Res.ret [(V.bool false)], hh9))))))))) else none) else none))))) else none)) else none) else none))))) else none)))))) else none)))) else none))))) else none)))) else none)))))) else none)))))) else none))
 else
 some (Res.ret [(V.bool true)], hh9))))
noncomputable def lawOrd3 (n : Nat) (ol : List (List V)) (ob : Bool) (h : Heap) : Option (Res × Heap) :=
 (cl (call n 46 [(V.int .u8 3), (V.sl 2 ol ob)] h) (fun r0 h1 =>
 (one1 r0 fun v3 =>
 (bdS (nv (V.int .i64 ((ol).length : Int))) fun n4 =>
 (bdS (nv (V.int .i64 ((ol).length : Int))) fun n5 =>
 (if (n4 = n5 ∧ n4 < lim ∧ 1 = 1) then
 (bd (slc v3) fun p6 =>
 (if (((p6.2).length : Int) != ((ol).length : Int)) then
 some (Res.ret [(V.bool false)], h1)
 else
 (loopx n (lawOrd3_l7 n ol v3) [(V.bool false), (V.sl 1 (List.replicate n4 [(V.bool false)]) false), (V.int .i64 0), (V.bool false)] h1))) else none))))) (fun z2 h1 => some (Res.pan z2, h1)))
theorem lawOrd3_eq (n : Nat) (ol : List (List V)) (ob : Bool) (h : Heap) : call (n + 1) 25 [(V.int .u8 3), (V.sl 2 ol ob)] h = lawOrd3 n ol ob h := by kernel_rfl
end Go.Proofs.Try
