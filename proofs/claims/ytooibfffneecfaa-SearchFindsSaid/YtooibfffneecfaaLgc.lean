import Derived.Test.YtooibfffneecfaaLwd
/-! search.Find and laws: PRINTED BY A PROGRAM OF MINE (lift2.lean): each function as a Lean definition, and that L reckons just that -/
set_option linter.unusedVariables false
namespace Go.Proofs.Try
open Go.L
set_option maxRecDepth 100000
noncomputable def lKey_l1 (n : Nat) (x0 : V) (p0 : Nat × List (List V)) (st2 : List V) (hh3 : Heap) (next4 : List V → Heap → Option (Res × Heap)) : Option (Res × Heap) :=
 (bd (bop prog .lss 3 (gv st2 1) (V.int .i64 ((p0.2).length : Int))) fun v5 =>
 (bv v5 fun b6 => if b6 then
 (bdS (nv (gv st2 1)) fun n7 =>
 (slk x0 fun q8 l9 x10 => if (q8 = 1) then
 (bd (l9)[n7]? fun es11 =>
 (bd (es11)[0]? fun v12 =>
 (bd (bop prog .shr 21 v12 (V.int .u64 24)) fun v13 =>
 (bd (cvt prog 21 5 v13) fun v14 =>
 (bd (bop prog .shr 21 v12 (V.int .u64 16)) fun v15 =>
 (bd (cvt prog 21 5 v15) fun v16 =>
 (bd (bop prog .shr 21 v12 (V.int .u64 8)) fun v17 =>
 (bd (cvt prog 21 5 v17) fun v18 =>
 (bd (cvt prog 21 5 v12) fun v19 =>
 (bd (bslV prog 24 4 [(0, v14), (1, v16), (2, v18), (3, v19)]) fun p20 =>
 (bd (app 5 1 (S.own 5 1 (lsl (gv st2 0))) p20.2) fun l21 =>
 (bd (bop prog .add 3 (gv st2 1) (V.int .i64 1)) fun v22 =>
 (next4 [(V.sl 1 l21 false), v22] hh3))))))))))))) else none))
 else
 (bd ((u8s (lsl (gv st2 0))).map fun ns => V.str (strOfNums ns)) fun v23 =>
 some (Res.ret [v23], hh3))))
noncomputable def lKey (n : Nat) (x0 : V) : Option (Res × Heap) :=
 (bd (slc x0) fun p0 =>
 (loopx n (lKey_l1 n x0 p0) [(V.sl 1 [] false), (V.int .i64 0)] []))
theorem lKey_eq (n : Nat) (x0 : V) (h : Heap) : call (n + 1) 41 [x0] h = gcw [x0] (lKey n x0) h := by kernel_rfl
noncomputable def lFree_l4 (n : Nat) (x0 : Int) (x1 : Int) (x2 : Nat) (v2 : V) (p3 : Nat × List (List V)) (st5 : List V) (hh6 : Heap) (next7 : List V → Heap → Option (Res × Heap)) : Option (Res × Heap) :=
 (bd (bop prog .lss 3 (gv st5 1) (V.int .i64 ((p3.2).length : Int))) fun v8 =>
 (bv v8 fun b9 => if b9 then
 (bdS (nv (gv st5 1)) fun n10 =>
 (slk v2 fun q11 l12 x13 => if (q11 = 8) then
 (bd (l12)[n10]? fun es14 =>
 (if (((es14).drop 0 |>.take 8)).length = 8 then
 (if ((((es14).drop 0 |>.take 8)).length ≤ 8) then
 (bd (bop prog .neq 3 (gv st5 1) (V.int .i64 x0)) fun v15 =>
 (bv v15 fun b16 => if b16 then
 (bd (bop prog .shr 97 (V.int .u64 x1) (gv st5 1)) fun v17 =>
 (bd (bop prog .and 97 v17 (V.int .u64 1)) fun v18 =>
 (bd (bop prog .eql 97 v18 (V.int .u64 0)) fun v19 =>
 (bv v19 fun b20 => if b20 then
 (boxAt (hh6)[x2]? fun m21 cs22 => if (0 + 1 ≤ m21 ∧ 0 < 1) then
 (bd (cs22)[0]? fun v23 =>
 (bdS (nv (V.int .i64 x0)) fun n24 =>
 (slk v23 fun q25 l26 x27 => if (q25 = 8) then
 (bd (l26)[n24]? fun es28 =>
 (cl (call n 26 [(V.agg (((setR [(V.int .i64 0), (V.int .i64 0), (V.int .u8 0), (V.int .i32 0), (V.int .u8 0), (V.int .i32 0), (V.int .i64 0), (V.int .i64 0)] 0 ((es14).drop 0 |>.take 8))).drop 0 |>.take 8)), (V.agg ((es28).drop 0 |>.take 8))] hh6) (fun r29 h30 =>
 (one1 r29 fun v32 =>
 (bv v32 fun b33 => if b33 then
 some (Res.ret [(V.bool false)], h30)
 else
 (bd (bop prog .add 3 (gv st5 1) (V.int .i64 1)) fun v34 =>
 (next7 [(gv st5 0), v34] h30))))) (fun z31 h30 => none))) else none))) else none)
 else
 (bd (bop prog .add 3 (gv st5 1) (V.int .i64 1)) fun v35 =>
 (next7 [(gv st5 0), v35] hh6))))))
 else
 (bd (bop prog .add 3 (gv st5 1) (V.int .i64 1)) fun v36 =>
 (next7 [(gv st5 0), v36] hh6)))) else none) else none)) else none))
 else
 (bd (bop prog .shr 97 (V.int .u64 x1) (V.int .i64 x0)) fun v37 =>
 (bd (bop prog .and 97 v37 (V.int .u64 1)) fun v38 =>
 (bd (bop prog .eql 97 v38 (V.int .u64 0)) fun v39 =>
 some (Res.ret [v39], hh6))))))
noncomputable def lFree (n : Nat) (x0 : Int) (x1 : Int) (x2 : Nat) (h : Heap) : Option (Res × Heap) :=
 (boxAt (h)[x2]? fun m0 cs1 => if (0 + 1 ≤ m0 ∧ 0 < 1) then
 (bd (cs1)[0]? fun v2 =>
 (bd (slc v2) fun p3 =>
 (loopx n (lFree_l4 n x0 x1 x2 v2 p3) [(V.bool false), (V.int .i64 0)] h))) else none)
theorem lFree_eq (n : Nat) (x0 : Int) (x1 : Int) (x2 : Nat) (h : Heap) : call (n + 1) 39 [(V.int .i64 x0), (V.int .u64 x1), (V.ptr x2 0)] h = lFree n x0 x1 x2 h := by kernel_rfl
noncomputable def lTry_l24 (n : Nat) (x0 : V) (x1 : Int) (x2 : V) (x4 : Nat) (x6 : Nat) (x7 : Nat) (x8 : Nat) (x9 : Nat) (v22 : V) (p23 : Nat × List (List V)) (st25 : List V) (hh26 : Heap) (next27 : List V → Heap → Option (Res × Heap)) : Option (Res × Heap) :=
 (bd (bop prog .lss 3 (gv st25 4) (V.int .i64 ((p23.2).length : Int))) fun v28 =>
 (bv v28 fun b29 => if b29 then
 (bdS (nv (gv st25 4)) fun n30 =>
 (slk v22 fun q31 l32 x33 => if (q31 = 8) then
 (bd (l32)[n30]? fun es34 =>
 (if (((es34).drop 0 |>.take 8)).length = 8 then
 (if ((((es34).drop 0 |>.take 8)).length ≤ 8) then
 (boxAt (hh26)[x6]? fun m35 cs36 => if (0 + 1 ≤ m35 ∧ 0 < 1) then
 (bd (cs36)[0]? fun v37 =>
 (fnK v37 fun f38 c39 => if (okV prog 4 f38 = true) then (if keepS f38 then
 (cl (call n f38 ([(gv st25 4), (V.int .u64 x1)] ++ c39) hh26) (fun r40 h41 =>
 (one1 r40 fun v43 =>
 (bd (uop .not v43) fun v44 =>
 (bv v44 fun b45 => if b45 then
 (bd (bop prog .add 3 (gv st25 4) (V.int .i64 1)) fun v46 =>
 (next27 [(gv st25 0), (gv st25 1), (V.agg (lcs (gv st25 2))), (V.agg (lcs (gv st25 3))), v46] h41))
 else
 (boxAt (h41)[x7]? fun m47 cs48 => if (0 + 1 ≤ m47 ∧ 0 < 1) then
 (bd (cs48)[0]? fun v49 =>
 (boxAt (h41)[x8]? fun m50 cs51 => if (0 + 1 ≤ m50 ∧ 0 < 1) then
 (bd (cs51)[0]? fun v52 =>
 (cl (call n 42 [v49, v52, x2, (V.agg (((setR [(V.int .i64 0), (V.int .i64 0), (V.int .u8 0), (V.int .i32 0), (V.int .u8 0), (V.int .i32 0), (V.int .i64 0), (V.int .i64 0)] 0 ((es34).drop 0 |>.take 8))).drop 2 |>.take 2))] h41) (fun r53 h54 =>
 (bd (r53)[0]? fun v56 =>
 (bd (r53)[1]? fun v57 =>
 (if ((V.cells v57)).length = 2 then
 (if (((V.cells v57)).length ≤ 2) then
 (bd ((setR [(V.int .i64 0), (V.int .i64 0), (V.int .u8 0), (V.int .i32 0), (V.int .u8 0), (V.int .i32 0), (V.int .i64 0), (V.int .i64 0)] 0 ((es34).drop 0 |>.take 8)))[7]? fun v58 =>
 (bd (bop prog .geq 3 v58 (V.int .i64 0)) fun v59 =>
 (bv v59 fun b60 => if b60 then
 (bd (bop prog .neq 32 (V.agg (((setR [(V.int .u8 0), (V.int .i32 0)] 0 (V.cells v57))).drop 0 |>.take 2)) (V.agg (((setR [(V.int .i64 0), (V.int .i64 0), (V.int .u8 0), (V.int .i32 0), (V.int .u8 0), (V.int .i32 0), (V.int .i64 0), (V.int .i64 0)] 0 ((es34).drop 0 |>.take 8))).drop 4 |>.take 2))) fun v61 =>
 (bv v61 fun b62 => if b62 then
 (bd (bop prog .add 3 (gv st25 4) (V.int .i64 1)) fun v63 =>
 (next27 [(gv st25 0), (gv st25 1), (V.agg (lcs (gv st25 2))), (V.agg (lcs (gv st25 3))), v63] h54))
 else
 (boxAt (h54)[x9]? fun m64 cs65 => if (0 + 1 ≤ m64 ∧ 0 < 1) then
 (bd (cs65)[0]? fun v66 =>
 (bd (slc x0) fun p67 =>
 (bd (slc x0) fun p68 =>
 (slk x0 fun q69 l70 x71 =>
 (bdS (nv (V.int .i64 ((p67.2).length : Int))) fun n72 =>
 (bdS ((nv (V.int .i64 ((p68.2).length : Int))).map some) fun m73 =>
 (if (0 ≤ n72 ∧ n72 ≤ (l70).length ∧ (q69 = 1 ∨ (l70).isEmpty = true) ∧ (m73 = none ∨ m73 = some n72) ∧ true = true) then
 (bd (bslV prog 23 1 [(0, (gv st25 4))]) fun p74 =>
 (bd (app 3 1 (S.v (V.sl 1 (((l70).take n72).drop 0) m73.isSome)) p74.2) fun l75 =>
 (bd (bop prog .shl 97 (V.int .u64 1) (gv st25 4)) fun v76 =>
 (bd (bop prog .or 97 (V.int .u64 x1) v76) fun v77 =>
 (fnK v66 fun f78 c79 => if (okV prog 61 f78 = true) then (if pureS f78 then (if keepS f78 then
 none
 else
 (clS (call n f78 ([(V.sl 1 l75 false), v77, v56] ++ c79) []) fun r80 => if V.simple.simpleL r80 then
 (bd (r80)[0]? fun v83 =>
 (bd (r80)[1]? fun v84 =>
 (bv v84 fun b85 => if b85 then
 some (Res.ret [v83, (V.bool true)], h54)
 else
 (bd (bop prog .add 3 (gv st25 4) (V.int .i64 1)) fun v86 =>
 (next27 [(gv st25 0), (gv st25 1), (V.agg (lcs (gv st25 2))), (V.agg (lcs (gv st25 3))), v86] h54))))) else none))
 else if keepS f78 then
 (clH (call n f78 ([(V.sl 1 l75 false), v77, v56] ++ c79) h54) fun r80 h81 =>
 (bd (r80)[0]? fun v87 =>
 (bd (r80)[1]? fun v88 =>
 (bv v88 fun b89 => if b89 then
 some (Res.ret [v87, (V.bool true)], h81)
 else
 (bd (bop prog .add 3 (gv st25 4) (V.int .i64 1)) fun v90 =>
 (next27 [(gv st25 0), (gv st25 1), (V.agg (lcs (gv st25 2))), (V.agg (lcs (gv st25 3))), v90] h81))))))
 else none) else none))))) else none))))))) else none)))
 else
 (boxAt (h54)[x9]? fun m91 cs92 => if (0 + 1 ≤ m91 ∧ 0 < 1) then
 (bd (cs92)[0]? fun v93 =>
 (bd (slc x0) fun p94 =>
 (bd (slc x0) fun p95 =>
 (slk x0 fun q96 l97 x98 =>
 (bdS (nv (V.int .i64 ((p94.2).length : Int))) fun n99 =>
 (bdS ((nv (V.int .i64 ((p95.2).length : Int))).map some) fun m100 =>
 (if (0 ≤ n99 ∧ n99 ≤ (l97).length ∧ (q96 = 1 ∨ (l97).isEmpty = true) ∧ (m100 = none ∨ m100 = some n99) ∧ true = true) then
 (bd (bslV prog 23 1 [(0, (gv st25 4))]) fun p101 =>
 (bd (app 3 1 (S.v (V.sl 1 (((l97).take n99).drop 0) m100.isSome)) p101.2) fun l102 =>
 (bd (bop prog .shl 97 (V.int .u64 1) (gv st25 4)) fun v103 =>
 (bd (bop prog .or 97 (V.int .u64 x1) v103) fun v104 =>
 (fnK v93 fun f105 c106 => if (okV prog 61 f105 = true) then (if pureS f105 then (if keepS f105 then
 none
 else
 (clS (call n f105 ([(V.sl 1 l102 false), v104, v56] ++ c106) []) fun r107 => if V.simple.simpleL r107 then
 (bd (r107)[0]? fun v110 =>
 (bd (r107)[1]? fun v111 =>
 (bv v111 fun b112 => if b112 then
 some (Res.ret [v110, (V.bool true)], h54)
 else
 (bd (bop prog .add 3 (gv st25 4) (V.int .i64 1)) fun v113 =>
 (next27 [(gv st25 0), (gv st25 1), (V.agg (lcs (gv st25 2))), (V.agg (lcs (gv st25 3))), v113] h54))))) else none))
 else if keepS f105 then
 (clH (call n f105 ([(V.sl 1 l102 false), v104, v56] ++ c106) h54) fun r107 h108 =>
 (bd (r107)[0]? fun v114 =>
 (bd (r107)[1]? fun v115 =>
 (bv v115 fun b116 => if b116 then
 some (Res.ret [v114, (V.bool true)], h108)
 else
 (bd (bop prog .add 3 (gv st25 4) (V.int .i64 1)) fun v117 =>
 (next27 [(gv st25 0), (gv st25 1), (V.agg (lcs (gv st25 2))), (V.agg (lcs (gv st25 3))), v117] h108))))))
 else none) else none))))) else none))))))) else none)))) else none) else none)))) (fun z55 h54 => some (Res.pan z55, h54)))) else none)) else none))))) (fun z42 h41 => some (Res.pan z42, h41)))
 else if pureS f38 then
 (cl (call n f38 ([(gv st25 4), (V.int .u64 x1)] ++ c39) hh26) (fun r40 h41 => if V.simple.simpleL r40 then
 (one1 r40 fun v118 =>
 (bd (uop .not v118) fun v119 =>
 (bv v119 fun b120 => if b120 then
 (bd (bop prog .add 3 (gv st25 4) (V.int .i64 1)) fun v121 =>
 (next27 [(gv st25 0), (gv st25 1), (V.agg (lcs (gv st25 2))), (V.agg (lcs (gv st25 3))), v121] h41))
 else
 (boxAt (h41)[x7]? fun m122 cs123 => if (0 + 1 ≤ m122 ∧ 0 < 1) then
 (bd (cs123)[0]? fun v124 =>
 (boxAt (h41)[x8]? fun m125 cs126 => if (0 + 1 ≤ m125 ∧ 0 < 1) then
 (bd (cs126)[0]? fun v127 =>
 (cl (call n 42 [v124, v127, x2, (V.agg (((setR [(V.int .i64 0), (V.int .i64 0), (V.int .u8 0), (V.int .i32 0), (V.int .u8 0), (V.int .i32 0), (V.int .i64 0), (V.int .i64 0)] 0 ((es34).drop 0 |>.take 8))).drop 2 |>.take 2))] h41) (fun r128 h129 =>
 (bd (r128)[0]? fun v131 =>
 (bd (r128)[1]? fun v132 =>
 (if ((V.cells v132)).length = 2 then
 (if (((V.cells v132)).length ≤ 2) then
 (bd ((setR [(V.int .i64 0), (V.int .i64 0), (V.int .u8 0), (V.int .i32 0), (V.int .u8 0), (V.int .i32 0), (V.int .i64 0), (V.int .i64 0)] 0 ((es34).drop 0 |>.take 8)))[7]? fun v133 =>
 (bd (bop prog .geq 3 v133 (V.int .i64 0)) fun v134 =>
 (bv v134 fun b135 => if b135 then
 (bd (bop prog .neq 32 (V.agg (((setR [(V.int .u8 0), (V.int .i32 0)] 0 (V.cells v132))).drop 0 |>.take 2)) (V.agg (((setR [(V.int .i64 0), (V.int .i64 0), (V.int .u8 0), (V.int .i32 0), (V.int .u8 0), (V.int .i32 0), (V.int .i64 0), (V.int .i64 0)] 0 ((es34).drop 0 |>.take 8))).drop 4 |>.take 2))) fun v136 =>
 (bv v136 fun b137 => if b137 then
 (bd (bop prog .add 3 (gv st25 4) (V.int .i64 1)) fun v138 =>
 (next27 [(gv st25 0), (gv st25 1), (V.agg (lcs (gv st25 2))), (V.agg (lcs (gv st25 3))), v138] h129))
 else
 (boxAt (h129)[x9]? fun m139 cs140 => if (0 + 1 ≤ m139 ∧ 0 < 1) then
 (bd (cs140)[0]? fun v141 =>
 (bd (slc x0) fun p142 =>
 (bd (slc x0) fun p143 =>
 (slk x0 fun q144 l145 x146 =>
 (bdS (nv (V.int .i64 ((p142.2).length : Int))) fun n147 =>
 (bdS ((nv (V.int .i64 ((p143.2).length : Int))).map some) fun m148 =>
 (if (0 ≤ n147 ∧ n147 ≤ (l145).length ∧ (q144 = 1 ∨ (l145).isEmpty = true) ∧ (m148 = none ∨ m148 = some n147) ∧ true = true) then
 (bd (bslV prog 23 1 [(0, (gv st25 4))]) fun p149 =>
 (bd (app 3 1 (S.v (V.sl 1 (((l145).take n147).drop 0) m148.isSome)) p149.2) fun l150 =>
 (bd (bop prog .shl 97 (V.int .u64 1) (gv st25 4)) fun v151 =>
 (bd (bop prog .or 97 (V.int .u64 x1) v151) fun v152 =>
 (fnK v141 fun f153 c154 => if (okV prog 61 f153 = true) then (if pureS f153 then (if keepS f153 then
 none
 else
 (clS (call n f153 ([(V.sl 1 l150 false), v152, v131] ++ c154) []) fun r155 => if V.simple.simpleL r155 then
 (bd (r155)[0]? fun v158 =>
 (bd (r155)[1]? fun v159 =>
 (bv v159 fun b160 => if b160 then
 some (Res.ret [v158, (V.bool true)], h129)
 else
 (bd (bop prog .add 3 (gv st25 4) (V.int .i64 1)) fun v161 =>
 (next27 [(gv st25 0), (gv st25 1), (V.agg (lcs (gv st25 2))), (V.agg (lcs (gv st25 3))), v161] h129))))) else none))
 else if keepS f153 then
 (clH (call n f153 ([(V.sl 1 l150 false), v152, v131] ++ c154) h129) fun r155 h156 =>
 (bd (r155)[0]? fun v162 =>
 (bd (r155)[1]? fun v163 =>
 (bv v163 fun b164 => if b164 then
 some (Res.ret [v162, (V.bool true)], h156)
 else
 (bd (bop prog .add 3 (gv st25 4) (V.int .i64 1)) fun v165 =>
 (next27 [(gv st25 0), (gv st25 1), (V.agg (lcs (gv st25 2))), (V.agg (lcs (gv st25 3))), v165] h156))))))
 else none) else none))))) else none))))))) else none)))
 else
 (boxAt (h129)[x9]? fun m166 cs167 => if (0 + 1 ≤ m166 ∧ 0 < 1) then
 (bd (cs167)[0]? fun v168 =>
 (bd (slc x0) fun p169 =>
 (bd (slc x0) fun p170 =>
 (slk x0 fun q171 l172 x173 =>
 (bdS (nv (V.int .i64 ((p169.2).length : Int))) fun n174 =>
 (bdS ((nv (V.int .i64 ((p170.2).length : Int))).map some) fun m175 =>
 (if (0 ≤ n174 ∧ n174 ≤ (l172).length ∧ (q171 = 1 ∨ (l172).isEmpty = true) ∧ (m175 = none ∨ m175 = some n174) ∧ true = true) then
 (bd (bslV prog 23 1 [(0, (gv st25 4))]) fun p176 =>
 (bd (app 3 1 (S.v (V.sl 1 (((l172).take n174).drop 0) m175.isSome)) p176.2) fun l177 =>
 (bd (bop prog .shl 97 (V.int .u64 1) (gv st25 4)) fun v178 =>
 (bd (bop prog .or 97 (V.int .u64 x1) v178) fun v179 =>
 (fnK v168 fun f180 c181 => if (okV prog 61 f180 = true) then (if pureS f180 then (if keepS f180 then
 none
 else
 (clS (call n f180 ([(V.sl 1 l177 false), v179, v131] ++ c181) []) fun r182 => if V.simple.simpleL r182 then
 (bd (r182)[0]? fun v185 =>
 (bd (r182)[1]? fun v186 =>
 (bv v186 fun b187 => if b187 then
 some (Res.ret [v185, (V.bool true)], h129)
 else
 (bd (bop prog .add 3 (gv st25 4) (V.int .i64 1)) fun v188 =>
 (next27 [(gv st25 0), (gv st25 1), (V.agg (lcs (gv st25 2))), (V.agg (lcs (gv st25 3))), v188] h129))))) else none))
 else if keepS f180 then
 (clH (call n f180 ([(V.sl 1 l177 false), v179, v131] ++ c181) h129) fun r182 h183 =>
 (bd (r182)[0]? fun v189 =>
 (bd (r182)[1]? fun v190 =>
 (bv v190 fun b191 => if b191 then
 some (Res.ret [v189, (V.bool true)], h183)
 else
 (bd (bop prog .add 3 (gv st25 4) (V.int .i64 1)) fun v192 =>
 (next27 [(gv st25 0), (gv st25 1), (V.agg (lcs (gv st25 2))), (V.agg (lcs (gv st25 3))), v192] h183))))))
 else none) else none))))) else none))))))) else none)))) else none) else none)))) (fun z130 h129 => some (Res.pan z130, h129)))) else none)) else none)))) else none) (fun z42 h41 => if z42.simple then some (Res.pan z42, h41) else none))
 else none) else none)) else none) else none) else none)) else none))
 else
 (boxAt (hh26)[x4]? fun m193 cs194 => if (0 + 1 ≤ m193 ∧ 0 < 1) then
 (bd (cs194)[0]? fun v195 =>
 (mpK v195 fun b198 => mapAt (hh26)[b198]? fun es196 => (bd (kds prog 12 102) fun ksr197 => bd (findI ksr197 (V.agg (((lcs (gv st25 2))).drop 0 |>.take 2)) es196 0) fun r197 => if (((V.agg (((lcs (gv st25 2))).drop 0 |>.take 2))).one = !true ∧ ((V.agg (((lcs (gv st25 2))).drop 0 |>.take 2))).cells.length = ksr197.length) then
 some (Res.ret [(V.sl 1 [] false), (V.bool false)], ((hh26).set b198 (HB.map (upd es196 (V.agg (((lcs (gv st25 2))).drop 0 |>.take 2)) (V.agg []) r197)))) else none))) else none)))
noncomputable def lTry (n : Nat) (x0 : V) (x1 : Int) (x2 : V) (x3 : Nat) (x4 : Nat) (x5 : Nat) (x6 : Nat) (x7 : Nat) (x8 : Nat) (x9 : Nat) (h : Heap) : Option (Res × Heap) :=
 (boxAt (h)[x3]? fun m0 cs1 => if (0 + 1 ≤ m0 ∧ 0 < 1) then
 (bd (cs1)[0]? fun v2 =>
 (bd (bop prog .and 97 (V.int .u64 x1) v2) fun v3 =>
 (boxAt (h)[x3]? fun m4 cs5 => if (0 + 1 ≤ m4 ∧ 0 < 1) then
 (bd (cs5)[0]? fun v6 =>
 (bd (bop prog .eql 97 v3 v6) fun v7 =>
 (bv v7 fun b8 => if b8 then
 some (Res.ret [x0, (V.bool true)], h)
 else
 (cl (call n 41 [x2] h) (fun r9 h10 =>
 (one1 r9 fun v12 =>
 (bd (bldV prog 102 [(0, (V.int .u64 x1)), (1, v12)]) fun cs13 =>
 (if (cs13).length = 2 then
 (if ((cs13).length ≤ 2) then
 (boxAt (h10)[x4]? fun m14 cs15 => if (0 + 1 ≤ m14 ∧ 0 < 1) then
 (bd (cs15)[0]? fun v16 =>
 (bdS (mapOf h10 v16) fun es17 =>
 (bd (kds prog 12 102) fun ksr18 => bdS (findI ksr18 (V.agg (((setR [(V.int .u64 0), (V.str (ByteArray.mk #[]))] 0 cs13)).drop 0 |>.take 2)) es17 0) fun r18 => bd (entryV es17 (V.agg []) r18) fun v19 => if (((V.agg (((setR [(V.int .u64 0), (V.str (ByteArray.mk #[]))] 0 cs13)).drop 0 |>.take 2))).one = !true ∧ ((V.agg (((setR [(V.int .u64 0), (V.str (ByteArray.mk #[]))] 0 cs13)).drop 0 |>.take 2))).cells.length = ksr18.length ∧ true = true) then
 (if ((V.cells v19)).length = 0 then
 (if (((V.cells v19)).length ≤ 0) then
 (if r18.isSome then
 some (Res.ret [(V.sl 1 [] false), (V.bool false)], h10)
 else
 (boxAt (h10)[x5]? fun m20 cs21 => if (0 + 1 ≤ m20 ∧ 0 < 1) then
 (bd (cs21)[0]? fun v22 =>
 (bd (slc v22) fun p23 =>
 (loopx n (lTry_l24 n x0 x1 x2 x4 x6 x7 x8 x9 v22 p23) [(V.sl 1 [] false), (V.bool false), (V.agg (setR [(V.int .u64 0), (V.str (ByteArray.mk #[]))] 0 cs13)), (V.agg (setR [] 0 (V.cells v19))), (V.int .i64 0)] h10))) else none)) else none) else none) else none))) else none) else none) else none)))) (fun z11 h10 => some (Res.pan z11, h10)))))) else none))) else none)
theorem lTry_eq (n : Nat) (x0 : V) (x1 : Int) (x2 : V) (x3 : Nat) (x4 : Nat) (x5 : Nat) (x6 : Nat) (x7 : Nat) (x8 : Nat) (x9 : Nat) (h : Heap) : call (n + 1) 40 [x0, (V.int .u64 x1), x2, (V.ptr x3 0), (V.ptr x4 0), (V.ptr x5 0), (V.ptr x6 0), (V.ptr x7 0), (V.ptr x8 0), (V.ptr x9 0)] h = lTry n x0 x1 x2 x3 x4 x5 x6 x7 x8 x9 h := by kernel_rfl
noncomputable def lFind_l4 (n : Nat) (v2 : V) (p3 : Nat × List (List V)) (st5 : List V) (hh6 : Heap) (next7 : List V → Heap → Option (Res × Heap)) : Option (Res × Heap) :=
 (bd (bop prog .lss 3 (gv st5 6) (V.int .i64 ((p3.2).length : Int))) fun v8 =>
 (bv v8 fun b9 => if b9 then
 (bdS (nv (gv st5 6)) fun n10 =>
 (slk v2 fun q11 l12 x13 => if (q11 = 8) then
 (bd (l12)[n10]? fun es14 =>
 (if (((es14).drop 0 |>.take 8)).length = 8 then
 (if ((((es14).drop 0 |>.take 8)).length ≤ 8) then
 (bd ((setR [(V.int .i64 0), (V.int .i64 0), (V.int .u8 0), (V.int .i32 0), (V.int .u8 0), (V.int .i32 0), (V.int .i64 0), (V.int .i64 0)] 0 ((es14).drop 0 |>.take 8)))[7]? fun v15 =>
 (bd (bop prog .geq 3 v15 (V.int .i64 0)) fun v16 =>
 (bv v16 fun b17 => if b17 then
 (bd ((lcs (gv st5 5)))[0]? fun v18 =>
 (bd (bop prog .shl 97 (V.int .u64 1) (gv st5 6)) fun v19 =>
 (bd (bop prog .or 97 v18 v19) fun v20 =>
 (if ((V.cells v20)).length = 1 then
 (if (((V.cells v20)).length ≤ 1) then
 (bd (bop prog .add 3 (gv st5 6) (V.int .i64 1)) fun v21 =>
 (next7 [(V.agg (lcs (gv st5 0))), (V.agg (lcs (gv st5 1))), (V.agg (lcs (gv st5 2))), (V.sl 1 (lsl (gv st5 3)) false), (V.agg (lcs (gv st5 4))), (V.agg (setR (lcs (gv st5 5)) 0 (V.cells v20))), v21] hh6)) else none) else none))))
 else
 (bd (bop prog .add 3 (gv st5 6) (V.int .i64 1)) fun v22 =>
 (next7 [(V.agg (lcs (gv st5 0))), (V.agg (lcs (gv st5 1))), (V.agg (lcs (gv st5 2))), (V.sl 1 (lsl (gv st5 3)) false), (V.agg (lcs (gv st5 4))), (V.agg (lcs (gv st5 5))), v22] hh6))))) else none) else none)) else none))
 else
 (boxAt ((((((((hh6 ++ [(HB.box 1 (lcs (gv st5 2)))]) ++ [(HB.box 1 (lcs (gv st5 5)))]) ++ [(HB.box 1 (lcs (gv st5 4)))]) ++ [(HB.box 1 [(V.fn 39 [(V.ptr (hh6).length 0)])])]) ++ [(HB.box 1 (lcs (gv st5 0)))]) ++ [(HB.box 1 (lcs (gv st5 1)))]) ++ [(HB.box 1 [(V.val .nilFunc)])]))[(((((((hh6 ++ [(HB.box 1 (lcs (gv st5 2)))]) ++ [(HB.box 1 (lcs (gv st5 5)))]) ++ [(HB.box 1 (lcs (gv st5 4)))]) ++ [(HB.box 1 [(V.fn 39 [(V.ptr (hh6).length 0)])])]) ++ [(HB.box 1 (lcs (gv st5 0)))]) ++ [(HB.box 1 (lcs (gv st5 1)))])).length]? fun m23 cs24 => if (0 + 1 ≤ m23) then
 (boxAt ((((((((((hh6 ++ [(HB.box 1 (lcs (gv st5 2)))]) ++ [(HB.box 1 (lcs (gv st5 5)))]) ++ [(HB.box 1 (lcs (gv st5 4)))]) ++ [(HB.box 1 [(V.fn 39 [(V.ptr (hh6).length 0)])])]) ++ [(HB.box 1 (lcs (gv st5 0)))]) ++ [(HB.box 1 (lcs (gv st5 1)))]) ++ [(HB.box 1 [(V.val .nilFunc)])])).set (((((((hh6 ++ [(HB.box 1 (lcs (gv st5 2)))]) ++ [(HB.box 1 (lcs (gv st5 5)))]) ++ [(HB.box 1 (lcs (gv st5 4)))]) ++ [(HB.box 1 [(V.fn 39 [(V.ptr (hh6).length 0)])])]) ++ [(HB.box 1 (lcs (gv st5 0)))]) ++ [(HB.box 1 (lcs (gv st5 1)))])).length (HB.box m23 (setR cs24 0 [(V.fn 40 [(V.ptr ((hh6 ++ [(HB.box 1 (lcs (gv st5 2)))])).length 0), (V.ptr (((hh6 ++ [(HB.box 1 (lcs (gv st5 2)))]) ++ [(HB.box 1 (lcs (gv st5 5)))])).length 0), (V.ptr (hh6).length 0), (V.ptr ((((hh6 ++ [(HB.box 1 (lcs (gv st5 2)))]) ++ [(HB.box 1 (lcs (gv st5 5)))]) ++ [(HB.box 1 (lcs (gv st5 4)))])).length 0), (V.ptr (((((hh6 ++ [(HB.box 1 (lcs (gv st5 2)))]) ++ [(HB.box 1 (lcs (gv st5 5)))]) ++ [(HB.box 1 (lcs (gv st5 4)))]) ++ [(HB.box 1 [(V.fn 39 [(V.ptr (hh6).length 0)])])])).length 0), (V.ptr ((((((hh6 ++ [(HB.box 1 (lcs (gv st5 2)))]) ++ [(HB.box 1 (lcs (gv st5 5)))]) ++ [(HB.box 1 (lcs (gv st5 4)))]) ++ [(HB.box 1 [(V.fn 39 [(V.ptr (hh6).length 0)])])]) ++ [(HB.box 1 (lcs (gv st5 0)))])).length 0), (V.ptr (((((((hh6 ++ [(HB.box 1 (lcs (gv st5 2)))]) ++ [(HB.box 1 (lcs (gv st5 5)))]) ++ [(HB.box 1 (lcs (gv st5 4)))]) ++ [(HB.box 1 [(V.fn 39 [(V.ptr (hh6).length 0)])])]) ++ [(HB.box 1 (lcs (gv st5 0)))]) ++ [(HB.box 1 (lcs (gv st5 1)))])).length 0)])]))))[(((((((hh6 ++ [(HB.box 1 (lcs (gv st5 2)))]) ++ [(HB.box 1 (lcs (gv st5 5)))]) ++ [(HB.box 1 (lcs (gv st5 4)))]) ++ [(HB.box 1 [(V.fn 39 [(V.ptr (hh6).length 0)])])]) ++ [(HB.box 1 (lcs (gv st5 0)))]) ++ [(HB.box 1 (lcs (gv st5 1)))])).length]? fun m25 cs26 => if (0 + 1 ≤ m25 ∧ 0 < 1) then
 (bd (cs26)[0]? fun v27 =>
 (fnK v27 fun f28 c29 => if (okV prog 61 f28 = true) then (if keepS f28 then
 (cl (call n f28 ([(V.sl 0 [] false), (V.int .u64 0), (V.sl 0 [] false)] ++ c29) (((((((((hh6 ++ [(HB.box 1 (lcs (gv st5 2)))]) ++ [(HB.box 1 (lcs (gv st5 5)))]) ++ [(HB.box 1 (lcs (gv st5 4)))]) ++ [(HB.box 1 [(V.fn 39 [(V.ptr (hh6).length 0)])])]) ++ [(HB.box 1 (lcs (gv st5 0)))]) ++ [(HB.box 1 (lcs (gv st5 1)))]) ++ [(HB.box 1 [(V.val .nilFunc)])])).set (((((((hh6 ++ [(HB.box 1 (lcs (gv st5 2)))]) ++ [(HB.box 1 (lcs (gv st5 5)))]) ++ [(HB.box 1 (lcs (gv st5 4)))]) ++ [(HB.box 1 [(V.fn 39 [(V.ptr (hh6).length 0)])])]) ++ [(HB.box 1 (lcs (gv st5 0)))]) ++ [(HB.box 1 (lcs (gv st5 1)))])).length (HB.box m23 (setR cs24 0 [(V.fn 40 [(V.ptr ((hh6 ++ [(HB.box 1 (lcs (gv st5 2)))])).length 0), (V.ptr (((hh6 ++ [(HB.box 1 (lcs (gv st5 2)))]) ++ [(HB.box 1 (lcs (gv st5 5)))])).length 0), (V.ptr (hh6).length 0), (V.ptr ((((hh6 ++ [(HB.box 1 (lcs (gv st5 2)))]) ++ [(HB.box 1 (lcs (gv st5 5)))]) ++ [(HB.box 1 (lcs (gv st5 4)))])).length 0), (V.ptr (((((hh6 ++ [(HB.box 1 (lcs (gv st5 2)))]) ++ [(HB.box 1 (lcs (gv st5 5)))]) ++ [(HB.box 1 (lcs (gv st5 4)))]) ++ [(HB.box 1 [(V.fn 39 [(V.ptr (hh6).length 0)])])])).length 0), (V.ptr ((((((hh6 ++ [(HB.box 1 (lcs (gv st5 2)))]) ++ [(HB.box 1 (lcs (gv st5 5)))]) ++ [(HB.box 1 (lcs (gv st5 4)))]) ++ [(HB.box 1 [(V.fn 39 [(V.ptr (hh6).length 0)])])]) ++ [(HB.box 1 (lcs (gv st5 0)))])).length 0), (V.ptr (((((((hh6 ++ [(HB.box 1 (lcs (gv st5 2)))]) ++ [(HB.box 1 (lcs (gv st5 5)))]) ++ [(HB.box 1 (lcs (gv st5 4)))]) ++ [(HB.box 1 [(V.fn 39 [(V.ptr (hh6).length 0)])])]) ++ [(HB.box 1 (lcs (gv st5 0)))]) ++ [(HB.box 1 (lcs (gv st5 1)))])).length 0)])])))) (fun r30 h31 =>
 (bd (r30)[0]? fun v33 =>
 (bd (r30)[1]? fun v34 =>
 some (Res.ret [v33, v34], h31)))) (fun z32 h31 => some (Res.pan z32, h31)))
 else if pureS f28 then
 (cl (call n f28 ([(V.sl 0 [] false), (V.int .u64 0), (V.sl 0 [] false)] ++ c29) (((((((((hh6 ++ [(HB.box 1 (lcs (gv st5 2)))]) ++ [(HB.box 1 (lcs (gv st5 5)))]) ++ [(HB.box 1 (lcs (gv st5 4)))]) ++ [(HB.box 1 [(V.fn 39 [(V.ptr (hh6).length 0)])])]) ++ [(HB.box 1 (lcs (gv st5 0)))]) ++ [(HB.box 1 (lcs (gv st5 1)))]) ++ [(HB.box 1 [(V.val .nilFunc)])])).set (((((((hh6 ++ [(HB.box 1 (lcs (gv st5 2)))]) ++ [(HB.box 1 (lcs (gv st5 5)))]) ++ [(HB.box 1 (lcs (gv st5 4)))]) ++ [(HB.box 1 [(V.fn 39 [(V.ptr (hh6).length 0)])])]) ++ [(HB.box 1 (lcs (gv st5 0)))]) ++ [(HB.box 1 (lcs (gv st5 1)))])).length (HB.box m23 (setR cs24 0 [(V.fn 40 [(V.ptr ((hh6 ++ [(HB.box 1 (lcs (gv st5 2)))])).length 0), (V.ptr (((hh6 ++ [(HB.box 1 (lcs (gv st5 2)))]) ++ [(HB.box 1 (lcs (gv st5 5)))])).length 0), (V.ptr (hh6).length 0), (V.ptr ((((hh6 ++ [(HB.box 1 (lcs (gv st5 2)))]) ++ [(HB.box 1 (lcs (gv st5 5)))]) ++ [(HB.box 1 (lcs (gv st5 4)))])).length 0), (V.ptr (((((hh6 ++ [(HB.box 1 (lcs (gv st5 2)))]) ++ [(HB.box 1 (lcs (gv st5 5)))]) ++ [(HB.box 1 (lcs (gv st5 4)))]) ++ [(HB.box 1 [(V.fn 39 [(V.ptr (hh6).length 0)])])])).length 0), (V.ptr ((((((hh6 ++ [(HB.box 1 (lcs (gv st5 2)))]) ++ [(HB.box 1 (lcs (gv st5 5)))]) ++ [(HB.box 1 (lcs (gv st5 4)))]) ++ [(HB.box 1 [(V.fn 39 [(V.ptr (hh6).length 0)])])]) ++ [(HB.box 1 (lcs (gv st5 0)))])).length 0), (V.ptr (((((((hh6 ++ [(HB.box 1 (lcs (gv st5 2)))]) ++ [(HB.box 1 (lcs (gv st5 5)))]) ++ [(HB.box 1 (lcs (gv st5 4)))]) ++ [(HB.box 1 [(V.fn 39 [(V.ptr (hh6).length 0)])])]) ++ [(HB.box 1 (lcs (gv st5 0)))]) ++ [(HB.box 1 (lcs (gv st5 1)))])).length 0)])])))) (fun r30 h31 => if V.simple.simpleL r30 then
 (bd (r30)[0]? fun v35 =>
 (bd (r30)[1]? fun v36 =>
 some (Res.ret [v35, v36], h31))) else none) (fun z32 h31 => if z32.simple then some (Res.pan z32, h31) else none))
 else none) else none)) else none) else none)))
noncomputable def lFind (n : Nat) (x0 : Int) (x1 : Int) (x2 : V) : Option (Res × Heap) :=
 (if ((V.cells x2)).length = 1 then
 (bd ((V.cells x2))[0]? fun v0 =>
 (bd (slc v0) fun p1 =>
 (if (decide (((p1.2).length : Int) > 8)) then
 some (Res.ret [(V.sl 1 [] false), (V.bool false)], [])
 else
 (bd ((V.cells x2))[0]? fun v2 =>
 (bd (slc v2) fun p3 =>
 (loopx n (lFind_l4 n v2 p3) [(V.agg [(V.int .u8 x0)]), (V.agg [(V.int .i64 x1)]), (V.agg (V.cells x2)), (V.sl 1 [] false), (V.agg [(V.map 0)]), (V.agg [(V.int .u64 0)]), (V.int .i64 0)] [(HB.map [])])))))) else none)
theorem lFind_eq (n : Nat) (x0 : Int) (x1 : Int) (x2 : V) (h : Heap) : call (n + 1) 22 [(V.int .u8 x0), (V.int .i64 x1), x2] h = gcw [(V.int .u8 x0), (V.int .i64 x1), x2] (lFind n x0 x1 x2) h := by kernel_rfl
noncomputable def lawNone (n : Nat) (x0 : Int) (x1 : Int) (x2 : Int) (x3 : List (List V)) (x3b : Bool) (x4 : Int) (x5 : Int) : Option (Res × Heap) :=
 (bdS (nv (V.int .u8 (IntKind.u8.wrap (1 + (Int.tmod x0 3))))) fun n0 =>
 (if (1 = 1 ∧ n0 < ([[(V.int .u8 0)], [(V.int .u8 2)], [(V.int .u8 3)], [(V.int .u8 2)]]).length ∧ (some 34 : Option Nat) ≠ some 32) then
 (bd ([[(V.int .u8 0)], [(V.int .u8 2)], [(V.int .u8 3)], [(V.int .u8 2)]])[n0]? fun es1 =>
 (bd (es1)[0]? fun v2 =>
 (bd (bldV prog 34 [(0, v2), (1, (V.int .i32 x1))]) fun cs3 =>
 (bd (bldV prog 36 [(2, (V.agg cs3)), (3, (V.agg [(V.int .u8 2), (V.int .i32 x2)])), (4, (V.int .i64 (IntKind.i64.wrap x4))), (5, (V.int .i64 (IntKind.i64.wrap ((IntKind.i64.wrap x4) + (IntKind.i64.wrap x5)))))]) fun cs4 =>
 (if (cs4).length = 8 then
 (if ((cs4).length ≤ 8) then
 (if ((((setR [(V.int .i64 0), (V.int .i64 0), (V.int .u8 0), (V.int .i32 0), (V.int .u8 0), (V.int .i32 0), (V.int .i64 0), (V.int .i64 0)] 0 cs4)).drop 0 |>.take 8)).length = 8 then
 (if (((((setR [(V.int .i64 0), (V.int .i64 0), (V.int .u8 0), (V.int .i32 0), (V.int .u8 0), (V.int .i32 0), (V.int .i64 0), (V.int .i64 0)] 0 cs4)).drop 0 |>.take 8)).length ≤ 8) then
 (bd (bslV prog 22 1 [(0, (V.agg (((setR [(V.int .i64 0), (V.int .i64 0), (V.int .u8 0), (V.int .i32 0), (V.int .u8 0), (V.int .i32 0), (V.int .i64 0), (V.int .i64 0)] 0 cs4)).drop 0 |>.take 8)))]) fun p5 =>
 (cl (call n 22 [(V.int .u8 (IntKind.u8.wrap (1 + (Int.tmod x0 3)))), (V.int .i64 4), (V.sl 8 p5.2 false)] []) (fun r6 h7 =>
 (bd (r6)[0]? fun v9 =>
 (bd (r6)[1]? fun v10 =>
 (bd (bslV prog 22 1 [(0, (V.agg (((setR (setR [(V.int .i64 0), (V.int .i64 0), (V.int .u8 0), (V.int .i32 0), (V.int .u8 0), (V.int .i32 0), (V.int .i64 0), (V.int .i64 0)] 0 (((setR [(V.int .i64 0), (V.int .i64 0), (V.int .u8 0), (V.int .i32 0), (V.int .u8 0), (V.int .i32 0), (V.int .i64 0), (V.int .i64 0)] 0 cs4)).drop 0 |>.take 8)) 4 [(V.int .u8 4), (V.int .i32 0)])).drop 0 |>.take 8)))]) fun p11 =>
 (cl (call n 22 [(V.int .u8 (IntKind.u8.wrap (1 + (Int.tmod x0 3)))), (V.int .i64 4), (V.sl 8 p11.2 false)] h7) (fun r12 h13 =>
 (bd (r12)[0]? fun v15 =>
 (bd (r12)[1]? fun v16 =>
 (bd (bslV prog 22 2 [(0, (V.agg (((setR [(V.int .i64 0), (V.int .i64 0), (V.int .u8 0), (V.int .i32 0), (V.int .u8 0), (V.int .i32 0), (V.int .i64 0), (V.int .i64 0)] 0 cs4)).drop 0 |>.take 8))), (1, (V.agg [(V.int .i64 1), (V.int .i64 0), (V.int .u8 1), (V.int .i32 x2), (V.int .u8 0), (V.int .i32 0), (V.int .i64 (IntKind.i64.wrap ((IntKind.i64.wrap x4) + (IntKind.i64.wrap x5)))), (V.int .i64 (-1))]))]) fun p17 =>
 (cl (call n 22 [(V.int .u8 (IntKind.u8.wrap (1 + (Int.tmod x0 3)))), (V.int .i64 4), (V.sl 8 p17.2 false)] h13) (fun r18 h19 =>
 (bd (r18)[0]? fun v21 =>
 (bd (r18)[1]? fun v22 =>
 (bd (bslV prog 22 2 [(0, (V.agg (((setR [(V.int .i64 0), (V.int .i64 0), (V.int .u8 0), (V.int .i32 0), (V.int .u8 0), (V.int .i32 0), (V.int .i64 0), (V.int .i64 0)] 0 cs4)).drop 0 |>.take 8))), (1, (V.agg [(V.int .i64 1), (V.int .i64 0), (V.int .u8 1), (V.int .i32 x2), (V.int .u8 0), (V.int .i32 0), (V.int .i64 (IntKind.i64.wrap ((IntKind.i64.wrap ((IntKind.i64.wrap x4) + (IntKind.i64.wrap x5))) + 1))), (V.int .i64 (-1))]))]) fun p23 =>
 (cl (call n 22 [(V.int .u8 (IntKind.u8.wrap (1 + (Int.tmod x0 3)))), (V.int .i64 4), (V.sl 8 p23.2 false)] h19) (fun r24 h25 =>
 (bd (r24)[0]? fun v27 =>
 (bd (r24)[1]? fun v28 =>
 (if (9 = 9 ∧ 9 < lim ∧ 8 = 8) then
 (cl (call n 22 [(V.int .u8 (IntKind.u8.wrap (1 + (Int.tmod x0 3)))), (V.int .i64 4), (V.sl 8 (List.replicate 9 [(V.int .i64 0), (V.int .i64 0), (V.int .u8 0), (V.int .i32 0), (V.int .u8 0), (V.int .i32 0), (V.int .i64 0), (V.int .i64 0)]) false)] h25) (fun r29 h30 =>
 (bd (r29)[0]? fun v32 =>
 (bd (r29)[1]? fun v33 =>
 (cl (call n 22 [(V.int .u8 (IntKind.u8.wrap (1 + (Int.tmod x0 3)))), (V.int .i64 4), (V.sl 0 [] false)] h30) (fun r34 h35 =>
 (bd (r34)[0]? fun v37 =>
 (bd (r34)[1]? fun v38 =>
 (cl (call n 13 [] h35) (fun r39 h40 =>
 (one1 r39 fun v42 =>
 (bv v42 fun b43 => if b43 then
 (bd (uop .not v10) fun v44 =>
 (bv v44 fun b45 => if b45 then
 (bv v16 fun b46 => if b46 then
 (bv v22 fun b47 => if b47 then
 (bd (uop .not v28) fun v48 =>
 (bv v48 fun b49 => if b49 then
 (bd (uop .not v33) fun v50 =>
 (bv v50 fun b51 => if b51 then
 (bv v38 fun b52 => if b52 then
 (bd (slc v37) fun p53 =>
 some (Res.ret [(V.bool (((p53.2).length : Int) == 0))], h40))
 else
 some (Res.ret [(V.bool false)], h40))
 else
 some (Res.ret [(V.bool false)], h40)))
 else
 some (Res.ret [(V.bool false)], h40)))
 else
 some (Res.ret [(V.bool false)], h40))
 else
 some (Res.ret [(V.bool false)], h40))
 else
 some (Res.ret [(V.bool false)], h40)))
 else
 some (Res.ret [(V.bool false)], h40)))) (fun z41 h40 => some (Res.pan z41, h40)))))) (fun z36 h35 => some (Res.pan z36, h35)))))) (fun z31 h30 => some (Res.pan z31, h30))) else none)))) (fun z26 h25 => some (Res.pan z26, h25))))))) (fun z20 h19 => some (Res.pan z20, h19))))))) (fun z14 h13 => some (Res.pan z14, h13))))))) (fun z8 h7 => some (Res.pan z8, h7)))) else none) else none) else none) else none))))) else none))
theorem lawNone_eq (n : Nat) (x0 : Int) (x1 : Int) (x2 : Int) (x3 : List (List V)) (x3b : Bool) (x4 : Int) (x5 : Int) (h : Heap) : call (n + 1) 6 [(V.int .u8 x0), (V.int .i32 x1), (V.int .i32 x2), (V.sl 1 x3 x3b), (V.int .u8 x4), (V.int .u8 x5)] h = gcw [(V.int .u8 x0), (V.int .i32 x1), (V.int .i32 x2), (V.sl 1 x3 x3b), (V.int .u8 x4), (V.int .u8 x5)] (lawNone n x0 x1 x2 x3 x3b x4 x5) h := by kernel_rfl
noncomputable def lawShift_l10 (n : Nat) (x0 : Int) (x1 : Int) (x4 : Int) (l7 : List (List V)) (n9 : Nat) (st11 : List V) (hh12 : Heap) (next13 : List V → Heap → Option (Res × Heap)) : Option (Res × Heap) :=
 (bd (bop prog .lss 3 (gv st11 3) (V.int .i64 (((((l7).take n9).drop 0)).length : Int))) fun v14 =>
 (bv v14 fun b15 => if b15 then
 (bdS (nv (gv st11 3)) fun n16 =>
 (bd ((((l7).take n9).drop 0))[n16]? fun es17 =>
 (if (((es17).drop 0 |>.take 8)).length = 8 then
 (if ((((es17).drop 0 |>.take 8)).length ≤ 8) then
 (bd ((setR [(V.int .i64 0), (V.int .i64 0), (V.int .u8 0), (V.int .i32 0), (V.int .u8 0), (V.int .i32 0), (V.int .i64 0), (V.int .i64 0)] 0 ((es17).drop 0 |>.take 8)))[6]? fun v18 =>
 (bd (bop prog .add 3 v18 (V.int .i64 (IntKind.i64.wrap (40000 + (IntKind.i64.wrap x4))))) fun v19 =>
 (if ((V.cells v19)).length = 1 then
 (if (0 = 0 ∧ 6 + ((V.cells v19)).length ≤ 8) then
 (bd ((setR (setR [(V.int .i64 0), (V.int .i64 0), (V.int .u8 0), (V.int .i32 0), (V.int .u8 0), (V.int .i32 0), (V.int .i64 0), (V.int .i64 0)] 0 ((es17).drop 0 |>.take 8)) 6 (V.cells v19)))[7]? fun v20 =>
 (bd (bop prog .geq 3 v20 (V.int .i64 0)) fun v21 =>
 (bv v21 fun b22 => if b22 then
 (bd ((setR (setR [(V.int .i64 0), (V.int .i64 0), (V.int .u8 0), (V.int .i32 0), (V.int .u8 0), (V.int .i32 0), (V.int .i64 0), (V.int .i64 0)] 0 ((es17).drop 0 |>.take 8)) 6 (V.cells v19)))[7]? fun v23 =>
 (bd (bop prog .add 3 v23 (V.int .i64 (IntKind.i64.wrap (40000 + (IntKind.i64.wrap x4))))) fun v24 =>
 (if ((V.cells v24)).length = 1 then
 (if (0 = 0 ∧ 7 + ((V.cells v24)).length ≤ 8) then
 (bd (bslV prog 22 1 [(0, (V.agg (((setR (setR (setR [(V.int .i64 0), (V.int .i64 0), (V.int .u8 0), (V.int .i32 0), (V.int .u8 0), (V.int .i32 0), (V.int .i64 0), (V.int .i64 0)] 0 ((es17).drop 0 |>.take 8)) 6 (V.cells v19)) 7 (V.cells v24))).drop 0 |>.take 8)))]) fun p25 =>
 (bd (app 36 8 (S.own 36 8 (lsl (gv st11 1))) p25.2) fun l26 =>
 (bd (bop prog .add 3 (gv st11 3) (V.int .i64 1)) fun v27 =>
 (next13 [(V.agg (lcs (gv st11 0))), (V.sl 8 l26 false), (V.sl 8 (lsl (gv st11 2)) false), v27] hh12)))) else none) else none)))
 else
 (bd (bslV prog 22 1 [(0, (V.agg (((setR (setR [(V.int .i64 0), (V.int .i64 0), (V.int .u8 0), (V.int .i32 0), (V.int .u8 0), (V.int .i32 0), (V.int .i64 0), (V.int .i64 0)] 0 ((es17).drop 0 |>.take 8)) 6 (V.cells v19))).drop 0 |>.take 8)))]) fun p28 =>
 (bd (app 36 8 (S.own 36 8 (lsl (gv st11 1))) p28.2) fun l29 =>
 (bd (bop prog .add 3 (gv st11 3) (V.int .i64 1)) fun v30 =>
 (next13 [(V.agg (lcs (gv st11 0))), (V.sl 8 l29 false), (V.sl 8 (lsl (gv st11 2)) false), v30] hh12))))))) else none) else none))) else none) else none)))
 else
 (bd (app 36 8 (S.own 36 8 (lsl (gv st11 2))) (((l7).take n9).drop 0)) fun l31 =>
 (bd (bldV prog 36 [(0, (V.int .i64 9)), (2, (V.agg (((lcs (gv st11 0))).drop 0 |>.take 2))), (5, (V.int .i64 (-1)))]) fun cs32 =>
 (bd (bslV prog 22 1 [(0, (V.agg cs32))]) fun p33 =>
 (bd (app 36 8 (S.own 36 8 l31) p33.2) fun l34 =>
 (cl (call n 22 [(V.int .u8 (IntKind.u8.wrap (1 + (Int.tmod x0 3)))), (V.int .i64 (IntKind.i64.wrap (1 + (IntKind.i64.wrap (Int.tmod x1 5))))), (V.sl 8 (((l7).take n9).drop 0) false)] hh12) (fun r35 h36 =>
 (bd (r35)[0]? fun v38 =>
 (bd (r35)[1]? fun v39 =>
 (cl (call n 22 [(V.int .u8 (IntKind.u8.wrap (1 + (Int.tmod x0 3)))), (V.int .i64 (IntKind.i64.wrap (1 + (IntKind.i64.wrap (Int.tmod x1 5))))), (V.sl 8 (lsl (gv st11 1)) false)] h36) (fun r40 h41 =>
 (bd (r40)[0]? fun v43 =>
 (bd (r40)[1]? fun v44 =>
 (cl (call n 22 [(V.int .u8 (IntKind.u8.wrap (1 + (Int.tmod x0 3)))), (V.int .i64 (IntKind.i64.wrap (1 + (IntKind.i64.wrap (Int.tmod x1 5))))), (V.sl 8 l34 false)] h41) (fun r45 h46 =>
 (bd (r45)[0]? fun v48 =>
 (bd (r45)[1]? fun v49 =>
 (cl (call n 13 [] h46) (fun r50 h51 =>
 (one1 r50 fun v53 =>
 (bv v53 fun b54 => if b54 then
 (bd (bop prog .eql 4 v39 v44) fun v55 =>
 (bv v55 fun b56 => if b56 then
 (bd (uop .not v39) fun v57 =>
 (bv v57 fun b58 => if b58 then
 some (Res.ret [(V.bool true)], h51)
 else
 some (Res.ret [v49], h51)))
 else
 some (Res.ret [(V.bool false)], h51)))
 else
 some (Res.ret [(V.bool false)], h51)))) (fun z52 h51 => some (Res.pan z52, h51)))))) (fun z47 h46 => some (Res.pan z47, h46)))))) (fun z42 h41 => some (Res.pan z42, h41)))))) (fun z37 h36 => some (Res.pan z37, h36)))))))))
noncomputable def lawShift (n : Nat) (x0 : Int) (x1 : Int) (x2 : List (List V)) (x2b : Bool) (x3 : List (List V)) (x3b : Bool) (x4 : Int) (x5_0 : Int) (x5_1 : Int) : Option (Res × Heap) :=
 (cl (call n 14 [(V.int .u8 (IntKind.u8.wrap (1 + (Int.tmod x0 3)))), (V.int .i64 (IntKind.i64.wrap (1 + (IntKind.i64.wrap (Int.tmod x1 5))))), (V.sl 1 x2 x2b), (V.sl 1 x3 x3b)] []) (fun r0 h1 =>
 (bd (r0)[0]? fun v3 =>
 (bd (r0)[1]? fun v4 =>
 (bd (slc v3) fun p5 =>
 (slk v3 fun q6 l7 x8 =>
 (bdS (nv (V.int .i64 (if 5 < ((p5.2).length : Int) then 5 else ((p5.2).length : Int)))) fun n9 =>
 (if (0 ≤ n9 ∧ n9 ≤ (l7).length ∧ (q6 = 8 ∨ (l7).isEmpty = true) ∧ ((none : Option Nat) = none ∨ (none : Option Nat) = some n9) ∧ true = true) then
 (loopx n (lawShift_l10 n x0 x1 x4 l7 n9) [(V.agg [(V.int .u8 x5_0), (V.int .i32 x5_1)]), (V.sl 8 [] false), (V.sl 8 [] false), (V.int .i64 0)] h1) else none))))))) (fun z2 h1 => some (Res.pan z2, h1)))
theorem lawShift_eq (n : Nat) (x0 : Int) (x1 : Int) (x2 : List (List V)) (x2b : Bool) (x3 : List (List V)) (x3b : Bool) (x4 : Int) (x5_0 : Int) (x5_1 : Int) (h : Heap) : call (n + 1) 8 [(V.int .u8 x0), (V.int .u8 x1), (V.sl 1 x2 x2b), (V.sl 1 x3 x3b), (V.int .i16 x4), (V.agg [(V.int .u8 x5_0), (V.int .i32 x5_1)])] h = gcw [(V.int .u8 x0), (V.int .u8 x1), (V.sl 1 x2 x2b), (V.sl 1 x3 x3b), (V.int .i16 x4), (V.agg [(V.int .u8 x5_0), (V.int .i32 x5_1)])] (lawShift n x0 x1 x2 x2b x3 x3b x4 x5_0 x5_1) h := by kernel_rfl
noncomputable def lawFind (n : Nat) (x0 : Int) (x1 : Int) (x2 : List (List V)) (x2b : Bool) (h : Heap) : Option (Res × Heap) :=
 (cl (call n 22 [(V.int .u8 x0), (V.int .i64 x1), (V.sl 8 x2 x2b)] h) (fun r0 h1 =>
 (bd (r0)[0]? fun v3 =>
 (bd (r0)[1]? fun v4 =>
 (cl (call n 31 [(V.int .u8 x0), (V.int .i64 x1), (V.sl 8 x2 x2b)] h1) (fun r5 h6 =>
 (bd (r5)[0]? fun v8 =>
 (bd (r5)[1]? fun v9 =>
 (bd (bop prog .eql 4 v4 v9) fun v10 =>
 (bv v10 fun b11 => if b11 then
 (bd (uop .not v4) fun v12 =>
 (bv v12 fun b13 => if b13 then
 (bd (slc v3) fun p14 =>
 (if (((p14.2).length : Int) == 0) then
 some (Res.ret [(V.bool true)], h6)
 else
 (bv v4 fun b15 => if b15 then
 (cl (call n 30 [(V.int .u8 x0), (V.int .i64 x1), (V.sl 8 x2 x2b), v3] h6) (fun r16 h17 =>
 (one1 r16 fun v19 =>
 (bv v19 fun b20 => if b20 then
 (cl (call n 23 [(V.int .u8 x0), (V.int .i64 x1), (V.sl 8 x2 x2b), v3] h17) (fun r21 h22 =>
 (one1 r21 fun v24 =>
 some (Res.ret [v24], h22))) (fun z23 h22 => some (Res.pan z23, h22)))
 else
 some (Res.ret [(V.bool false)], h17)))) (fun z18 h17 => some (Res.pan z18, h17)))
 else
 some (Res.ret [(V.bool false)], h6))))
 else
 (bv v4 fun b25 => if b25 then
 (cl (call n 30 [(V.int .u8 x0), (V.int .i64 x1), (V.sl 8 x2 x2b), v3] h6) (fun r26 h27 =>
 (one1 r26 fun v29 =>
 (bv v29 fun b30 => if b30 then
 (cl (call n 23 [(V.int .u8 x0), (V.int .i64 x1), (V.sl 8 x2 x2b), v3] h27) (fun r31 h32 =>
 (one1 r31 fun v34 =>
 some (Res.ret [v34], h32))) (fun z33 h32 => some (Res.pan z33, h32)))
 else
 some (Res.ret [(V.bool false)], h27)))) (fun z28 h27 => some (Res.pan z28, h27)))
 else
 some (Res.ret [(V.bool false)], h6))))
 else
 some (Res.ret [(V.bool false)], h6)))))) (fun z7 h6 => some (Res.pan z7, h6)))))) (fun z2 h1 => some (Res.pan z2, h1)))
theorem lawFind_eq (n : Nat) (x0 : Int) (x1 : Int) (x2 : List (List V)) (x2b : Bool) (h : Heap) : call (n + 1) 16 [(V.int .u8 x0), (V.int .i64 x1), (V.sl 8 x2 x2b)] h = lawFind n x0 x1 x2 x2b h := by kernel_rfl
noncomputable def lawFinds (n : Nat) (x0 : Int) (x1 : Int) (x2 : List (List V)) (x2b : Bool) (x3 : Int) (x4 : List (List V)) (x4b : Bool) (x5 : List (List V)) (x5b : Bool) (x6 : Int) (x7 : Int) : Option (Res × Heap) :=
 (if (decide ((IntKind.i64.wrap (((x4).length : Int) + ((x5).length : Int))) > 100)) then
 (cl (call n 13 [] []) (fun r0 h1 =>
 (one1 r0 fun v3 =>
 some (Res.ret [v3], h1))) (fun z2 h1 => some (Res.pan z2, h1)))
 else
 (if (decide (((x2).length : Int) > 20)) then
 (cl (call n 13 [] []) (fun r4 h5 =>
 (one1 r4 fun v7 =>
 some (Res.ret [v7], h5))) (fun z6 h5 => some (Res.pan z6, h5)))
 else
 (cl (call n 14 [(V.int .u8 (IntKind.u8.wrap (1 + (Int.tmod x0 3)))), (V.int .i64 (IntKind.i64.wrap (1 + (IntKind.i64.wrap (Int.tmod x3 5))))), (V.sl 1 x4 x4b), (V.sl 1 x5 x5b)] []) (fun r8 h9 =>
 (bd (r8)[0]? fun v11 =>
 (bd (r8)[1]? fun v12 =>
 (bd (slc v11) fun p13 =>
 (slk v11 fun q14 l15 x16 =>
 (bdS (nv (V.int .i64 (if 6 < ((p13.2).length : Int) then 6 else ((p13.2).length : Int)))) fun n17 =>
 (if (0 ≤ n17 ∧ n17 ≤ (l15).length ∧ (q14 = 8 ∨ (l15).isEmpty = true) ∧ ((none : Option Nat) = none ∨ (none : Option Nat) = some n17) ∧ true = true) then
 (bd (app 36 8 (S.own 36 8 []) (((l15).take n17).drop 0)) fun l18 =>
 (if (decide (((l18).length : Int) > 0)) then
 (bd (bop prog .rem 3 (V.int .i64 (IntKind.i64.wrap x6)) (V.int .i64 ((l18).length : Int))) fun v19 =>
 (bdS (nv v19) fun n20 =>
 (if (8 = 8 ∧ n20 < (l18).length ∧ (some 66 : Option Nat) ≠ some 20) then
 (bd (l18)[n20]? fun es21 =>
 (bd (bop prog .rem 3 (V.int .i64 (IntKind.i64.wrap (IntKind.u8.wrap (Int.tdiv x6 7)))) (V.int .i64 ((((l18).set n20 (setR es21 5 [(V.int .i32 (Int.tmod x7 40))]))).length : Int))) fun v22 =>
 (bdS (nv v22) fun n23 =>
 (if (8 = 8 ∧ n23 < (((l18).set n20 (setR es21 5 [(V.int .i32 (Int.tmod x7 40))]))).length ∧ (some 79 : Option Nat) ≠ some 20) then
 (bd (((l18).set n20 (setR es21 5 [(V.int .i32 (Int.tmod x7 40))])))[n23]? fun es24 =>
 (bdS (nv (V.int .i64 (if 4 < ((x2).length : Int) then 4 else ((x2).length : Int)))) fun n25 =>
 (if (0 ≤ n25 ∧ n25 ≤ (x2).length ∧ (8 = 8 ∨ (x2).isEmpty = true) ∧ ((none : Option Nat) = none ∨ (none : Option Nat) = some n25) ∧ true = true) then
 (cl (call n 13 [] h9) (fun r26 h27 =>
 (one1 r26 fun v29 =>
 (bv v29 fun b30 => if b30 then
 (cl (call n 16 [(V.int .u8 x0), (V.int .i64 x1), (V.sl 8 (((x2).take n25).drop 0) false)] h27) (fun r31 h32 =>
 (one1 r31 fun v34 =>
 (bv v34 fun b35 => if b35 then
 (cl (call n 16 [(V.int .u8 (IntKind.u8.wrap (1 + (Int.tmod x0 3)))), (V.int .i64 (IntKind.i64.wrap (1 + (IntKind.i64.wrap (Int.tmod x3 5))))), (V.sl 8 (((l15).take n17).drop 0) false)] h32) (fun r36 h37 =>
 (one1 r36 fun v39 =>
 (bv v39 fun b40 => if b40 then
 (cl (call n 16 [(V.int .u8 (IntKind.u8.wrap (1 + (Int.tmod x0 3)))), (V.int .i64 (IntKind.i64.wrap (1 + (IntKind.i64.wrap (Int.tmod x3 5))))), (V.sl 8 ((((l18).set n20 (setR es21 5 [(V.int .i32 (Int.tmod x7 40))]))).set n23 (setR es24 7 [(V.int .i64 (IntKind.i64.wrap (Int.tmod x7 30)))])) false)] h37) (fun r41 h42 =>
 (one1 r41 fun v44 =>
 some (Res.ret [v44], h42))) (fun z43 h42 => some (Res.pan z43, h42)))
 else
 some (Res.ret [(V.bool false)], h37)))) (fun z38 h37 => some (Res.pan z38, h37)))
 else
 some (Res.ret [(V.bool false)], h32)))) (fun z33 h32 => some (Res.pan z33, h32)))
 else
 some (Res.ret [(V.bool false)], h27)))) (fun z28 h27 => some (Res.pan z28, h27))) else none))) else none)))) else none)))
 else
 (bdS (nv (V.int .i64 (if 4 < ((x2).length : Int) then 4 else ((x2).length : Int)))) fun n45 =>
 (if (0 ≤ n45 ∧ n45 ≤ (x2).length ∧ (8 = 8 ∨ (x2).isEmpty = true) ∧ ((none : Option Nat) = none ∨ (none : Option Nat) = some n45) ∧ true = true) then
 (cl (call n 13 [] h9) (fun r46 h47 =>
 (one1 r46 fun v49 =>
 (bv v49 fun b50 => if b50 then
 (cl (call n 16 [(V.int .u8 x0), (V.int .i64 x1), (V.sl 8 (((x2).take n45).drop 0) false)] h47) (fun r51 h52 =>
 (one1 r51 fun v54 =>
 (bv v54 fun b55 => if b55 then
 (cl (call n 16 [(V.int .u8 (IntKind.u8.wrap (1 + (Int.tmod x0 3)))), (V.int .i64 (IntKind.i64.wrap (1 + (IntKind.i64.wrap (Int.tmod x3 5))))), (V.sl 8 (((l15).take n17).drop 0) false)] h52) (fun r56 h57 =>
 (one1 r56 fun v59 =>
 (bv v59 fun b60 => if b60 then
 (cl (call n 16 [(V.int .u8 (IntKind.u8.wrap (1 + (Int.tmod x0 3)))), (V.int .i64 (IntKind.i64.wrap (1 + (IntKind.i64.wrap (Int.tmod x3 5))))), (V.sl 8 l18 false)] h57) (fun r61 h62 =>
 (one1 r61 fun v64 =>
 some (Res.ret [v64], h62))) (fun z63 h62 => some (Res.pan z63, h62)))
 else
 some (Res.ret [(V.bool false)], h57)))) (fun z58 h57 => some (Res.pan z58, h57)))
 else
 some (Res.ret [(V.bool false)], h52)))) (fun z53 h52 => some (Res.pan z53, h52)))
 else
 some (Res.ret [(V.bool false)], h47)))) (fun z48 h47 => some (Res.pan z48, h47))) else none)))) else none))))))) (fun z10 h9 => some (Res.pan z10, h9)))))
theorem lawFinds_eq (n : Nat) (x0 : Int) (x1 : Int) (x2 : List (List V)) (x2b : Bool) (x3 : Int) (x4 : List (List V)) (x4b : Bool) (x5 : List (List V)) (x5b : Bool) (x6 : Int) (x7 : Int) (h : Heap) : call (n + 1) 4 [(V.int .u8 x0), (V.int .i64 x1), (V.sl 8 x2 x2b), (V.int .u8 x3), (V.sl 1 x4 x4b), (V.sl 1 x5 x5b), (V.int .u8 x6), (V.int .i32 x7)] h = gcw [(V.int .u8 x0), (V.int .i64 x1), (V.sl 8 x2 x2b), (V.int .u8 x3), (V.sl 1 x4 x4b), (V.sl 1 x5 x5b), (V.int .u8 x6), (V.int .i32 x7)] (lawFinds n x0 x1 x2 x2b x3 x4 x4b x5 x5b x6 x7) h := by kernel_rfl
end Go.Proofs.Try
