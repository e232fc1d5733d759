import Derived.Test.YtjnjofillhdffaaLwd
/-! slices.SortStableFunc at []int, and what it calls: PRINTED BY A PROGRAM OF MINE (lift4.lean) -/
set_option linter.unusedVariables false
namespace Go.Proofs.Try
open Go.L
set_option maxRecDepth 100000
noncomputable def lSwap_l0 (n : Nat) (a : Int) (b : Int) (k : Int) (st1 : List V) (hh2 : Heap) (next3 : List V → Heap → Option (Res × Heap)) : Option (Res × Heap) :=
 (bd (bop prog .lss 3 (gv st1 1) (V.int .i64 k)) fun v4 =>
 (bv v4 fun b5 => if b5 then
 (bd (bop prog .add 3 (V.int .i64 a) (gv st1 1)) fun v6 =>
 (bd (bop prog .add 3 (V.int .i64 b) (gv st1 1)) fun v7 =>
 (bd (bop prog .add 3 (V.int .i64 b) (gv st1 1)) fun v8 =>
 (bdS (nv v8) fun n9 =>
 (if (1 = 1 ∧ n9 < ((lsl (gv st1 0))).length ∧ (some 28 : Option Nat) ≠ some 0) then
 (bd ((lsl (gv st1 0)))[n9]? fun es10 =>
 (bd (es10)[0]? fun v11 =>
 (bd (bop prog .add 3 (V.int .i64 a) (gv st1 1)) fun v12 =>
 (bdS (nv v12) fun n13 =>
 (if (1 = 1 ∧ n13 < ((lsl (gv st1 0))).length ∧ (some 34 : Option Nat) ≠ some 0) then
 (bd ((lsl (gv st1 0)))[n13]? fun es14 =>
 (bd (es14)[0]? fun v15 =>
 (bdS (nv v6) fun n16 =>
 (if (1 = 1 ∧ n16 < ((lsl (gv st1 0))).length ∧ (some 36 : Option Nat) ≠ some 0) then
 (if ((V.cells v11)).length = 1 then
 (if (1 = 1 ∧ 0 < 1 ∧ 0 + ((V.cells v11)).length ≤ 1) then
 (bd ((lsl (gv st1 0)))[n16]? fun es17 =>
 (bdS (nv v7) fun n18 =>
 (if (1 = 1 ∧ n18 < ((((lsl (gv st1 0))).set n16 (setR es17 0 (V.cells v11)))).length ∧ (some 37 : Option Nat) ≠ some 0) then
 (if ((V.cells v15)).length = 1 then
 (if (1 = 1 ∧ 0 < 1 ∧ 0 + ((V.cells v15)).length ≤ 1) then
 (bd ((((lsl (gv st1 0))).set n16 (setR es17 0 (V.cells v11))))[n18]? fun es19 =>
 (bd (bop prog .add 3 (gv st1 1) (V.int .i64 1)) fun v20 =>
 (next3 [(V.sl 1 (((((lsl (gv st1 0))).set n16 (setR es17 0 (V.cells v11)))).set n18 (setR es19 0 (V.cells v15))) false), v20] hh2))) else none) else none) else none))) else none) else none) else none)))) else none))))) else none)))))
 else
 some (Res.ret (V.sl 1 (lsl (gv st1 0)) false :: []), hh2)))
noncomputable def lSwap (n : Nat) (l : List (List V)) (a : Int) (b : Int) (k : Int) (c : V) (h : Heap) : Option (Res × Heap) :=
 (loopx n (lSwap_l0 n a b k) [(V.sl 1 l false), (V.int .i64 0)] h)
theorem lSwap_eq (n : Nat) (l : List (List V)) (a : Int) (b : Int) (k : Int) (c : V) (h : Heap) : call (n + 1) 96 [(V.sl 1 l false), (V.int .i64 a), (V.int .i64 b), (V.int .i64 k), c] h = lSwap n l a b k c h := by kernel_rfl
noncomputable def lRot_l0 (n : Nat) (m : Int) (c : V) (st1 : List V) (hh2 : Heap) (next3 : List V → Heap → Option (Res × Heap)) : Option (Res × Heap) :=
 (bd (bop prog .neq 3 (gv st1 1) (gv st1 2)) fun v4 =>
 (bv v4 fun b5 => if b5 then
 (bd (bop prog .gtr 3 (gv st1 1) (gv st1 2)) fun v6 =>
 (bv v6 fun b7 => if b7 then
 (bd (bop prog .sub 3 (V.int .i64 m) (gv st1 1)) fun v8 =>
 (clm (call n 96 (V.sl 1 (lsl (gv st1 0)) false :: [v8, (V.int .i64 m), (gv st1 2), c]) hh2) 1 fun l9 r10 h11 =>
 (bd (bop prog .sub 3 (gv st1 1) (gv st1 2)) fun v12 =>
 (next3 [(V.sl 1 l9 false), v12, (gv st1 2)] h11))))
 else
 (bd (bop prog .sub 3 (V.int .i64 m) (gv st1 1)) fun v13 =>
 (bd (bop prog .add 3 (V.int .i64 m) (gv st1 2)) fun v14 =>
 (bd (bop prog .sub 3 v14 (gv st1 1)) fun v15 =>
 (clm (call n 96 (V.sl 1 (lsl (gv st1 0)) false :: [v13, v15, (gv st1 1), c]) hh2) 1 fun l16 r17 h18 =>
 (bd (bop prog .sub 3 (gv st1 2) (gv st1 1)) fun v19 =>
 (next3 [(V.sl 1 l16 false), (gv st1 1), v19] h18))))))))
 else
 (bd (bop prog .sub 3 (V.int .i64 m) (gv st1 1)) fun v20 =>
 (clm (call n 96 (V.sl 1 (lsl (gv st1 0)) false :: [v20, (V.int .i64 m), (gv st1 1), c]) hh2) 1 fun l21 r22 h23 =>
 some (Res.ret (V.sl 1 l21 false :: []), h23)))))
noncomputable def lRot (n : Nat) (l : List (List V)) (a : Int) (m : Int) (b : Int) (c : V) (h : Heap) : Option (Res × Heap) :=
 (loopx n (lRot_l0 n m c) [(V.sl 1 l false), (V.int .i64 (IntKind.i64.wrap (m - a))), (V.int .i64 (IntKind.i64.wrap (b - m)))] h)
theorem lRot_eq (n : Nat) (l : List (List V)) (a : Int) (m : Int) (b : Int) (c : V) (h : Heap) : call (n + 1) 95 [(V.sl 1 l false), (V.int .i64 a), (V.int .i64 m), (V.int .i64 b), c] h = lRot n l a m b c h := by kernel_rfl
noncomputable def lSym_l29 (n : Nat) (st1 : List V) (st30 : List V) (hh31 : Heap) (next32 : List V → Heap → Option (Res × Heap)) : Option (Res × Heap) :=
 (bd (bop prog .sub 3 (gv st1 1) (V.int .i64 1)) fun v33 =>
 (bd (bop prog .lss 3 (gv st30 1) v33) fun v34 =>
 (bv v34 fun b35 => if b35 then
 (bd (bop prog .add 3 (gv st30 1) (V.int .i64 1)) fun v36 =>
 (bd (bop prog .add 3 (gv st30 1) (V.int .i64 1)) fun v37 =>
 (bdS (nv v37) fun n38 =>
 (if (1 = 1 ∧ n38 < ((lsl (gv st30 0))).length ∧ (some 69 : Option Nat) ≠ some 0) then
 (bd ((lsl (gv st30 0)))[n38]? fun es39 =>
 (bd (es39)[0]? fun v40 =>
 (bdS (nv (gv st30 1)) fun n41 =>
 (if (1 = 1 ∧ n41 < ((lsl (gv st30 0))).length ∧ (some 73 : Option Nat) ≠ some 0) then
 (bd ((lsl (gv st30 0)))[n41]? fun es42 =>
 (bd (es42)[0]? fun v43 =>
 (bdS (nv (gv st30 1)) fun n44 =>
 (if (1 = 1 ∧ n44 < ((lsl (gv st30 0))).length ∧ (some 75 : Option Nat) ≠ some 0) then
 (if ((V.cells v40)).length = 1 then
 (if (1 = 1 ∧ 0 < 1 ∧ 0 + ((V.cells v40)).length ≤ 1) then
 (bd ((lsl (gv st30 0)))[n44]? fun es45 =>
 (bdS (nv v36) fun n46 =>
 (if (1 = 1 ∧ n46 < ((((lsl (gv st30 0))).set n44 (setR es45 0 (V.cells v40)))).length ∧ (some 76 : Option Nat) ≠ some 0) then
 (if ((V.cells v43)).length = 1 then
 (if (1 = 1 ∧ 0 < 1 ∧ 0 + ((V.cells v43)).length ≤ 1) then
 (bd ((((lsl (gv st30 0))).set n44 (setR es45 0 (V.cells v40))))[n46]? fun es47 =>
 (bd (bop prog .add 3 (gv st30 1) (V.int .i64 1)) fun v48 =>
 (next32 [(V.sl 1 (((((lsl (gv st30 0))).set n44 (setR es45 0 (V.cells v40)))).set n46 (setR es47 0 (V.cells v43))) false), v48] hh31))) else none) else none) else none))) else none) else none) else none)))) else none)))) else none))))
 else
 some (Res.ret (V.sl 1 (lsl (gv st30 0)) false :: []), hh31))))
noncomputable def lSym_l0 (n : Nat) (a : Int) (c : V) (st1 : List V) (hh2 : Heap) (next3 : List V → Heap → Option (Res × Heap)) : Option (Res × Heap) :=
 (bd (bop prog .lss 3 (gv st1 1) (gv st1 2)) fun v4 =>
 (bv v4 fun b5 => if b5 then
 (bd (bop prog .add 3 (gv st1 1) (gv st1 2)) fun v6 =>
 (bd (cvt prog 3 113 v6) fun v7 =>
 (bd (bop prog .shr 113 v7 (V.int .u64 1)) fun v8 =>
 (bd (cvt prog 113 3 v8) fun v9 =>
 (bdS (nv v9) fun n10 =>
 (if (1 = 1 ∧ n10 < ((lsl (gv st1 0))).length ∧ (some 43 : Option Nat) ≠ some 0) then
 (bd ((lsl (gv st1 0)))[n10]? fun es11 =>
 (bd (es11)[0]? fun v12 =>
 (bdS (nv (V.int .i64 a)) fun n13 =>
 (if (1 = 1 ∧ n13 < ((lsl (gv st1 0))).length ∧ (some 47 : Option Nat) ≠ some 0) then
 (bd ((lsl (gv st1 0)))[n13]? fun es14 =>
 (bd (es14)[0]? fun v15 =>
 (fnK c fun f16 c17 => if (okV prog 3 f16 = true) then (if keepS f16 then
 (cl (call n f16 ([v12, v15] ++ c17) hh2) (fun r18 h19 =>
 (one1 r18 fun v21 =>
 (bd (bop prog .lss 3 v21 (V.int .i64 0)) fun v22 =>
 (bv v22 fun b23 => if b23 then
 (bd (bop prog .add 3 v9 (V.int .i64 1)) fun v24 =>
 (next3 [(V.sl 1 (lsl (gv st1 0)) false), v24, (gv st1 2)] h19))
 else
 (next3 [(V.sl 1 (lsl (gv st1 0)) false), (gv st1 1), v9] h19))))) (fun z20 h19 => none))
 else if pureS f16 then
 (cl (call n f16 ([v12, v15] ++ c17) hh2) (fun r18 h19 => if V.simple.simpleL r18 then
 (one1 r18 fun v25 =>
 (bd (bop prog .lss 3 v25 (V.int .i64 0)) fun v26 =>
 (bv v26 fun b27 => if b27 then
 (bd (bop prog .add 3 v9 (V.int .i64 1)) fun v28 =>
 (next3 [(V.sl 1 (lsl (gv st1 0)) false), v28, (gv st1 2)] h19))
 else
 (next3 [(V.sl 1 (lsl (gv st1 0)) false), (gv st1 1), v9] h19)))) else none) (fun z20 h19 => if z20.simple then none else none))
 else none) else none))) else none)))) else none))))))
 else
 (loopx n (lSym_l29 n st1) [(V.sl 1 (lsl (gv st1 0)) false), (V.int .i64 a)] hh2)))
noncomputable def lSym_l80 (n : Nat) (st50 : List V) (st81 : List V) (hh82 : Heap) (next83 : List V → Heap → Option (Res × Heap)) : Option (Res × Heap) :=
 (bd (bop prog .gtr 3 (gv st81 1) (gv st50 1)) fun v84 =>
 (bv v84 fun b85 => if b85 then
 (bd (bop prog .sub 3 (gv st81 1) (V.int .i64 1)) fun v86 =>
 (bd (bop prog .sub 3 (gv st81 1) (V.int .i64 1)) fun v87 =>
 (bdS (nv v87) fun n88 =>
 (if (1 = 1 ∧ n88 < ((lsl (gv st81 0))).length ∧ (some 121 : Option Nat) ≠ some 0) then
 (bd ((lsl (gv st81 0)))[n88]? fun es89 =>
 (bd (es89)[0]? fun v90 =>
 (bdS (nv (gv st81 1)) fun n91 =>
 (if (1 = 1 ∧ n91 < ((lsl (gv st81 0))).length ∧ (some 125 : Option Nat) ≠ some 0) then
 (bd ((lsl (gv st81 0)))[n91]? fun es92 =>
 (bd (es92)[0]? fun v93 =>
 (bdS (nv (gv st81 1)) fun n94 =>
 (if (1 = 1 ∧ n94 < ((lsl (gv st81 0))).length ∧ (some 127 : Option Nat) ≠ some 0) then
 (if ((V.cells v90)).length = 1 then
 (if (1 = 1 ∧ 0 < 1 ∧ 0 + ((V.cells v90)).length ≤ 1) then
 (bd ((lsl (gv st81 0)))[n94]? fun es95 =>
 (bdS (nv v86) fun n96 =>
 (if (1 = 1 ∧ n96 < ((((lsl (gv st81 0))).set n94 (setR es95 0 (V.cells v90)))).length ∧ (some 128 : Option Nat) ≠ some 0) then
 (if ((V.cells v93)).length = 1 then
 (if (1 = 1 ∧ 0 < 1 ∧ 0 + ((V.cells v93)).length ≤ 1) then
 (bd ((((lsl (gv st81 0))).set n94 (setR es95 0 (V.cells v90))))[n96]? fun es97 =>
 (bd (bop prog .sub 3 (gv st81 1) (V.int .i64 1)) fun v98 =>
 (next83 [(V.sl 1 (((((lsl (gv st81 0))).set n94 (setR es95 0 (V.cells v90)))).set n96 (setR es97 0 (V.cells v93))) false), v98] hh82))) else none) else none) else none))) else none) else none) else none)))) else none)))) else none))))
 else
 some (Res.ret (V.sl 1 (lsl (gv st81 0)) false :: []), hh82)))
noncomputable def lSym_l49 (n : Nat) (m : Int) (c : V) (st50 : List V) (hh51 : Heap) (next52 : List V → Heap → Option (Res × Heap)) : Option (Res × Heap) :=
 (bd (bop prog .lss 3 (gv st50 1) (gv st50 2)) fun v53 =>
 (bv v53 fun b54 => if b54 then
 (bd (bop prog .add 3 (gv st50 1) (gv st50 2)) fun v55 =>
 (bd (cvt prog 3 113 v55) fun v56 =>
 (bd (bop prog .shr 113 v56 (V.int .u64 1)) fun v57 =>
 (bd (cvt prog 113 3 v57) fun v58 =>
 (bdS (nv (V.int .i64 m)) fun n59 =>
 (if (1 = 1 ∧ n59 < ((lsl (gv st50 0))).length ∧ (some 95 : Option Nat) ≠ some 0) then
 (bd ((lsl (gv st50 0)))[n59]? fun es60 =>
 (bd (es60)[0]? fun v61 =>
 (bdS (nv v58) fun n62 =>
 (if (1 = 1 ∧ n62 < ((lsl (gv st50 0))).length ∧ (some 99 : Option Nat) ≠ some 0) then
 (bd ((lsl (gv st50 0)))[n62]? fun es63 =>
 (bd (es63)[0]? fun v64 =>
 (fnK c fun f65 c66 => if (okV prog 3 f65 = true) then (if keepS f65 then
 (cl (call n f65 ([v61, v64] ++ c66) hh51) (fun r67 h68 =>
 (one1 r67 fun v70 =>
 (bd (bop prog .lss 3 v70 (V.int .i64 0)) fun v71 =>
 (bd (uop .not v71) fun v72 =>
 (bv v72 fun b73 => if b73 then
 (bd (bop prog .add 3 v58 (V.int .i64 1)) fun v74 =>
 (next52 [(V.sl 1 (lsl (gv st50 0)) false), v74, (gv st50 2)] h68))
 else
 (next52 [(V.sl 1 (lsl (gv st50 0)) false), (gv st50 1), v58] h68)))))) (fun z69 h68 => none))
 else if pureS f65 then
 (cl (call n f65 ([v61, v64] ++ c66) hh51) (fun r67 h68 => if V.simple.simpleL r67 then
 (one1 r67 fun v75 =>
 (bd (bop prog .lss 3 v75 (V.int .i64 0)) fun v76 =>
 (bd (uop .not v76) fun v77 =>
 (bv v77 fun b78 => if b78 then
 (bd (bop prog .add 3 v58 (V.int .i64 1)) fun v79 =>
 (next52 [(V.sl 1 (lsl (gv st50 0)) false), v79, (gv st50 2)] h68))
 else
 (next52 [(V.sl 1 (lsl (gv st50 0)) false), (gv st50 1), v58] h68))))) else none) (fun z69 h68 => if z69.simple then none else none))
 else none) else none))) else none)))) else none))))))
 else
 (loopx n (lSym_l80 n st50) [(V.sl 1 (lsl (gv st50 0)) false), (V.int .i64 m)] hh51)))
noncomputable def lSym_l106 (n : Nat) (a : Int) (m : Int) (b : Int) (c : V) (v100 : V) (v101 : V) (v105 : V) (st107 : List V) (hh108 : Heap) (next109 : List V → Heap → Option (Res × Heap)) : Option (Res × Heap) :=
 (bd (bop prog .lss 3 (gv st107 1) (gv st107 2)) fun v110 =>
 (bv v110 fun b111 => if b111 then
 (bd (bop prog .add 3 (gv st107 1) (gv st107 2)) fun v112 =>
 (bd (cvt prog 3 113 v112) fun v113 =>
 (bd (bop prog .shr 113 v113 (V.int .u64 1)) fun v114 =>
 (bd (cvt prog 113 3 v114) fun v115 =>
 (bd (bop prog .sub 3 v105 v115) fun v116 =>
 (bdS (nv v116) fun n117 =>
 (if (1 = 1 ∧ n117 < ((lsl (gv st107 0))).length ∧ (some 163 : Option Nat) ≠ some 0) then
 (bd ((lsl (gv st107 0)))[n117]? fun es118 =>
 (bd (es118)[0]? fun v119 =>
 (bdS (nv v115) fun n120 =>
 (if (1 = 1 ∧ n120 < ((lsl (gv st107 0))).length ∧ (some 167 : Option Nat) ≠ some 0) then
 (bd ((lsl (gv st107 0)))[n120]? fun es121 =>
 (bd (es121)[0]? fun v122 =>
 (fnK c fun f123 c124 => if (okV prog 3 f123 = true) then (if keepS f123 then
 (cl (call n f123 ([v119, v122] ++ c124) hh108) (fun r125 h126 =>
 (one1 r125 fun v128 =>
 (bd (bop prog .lss 3 v128 (V.int .i64 0)) fun v129 =>
 (bd (uop .not v129) fun v130 =>
 (bv v130 fun b131 => if b131 then
 (bd (bop prog .add 3 v115 (V.int .i64 1)) fun v132 =>
 (next109 [(V.sl 1 (lsl (gv st107 0)) false), v132, (gv st107 2)] h126))
 else
 (next109 [(V.sl 1 (lsl (gv st107 0)) false), (gv st107 1), v115] h126)))))) (fun z127 h126 => none))
 else if pureS f123 then
 (cl (call n f123 ([v119, v122] ++ c124) hh108) (fun r125 h126 => if V.simple.simpleL r125 then
 (one1 r125 fun v133 =>
 (bd (bop prog .lss 3 v133 (V.int .i64 0)) fun v134 =>
 (bd (uop .not v134) fun v135 =>
 (bv v135 fun b136 => if b136 then
 (bd (bop prog .add 3 v115 (V.int .i64 1)) fun v137 =>
 (next109 [(V.sl 1 (lsl (gv st107 0)) false), v137, (gv st107 2)] h126))
 else
 (next109 [(V.sl 1 (lsl (gv st107 0)) false), (gv st107 1), v115] h126))))) else none) (fun z127 h126 => if z127.simple then none else none))
 else none) else none))) else none)))) else none)))))))
 else
 (bd (bop prog .sub 3 v101 (gv st107 1)) fun v138 =>
 (bd (bop prog .lss 3 (gv st107 1) (V.int .i64 m)) fun v139 =>
 (bv v139 fun b140 => if b140 then
 (bd (bop prog .lss 3 (V.int .i64 m) v138) fun v141 =>
 (bv v141 fun b142 => if b142 then
 (clm (call n 95 (V.sl 1 (lsl (gv st107 0)) false :: [(gv st107 1), (V.int .i64 m), v138, c]) hh108) 1 fun l143 r144 h145 =>
 (bd (bop prog .lss 3 (V.int .i64 a) (gv st107 1)) fun v146 =>
 (bv v146 fun b147 => if b147 then
 (bd (bop prog .lss 3 (gv st107 1) v100) fun v148 =>
 (bv v148 fun b149 => if b149 then
 (clm (call n 93 (V.sl 1 l143 false :: [(V.int .i64 a), (gv st107 1), v100, c]) h145) 1 fun l150 r151 h152 =>
 (bd (bop prog .lss 3 v100 v138) fun v153 =>
 (bv v153 fun b154 => if b154 then
 (bd (bop prog .lss 3 v138 (V.int .i64 b)) fun v155 =>
 (bv v155 fun b156 => if b156 then
 (clm (call n 93 (V.sl 1 l150 false :: [v100, v138, (V.int .i64 b), c]) h152) 1 fun l157 r158 h159 =>
 some (Res.ret (V.sl 1 l157 false :: []), h159))
 else
 some (Res.ret (V.sl 1 l150 false :: []), h152)))
 else
 some (Res.ret (V.sl 1 l150 false :: []), h152))))
 else
 (bd (bop prog .lss 3 v100 v138) fun v160 =>
 (bv v160 fun b161 => if b161 then
 (bd (bop prog .lss 3 v138 (V.int .i64 b)) fun v162 =>
 (bv v162 fun b163 => if b163 then
 (clm (call n 93 (V.sl 1 l143 false :: [v100, v138, (V.int .i64 b), c]) h145) 1 fun l164 r165 h166 =>
 some (Res.ret (V.sl 1 l164 false :: []), h166))
 else
 some (Res.ret (V.sl 1 l143 false :: []), h145)))
 else
 some (Res.ret (V.sl 1 l143 false :: []), h145)))))
 else
 (bd (bop prog .lss 3 v100 v138) fun v167 =>
 (bv v167 fun b168 => if b168 then
 (bd (bop prog .lss 3 v138 (V.int .i64 b)) fun v169 =>
 (bv v169 fun b170 => if b170 then
 (clm (call n 93 (V.sl 1 l143 false :: [v100, v138, (V.int .i64 b), c]) h145) 1 fun l171 r172 h173 =>
 some (Res.ret (V.sl 1 l171 false :: []), h173))
 else
 some (Res.ret (V.sl 1 l143 false :: []), h145)))
 else
 some (Res.ret (V.sl 1 l143 false :: []), h145))))))
 else
 (bd (bop prog .lss 3 (V.int .i64 a) (gv st107 1)) fun v174 =>
 (bv v174 fun b175 => if b175 then
 (bd (bop prog .lss 3 (gv st107 1) v100) fun v176 =>
 (bv v176 fun b177 => if b177 then
 (clm (call n 93 (V.sl 1 (lsl (gv st107 0)) false :: [(V.int .i64 a), (gv st107 1), v100, c]) hh108) 1 fun l178 r179 h180 =>
 (bd (bop prog .lss 3 v100 v138) fun v181 =>
 (bv v181 fun b182 => if b182 then
 (bd (bop prog .lss 3 v138 (V.int .i64 b)) fun v183 =>
 (bv v183 fun b184 => if b184 then
 (clm (call n 93 (V.sl 1 l178 false :: [v100, v138, (V.int .i64 b), c]) h180) 1 fun l185 r186 h187 =>
 some (Res.ret (V.sl 1 l185 false :: []), h187))
 else
 some (Res.ret (V.sl 1 l178 false :: []), h180)))
 else
 some (Res.ret (V.sl 1 l178 false :: []), h180))))
 else
 (bd (bop prog .lss 3 v100 v138) fun v188 =>
 (bv v188 fun b189 => if b189 then
 (bd (bop prog .lss 3 v138 (V.int .i64 b)) fun v190 =>
 (bv v190 fun b191 => if b191 then
 (clm (call n 93 (V.sl 1 (lsl (gv st107 0)) false :: [v100, v138, (V.int .i64 b), c]) hh108) 1 fun l192 r193 h194 =>
 some (Res.ret (V.sl 1 l192 false :: []), h194))
 else
 some (Res.ret (V.sl 1 (lsl (gv st107 0)) false :: []), hh108)))
 else
 some (Res.ret (V.sl 1 (lsl (gv st107 0)) false :: []), hh108)))))
 else
 (bd (bop prog .lss 3 v100 v138) fun v195 =>
 (bv v195 fun b196 => if b196 then
 (bd (bop prog .lss 3 v138 (V.int .i64 b)) fun v197 =>
 (bv v197 fun b198 => if b198 then
 (clm (call n 93 (V.sl 1 (lsl (gv st107 0)) false :: [v100, v138, (V.int .i64 b), c]) hh108) 1 fun l199 r200 h201 =>
 some (Res.ret (V.sl 1 l199 false :: []), h201))
 else
 some (Res.ret (V.sl 1 (lsl (gv st107 0)) false :: []), hh108)))
 else
 some (Res.ret (V.sl 1 (lsl (gv st107 0)) false :: []), hh108)))))))
 else
 (bd (bop prog .lss 3 (V.int .i64 a) (gv st107 1)) fun v202 =>
 (bv v202 fun b203 => if b203 then
 (bd (bop prog .lss 3 (gv st107 1) v100) fun v204 =>
 (bv v204 fun b205 => if b205 then
 (clm (call n 93 (V.sl 1 (lsl (gv st107 0)) false :: [(V.int .i64 a), (gv st107 1), v100, c]) hh108) 1 fun l206 r207 h208 =>
 (bd (bop prog .lss 3 v100 v138) fun v209 =>
 (bv v209 fun b210 => if b210 then
 (bd (bop prog .lss 3 v138 (V.int .i64 b)) fun v211 =>
 (bv v211 fun b212 => if b212 then
 (clm (call n 93 (V.sl 1 l206 false :: [v100, v138, (V.int .i64 b), c]) h208) 1 fun l213 r214 h215 =>
 some (Res.ret (V.sl 1 l213 false :: []), h215))
 else
 some (Res.ret (V.sl 1 l206 false :: []), h208)))
 else
 some (Res.ret (V.sl 1 l206 false :: []), h208))))
 else
 (bd (bop prog .lss 3 v100 v138) fun v216 =>
 (bv v216 fun b217 => if b217 then
 (bd (bop prog .lss 3 v138 (V.int .i64 b)) fun v218 =>
 (bv v218 fun b219 => if b219 then
 (clm (call n 93 (V.sl 1 (lsl (gv st107 0)) false :: [v100, v138, (V.int .i64 b), c]) hh108) 1 fun l220 r221 h222 =>
 some (Res.ret (V.sl 1 l220 false :: []), h222))
 else
 some (Res.ret (V.sl 1 (lsl (gv st107 0)) false :: []), hh108)))
 else
 some (Res.ret (V.sl 1 (lsl (gv st107 0)) false :: []), hh108)))))
 else
 (bd (bop prog .lss 3 v100 v138) fun v223 =>
 (bv v223 fun b224 => if b224 then
 (bd (bop prog .lss 3 v138 (V.int .i64 b)) fun v225 =>
 (bv v225 fun b226 => if b226 then
 (clm (call n 93 (V.sl 1 (lsl (gv st107 0)) false :: [v100, v138, (V.int .i64 b), c]) hh108) 1 fun l227 r228 h229 =>
 some (Res.ret (V.sl 1 l227 false :: []), h229))
 else
 some (Res.ret (V.sl 1 (lsl (gv st107 0)) false :: []), hh108)))
 else
 some (Res.ret (V.sl 1 (lsl (gv st107 0)) false :: []), hh108))))))))))
noncomputable def lSym_l231 (n : Nat) (a : Int) (m : Int) (b : Int) (c : V) (v100 : V) (v101 : V) (v230 : V) (st232 : List V) (hh233 : Heap) (next234 : List V → Heap → Option (Res × Heap)) : Option (Res × Heap) :=
 (bd (bop prog .lss 3 (gv st232 1) (gv st232 2)) fun v235 =>
 (bv v235 fun b236 => if b236 then
 (bd (bop prog .add 3 (gv st232 1) (gv st232 2)) fun v237 =>
 (bd (cvt prog 3 113 v237) fun v238 =>
 (bd (bop prog .shr 113 v238 (V.int .u64 1)) fun v239 =>
 (bd (cvt prog 113 3 v239) fun v240 =>
 (bd (bop prog .sub 3 v230 v240) fun v241 =>
 (bdS (nv v241) fun n242 =>
 (if (1 = 1 ∧ n242 < ((lsl (gv st232 0))).length ∧ (some 163 : Option Nat) ≠ some 0) then
 (bd ((lsl (gv st232 0)))[n242]? fun es243 =>
 (bd (es243)[0]? fun v244 =>
 (bdS (nv v240) fun n245 =>
 (if (1 = 1 ∧ n245 < ((lsl (gv st232 0))).length ∧ (some 167 : Option Nat) ≠ some 0) then
 (bd ((lsl (gv st232 0)))[n245]? fun es246 =>
 (bd (es246)[0]? fun v247 =>
 (fnK c fun f248 c249 => if (okV prog 3 f248 = true) then (if keepS f248 then
 (cl (call n f248 ([v244, v247] ++ c249) hh233) (fun r250 h251 =>
 (one1 r250 fun v253 =>
 (bd (bop prog .lss 3 v253 (V.int .i64 0)) fun v254 =>
 (bd (uop .not v254) fun v255 =>
 (bv v255 fun b256 => if b256 then
 (bd (bop prog .add 3 v240 (V.int .i64 1)) fun v257 =>
 (next234 [(V.sl 1 (lsl (gv st232 0)) false), v257, (gv st232 2)] h251))
 else
 (next234 [(V.sl 1 (lsl (gv st232 0)) false), (gv st232 1), v240] h251)))))) (fun z252 h251 => none))
 else if pureS f248 then
 (cl (call n f248 ([v244, v247] ++ c249) hh233) (fun r250 h251 => if V.simple.simpleL r250 then
 (one1 r250 fun v258 =>
 (bd (bop prog .lss 3 v258 (V.int .i64 0)) fun v259 =>
 (bd (uop .not v259) fun v260 =>
 (bv v260 fun b261 => if b261 then
 (bd (bop prog .add 3 v240 (V.int .i64 1)) fun v262 =>
 (next234 [(V.sl 1 (lsl (gv st232 0)) false), v262, (gv st232 2)] h251))
 else
 (next234 [(V.sl 1 (lsl (gv st232 0)) false), (gv st232 1), v240] h251))))) else none) (fun z252 h251 => if z252.simple then none else none))
 else none) else none))) else none)))) else none)))))))
 else
 (bd (bop prog .sub 3 v101 (gv st232 1)) fun v263 =>
 (bd (bop prog .lss 3 (gv st232 1) (V.int .i64 m)) fun v264 =>
 (bv v264 fun b265 => if b265 then
 (bd (bop prog .lss 3 (V.int .i64 m) v263) fun v266 =>
 (bv v266 fun b267 => if b267 then
 (clm (call n 95 (V.sl 1 (lsl (gv st232 0)) false :: [(gv st232 1), (V.int .i64 m), v263, c]) hh233) 1 fun l268 r269 h270 =>
 (bd (bop prog .lss 3 (V.int .i64 a) (gv st232 1)) fun v271 =>
 (bv v271 fun b272 => if b272 then
 (bd (bop prog .lss 3 (gv st232 1) v100) fun v273 =>
 (bv v273 fun b274 => if b274 then
 (clm (call n 93 (V.sl 1 l268 false :: [(V.int .i64 a), (gv st232 1), v100, c]) h270) 1 fun l275 r276 h277 =>
 (bd (bop prog .lss 3 v100 v263) fun v278 =>
 (bv v278 fun b279 => if b279 then
 (bd (bop prog .lss 3 v263 (V.int .i64 b)) fun v280 =>
 (bv v280 fun b281 => if b281 then
 (clm (call n 93 (V.sl 1 l275 false :: [v100, v263, (V.int .i64 b), c]) h277) 1 fun l282 r283 h284 =>
 some (Res.ret (V.sl 1 l282 false :: []), h284))
 else
 some (Res.ret (V.sl 1 l275 false :: []), h277)))
 else
 some (Res.ret (V.sl 1 l275 false :: []), h277))))
 else
 (bd (bop prog .lss 3 v100 v263) fun v285 =>
 (bv v285 fun b286 => if b286 then
 (bd (bop prog .lss 3 v263 (V.int .i64 b)) fun v287 =>
 (bv v287 fun b288 => if b288 then
 (clm (call n 93 (V.sl 1 l268 false :: [v100, v263, (V.int .i64 b), c]) h270) 1 fun l289 r290 h291 =>
 some (Res.ret (V.sl 1 l289 false :: []), h291))
 else
 some (Res.ret (V.sl 1 l268 false :: []), h270)))
 else
 some (Res.ret (V.sl 1 l268 false :: []), h270)))))
 else
 (bd (bop prog .lss 3 v100 v263) fun v292 =>
 (bv v292 fun b293 => if b293 then
 (bd (bop prog .lss 3 v263 (V.int .i64 b)) fun v294 =>
 (bv v294 fun b295 => if b295 then
 (clm (call n 93 (V.sl 1 l268 false :: [v100, v263, (V.int .i64 b), c]) h270) 1 fun l296 r297 h298 =>
 some (Res.ret (V.sl 1 l296 false :: []), h298))
 else
 some (Res.ret (V.sl 1 l268 false :: []), h270)))
 else
 some (Res.ret (V.sl 1 l268 false :: []), h270))))))
 else
 (bd (bop prog .lss 3 (V.int .i64 a) (gv st232 1)) fun v299 =>
 (bv v299 fun b300 => if b300 then
 (bd (bop prog .lss 3 (gv st232 1) v100) fun v301 =>
 (bv v301 fun b302 => if b302 then
 (clm (call n 93 (V.sl 1 (lsl (gv st232 0)) false :: [(V.int .i64 a), (gv st232 1), v100, c]) hh233) 1 fun l303 r304 h305 =>
 (bd (bop prog .lss 3 v100 v263) fun v306 =>
 (bv v306 fun b307 => if b307 then
 (bd (bop prog .lss 3 v263 (V.int .i64 b)) fun v308 =>
 (bv v308 fun b309 => if b309 then
 (clm (call n 93 (V.sl 1 l303 false :: [v100, v263, (V.int .i64 b), c]) h305) 1 fun l310 r311 h312 =>
 some (Res.ret (V.sl 1 l310 false :: []), h312))
 else
 some (Res.ret (V.sl 1 l303 false :: []), h305)))
 else
 some (Res.ret (V.sl 1 l303 false :: []), h305))))
 else
 (bd (bop prog .lss 3 v100 v263) fun v313 =>
 (bv v313 fun b314 => if b314 then
 (bd (bop prog .lss 3 v263 (V.int .i64 b)) fun v315 =>
 (bv v315 fun b316 => if b316 then
 (clm (call n 93 (V.sl 1 (lsl (gv st232 0)) false :: [v100, v263, (V.int .i64 b), c]) hh233) 1 fun l317 r318 h319 =>
 some (Res.ret (V.sl 1 l317 false :: []), h319))
 else
 some (Res.ret (V.sl 1 (lsl (gv st232 0)) false :: []), hh233)))
 else
 some (Res.ret (V.sl 1 (lsl (gv st232 0)) false :: []), hh233)))))
 else
 (bd (bop prog .lss 3 v100 v263) fun v320 =>
 (bv v320 fun b321 => if b321 then
 (bd (bop prog .lss 3 v263 (V.int .i64 b)) fun v322 =>
 (bv v322 fun b323 => if b323 then
 (clm (call n 93 (V.sl 1 (lsl (gv st232 0)) false :: [v100, v263, (V.int .i64 b), c]) hh233) 1 fun l324 r325 h326 =>
 some (Res.ret (V.sl 1 l324 false :: []), h326))
 else
 some (Res.ret (V.sl 1 (lsl (gv st232 0)) false :: []), hh233)))
 else
 some (Res.ret (V.sl 1 (lsl (gv st232 0)) false :: []), hh233)))))))
 else
 (bd (bop prog .lss 3 (V.int .i64 a) (gv st232 1)) fun v327 =>
 (bv v327 fun b328 => if b328 then
 (bd (bop prog .lss 3 (gv st232 1) v100) fun v329 =>
 (bv v329 fun b330 => if b330 then
 (clm (call n 93 (V.sl 1 (lsl (gv st232 0)) false :: [(V.int .i64 a), (gv st232 1), v100, c]) hh233) 1 fun l331 r332 h333 =>
 (bd (bop prog .lss 3 v100 v263) fun v334 =>
 (bv v334 fun b335 => if b335 then
 (bd (bop prog .lss 3 v263 (V.int .i64 b)) fun v336 =>
 (bv v336 fun b337 => if b337 then
 (clm (call n 93 (V.sl 1 l331 false :: [v100, v263, (V.int .i64 b), c]) h333) 1 fun l338 r339 h340 =>
 some (Res.ret (V.sl 1 l338 false :: []), h340))
 else
 some (Res.ret (V.sl 1 l331 false :: []), h333)))
 else
 some (Res.ret (V.sl 1 l331 false :: []), h333))))
 else
 (bd (bop prog .lss 3 v100 v263) fun v341 =>
 (bv v341 fun b342 => if b342 then
 (bd (bop prog .lss 3 v263 (V.int .i64 b)) fun v343 =>
 (bv v343 fun b344 => if b344 then
 (clm (call n 93 (V.sl 1 (lsl (gv st232 0)) false :: [v100, v263, (V.int .i64 b), c]) hh233) 1 fun l345 r346 h347 =>
 some (Res.ret (V.sl 1 l345 false :: []), h347))
 else
 some (Res.ret (V.sl 1 (lsl (gv st232 0)) false :: []), hh233)))
 else
 some (Res.ret (V.sl 1 (lsl (gv st232 0)) false :: []), hh233)))))
 else
 (bd (bop prog .lss 3 v100 v263) fun v348 =>
 (bv v348 fun b349 => if b349 then
 (bd (bop prog .lss 3 v263 (V.int .i64 b)) fun v350 =>
 (bv v350 fun b351 => if b351 then
 (clm (call n 93 (V.sl 1 (lsl (gv st232 0)) false :: [v100, v263, (V.int .i64 b), c]) hh233) 1 fun l352 r353 h354 =>
 some (Res.ret (V.sl 1 l352 false :: []), h354))
 else
 some (Res.ret (V.sl 1 (lsl (gv st232 0)) false :: []), hh233)))
 else
 some (Res.ret (V.sl 1 (lsl (gv st232 0)) false :: []), hh233))))))))))
noncomputable def lSym (n : Nat) (l : List (List V)) (a : Int) (m : Int) (b : Int) (c : V) (h : Heap) : Option (Res × Heap) :=
 (if ((IntKind.i64.wrap (m - a)) == 1) then
 (loopx n (lSym_l0 n a c) [(V.sl 1 l false), (V.int .i64 m), (V.int .i64 b)] h)
 else
 (if ((IntKind.i64.wrap (b - m)) == 1) then
 (loopx n (lSym_l49 n m c) [(V.sl 1 l false), (V.int .i64 a), (V.int .i64 m)] h)
 else
 (bd (bop prog .shr 113 (V.int .u64 (IntKind.u64.wrap (IntKind.i64.wrap (a + b)))) (V.int .u64 1)) fun v99 =>
 (bd (cvt prog 113 3 v99) fun v100 =>
 (bd (bop prog .add 3 v100 (V.int .i64 m)) fun v101 =>
 (bd (bop prog .gtr 3 (V.int .i64 m) v100) fun v102 =>
 (bv v102 fun b103 => if b103 then
 (bd (bop prog .sub 3 v101 (V.int .i64 b)) fun v104 =>
 (bd (bop prog .sub 3 v101 (V.int .i64 1)) fun v105 =>
 (loopx n (lSym_l106 n a m b c v100 v101 v105) [(V.sl 1 l false), v104, v100] h)))
 else
 (bd (bop prog .sub 3 v101 (V.int .i64 1)) fun v230 =>
 (loopx n (lSym_l231 n a m b c v100 v101 v230) [(V.sl 1 l false), (V.int .i64 a), (V.int .i64 m)] h)))))))))
theorem lSym_eq (n : Nat) (l : List (List V)) (a : Int) (m : Int) (b : Int) (c : V) (h : Heap) : call (n + 1) 93 [(V.sl 1 l false), (V.int .i64 a), (V.int .i64 m), (V.int .i64 b), c] h = lSym n l a m b c h := by kernel_rfl
noncomputable def lIns_l6 (n : Nat) (a : Int) (c : V) (st1 : List V) (next3 : List V → Heap → Option (Res × Heap)) (st7 : List V) (hh8 : Heap) (next9 : List V → Heap → Option (Res × Heap)) : Option (Res × Heap) :=
 (bd (bop prog .gtr 3 (gv st7 1) (V.int .i64 a)) fun v10 =>
 (bv v10 fun b11 => if b11 then
 (bdS (nv (gv st7 1)) fun n12 =>
 (if (1 = 1 ∧ n12 < ((lsl (gv st7 0))).length ∧ (some 25 : Option Nat) ≠ some 0) then
 (bd ((lsl (gv st7 0)))[n12]? fun es13 =>
 (bd (es13)[0]? fun v14 =>
 (bd (bop prog .sub 3 (gv st7 1) (V.int .i64 1)) fun v15 =>
 (bdS (nv v15) fun n16 =>
 (if (1 = 1 ∧ n16 < ((lsl (gv st7 0))).length ∧ (some 30 : Option Nat) ≠ some 0) then
 (bd ((lsl (gv st7 0)))[n16]? fun es17 =>
 (bd (es17)[0]? fun v18 =>
 (fnK c fun f19 c20 => if (okV prog 3 f19 = true) then (if keepS f19 then
 (cl (call n f19 ([v14, v18] ++ c20) hh8) (fun r21 h22 =>
 (one1 r21 fun v24 =>
 (bd (bop prog .lss 3 v24 (V.int .i64 0)) fun v25 =>
 (bv v25 fun b26 => if b26 then
 (bd (bop prog .sub 3 (gv st7 1) (V.int .i64 1)) fun v27 =>
 (bd (bop prog .sub 3 (gv st7 1) (V.int .i64 1)) fun v28 =>
 (bdS (nv v28) fun n29 =>
 (if (1 = 1 ∧ n29 < ((lsl (gv st7 0))).length ∧ (some 45 : Option Nat) ≠ some 0) then
 (bd ((lsl (gv st7 0)))[n29]? fun es30 =>
 (bd (es30)[0]? fun v31 =>
 (bdS (nv (gv st7 1)) fun n32 =>
 (if (1 = 1 ∧ n32 < ((lsl (gv st7 0))).length ∧ (some 49 : Option Nat) ≠ some 0) then
 (bd ((lsl (gv st7 0)))[n32]? fun es33 =>
 (bd (es33)[0]? fun v34 =>
 (bdS (nv (gv st7 1)) fun n35 =>
 (if (1 = 1 ∧ n35 < ((lsl (gv st7 0))).length ∧ (some 51 : Option Nat) ≠ some 0) then
 (if ((V.cells v31)).length = 1 then
 (if (1 = 1 ∧ 0 < 1 ∧ 0 + ((V.cells v31)).length ≤ 1) then
 (bd ((lsl (gv st7 0)))[n35]? fun es36 =>
 (bdS (nv v27) fun n37 =>
 (if (1 = 1 ∧ n37 < ((((lsl (gv st7 0))).set n35 (setR es36 0 (V.cells v31)))).length ∧ (some 52 : Option Nat) ≠ some 0) then
 (if ((V.cells v34)).length = 1 then
 (if (1 = 1 ∧ 0 < 1 ∧ 0 + ((V.cells v34)).length ≤ 1) then
 (bd ((((lsl (gv st7 0))).set n35 (setR es36 0 (V.cells v31))))[n37]? fun es38 =>
 (bd (bop prog .sub 3 (gv st7 1) (V.int .i64 1)) fun v39 =>
 (next9 [(V.sl 1 (((((lsl (gv st7 0))).set n35 (setR es36 0 (V.cells v31)))).set n37 (setR es38 0 (V.cells v34))) false), v39] h22))) else none) else none) else none))) else none) else none) else none)))) else none)))) else none))))
 else
 (bd (bop prog .add 3 (gv st1 1) (V.int .i64 1)) fun v40 =>
 (next3 [(V.sl 1 (lsl (gv st7 0)) false), v40] h22)))))) (fun z23 h22 => none))
 else if pureS f19 then
 (cl (call n f19 ([v14, v18] ++ c20) hh8) (fun r21 h22 => if V.simple.simpleL r21 then
 (one1 r21 fun v41 =>
 (bd (bop prog .lss 3 v41 (V.int .i64 0)) fun v42 =>
 (bv v42 fun b43 => if b43 then
 (bd (bop prog .sub 3 (gv st7 1) (V.int .i64 1)) fun v44 =>
 (bd (bop prog .sub 3 (gv st7 1) (V.int .i64 1)) fun v45 =>
 (bdS (nv v45) fun n46 =>
 (if (1 = 1 ∧ n46 < ((lsl (gv st7 0))).length ∧ (some 45 : Option Nat) ≠ some 0) then
 (bd ((lsl (gv st7 0)))[n46]? fun es47 =>
 (bd (es47)[0]? fun v48 =>
 (bdS (nv (gv st7 1)) fun n49 =>
 (if (1 = 1 ∧ n49 < ((lsl (gv st7 0))).length ∧ (some 49 : Option Nat) ≠ some 0) then
 (bd ((lsl (gv st7 0)))[n49]? fun es50 =>
 (bd (es50)[0]? fun v51 =>
 (bdS (nv (gv st7 1)) fun n52 =>
 (if (1 = 1 ∧ n52 < ((lsl (gv st7 0))).length ∧ (some 51 : Option Nat) ≠ some 0) then
 (if ((V.cells v48)).length = 1 then
 (if (1 = 1 ∧ 0 < 1 ∧ 0 + ((V.cells v48)).length ≤ 1) then
 (bd ((lsl (gv st7 0)))[n52]? fun es53 =>
 (bdS (nv v44) fun n54 =>
 (if (1 = 1 ∧ n54 < ((((lsl (gv st7 0))).set n52 (setR es53 0 (V.cells v48)))).length ∧ (some 52 : Option Nat) ≠ some 0) then
 (if ((V.cells v51)).length = 1 then
 (if (1 = 1 ∧ 0 < 1 ∧ 0 + ((V.cells v51)).length ≤ 1) then
 (bd ((((lsl (gv st7 0))).set n52 (setR es53 0 (V.cells v48))))[n54]? fun es55 =>
 (bd (bop prog .sub 3 (gv st7 1) (V.int .i64 1)) fun v56 =>
 (next9 [(V.sl 1 (((((lsl (gv st7 0))).set n52 (setR es53 0 (V.cells v48)))).set n54 (setR es55 0 (V.cells v51))) false), v56] h22))) else none) else none) else none))) else none) else none) else none)))) else none)))) else none))))
 else
 (bd (bop prog .add 3 (gv st1 1) (V.int .i64 1)) fun v57 =>
 (next3 [(V.sl 1 (lsl (gv st7 0)) false), v57] h22))))) else none) (fun z23 h22 => if z23.simple then none else none))
 else none) else none))) else none))))) else none))
 else
 (bd (bop prog .add 3 (gv st1 1) (V.int .i64 1)) fun v58 =>
 (next3 [(V.sl 1 (lsl (gv st7 0)) false), v58] hh8))))
noncomputable def lIns_l0 (n : Nat) (a : Int) (b : Int) (c : V) (st1 : List V) (hh2 : Heap) (next3 : List V → Heap → Option (Res × Heap)) : Option (Res × Heap) :=
 (bd (bop prog .lss 3 (gv st1 1) (V.int .i64 b)) fun v4 =>
 (bv v4 fun b5 => if b5 then
 (loopx n (lIns_l6 n a c st1 next3) [(V.sl 1 (lsl (gv st1 0)) false), (gv st1 1)] hh2)
 else
 some (Res.ret (V.sl 1 (lsl (gv st1 0)) false :: []), hh2)))
noncomputable def lIns (n : Nat) (l : List (List V)) (a : Int) (b : Int) (c : V) (h : Heap) : Option (Res × Heap) :=
 (loopx n (lIns_l0 n a b c) [(V.sl 1 l false), (V.int .i64 (IntKind.i64.wrap (a + 1)))] h)
theorem lIns_eq (n : Nat) (l : List (List V)) (a : Int) (b : Int) (c : V) (h : Heap) : call (n + 1) 92 [(V.sl 1 l false), (V.int .i64 a), (V.int .i64 b), c] h = lIns n l a b c h := by kernel_rfl
noncomputable def lStab_l20 (n : Nat) (k : Int) (c : V) (st14 : List V) (next16 : List V → Heap → Option (Res × Heap)) (st21 : List V) (hh22 : Heap) (next23 : List V → Heap → Option (Res × Heap)) : Option (Res × Heap) :=
 (bd (bop prog .leq 3 (gv st21 2) (V.int .i64 k)) fun v24 =>
 (bv v24 fun b25 => if b25 then
 (bd (bop prog .add 3 (gv st21 1) (gv st14 1)) fun v26 =>
 (clm (call n 93 (V.sl 1 (lsl (gv st21 0)) false :: [(gv st21 1), v26, (gv st21 2), c]) hh22) 1 fun l27 r28 h29 =>
 (bd (bop prog .mul 3 (V.int .i64 2) (gv st14 1)) fun v30 =>
 (bd (bop prog .add 3 (gv st21 2) v30) fun v31 =>
 (next23 [(V.sl 1 l27 false), (gv st21 2), v31] h29)))))
 else
 (bd (bop prog .add 3 (gv st21 1) (gv st14 1)) fun v32 =>
 (bd (bop prog .lss 3 v32 (V.int .i64 k)) fun v33 =>
 (bv v33 fun b34 => if b34 then
 (clm (call n 93 (V.sl 1 (lsl (gv st21 0)) false :: [(gv st21 1), v32, (V.int .i64 k), c]) hh22) 1 fun l35 r36 h37 =>
 (bd (bop prog .mul 3 (gv st14 1) (V.int .i64 2)) fun v38 =>
 (next16 [(V.sl 1 l35 false), v38, (gv st21 1), (gv st21 2)] h37)))
 else
 (bd (bop prog .mul 3 (gv st14 1) (V.int .i64 2)) fun v39 =>
 (next16 [(V.sl 1 (lsl (gv st21 0)) false), v39, (gv st21 1), (gv st21 2)] hh22)))))))
noncomputable def lStab_l13 (n : Nat) (k : Int) (c : V) (st14 : List V) (hh15 : Heap) (next16 : List V → Heap → Option (Res × Heap)) : Option (Res × Heap) :=
 (bd (bop prog .lss 3 (gv st14 1) (V.int .i64 k)) fun v17 =>
 (bv v17 fun b18 => if b18 then
 (bd (bop prog .mul 3 (V.int .i64 2) (gv st14 1)) fun v19 =>
 (loopx n (lStab_l20 n k c st14 next16) [(V.sl 1 (lsl (gv st14 0)) false), (V.int .i64 0), v19] hh15))
 else
 some (Res.ret (V.sl 1 (lsl (gv st14 0)) false :: []), hh15)))
noncomputable def lStab_l0 (n : Nat) (k : Int) (c : V) (st1 : List V) (hh2 : Heap) (next3 : List V → Heap → Option (Res × Heap)) : Option (Res × Heap) :=
 (bd (bop prog .leq 3 (gv st1 2) (V.int .i64 k)) fun v4 =>
 (bv v4 fun b5 => if b5 then
 (clm (call n 92 (V.sl 1 (lsl (gv st1 0)) false :: [(gv st1 1), (gv st1 2), c]) hh2) 1 fun l6 r7 h8 =>
 (bd (bop prog .add 3 (gv st1 2) (V.int .i64 20)) fun v9 =>
 (next3 [(V.sl 1 l6 false), (gv st1 2), v9] h8)))
 else
 (clm (call n 92 (V.sl 1 (lsl (gv st1 0)) false :: [(gv st1 1), (V.int .i64 k), c]) hh2) 1 fun l10 r11 h12 =>
 (loopx n (lStab_l13 n k c) [(V.sl 1 l10 false), (V.int .i64 20), (gv st1 1), (gv st1 2)] h12))))
noncomputable def lStab (n : Nat) (l : List (List V)) (k : Int) (c : V) (h : Heap) : Option (Res × Heap) :=
 (loopx n (lStab_l0 n k c) [(V.sl 1 l false), (V.int .i64 0), (V.int .i64 20)] h)
theorem lStab_eq (n : Nat) (l : List (List V)) (k : Int) (c : V) (h : Heap) : call (n + 1) 86 [(V.sl 1 l false), (V.int .i64 k), c] h = lStab n l k c h := by kernel_rfl
noncomputable def lSort (n : Nat) (l : List (List V)) (c : V) (h : Heap) : Option (Res × Heap) :=
 (clm (call n 86 (V.sl 1 l false :: [(V.int .i64 ((l).length : Int)), c]) h) 1 fun l0 r1 h2 =>
 some (Res.ret (V.sl 1 l0 false :: []), h2))
theorem lSort_eq (n : Nat) (l : List (List V)) (c : V) (h : Heap) : call (n + 1) 67 [(V.sl 1 l false), c] h = lSort n l c h := by kernel_rfl
end Go.Proofs.Try
