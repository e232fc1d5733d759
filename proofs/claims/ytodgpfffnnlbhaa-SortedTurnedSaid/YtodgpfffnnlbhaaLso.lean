import Derived.Test.YtodgpfffnnlbhaaLset
import Derived.Test.YtodgpfffnnlbhaaLwd
/-! slices.SortStableFunc at []int, printed by a program of mine (lift6.lean) -/
set_option linter.unusedVariables false
namespace Go.Proofs.Try
open Go.L
set_option maxRecDepth 100000
noncomputable def lSwap_l0 (n : Nat) (a : Int) (b : Int) (k : Int) (st1 : List V) (hh2 : Heap) (next3 : List V → Heap → Option (Res × Heap)) : Option (Res × Heap) :=
 (bd (bop prog .lss 3 (gv st1 1) (V.int .i64 k)) fun v4 =>
 (bv v4 fun b5 => if b5 then
 (bd (bop prog .add 3 (V.int .i64 a) (gv st1 1)) fun v6 =>
 (bd (bop prog .add 3 (V.int .i64 b) (gv st1 1)) fun v7 =>
 (bd (bop prog .add 3 (V.int .i64 b) (gv st1 1)) fun v8 =>
 (bdS (nv v8) fun n9 =>
 (if (1 = 1 ∧ n9 < ((lsl (gv st1 0))).length ∧ (some 28 : Option Nat) ≠ some 0) then
 (bd ((lsl (gv st1 0)))[n9]? fun es10 =>
 (bd (es10)[0]? fun v11 =>
 (bd (bop prog .add 3 (V.int .i64 a) (gv st1 1)) fun v12 =>
 (bdS (nv v12) fun n13 =>
 (if (1 = 1 ∧ n13 < ((lsl (gv st1 0))).length ∧ (some 34 : Option Nat) ≠ some 0) then
 (bd ((lsl (gv st1 0)))[n13]? fun es14 =>
 (bd (es14)[0]? fun v15 =>
 (bdS (nv v6) fun n16 =>
 (if (1 = 1 ∧ n16 < ((lsl (gv st1 0))).length ∧ (some 36 : Option Nat) ≠ some 0) then
 (if ((V.cells v11)).length = 1 then
 (if (1 = 1 ∧ 0 < 1 ∧ 0 + ((V.cells v11)).length ≤ 1) then
 (bd ((lsl (gv st1 0)))[n16]? fun es17 =>
 (bdS (nv v7) fun n18 =>
 (if (1 = 1 ∧ n18 < ((((lsl (gv st1 0))).set n16 (setR es17 0 (V.cells v11)))).length ∧ (some 37 : Option Nat) ≠ some 0) then
 (if ((V.cells v15)).length = 1 then
 (if (1 = 1 ∧ 0 < 1 ∧ 0 + ((V.cells v15)).length ≤ 1) then
 (bd ((((lsl (gv st1 0))).set n16 (setR es17 0 (V.cells v11))))[n18]? fun es19 =>
 (bd (bop prog .add 3 (gv st1 1) (V.int .i64 1)) fun v20 =>
 (next3 [(V.sl 1 (((((lsl (gv st1 0))).set n16 (setR es17 0 (V.cells v11)))).set n18 (setR es19 0 (V.cells v15))) false), v20] hh2))) else none) else none) else none))) else none) else none) else none)))) else none))))) else none)))))
 else
 some (Res.ret (V.sl 1 (lsl (gv st1 0)) false :: []), hh2)))
noncomputable def lSwap (n : Nat) (l : List (List V)) (a : Int) (b : Int) (k : Int) (c : V) (h : Heap) : Option (Res × Heap) :=
 (loopx n (lSwap_l0 n a b k) [(V.sl 1 l false), (V.int .i64 0)] h)
theorem lSwap_eq (n : Nat) (l : List (List V)) (a : Int) (b : Int) (k : Int) (c : V) (h : Heap) : call (n + 1) 105 [(V.sl 1 l false), (V.int .i64 a), (V.int .i64 b), (V.int .i64 k), c] h = lSwap n l a b k c h := by kernel_rfl
noncomputable def lRot_l0 (n : Nat) (m : Int) (c : V) (st1 : List V) (hh2 : Heap) (next3 : List V → Heap → Option (Res × Heap)) : Option (Res × Heap) :=
 (bd (bop prog .neq 3 (gv st1 1) (gv st1 2)) fun v4 =>
 (bv v4 fun b5 => if b5 then
 (bd (bop prog .gtr 3 (gv st1 1) (gv st1 2)) fun v6 =>
 (bv v6 fun b7 => if b7 then
 (bd (bop prog .sub 3 (V.int .i64 m) (gv st1 1)) fun v8 =>
 (clm (call n 105 (V.sl 1 (lsl (gv st1 0)) false :: [v8, (V.int .i64 m), (gv st1 2), c]) hh2) 1 fun l9 r10 h11 =>
 (bd (bop prog .sub 3 (gv st1 1) (gv st1 2)) fun v12 =>
 (next3 [(V.sl 1 l9 false), v12, (gv st1 2)] h11))))
 else
 (bd (bop prog .sub 3 (V.int .i64 m) (gv st1 1)) fun v13 =>
 (bd (bop prog .add 3 (V.int .i64 m) (gv st1 2)) fun v14 =>
 (bd (bop prog .sub 3 v14 (gv st1 1)) fun v15 =>
 (clm (call n 105 (V.sl 1 (lsl (gv st1 0)) false :: [v13, v15, (gv st1 1), c]) hh2) 1 fun l16 r17 h18 =>
 (bd (bop prog .sub 3 (gv st1 2) (gv st1 1)) fun v19 =>
 (next3 [(V.sl 1 l16 false), (gv st1 1), v19] h18))))))))
 else
 (bd (bop prog .sub 3 (V.int .i64 m) (gv st1 1)) fun v20 =>
 (clm (call n 105 (V.sl 1 (lsl (gv st1 0)) false :: [v20, (V.int .i64 m), (gv st1 1), c]) hh2) 1 fun l21 r22 h23 =>
 some (Res.ret (V.sl 1 l21 false :: []), h23)))))
noncomputable def lRot (n : Nat) (l : List (List V)) (a : Int) (m : Int) (b : Int) (c : V) (h : Heap) : Option (Res × Heap) :=
 (loopx n (lRot_l0 n m c) [(V.sl 1 l false), (V.int .i64 (IntKind.i64.wrap (m - a))), (V.int .i64 (IntKind.i64.wrap (b - m)))] h)
theorem lRot_eq (n : Nat) (l : List (List V)) (a : Int) (m : Int) (b : Int) (c : V) (h : Heap) : call (n + 1) 101 [(V.sl 1 l false), (V.int .i64 a), (V.int .i64 m), (V.int .i64 b), c] h = lRot n l a m b c h := by kernel_rfl
noncomputable def lSym_l30 (n : Nat) (st1 : List V) (st31 : List V) (hh32 : Heap) (next33 : List V → Heap → Option (Res × Heap)) : Option (Res × Heap) :=
 (bd (bop prog .sub 3 (gv st1 1) (V.int .i64 1)) fun v34 =>
 (bd (bop prog .lss 3 (gv st31 1) v34) fun v35 =>
 (bv v35 fun b36 => if b36 then
 (bd (bop prog .add 3 (gv st31 1) (V.int .i64 1)) fun v37 =>
 (bd (bop prog .add 3 (gv st31 1) (V.int .i64 1)) fun v38 =>
 (bdS (nv v38) fun n39 =>
 (if (1 = 1 ∧ n39 < ((lsl (gv st31 0))).length ∧ (some 69 : Option Nat) ≠ some 0) then
 (bd ((lsl (gv st31 0)))[n39]? fun es40 =>
 (bd (es40)[0]? fun v41 =>
 (bdS (nv (gv st31 1)) fun n42 =>
 (if (1 = 1 ∧ n42 < ((lsl (gv st31 0))).length ∧ (some 73 : Option Nat) ≠ some 0) then
 (bd ((lsl (gv st31 0)))[n42]? fun es43 =>
 (bd (es43)[0]? fun v44 =>
 (bdS (nv (gv st31 1)) fun n45 =>
 (if (1 = 1 ∧ n45 < ((lsl (gv st31 0))).length ∧ (some 75 : Option Nat) ≠ some 0) then
 (if ((V.cells v41)).length = 1 then
 (if (1 = 1 ∧ 0 < 1 ∧ 0 + ((V.cells v41)).length ≤ 1) then
 (bd ((lsl (gv st31 0)))[n45]? fun es46 =>
 (bdS (nv v37) fun n47 =>
 (if (1 = 1 ∧ n47 < ((((lsl (gv st31 0))).set n45 (setR es46 0 (V.cells v41)))).length ∧ (some 76 : Option Nat) ≠ some 0) then
 (if ((V.cells v44)).length = 1 then
 (if (1 = 1 ∧ 0 < 1 ∧ 0 + ((V.cells v44)).length ≤ 1) then
 (bd ((((lsl (gv st31 0))).set n45 (setR es46 0 (V.cells v41))))[n47]? fun es48 =>
 (bd (bop prog .add 3 (gv st31 1) (V.int .i64 1)) fun v49 =>
 (next33 [(V.sl 1 (((((lsl (gv st31 0))).set n45 (setR es46 0 (V.cells v41)))).set n47 (setR es48 0 (V.cells v44))) false), v49] hh32))) else none) else none) else none))) else none) else none) else none)))) else none)))) else none))))
 else
 some (Res.ret (V.sl 1 (lsl (gv st31 0)) false :: []), hh32))))
noncomputable def lSym_l0 (n : Nat) (a : Int) (c : V) (st1 : List V) (hh2 : Heap) (next3 : List V → Heap → Option (Res × Heap)) : Option (Res × Heap) :=
 (bd (bop prog .lss 3 (gv st1 1) (gv st1 2)) fun v4 =>
 (bv v4 fun b5 => if b5 then
 (bd (bop prog .add 3 (gv st1 1) (gv st1 2)) fun v6 =>
 (bd (cvt prog 3 124 v6) fun v7 =>
 (bd (bop prog .shr 124 v7 (V.int .u64 1)) fun v8 =>
 (bd (cvt prog 124 3 v8) fun v9 =>
 (bdS (nv v9) fun n10 =>
 (if (1 = 1 ∧ n10 < ((lsl (gv st1 0))).length ∧ (some 43 : Option Nat) ≠ some 0) then
 (bd ((lsl (gv st1 0)))[n10]? fun es11 =>
 (bd (es11)[0]? fun v12 =>
 (bdS (nv (V.int .i64 a)) fun n13 =>
 (if (1 = 1 ∧ n13 < ((lsl (gv st1 0))).length ∧ (some 47 : Option Nat) ≠ some 0) then
 (bd ((lsl (gv st1 0)))[n13]? fun es14 =>
 (bd (es14)[0]? fun v15 =>
 (fnK c fun f16 c17 => if (okV prog 3 f16 = true) then (if keepS f16 then
 (cl (call n f16 ([v12, v15] ++ c17) hh2) (fun r18 h19 =>
 (one1 r18 fun v21 =>
 (bd (bop prog .lss 3 v21 (V.int .i64 0)) fun v22 =>
 (bv v22 fun b23 => if b23 then
 (bd (bop prog .add 3 v9 (V.int .i64 1)) fun v24 =>
 (next3 [(V.sl 1 (lsl (gv st1 0)) false), v24, (gv st1 2)] h19))
 else
 (next3 [(V.sl 1 (lsl (gv st1 0)) false), (gv st1 1), v9] h19))))) (fun z20 h19 => none))
 else if pureS f16 then
 (bd (evBsL [(valB hh2 v12), (valB hh2 v15)]) fun a25 => cl (call n f16 (a25 ++ c17) hh2) (fun r18 h19 => if V.simple.simpleL r18 then
 (one1 r18 fun v26 =>
 (bd (bop prog .lss 3 v26 (V.int .i64 0)) fun v27 =>
 (bv v27 fun b28 => if b28 then
 (bd (bop prog .add 3 v9 (V.int .i64 1)) fun v29 =>
 (next3 [(V.sl 1 (lsl (gv st1 0)) false), v29, (gv st1 2)] h19))
 else
 (next3 [(V.sl 1 (lsl (gv st1 0)) false), (gv st1 1), v9] h19)))) else none) (fun z20 h19 => if z20.simple then none else none))
 else none) else none))) else none)))) else none))))))
 else
 (loopx n (lSym_l30 n st1) [(V.sl 1 (lsl (gv st1 0)) false), (V.int .i64 a)] hh2)))
noncomputable def lSym_l82 (n : Nat) (st51 : List V) (st83 : List V) (hh84 : Heap) (next85 : List V → Heap → Option (Res × Heap)) : Option (Res × Heap) :=
 (bd (bop prog .gtr 3 (gv st83 1) (gv st51 1)) fun v86 =>
 (bv v86 fun b87 => if b87 then
 (bd (bop prog .sub 3 (gv st83 1) (V.int .i64 1)) fun v88 =>
 (bd (bop prog .sub 3 (gv st83 1) (V.int .i64 1)) fun v89 =>
 (bdS (nv v89) fun n90 =>
 (if (1 = 1 ∧ n90 < ((lsl (gv st83 0))).length ∧ (some 121 : Option Nat) ≠ some 0) then
 (bd ((lsl (gv st83 0)))[n90]? fun es91 =>
 (bd (es91)[0]? fun v92 =>
 (bdS (nv (gv st83 1)) fun n93 =>
 (if (1 = 1 ∧ n93 < ((lsl (gv st83 0))).length ∧ (some 125 : Option Nat) ≠ some 0) then
 (bd ((lsl (gv st83 0)))[n93]? fun es94 =>
 (bd (es94)[0]? fun v95 =>
 (bdS (nv (gv st83 1)) fun n96 =>
 (if (1 = 1 ∧ n96 < ((lsl (gv st83 0))).length ∧ (some 127 : Option Nat) ≠ some 0) then
 (if ((V.cells v92)).length = 1 then
 (if (1 = 1 ∧ 0 < 1 ∧ 0 + ((V.cells v92)).length ≤ 1) then
 (bd ((lsl (gv st83 0)))[n96]? fun es97 =>
 (bdS (nv v88) fun n98 =>
 (if (1 = 1 ∧ n98 < ((((lsl (gv st83 0))).set n96 (setR es97 0 (V.cells v92)))).length ∧ (some 128 : Option Nat) ≠ some 0) then
 (if ((V.cells v95)).length = 1 then
 (if (1 = 1 ∧ 0 < 1 ∧ 0 + ((V.cells v95)).length ≤ 1) then
 (bd ((((lsl (gv st83 0))).set n96 (setR es97 0 (V.cells v92))))[n98]? fun es99 =>
 (bd (bop prog .sub 3 (gv st83 1) (V.int .i64 1)) fun v100 =>
 (next85 [(V.sl 1 (((((lsl (gv st83 0))).set n96 (setR es97 0 (V.cells v92)))).set n98 (setR es99 0 (V.cells v95))) false), v100] hh84))) else none) else none) else none))) else none) else none) else none)))) else none)))) else none))))
 else
 some (Res.ret (V.sl 1 (lsl (gv st83 0)) false :: []), hh84)))
noncomputable def lSym_l50 (n : Nat) (m : Int) (c : V) (st51 : List V) (hh52 : Heap) (next53 : List V → Heap → Option (Res × Heap)) : Option (Res × Heap) :=
 (bd (bop prog .lss 3 (gv st51 1) (gv st51 2)) fun v54 =>
 (bv v54 fun b55 => if b55 then
 (bd (bop prog .add 3 (gv st51 1) (gv st51 2)) fun v56 =>
 (bd (cvt prog 3 124 v56) fun v57 =>
 (bd (bop prog .shr 124 v57 (V.int .u64 1)) fun v58 =>
 (bd (cvt prog 124 3 v58) fun v59 =>
 (bdS (nv (V.int .i64 m)) fun n60 =>
 (if (1 = 1 ∧ n60 < ((lsl (gv st51 0))).length ∧ (some 95 : Option Nat) ≠ some 0) then
 (bd ((lsl (gv st51 0)))[n60]? fun es61 =>
 (bd (es61)[0]? fun v62 =>
 (bdS (nv v59) fun n63 =>
 (if (1 = 1 ∧ n63 < ((lsl (gv st51 0))).length ∧ (some 99 : Option Nat) ≠ some 0) then
 (bd ((lsl (gv st51 0)))[n63]? fun es64 =>
 (bd (es64)[0]? fun v65 =>
 (fnK c fun f66 c67 => if (okV prog 3 f66 = true) then (if keepS f66 then
 (cl (call n f66 ([v62, v65] ++ c67) hh52) (fun r68 h69 =>
 (one1 r68 fun v71 =>
 (bd (bop prog .lss 3 v71 (V.int .i64 0)) fun v72 =>
 (bd (uop .not v72) fun v73 =>
 (bv v73 fun b74 => if b74 then
 (bd (bop prog .add 3 v59 (V.int .i64 1)) fun v75 =>
 (next53 [(V.sl 1 (lsl (gv st51 0)) false), v75, (gv st51 2)] h69))
 else
 (next53 [(V.sl 1 (lsl (gv st51 0)) false), (gv st51 1), v59] h69)))))) (fun z70 h69 => none))
 else if pureS f66 then
 (bd (evBsL [(valB hh52 v62), (valB hh52 v65)]) fun a76 => cl (call n f66 (a76 ++ c67) hh52) (fun r68 h69 => if V.simple.simpleL r68 then
 (one1 r68 fun v77 =>
 (bd (bop prog .lss 3 v77 (V.int .i64 0)) fun v78 =>
 (bd (uop .not v78) fun v79 =>
 (bv v79 fun b80 => if b80 then
 (bd (bop prog .add 3 v59 (V.int .i64 1)) fun v81 =>
 (next53 [(V.sl 1 (lsl (gv st51 0)) false), v81, (gv st51 2)] h69))
 else
 (next53 [(V.sl 1 (lsl (gv st51 0)) false), (gv st51 1), v59] h69))))) else none) (fun z70 h69 => if z70.simple then none else none))
 else none) else none))) else none)))) else none))))))
 else
 (loopx n (lSym_l82 n st51) [(V.sl 1 (lsl (gv st51 0)) false), (V.int .i64 m)] hh52)))
noncomputable def lSym_l108 (n : Nat) (a : Int) (m : Int) (b : Int) (c : V) (v102 : V) (v103 : V) (v107 : V) (st109 : List V) (hh110 : Heap) (next111 : List V → Heap → Option (Res × Heap)) : Option (Res × Heap) :=
 (bd (bop prog .lss 3 (gv st109 1) (gv st109 2)) fun v112 =>
 (bv v112 fun b113 => if b113 then
 (bd (bop prog .add 3 (gv st109 1) (gv st109 2)) fun v114 =>
 (bd (cvt prog 3 124 v114) fun v115 =>
 (bd (bop prog .shr 124 v115 (V.int .u64 1)) fun v116 =>
 (bd (cvt prog 124 3 v116) fun v117 =>
 (bd (bop prog .sub 3 v107 v117) fun v118 =>
 (bdS (nv v118) fun n119 =>
 (if (1 = 1 ∧ n119 < ((lsl (gv st109 0))).length ∧ (some 163 : Option Nat) ≠ some 0) then
 (bd ((lsl (gv st109 0)))[n119]? fun es120 =>
 (bd (es120)[0]? fun v121 =>
 (bdS (nv v117) fun n122 =>
 (if (1 = 1 ∧ n122 < ((lsl (gv st109 0))).length ∧ (some 167 : Option Nat) ≠ some 0) then
 (bd ((lsl (gv st109 0)))[n122]? fun es123 =>
 (bd (es123)[0]? fun v124 =>
 (fnK c fun f125 c126 => if (okV prog 3 f125 = true) then (if keepS f125 then
 (cl (call n f125 ([v121, v124] ++ c126) hh110) (fun r127 h128 =>
 (one1 r127 fun v130 =>
 (bd (bop prog .lss 3 v130 (V.int .i64 0)) fun v131 =>
 (bd (uop .not v131) fun v132 =>
 (bv v132 fun b133 => if b133 then
 (bd (bop prog .add 3 v117 (V.int .i64 1)) fun v134 =>
 (next111 [(V.sl 1 (lsl (gv st109 0)) false), v134, (gv st109 2)] h128))
 else
 (next111 [(V.sl 1 (lsl (gv st109 0)) false), (gv st109 1), v117] h128)))))) (fun z129 h128 => none))
 else if pureS f125 then
 (bd (evBsL [(valB hh110 v121), (valB hh110 v124)]) fun a135 => cl (call n f125 (a135 ++ c126) hh110) (fun r127 h128 => if V.simple.simpleL r127 then
 (one1 r127 fun v136 =>
 (bd (bop prog .lss 3 v136 (V.int .i64 0)) fun v137 =>
 (bd (uop .not v137) fun v138 =>
 (bv v138 fun b139 => if b139 then
 (bd (bop prog .add 3 v117 (V.int .i64 1)) fun v140 =>
 (next111 [(V.sl 1 (lsl (gv st109 0)) false), v140, (gv st109 2)] h128))
 else
 (next111 [(V.sl 1 (lsl (gv st109 0)) false), (gv st109 1), v117] h128))))) else none) (fun z129 h128 => if z129.simple then none else none))
 else none) else none))) else none)))) else none)))))))
 else
 (bd (bop prog .sub 3 v103 (gv st109 1)) fun v141 =>
 (bd (bop prog .lss 3 (gv st109 1) (V.int .i64 m)) fun v142 =>
 (bv v142 fun b143 => if b143 then
 (bd (bop prog .lss 3 (V.int .i64 m) v141) fun v144 =>
 (bv v144 fun b145 => if b145 then
 (clm (call n 101 (V.sl 1 (lsl (gv st109 0)) false :: [(gv st109 1), (V.int .i64 m), v141, c]) hh110) 1 fun l146 r147 h148 =>
 (bd (bop prog .lss 3 (V.int .i64 a) (gv st109 1)) fun v149 =>
 (bv v149 fun b150 => if b150 then
 (bd (bop prog .lss 3 (gv st109 1) v102) fun v151 =>
 (bv v151 fun b152 => if b152 then
 (clm (call n 94 (V.sl 1 l146 false :: [(V.int .i64 a), (gv st109 1), v102, c]) h148) 1 fun l153 r154 h155 =>
 (bd (bop prog .lss 3 v102 v141) fun v156 =>
 (bv v156 fun b157 => if b157 then
 (bd (bop prog .lss 3 v141 (V.int .i64 b)) fun v158 =>
 (bv v158 fun b159 => if b159 then
 (clm (call n 94 (V.sl 1 l153 false :: [v102, v141, (V.int .i64 b), c]) h155) 1 fun l160 r161 h162 =>
 some (Res.ret (V.sl 1 l160 false :: []), h162))
 else
 some (Res.ret (V.sl 1 l153 false :: []), h155)))
 else
 some (Res.ret (V.sl 1 l153 false :: []), h155))))
 else
 (bd (bop prog .lss 3 v102 v141) fun v163 =>
 (bv v163 fun b164 => if b164 then
 (bd (bop prog .lss 3 v141 (V.int .i64 b)) fun v165 =>
 (bv v165 fun b166 => if b166 then
 (clm (call n 94 (V.sl 1 l146 false :: [v102, v141, (V.int .i64 b), c]) h148) 1 fun l167 r168 h169 =>
 some (Res.ret (V.sl 1 l167 false :: []), h169))
 else
 some (Res.ret (V.sl 1 l146 false :: []), h148)))
 else
 some (Res.ret (V.sl 1 l146 false :: []), h148)))))
 else
 (bd (bop prog .lss 3 v102 v141) fun v170 =>
 (bv v170 fun b171 => if b171 then
 (bd (bop prog .lss 3 v141 (V.int .i64 b)) fun v172 =>
 (bv v172 fun b173 => if b173 then
 (clm (call n 94 (V.sl 1 l146 false :: [v102, v141, (V.int .i64 b), c]) h148) 1 fun l174 r175 h176 =>
 some (Res.ret (V.sl 1 l174 false :: []), h176))
 else
 some (Res.ret (V.sl 1 l146 false :: []), h148)))
 else
 some (Res.ret (V.sl 1 l146 false :: []), h148))))))
 else
 (bd (bop prog .lss 3 (V.int .i64 a) (gv st109 1)) fun v177 =>
 (bv v177 fun b178 => if b178 then
 (bd (bop prog .lss 3 (gv st109 1) v102) fun v179 =>
 (bv v179 fun b180 => if b180 then
 (clm (call n 94 (V.sl 1 (lsl (gv st109 0)) false :: [(V.int .i64 a), (gv st109 1), v102, c]) hh110) 1 fun l181 r182 h183 =>
 (bd (bop prog .lss 3 v102 v141) fun v184 =>
 (bv v184 fun b185 => if b185 then
 (bd (bop prog .lss 3 v141 (V.int .i64 b)) fun v186 =>
 (bv v186 fun b187 => if b187 then
 (clm (call n 94 (V.sl 1 l181 false :: [v102, v141, (V.int .i64 b), c]) h183) 1 fun l188 r189 h190 =>
 some (Res.ret (V.sl 1 l188 false :: []), h190))
 else
 some (Res.ret (V.sl 1 l181 false :: []), h183)))
 else
 some (Res.ret (V.sl 1 l181 false :: []), h183))))
 else
 (bd (bop prog .lss 3 v102 v141) fun v191 =>
 (bv v191 fun b192 => if b192 then
 (bd (bop prog .lss 3 v141 (V.int .i64 b)) fun v193 =>
 (bv v193 fun b194 => if b194 then
 (clm (call n 94 (V.sl 1 (lsl (gv st109 0)) false :: [v102, v141, (V.int .i64 b), c]) hh110) 1 fun l195 r196 h197 =>
 some (Res.ret (V.sl 1 l195 false :: []), h197))
 else
 some (Res.ret (V.sl 1 (lsl (gv st109 0)) false :: []), hh110)))
 else
 some (Res.ret (V.sl 1 (lsl (gv st109 0)) false :: []), hh110)))))
 else
 (bd (bop prog .lss 3 v102 v141) fun v198 =>
 (bv v198 fun b199 => if b199 then
 (bd (bop prog .lss 3 v141 (V.int .i64 b)) fun v200 =>
 (bv v200 fun b201 => if b201 then
 (clm (call n 94 (V.sl 1 (lsl (gv st109 0)) false :: [v102, v141, (V.int .i64 b), c]) hh110) 1 fun l202 r203 h204 =>
 some (Res.ret (V.sl 1 l202 false :: []), h204))
 else
 some (Res.ret (V.sl 1 (lsl (gv st109 0)) false :: []), hh110)))
 else
 some (Res.ret (V.sl 1 (lsl (gv st109 0)) false :: []), hh110)))))))
 else
 (bd (bop prog .lss 3 (V.int .i64 a) (gv st109 1)) fun v205 =>
 (bv v205 fun b206 => if b206 then
 (bd (bop prog .lss 3 (gv st109 1) v102) fun v207 =>
 (bv v207 fun b208 => if b208 then
 (clm (call n 94 (V.sl 1 (lsl (gv st109 0)) false :: [(V.int .i64 a), (gv st109 1), v102, c]) hh110) 1 fun l209 r210 h211 =>
 (bd (bop prog .lss 3 v102 v141) fun v212 =>
 (bv v212 fun b213 => if b213 then
 (bd (bop prog .lss 3 v141 (V.int .i64 b)) fun v214 =>
 (bv v214 fun b215 => if b215 then
 (clm (call n 94 (V.sl 1 l209 false :: [v102, v141, (V.int .i64 b), c]) h211) 1 fun l216 r217 h218 =>
 some (Res.ret (V.sl 1 l216 false :: []), h218))
 else
 some (Res.ret (V.sl 1 l209 false :: []), h211)))
 else
 some (Res.ret (V.sl 1 l209 false :: []), h211))))
 else
 (bd (bop prog .lss 3 v102 v141) fun v219 =>
 (bv v219 fun b220 => if b220 then
 (bd (bop prog .lss 3 v141 (V.int .i64 b)) fun v221 =>
 (bv v221 fun b222 => if b222 then
 (clm (call n 94 (V.sl 1 (lsl (gv st109 0)) false :: [v102, v141, (V.int .i64 b), c]) hh110) 1 fun l223 r224 h225 =>
 some (Res.ret (V.sl 1 l223 false :: []), h225))
 else
 some (Res.ret (V.sl 1 (lsl (gv st109 0)) false :: []), hh110)))
 else
 some (Res.ret (V.sl 1 (lsl (gv st109 0)) false :: []), hh110)))))
 else
 (bd (bop prog .lss 3 v102 v141) fun v226 =>
 (bv v226 fun b227 => if b227 then
 (bd (bop prog .lss 3 v141 (V.int .i64 b)) fun v228 =>
 (bv v228 fun b229 => if b229 then
 (clm (call n 94 (V.sl 1 (lsl (gv st109 0)) false :: [v102, v141, (V.int .i64 b), c]) hh110) 1 fun l230 r231 h232 =>
 some (Res.ret (V.sl 1 l230 false :: []), h232))
 else
 some (Res.ret (V.sl 1 (lsl (gv st109 0)) false :: []), hh110)))
 else
 some (Res.ret (V.sl 1 (lsl (gv st109 0)) false :: []), hh110))))))))))
noncomputable def lSym_l234 (n : Nat) (a : Int) (m : Int) (b : Int) (c : V) (v102 : V) (v103 : V) (v233 : V) (st235 : List V) (hh236 : Heap) (next237 : List V → Heap → Option (Res × Heap)) : Option (Res × Heap) :=
 (bd (bop prog .lss 3 (gv st235 1) (gv st235 2)) fun v238 =>
 (bv v238 fun b239 => if b239 then
 (bd (bop prog .add 3 (gv st235 1) (gv st235 2)) fun v240 =>
 (bd (cvt prog 3 124 v240) fun v241 =>
 (bd (bop prog .shr 124 v241 (V.int .u64 1)) fun v242 =>
 (bd (cvt prog 124 3 v242) fun v243 =>
 (bd (bop prog .sub 3 v233 v243) fun v244 =>
 (bdS (nv v244) fun n245 =>
 (if (1 = 1 ∧ n245 < ((lsl (gv st235 0))).length ∧ (some 163 : Option Nat) ≠ some 0) then
 (bd ((lsl (gv st235 0)))[n245]? fun es246 =>
 (bd (es246)[0]? fun v247 =>
 (bdS (nv v243) fun n248 =>
 (if (1 = 1 ∧ n248 < ((lsl (gv st235 0))).length ∧ (some 167 : Option Nat) ≠ some 0) then
 (bd ((lsl (gv st235 0)))[n248]? fun es249 =>
 (bd (es249)[0]? fun v250 =>
 (fnK c fun f251 c252 => if (okV prog 3 f251 = true) then (if keepS f251 then
 (cl (call n f251 ([v247, v250] ++ c252) hh236) (fun r253 h254 =>
 (one1 r253 fun v256 =>
 (bd (bop prog .lss 3 v256 (V.int .i64 0)) fun v257 =>
 (bd (uop .not v257) fun v258 =>
 (bv v258 fun b259 => if b259 then
 (bd (bop prog .add 3 v243 (V.int .i64 1)) fun v260 =>
 (next237 [(V.sl 1 (lsl (gv st235 0)) false), v260, (gv st235 2)] h254))
 else
 (next237 [(V.sl 1 (lsl (gv st235 0)) false), (gv st235 1), v243] h254)))))) (fun z255 h254 => none))
 else if pureS f251 then
 (bd (evBsL [(valB hh236 v247), (valB hh236 v250)]) fun a261 => cl (call n f251 (a261 ++ c252) hh236) (fun r253 h254 => if V.simple.simpleL r253 then
 (one1 r253 fun v262 =>
 (bd (bop prog .lss 3 v262 (V.int .i64 0)) fun v263 =>
 (bd (uop .not v263) fun v264 =>
 (bv v264 fun b265 => if b265 then
 (bd (bop prog .add 3 v243 (V.int .i64 1)) fun v266 =>
 (next237 [(V.sl 1 (lsl (gv st235 0)) false), v266, (gv st235 2)] h254))
 else
 (next237 [(V.sl 1 (lsl (gv st235 0)) false), (gv st235 1), v243] h254))))) else none) (fun z255 h254 => if z255.simple then none else none))
 else none) else none))) else none)))) else none)))))))
 else
 (bd (bop prog .sub 3 v103 (gv st235 1)) fun v267 =>
 (bd (bop prog .lss 3 (gv st235 1) (V.int .i64 m)) fun v268 =>
 (bv v268 fun b269 => if b269 then
 (bd (bop prog .lss 3 (V.int .i64 m) v267) fun v270 =>
 (bv v270 fun b271 => if b271 then
 (clm (call n 101 (V.sl 1 (lsl (gv st235 0)) false :: [(gv st235 1), (V.int .i64 m), v267, c]) hh236) 1 fun l272 r273 h274 =>
 (bd (bop prog .lss 3 (V.int .i64 a) (gv st235 1)) fun v275 =>
 (bv v275 fun b276 => if b276 then
 (bd (bop prog .lss 3 (gv st235 1) v102) fun v277 =>
 (bv v277 fun b278 => if b278 then
 (clm (call n 94 (V.sl 1 l272 false :: [(V.int .i64 a), (gv st235 1), v102, c]) h274) 1 fun l279 r280 h281 =>
 (bd (bop prog .lss 3 v102 v267) fun v282 =>
 (bv v282 fun b283 => if b283 then
 (bd (bop prog .lss 3 v267 (V.int .i64 b)) fun v284 =>
 (bv v284 fun b285 => if b285 then
 (clm (call n 94 (V.sl 1 l279 false :: [v102, v267, (V.int .i64 b), c]) h281) 1 fun l286 r287 h288 =>
 some (Res.ret (V.sl 1 l286 false :: []), h288))
 else
 some (Res.ret (V.sl 1 l279 false :: []), h281)))
 else
 some (Res.ret (V.sl 1 l279 false :: []), h281))))
 else
 (bd (bop prog .lss 3 v102 v267) fun v289 =>
 (bv v289 fun b290 => if b290 then
 (bd (bop prog .lss 3 v267 (V.int .i64 b)) fun v291 =>
 (bv v291 fun b292 => if b292 then
 (clm (call n 94 (V.sl 1 l272 false :: [v102, v267, (V.int .i64 b), c]) h274) 1 fun l293 r294 h295 =>
 some (Res.ret (V.sl 1 l293 false :: []), h295))
 else
 some (Res.ret (V.sl 1 l272 false :: []), h274)))
 else
 some (Res.ret (V.sl 1 l272 false :: []), h274)))))
 else
 (bd (bop prog .lss 3 v102 v267) fun v296 =>
 (bv v296 fun b297 => if b297 then
 (bd (bop prog .lss 3 v267 (V.int .i64 b)) fun v298 =>
 (bv v298 fun b299 => if b299 then
 (clm (call n 94 (V.sl 1 l272 false :: [v102, v267, (V.int .i64 b), c]) h274) 1 fun l300 r301 h302 =>
 some (Res.ret (V.sl 1 l300 false :: []), h302))
 else
 some (Res.ret (V.sl 1 l272 false :: []), h274)))
 else
 some (Res.ret (V.sl 1 l272 false :: []), h274))))))
 else
 (bd (bop prog .lss 3 (V.int .i64 a) (gv st235 1)) fun v303 =>
 (bv v303 fun b304 => if b304 then
 (bd (bop prog .lss 3 (gv st235 1) v102) fun v305 =>
 (bv v305 fun b306 => if b306 then
 (clm (call n 94 (V.sl 1 (lsl (gv st235 0)) false :: [(V.int .i64 a), (gv st235 1), v102, c]) hh236) 1 fun l307 r308 h309 =>
 (bd (bop prog .lss 3 v102 v267) fun v310 =>
 (bv v310 fun b311 => if b311 then
 (bd (bop prog .lss 3 v267 (V.int .i64 b)) fun v312 =>
 (bv v312 fun b313 => if b313 then
 (clm (call n 94 (V.sl 1 l307 false :: [v102, v267, (V.int .i64 b), c]) h309) 1 fun l314 r315 h316 =>
 some (Res.ret (V.sl 1 l314 false :: []), h316))
 else
 some (Res.ret (V.sl 1 l307 false :: []), h309)))
 else
 some (Res.ret (V.sl 1 l307 false :: []), h309))))
 else
 (bd (bop prog .lss 3 v102 v267) fun v317 =>
 (bv v317 fun b318 => if b318 then
 (bd (bop prog .lss 3 v267 (V.int .i64 b)) fun v319 =>
 (bv v319 fun b320 => if b320 then
 (clm (call n 94 (V.sl 1 (lsl (gv st235 0)) false :: [v102, v267, (V.int .i64 b), c]) hh236) 1 fun l321 r322 h323 =>
 some (Res.ret (V.sl 1 l321 false :: []), h323))
 else
 some (Res.ret (V.sl 1 (lsl (gv st235 0)) false :: []), hh236)))
 else
 some (Res.ret (V.sl 1 (lsl (gv st235 0)) false :: []), hh236)))))
 else
 (bd (bop prog .lss 3 v102 v267) fun v324 =>
 (bv v324 fun b325 => if b325 then
 (bd (bop prog .lss 3 v267 (V.int .i64 b)) fun v326 =>
 (bv v326 fun b327 => if b327 then
 (clm (call n 94 (V.sl 1 (lsl (gv st235 0)) false :: [v102, v267, (V.int .i64 b), c]) hh236) 1 fun l328 r329 h330 =>
 some (Res.ret (V.sl 1 l328 false :: []), h330))
 else
 some (Res.ret (V.sl 1 (lsl (gv st235 0)) false :: []), hh236)))
 else
 some (Res.ret (V.sl 1 (lsl (gv st235 0)) false :: []), hh236)))))))
 else
 (bd (bop prog .lss 3 (V.int .i64 a) (gv st235 1)) fun v331 =>
 (bv v331 fun b332 => if b332 then
 (bd (bop prog .lss 3 (gv st235 1) v102) fun v333 =>
 (bv v333 fun b334 => if b334 then
 (clm (call n 94 (V.sl 1 (lsl (gv st235 0)) false :: [(V.int .i64 a), (gv st235 1), v102, c]) hh236) 1 fun l335 r336 h337 =>
 (bd (bop prog .lss 3 v102 v267) fun v338 =>
 (bv v338 fun b339 => if b339 then
 (bd (bop prog .lss 3 v267 (V.int .i64 b)) fun v340 =>
 (bv v340 fun b341 => if b341 then
 (clm (call n 94 (V.sl 1 l335 false :: [v102, v267, (V.int .i64 b), c]) h337) 1 fun l342 r343 h344 =>
 some (Res.ret (V.sl 1 l342 false :: []), h344))
 else
 some (Res.ret (V.sl 1 l335 false :: []), h337)))
 else
 some (Res.ret (V.sl 1 l335 false :: []), h337))))
 else
 (bd (bop prog .lss 3 v102 v267) fun v345 =>
 (bv v345 fun b346 => if b346 then
 (bd (bop prog .lss 3 v267 (V.int .i64 b)) fun v347 =>
 (bv v347 fun b348 => if b348 then
 (clm (call n 94 (V.sl 1 (lsl (gv st235 0)) false :: [v102, v267, (V.int .i64 b), c]) hh236) 1 fun l349 r350 h351 =>
 some (Res.ret (V.sl 1 l349 false :: []), h351))
 else
 some (Res.ret (V.sl 1 (lsl (gv st235 0)) false :: []), hh236)))
 else
 some (Res.ret (V.sl 1 (lsl (gv st235 0)) false :: []), hh236)))))
 else
 (bd (bop prog .lss 3 v102 v267) fun v352 =>
 (bv v352 fun b353 => if b353 then
 (bd (bop prog .lss 3 v267 (V.int .i64 b)) fun v354 =>
 (bv v354 fun b355 => if b355 then
 (clm (call n 94 (V.sl 1 (lsl (gv st235 0)) false :: [v102, v267, (V.int .i64 b), c]) hh236) 1 fun l356 r357 h358 =>
 some (Res.ret (V.sl 1 l356 false :: []), h358))
 else
 some (Res.ret (V.sl 1 (lsl (gv st235 0)) false :: []), hh236)))
 else
 some (Res.ret (V.sl 1 (lsl (gv st235 0)) false :: []), hh236))))))))))
noncomputable def lSym (n : Nat) (l : List (List V)) (a : Int) (m : Int) (b : Int) (c : V) (h : Heap) : Option (Res × Heap) :=
 (if ((IntKind.i64.wrap (m - a)) == 1) then
 (loopx n (lSym_l0 n a c) [(V.sl 1 l false), (V.int .i64 m), (V.int .i64 b)] h)
 else
 (if ((IntKind.i64.wrap (b - m)) == 1) then
 (loopx n (lSym_l50 n m c) [(V.sl 1 l false), (V.int .i64 a), (V.int .i64 m)] h)
 else
 (bd (bop prog .shr 124 (V.int .u64 (IntKind.u64.wrap (IntKind.i64.wrap (a + b)))) (V.int .u64 1)) fun v101 =>
 (bd (cvt prog 124 3 v101) fun v102 =>
 (bd (bop prog .add 3 v102 (V.int .i64 m)) fun v103 =>
 (bd (bop prog .gtr 3 (V.int .i64 m) v102) fun v104 =>
 (bv v104 fun b105 => if b105 then
 (bd (bop prog .sub 3 v103 (V.int .i64 b)) fun v106 =>
 (bd (bop prog .sub 3 v103 (V.int .i64 1)) fun v107 =>
 (loopx n (lSym_l108 n a m b c v102 v103 v107) [(V.sl 1 l false), v106, v102] h)))
 else
 (bd (bop prog .sub 3 v103 (V.int .i64 1)) fun v233 =>
 (loopx n (lSym_l234 n a m b c v102 v103 v233) [(V.sl 1 l false), (V.int .i64 a), (V.int .i64 m)] h)))))))))
theorem lSym_eq (n : Nat) (l : List (List V)) (a : Int) (m : Int) (b : Int) (c : V) (h : Heap) : call (n + 1) 94 [(V.sl 1 l false), (V.int .i64 a), (V.int .i64 m), (V.int .i64 b), c] h = lSym n l a m b c h := by kernel_rfl
noncomputable def lIns_l6 (n : Nat) (a : Int) (c : V) (st1 : List V) (next3 : List V → Heap → Option (Res × Heap)) (st7 : List V) (hh8 : Heap) (next9 : List V → Heap → Option (Res × Heap)) : Option (Res × Heap) :=
 (bd (bop prog .gtr 3 (gv st7 1) (V.int .i64 a)) fun v10 =>
 (bv v10 fun b11 => if b11 then
 (bdS (nv (gv st7 1)) fun n12 =>
 (if (1 = 1 ∧ n12 < ((lsl (gv st7 0))).length ∧ (some 25 : Option Nat) ≠ some 0) then
 (bd ((lsl (gv st7 0)))[n12]? fun es13 =>
 (bd (es13)[0]? fun v14 =>
 (bd (bop prog .sub 3 (gv st7 1) (V.int .i64 1)) fun v15 =>
 (bdS (nv v15) fun n16 =>
 (if (1 = 1 ∧ n16 < ((lsl (gv st7 0))).length ∧ (some 30 : Option Nat) ≠ some 0) then
 (bd ((lsl (gv st7 0)))[n16]? fun es17 =>
 (bd (es17)[0]? fun v18 =>
 (fnK c fun f19 c20 => if (okV prog 3 f19 = true) then (if keepS f19 then
 (cl (call n f19 ([v14, v18] ++ c20) hh8) (fun r21 h22 =>
 (one1 r21 fun v24 =>
 (bd (bop prog .lss 3 v24 (V.int .i64 0)) fun v25 =>
 (bv v25 fun b26 => if b26 then
 (bd (bop prog .sub 3 (gv st7 1) (V.int .i64 1)) fun v27 =>
 (bd (bop prog .sub 3 (gv st7 1) (V.int .i64 1)) fun v28 =>
 (bdS (nv v28) fun n29 =>
 (if (1 = 1 ∧ n29 < ((lsl (gv st7 0))).length ∧ (some 45 : Option Nat) ≠ some 0) then
 (bd ((lsl (gv st7 0)))[n29]? fun es30 =>
 (bd (es30)[0]? fun v31 =>
 (bdS (nv (gv st7 1)) fun n32 =>
 (if (1 = 1 ∧ n32 < ((lsl (gv st7 0))).length ∧ (some 49 : Option Nat) ≠ some 0) then
 (bd ((lsl (gv st7 0)))[n32]? fun es33 =>
 (bd (es33)[0]? fun v34 =>
 (bdS (nv (gv st7 1)) fun n35 =>
 (if (1 = 1 ∧ n35 < ((lsl (gv st7 0))).length ∧ (some 51 : Option Nat) ≠ some 0) then
 (if ((V.cells v31)).length = 1 then
 (if (1 = 1 ∧ 0 < 1 ∧ 0 + ((V.cells v31)).length ≤ 1) then
 (bd ((lsl (gv st7 0)))[n35]? fun es36 =>
 (bdS (nv v27) fun n37 =>
 (if (1 = 1 ∧ n37 < ((((lsl (gv st7 0))).set n35 (setR es36 0 (V.cells v31)))).length ∧ (some 52 : Option Nat) ≠ some 0) then
 (if ((V.cells v34)).length = 1 then
 (if (1 = 1 ∧ 0 < 1 ∧ 0 + ((V.cells v34)).length ≤ 1) then
 (bd ((((lsl (gv st7 0))).set n35 (setR es36 0 (V.cells v31))))[n37]? fun es38 =>
 (bd (bop prog .sub 3 (gv st7 1) (V.int .i64 1)) fun v39 =>
 (next9 [(V.sl 1 (((((lsl (gv st7 0))).set n35 (setR es36 0 (V.cells v31)))).set n37 (setR es38 0 (V.cells v34))) false), v39] h22))) else none) else none) else none))) else none) else none) else none)))) else none)))) else none))))
 else
 (bd (bop prog .add 3 (gv st1 1) (V.int .i64 1)) fun v40 =>
 (next3 [(V.sl 1 (lsl (gv st7 0)) false), v40] h22)))))) (fun z23 h22 => none))
 else if pureS f19 then
 (bd (evBsL [(valB hh8 v14), (valB hh8 v18)]) fun a41 => cl (call n f19 (a41 ++ c20) hh8) (fun r21 h22 => if V.simple.simpleL r21 then
 (one1 r21 fun v42 =>
 (bd (bop prog .lss 3 v42 (V.int .i64 0)) fun v43 =>
 (bv v43 fun b44 => if b44 then
 (bd (bop prog .sub 3 (gv st7 1) (V.int .i64 1)) fun v45 =>
 (bd (bop prog .sub 3 (gv st7 1) (V.int .i64 1)) fun v46 =>
 (bdS (nv v46) fun n47 =>
 (if (1 = 1 ∧ n47 < ((lsl (gv st7 0))).length ∧ (some 45 : Option Nat) ≠ some 0) then
 (bd ((lsl (gv st7 0)))[n47]? fun es48 =>
 (bd (es48)[0]? fun v49 =>
 (bdS (nv (gv st7 1)) fun n50 =>
 (if (1 = 1 ∧ n50 < ((lsl (gv st7 0))).length ∧ (some 49 : Option Nat) ≠ some 0) then
 (bd ((lsl (gv st7 0)))[n50]? fun es51 =>
 (bd (es51)[0]? fun v52 =>
 (bdS (nv (gv st7 1)) fun n53 =>
 (if (1 = 1 ∧ n53 < ((lsl (gv st7 0))).length ∧ (some 51 : Option Nat) ≠ some 0) then
 (if ((V.cells v49)).length = 1 then
 (if (1 = 1 ∧ 0 < 1 ∧ 0 + ((V.cells v49)).length ≤ 1) then
 (bd ((lsl (gv st7 0)))[n53]? fun es54 =>
 (bdS (nv v45) fun n55 =>
 (if (1 = 1 ∧ n55 < ((((lsl (gv st7 0))).set n53 (setR es54 0 (V.cells v49)))).length ∧ (some 52 : Option Nat) ≠ some 0) then
 (if ((V.cells v52)).length = 1 then
 (if (1 = 1 ∧ 0 < 1 ∧ 0 + ((V.cells v52)).length ≤ 1) then
 (bd ((((lsl (gv st7 0))).set n53 (setR es54 0 (V.cells v49))))[n55]? fun es56 =>
 (bd (bop prog .sub 3 (gv st7 1) (V.int .i64 1)) fun v57 =>
 (next9 [(V.sl 1 (((((lsl (gv st7 0))).set n53 (setR es54 0 (V.cells v49)))).set n55 (setR es56 0 (V.cells v52))) false), v57] h22))) else none) else none) else none))) else none) else none) else none)))) else none)))) else none))))
 else
 (bd (bop prog .add 3 (gv st1 1) (V.int .i64 1)) fun v58 =>
 (next3 [(V.sl 1 (lsl (gv st7 0)) false), v58] h22))))) else none) (fun z23 h22 => if z23.simple then none else none))
 else none) else none))) else none))))) else none))
 else
 (bd (bop prog .add 3 (gv st1 1) (V.int .i64 1)) fun v59 =>
 (next3 [(V.sl 1 (lsl (gv st7 0)) false), v59] hh8))))
noncomputable def lIns_l0 (n : Nat) (a : Int) (b : Int) (c : V) (st1 : List V) (hh2 : Heap) (next3 : List V → Heap → Option (Res × Heap)) : Option (Res × Heap) :=
 (bd (bop prog .lss 3 (gv st1 1) (V.int .i64 b)) fun v4 =>
 (bv v4 fun b5 => if b5 then
 (loopx n (lIns_l6 n a c st1 next3) [(V.sl 1 (lsl (gv st1 0)) false), (gv st1 1)] hh2)
 else
 some (Res.ret (V.sl 1 (lsl (gv st1 0)) false :: []), hh2)))
noncomputable def lIns (n : Nat) (l : List (List V)) (a : Int) (b : Int) (c : V) (h : Heap) : Option (Res × Heap) :=
 (loopx n (lIns_l0 n a b c) [(V.sl 1 l false), (V.int .i64 (IntKind.i64.wrap (a + 1)))] h)
theorem lIns_eq (n : Nat) (l : List (List V)) (a : Int) (b : Int) (c : V) (h : Heap) : call (n + 1) 93 [(V.sl 1 l false), (V.int .i64 a), (V.int .i64 b), c] h = lIns n l a b c h := by kernel_rfl
noncomputable def lStab_l20 (n : Nat) (k : Int) (c : V) (st14 : List V) (next16 : List V → Heap → Option (Res × Heap)) (st21 : List V) (hh22 : Heap) (next23 : List V → Heap → Option (Res × Heap)) : Option (Res × Heap) :=
 (bd (bop prog .leq 3 (gv st21 2) (V.int .i64 k)) fun v24 =>
 (bv v24 fun b25 => if b25 then
 (bd (bop prog .add 3 (gv st21 1) (gv st14 1)) fun v26 =>
 (clm (call n 94 (V.sl 1 (lsl (gv st21 0)) false :: [(gv st21 1), v26, (gv st21 2), c]) hh22) 1 fun l27 r28 h29 =>
 (bd (bop prog .mul 3 (V.int .i64 2) (gv st14 1)) fun v30 =>
 (bd (bop prog .add 3 (gv st21 2) v30) fun v31 =>
 (next23 [(V.sl 1 l27 false), (gv st21 2), v31] h29)))))
 else
 (bd (bop prog .add 3 (gv st21 1) (gv st14 1)) fun v32 =>
 (bd (bop prog .lss 3 v32 (V.int .i64 k)) fun v33 =>
 (bv v33 fun b34 => if b34 then
 (clm (call n 94 (V.sl 1 (lsl (gv st21 0)) false :: [(gv st21 1), v32, (V.int .i64 k), c]) hh22) 1 fun l35 r36 h37 =>
 (bd (bop prog .mul 3 (gv st14 1) (V.int .i64 2)) fun v38 =>
 (next16 [(V.sl 1 l35 false), v38, (gv st21 1), (gv st21 2)] h37)))
 else
 (bd (bop prog .mul 3 (gv st14 1) (V.int .i64 2)) fun v39 =>
 (next16 [(V.sl 1 (lsl (gv st21 0)) false), v39, (gv st21 1), (gv st21 2)] hh22)))))))
noncomputable def lStab_l13 (n : Nat) (k : Int) (c : V) (st14 : List V) (hh15 : Heap) (next16 : List V → Heap → Option (Res × Heap)) : Option (Res × Heap) :=
 (bd (bop prog .lss 3 (gv st14 1) (V.int .i64 k)) fun v17 =>
 (bv v17 fun b18 => if b18 then
 (bd (bop prog .mul 3 (V.int .i64 2) (gv st14 1)) fun v19 =>
 (loopx n (lStab_l20 n k c st14 next16) [(V.sl 1 (lsl (gv st14 0)) false), (V.int .i64 0), v19] hh15))
 else
 some (Res.ret (V.sl 1 (lsl (gv st14 0)) false :: []), hh15)))
noncomputable def lStab_l0 (n : Nat) (k : Int) (c : V) (st1 : List V) (hh2 : Heap) (next3 : List V → Heap → Option (Res × Heap)) : Option (Res × Heap) :=
 (bd (bop prog .leq 3 (gv st1 2) (V.int .i64 k)) fun v4 =>
 (bv v4 fun b5 => if b5 then
 (clm (call n 93 (V.sl 1 (lsl (gv st1 0)) false :: [(gv st1 1), (gv st1 2), c]) hh2) 1 fun l6 r7 h8 =>
 (bd (bop prog .add 3 (gv st1 2) (V.int .i64 20)) fun v9 =>
 (next3 [(V.sl 1 l6 false), (gv st1 2), v9] h8)))
 else
 (clm (call n 93 (V.sl 1 (lsl (gv st1 0)) false :: [(gv st1 1), (V.int .i64 k), c]) hh2) 1 fun l10 r11 h12 =>
 (loopx n (lStab_l13 n k c) [(V.sl 1 l10 false), (V.int .i64 20), (gv st1 1), (gv st1 2)] h12))))
noncomputable def lStab (n : Nat) (l : List (List V)) (k : Int) (c : V) (h : Heap) : Option (Res × Heap) :=
 (loopx n (lStab_l0 n k c) [(V.sl 1 l false), (V.int .i64 0), (V.int .i64 20)] h)
theorem lStab_eq (n : Nat) (l : List (List V)) (k : Int) (c : V) (h : Heap) : call (n + 1) 88 [(V.sl 1 l false), (V.int .i64 k), c] h = lStab n l k c h := by kernel_rfl
noncomputable def lSort (n : Nat) (l : List (List V)) (c : V) (h : Heap) : Option (Res × Heap) :=
 (clm (call n 88 (V.sl 1 l false :: [(V.int .i64 ((l).length : Int)), c]) h) 1 fun l0 r1 h2 =>
 some (Res.ret (V.sl 1 l0 false :: []), h2))
theorem lSort_eq (n : Nat) (l : List (List V)) (c : V) (h : Heap) : call (n + 1) 80 [(V.sl 1 l false), c] h = lSort n l c h := by kernel_rfl
end Go.Proofs.Try
