import Derived.Test.YtodgpfffnnlbhaaLset
import Derived.Test.YtodgpfffnnlbhaaLwd
/-! laws of layer 11: PRINTED BY A PROGRAM OF MINE (lift6.lean) -/
set_option linter.unusedVariables false
namespace Go.Proofs.Try
open Go.L
set_option maxRecDepth 100000
noncomputable def rSame_l2 (n : Nat) (a : V) (b : V) (st3 : List V) (hh4 : Heap) (next5 : List V → Heap → Option (Res × Heap)) : Option (Res × Heap) :=
 (bd (slcH hh4 a) fun p6 =>
 (bd (bop prog .lss 3 (gv st3 1) (V.int .i64 ((p6.2).length : Int))) fun v7 =>
 (bv v7 fun b8 => if b8 then
 (bdS (nv (gv st3 1)) fun n9 =>
 (bd (idxP 1 n9 a) fun p10 =>
 (bd3 (cellsP hh4 p10) fun cs12 m11 o13 => if (o13 + 1 ≤ m11 ∧ 0 < 1) then
 (bd (cs12)[o13]? fun v14 =>
 (bdS (nv (gv st3 1)) fun n15 =>
 (bd (idxP 1 n15 b) fun p16 =>
 (bd3 (cellsP hh4 p16) fun cs18 m17 o19 => if (o19 + 1 ≤ m17 ∧ 0 < 1) then
 (bd (cs18)[o19]? fun v20 =>
 (bd (bop prog .neq 21 v14 v20) fun v21 =>
 (bv v21 fun b22 => if b22 then
 some (Res.ret [(V.bool false)], hh4)
 else
 (bd (bop prog .add 3 (gv st3 1) (V.int .i64 1)) fun v23 =>
 (next5 [(gv st3 0), v23] hh4))))) else none)))) else none)))
 else
 some (Res.ret [(V.bool true)], hh4))))
noncomputable def rSame (n : Nat) (a : V) (b : V) (h : Heap) : Option (Res × Heap) :=
 (bd (slcH h a) fun p0 =>
 (bd (slcH h b) fun p1 =>
 (if (((p0.2).length : Int) != ((p1.2).length : Int)) then
 some (Res.ret [(V.bool false)], h)
 else
 (loopx n (rSame_l2 n a b) [(V.bool false), (V.int .i64 0)] h))))
theorem rSame_eq (n : Nat) (a : V) (b : V) (h : Heap) : call (n + 1) 23 [a, b] h = rSame n a b h := by kernel_rfl
noncomputable def rTold_l2 (n : Nat) (a : V) (b : V) (st3 : List V) (hh4 : Heap) (next5 : List V → Heap → Option (Res × Heap)) : Option (Res × Heap) :=
 (bd (slcH hh4 a) fun p6 =>
 (bd (bop prog .lss 3 (gv st3 1) (V.int .i64 ((p6.2).length : Int))) fun v7 =>
 (bv v7 fun b8 => if b8 then
 (bdS (nv (gv st3 1)) fun n9 =>
 (bd (idxP 2 n9 a) fun p10 =>
 (bd3 (cellsP hh4 p10) fun cs12 m11 o13 => if (o13 + 2 ≤ m11 ∧ 0 < 2) then
 (bdS (nv (gv st3 1)) fun n14 =>
 (bd (idxP 2 n14 b) fun p15 =>
 (bd3 (cellsP hh4 p15) fun cs17 m16 o18 => if (o18 + 2 ≤ m16 ∧ 0 < 2) then
 (bd (bop prog .neq 34 (V.agg ((cs12).drop o13 |>.take 2)) (V.agg ((cs17).drop o18 |>.take 2))) fun v19 =>
 (bv v19 fun b20 => if b20 then
 some (Res.ret [(V.bool false)], hh4)
 else
 (bd (bop prog .add 3 (gv st3 1) (V.int .i64 1)) fun v21 =>
 (next5 [(gv st3 0), v21] hh4)))) else none))) else none)))
 else
 some (Res.ret [(V.bool true)], hh4))))
noncomputable def rTold (n : Nat) (a : V) (b : V) (h : Heap) : Option (Res × Heap) :=
 (bd (slcH h a) fun p0 =>
 (bd (slcH h b) fun p1 =>
 (if (((p0.2).length : Int) != ((p1.2).length : Int)) then
 some (Res.ret [(V.bool false)], h)
 else
 (loopx n (rTold_l2 n a b) [(V.bool false), (V.int .i64 0)] h))))
theorem rTold_eq (n : Nat) (a : V) (b : V) (h : Heap) : call (n + 1) 31 [a, b] h = rTold n a b h := by kernel_rfl
noncomputable def rInts_l2 (n : Nat) (a : V) (b : V) (st3 : List V) (hh4 : Heap) (next5 : List V → Heap → Option (Res × Heap)) : Option (Res × Heap) :=
 (bd (slcH hh4 a) fun p6 =>
 (bd (bop prog .lss 3 (gv st3 1) (V.int .i64 ((p6.2).length : Int))) fun v7 =>
 (bv v7 fun b8 => if b8 then
 (bdS (nv (gv st3 1)) fun n9 =>
 (bd (idxP 1 n9 a) fun p10 =>
 (bd3 (cellsP hh4 p10) fun cs12 m11 o13 => if (o13 + 1 ≤ m11 ∧ 0 < 1) then
 (bd (cs12)[o13]? fun v14 =>
 (bdS (nv (gv st3 1)) fun n15 =>
 (bd (idxP 1 n15 b) fun p16 =>
 (bd3 (cellsP hh4 p16) fun cs18 m17 o19 => if (o19 + 1 ≤ m17 ∧ 0 < 1) then
 (bd (cs18)[o19]? fun v20 =>
 (bd (bop prog .neq 3 v14 v20) fun v21 =>
 (bv v21 fun b22 => if b22 then
 some (Res.ret [(V.bool false)], hh4)
 else
 (bd (bop prog .add 3 (gv st3 1) (V.int .i64 1)) fun v23 =>
 (next5 [(gv st3 0), v23] hh4))))) else none)))) else none)))
 else
 some (Res.ret [(V.bool true)], hh4))))
noncomputable def rInts (n : Nat) (a : V) (b : V) (h : Heap) : Option (Res × Heap) :=
 (bd (slcH h a) fun p0 =>
 (bd (slcH h b) fun p1 =>
 (if (((p0.2).length : Int) != ((p1.2).length : Int)) then
 some (Res.ret [(V.bool false)], h)
 else
 (loopx n (rInts_l2 n a b) [(V.bool false), (V.int .i64 0)] h))))
theorem rInts_eq (n : Nat) (a : V) (b : V) (h : Heap) : call (n + 1) 32 [a, b] h = rInts n a b h := by kernel_rfl
noncomputable def rMost (n : Nat) (x0 : Int) (h : Heap) : Option (Res × Heap) :=
 some (Res.ret [(V.int .i64 (if 0 < (if 1000 < x0 then 1000 else x0) then (if 1000 < x0 then 1000 else x0) else 0))], h)
theorem rMost_eq (n : Nat) (x0 : Int) (h : Heap) : call (n + 1) 66 [(V.int .i64 x0)] h = rMost n x0 h := by kernel_rfl
noncomputable def lwLeast_l52 (n : Nat) (v3 : V) (v17 : V) (st21 : List V) (next23 : List V → Heap → Option (Res × Heap)) (v51 : V) (st53 : List V) (hh54 : Heap) (next55 : List V → Heap → Option (Res × Heap)) : Option (Res × Heap) :=
 (bd (slcH hh54 v3) fun p56 =>
 (bd (bop prog .lss 3 (gv st53 1) (V.int .i64 ((p56.2).length : Int))) fun v57 =>
 (bv v57 fun b58 => if b58 then
 (bdS (nv (gv st21 2)) fun n59 =>
 (bd (idxP 2 n59 v17) fun p60 =>
 (bd (addP 0 p60) fun p61 =>
 (bd3 (cellsP hh54 p61) fun cs63 m62 o64 => if (o64 + 1 ≤ m62 ∧ 0 < 1) then
 (bd (cs63)[o64]? fun v65 =>
 (bd (bop prog .eql 5 v65 (V.int .u8 1)) fun v66 =>
 (bv v66 fun b67 => if b67 then
 (bdS (nv (gv st53 1)) fun n68 =>
 (bd (idxP 2 n68 v17) fun p69 =>
 (bd (addP 0 p69) fun p70 =>
 (bd3 (cellsP hh54 p70) fun cs72 m71 o73 => if (o73 + 1 ≤ m71 ∧ 0 < 1) then
 (bd (cs72)[o73]? fun v74 =>
 (bd (bop prog .eql 5 v74 (V.int .u8 3)) fun v75 =>
 (bv v75 fun b76 => if b76 then
 (bdS (nv (gv st53 1)) fun n77 =>
 (bd (idxP 2 n77 v3) fun p78 =>
 (bd (addP 1 p78) fun p79 =>
 (bd3 (cellsP hh54 p79) fun cs81 m80 o82 => if (o82 + 1 ≤ m80 ∧ 0 < 1) then
 (bd (cs81)[o82]? fun v83 =>
 (bdS (nv (gv st21 2)) fun n84 =>
 (bd (idxP 2 n84 v3) fun p85 =>
 (bd (addP 1 p85) fun p86 =>
 (bd3 (cellsP hh54 p86) fun cs88 m87 o89 => if (o89 + 1 ≤ m87 ∧ 0 < 1) then
 (bd (cs88)[o89]? fun v90 =>
 (bd (bop prog .lss 21 v83 v90) fun v91 =>
 (bv v91 fun b92 => if b92 then
 some (Res.ret [(V.bool false)], hh54)
 else
 (bd (bop prog .add 3 (gv st53 1) (V.int .i64 1)) fun v93 =>
 (next55 [(gv st53 0), v93] hh54))))) else none))))) else none))))
 else
 (bd (bop prog .add 3 (gv st53 1) (V.int .i64 1)) fun v94 =>
 (next55 [(gv st53 0), v94] hh54))))) else none))))
 else
 (bd (bop prog .add 3 (gv st53 1) (V.int .i64 1)) fun v95 =>
 (next55 [(gv st53 0), v95] hh54))))) else none))))
 else
 (bd (bop prog .add 3 (gv st21 2) (V.int .i64 1)) fun v96 =>
 (next23 [(gv st53 0), v51, v96] hh54)))))
noncomputable def lwLeast_l97 (n : Nat) (v3 : V) (v17 : V) (st21 : List V) (next23 : List V → Heap → Option (Res × Heap)) (st98 : List V) (hh99 : Heap) (next100 : List V → Heap → Option (Res × Heap)) : Option (Res × Heap) :=
 (bd (slcH hh99 v3) fun p101 =>
 (bd (bop prog .lss 3 (gv st98 1) (V.int .i64 ((p101.2).length : Int))) fun v102 =>
 (bv v102 fun b103 => if b103 then
 (bdS (nv (gv st21 2)) fun n104 =>
 (bd (idxP 2 n104 v17) fun p105 =>
 (bd (addP 0 p105) fun p106 =>
 (bd3 (cellsP hh99 p106) fun cs108 m107 o109 => if (o109 + 1 ≤ m107 ∧ 0 < 1) then
 (bd (cs108)[o109]? fun v110 =>
 (bd (bop prog .eql 5 v110 (V.int .u8 1)) fun v111 =>
 (bv v111 fun b112 => if b112 then
 (bdS (nv (gv st98 1)) fun n113 =>
 (bd (idxP 2 n113 v17) fun p114 =>
 (bd (addP 0 p114) fun p115 =>
 (bd3 (cellsP hh99 p115) fun cs117 m116 o118 => if (o118 + 1 ≤ m116 ∧ 0 < 1) then
 (bd (cs117)[o118]? fun v119 =>
 (bd (bop prog .eql 5 v119 (V.int .u8 3)) fun v120 =>
 (bv v120 fun b121 => if b121 then
 (bdS (nv (gv st98 1)) fun n122 =>
 (bd (idxP 2 n122 v3) fun p123 =>
 (bd (addP 1 p123) fun p124 =>
 (bd3 (cellsP hh99 p124) fun cs126 m125 o127 => if (o127 + 1 ≤ m125 ∧ 0 < 1) then
 (bd (cs126)[o127]? fun v128 =>
 (bdS (nv (gv st21 2)) fun n129 =>
 (bd (idxP 2 n129 v3) fun p130 =>
 (bd (addP 1 p130) fun p131 =>
 (bd3 (cellsP hh99 p131) fun cs133 m132 o134 => if (o134 + 1 ≤ m132 ∧ 0 < 1) then
 (bd (cs133)[o134]? fun v135 =>
 (bd (bop prog .lss 21 v128 v135) fun v136 =>
 (bv v136 fun b137 => if b137 then
 some (Res.ret [(V.bool false)], hh99)
 else
 (bd (bop prog .add 3 (gv st98 1) (V.int .i64 1)) fun v138 =>
 (next100 [(gv st98 0), v138] hh99))))) else none))))) else none))))
 else
 (bd (bop prog .add 3 (gv st98 1) (V.int .i64 1)) fun v139 =>
 (next100 [(gv st98 0), v139] hh99))))) else none))))
 else
 (bd (bop prog .add 3 (gv st98 1) (V.int .i64 1)) fun v140 =>
 (next100 [(gv st98 0), v140] hh99))))) else none))))
 else
 (bd (bop prog .add 3 (gv st21 2) (V.int .i64 1)) fun v141 =>
 (next23 [(gv st98 0), (gv st21 1), v141] hh99)))))
noncomputable def lwLeast_l20 (n : Nat) (v3 : V) (v7 : V) (v17 : V) (st21 : List V) (hh22 : Heap) (next23 : List V → Heap → Option (Res × Heap)) : Option (Res × Heap) :=
 (bd (slcH hh22 v3) fun p24 =>
 (bd (bop prog .lss 3 (gv st21 2) (V.int .i64 ((p24.2).length : Int))) fun v25 =>
 (bv v25 fun b26 => if b26 then
 (bdS (nv (gv st21 2)) fun n27 =>
 (bd (idxP 2 n27 v17) fun p28 =>
 (bd (addP 0 p28) fun p29 =>
 (bd3 (cellsP hh22 p29) fun cs31 m30 o32 => if (o32 + 1 ≤ m30 ∧ 0 < 1) then
 (bd (cs31)[o32]? fun v33 =>
 (bd (bop prog .eql 5 v33 (V.int .u8 2)) fun v34 =>
 (bv v34 fun b35 => if b35 then
 (bdS (nv (gv st21 2)) fun n36 =>
 (bd (idxP 2 n36 v17) fun p37 =>
 (bd (addP 1 p37) fun p38 =>
 (bd3 (cellsP hh22 p38) fun cs40 m39 o41 => if (o41 + 1 ≤ m39 ∧ 0 < 1) then
 (bd (cs40)[o41]? fun v42 =>
 (bd (bop prog .lss 21 v42 (gv st21 1)) fun v43 =>
 (bv v43 fun b44 => if b44 then
 some (Res.ret [(V.bool false)], hh22)
 else
 (bdS (nv (gv st21 2)) fun n45 =>
 (bd (idxP 2 n45 v17) fun p46 =>
 (bd (addP 1 p46) fun p47 =>
 (bd3 (cellsP hh22 p47) fun cs49 m48 o50 => if (o50 + 1 ≤ m48 ∧ 0 < 1) then
 (bd (cs49)[o50]? fun v51 =>
 (loopx n (lwLeast_l52 n v3 v17 st21 next23 v51) [(gv st21 0), (V.int .i64 0)] hh22)) else none))))))) else none))))
 else
 (loopx n (lwLeast_l97 n v3 v17 st21 next23) [(gv st21 0), (V.int .i64 0)] hh22)))) else none))))
 else
 (cl (call n 21 [v7] hh22) (fun r142 h143 =>
 (one1 r142 fun v145 =>
 (cl (call n 13 [] h143) (fun r146 h147 =>
 (one1 r146 fun v149 =>
 (bv v149 fun b150 => if b150 then
 (bd (slcH h147 v145) fun p151 =>
 (if (((p151.2).length : Int) == 0) then
 some (Res.ret [(V.bool true)], h147)
 else
 (bd (idxP 1 0 v145) fun p152 =>
 (bd3 (cellsP h147 p152) fun cs154 m153 o155 => if (o155 + 1 ≤ m153 ∧ 0 < 1) then
 (bd (cs154)[o155]? fun v156 =>
 (bd (bop prog .geq 21 v156 (gv st21 1)) fun v157 =>
 some (Res.ret [v157], h147))) else none))))
 else
 some (Res.ret [(V.bool false)], h147)))) (fun z148 h147 => some (Res.pan z148, h147))))) (fun z144 h143 => some (Res.pan z144, h143))))))
noncomputable def lwLeast (n : Nat) (x0 : Int) (x1 : List (List V)) (x1b : Bool) : Option (Res × Heap) :=
 (cl (call n 14 [(V.sl 1 x1 x1b), (V.int .u8 2)] []) (fun r0 h1 =>
 (one1 r0 fun v3 =>
 (cl (call n 15 [(V.int .i64 (IntKind.i64.wrap (Int.tmod x0 12)))] h1) (fun r4 h5 =>
 (one1 r4 fun v7 =>
 (bd (bopH prog h5 .eql 26 v7 (V.val (.pointer none))) fun v8 =>
 (bv v8 fun b9 => if b9 then
 some (Res.ret [(V.bool false)], h5)
 else
 (cl (call n 16 [] h5) (fun r10 h11 =>
 (one1 r10 fun v13 =>
 (cl (call n 18 [v7, v13, v3] h11) (fun r14 h15 =>
 (one1 r14 fun v17 =>
 (bd (slcH h15 v17) fun p18 =>
 (bd (slcH h15 v3) fun p19 =>
 (if (((p18.2).length : Int) != ((p19.2).length : Int)) then
 some (Res.ret [(V.bool false)], h15)
 else
 (loopx n (lwLeast_l20 n v3 v7 v17) [(V.bool false), (V.int .i32 (-2147483648)), (V.int .i64 0)] h15)))))) (fun z16 h15 => some (Res.pan z16, h15))))) (fun z12 h11 => some (Res.pan z12, h11))))))) (fun z6 h5 => some (Res.pan z6, h5))))) (fun z2 h1 => some (Res.pan z2, h1)))
theorem lwLeast_eq (n : Nat) (x0 : Int) (x1 : List (List V)) (x1b : Bool) (h : Heap) : call (n + 1) 4 [(V.int .u8 x0), (V.sl 1 x1 x1b)] h = gcw [(V.int .u8 x0), (V.sl 1 x1 x1b)] (lwLeast n x0 x1 x1b) h := by kernel_rfl
noncomputable def lwOne_l36 (n : Nat) (x0 : Int) (x1 : List (List V)) (x1b : Bool) (x3 : Int) (v3 : V) (v7 : V) (st37 : List V) (hh38 : Heap) (next39 : List V → Heap → Option (Res × Heap)) : Option (Res × Heap) :=
 (bd (bop prog .lss 3 (gv st37 1) (V.int .i64 ((x1).length : Int))) fun v40 =>
 (bv v40 fun b41 => if b41 then
 (bdS (nv (gv st37 1)) fun n42 =>
 (bd (idxP 1 n42 (V.sl 1 x1 x1b)) fun p43 =>
 (bd3 (cellsP hh38 p43) fun cs45 m44 o46 => if (o46 + 1 ≤ m44 ∧ 0 < 1) then
 (bd (cs45)[o46]? fun v47 =>
 (bd (cvt prog 5 21 v47) fun v48 =>
 (cl (call n 22 [v3, v48, (V.int .i64 (IntKind.i64.wrap (1 + (IntKind.i64.wrap (Int.tmod x3 8)))))] hh38) (fun r49 h50 =>
 (one1 r49 fun v52 =>
 (bd (bop prog .add 3 (gv st37 1) (V.int .i64 1)) fun v53 =>
 (next39 [(V.agg (lcs (gv st37 0))), v53] h50)))) (fun z51 h50 => some (Res.pan z51, h50))))) else none)))
 else
 (cl (call n 21 [v3] hh38) (fun r54 h55 =>
 (one1 r54 fun v57 =>
 (cl (call n 18 [v3, v7, (V.sl 0 [] true)] h55) (fun r58 h59 =>
 (one1 r58 fun v61 =>
 (bd ((lcs (gv st37 0)))[0]? fun v62 =>
 (bd (bop prog .rem 5 v62 (V.int .u8 3)) fun v63 =>
 (bd (bop prog .add 5 (V.int .u8 1) v63) fun v64 =>
 (if ((V.cells v64)).length = 1 then
 (if (0 = 0 ∧ 0 + ((V.cells v64)).length ≤ 2) then
 (bd (bslV prog 24 1 [(0, (V.agg (((setR (lcs (gv st37 0)) 0 (V.cells v64))).drop 0 |>.take 2)))]) fun p65 =>
 (cl (call n 18 [v3, v7, (V.sl 2 p65.2 false)] h59) (fun r66 h67 =>
 (one1 r66 fun v69 =>
 (bd (slcH h67 v69) fun p70 =>
 (if (((p70.2).length : Int) != 1) then
 some (Res.ret [(V.bool false)], h67)
 else
 (bd (slcH h67 v61) fun p71 =>
 (if (((p71.2).length : Int) != 0) then
 some (Res.ret [(V.bool false)], h67)
 else
 (cl (call n 21 [v3] h67) (fun r72 h73 =>
 (one1 r72 fun v75 =>
 (bd ((setR (lcs (gv st37 0)) 0 (V.cells v64)))[0]? fun v76 =>
 (bd (bop prog .eql 5 v76 (V.int .u8 3)) fun v77 =>
 (bv v77 fun b78 => if b78 then
 (cl (call n 13 [] h73) (fun r79 h80 =>
 (one1 r79 fun v82 =>
 (bv v82 fun b83 => if b83 then
 (bd (idxP 2 0 v69) fun p84 =>
 (bd (addP 0 p84) fun p85 =>
 (bd3 (cellsP h80 p85) fun cs87 m86 o88 => if (o88 + 1 ≤ m86 ∧ 0 < 1) then
 (bd (cs87)[o88]? fun v89 =>
 (bd (bop prog .eql 5 v89 (V.int .u8 5)) fun v90 =>
 (bv v90 fun b91 => if b91 then
 (cl (call n 23 [v75, v57] h80) (fun r92 h93 =>
 (one1 r92 fun v95 =>
 some (Res.ret [v95], h93))) (fun z94 h93 => some (Res.pan z94, h93)))
 else
 some (Res.ret [(V.bool false)], h80)))) else none)))
 else
 some (Res.ret [(V.bool false)], h80)))) (fun z81 h80 => some (Res.pan z81, h80)))
 else
 (bd ((setR (lcs (gv st37 0)) 0 (V.cells v64)))[0]? fun v96 =>
 (bd (bop prog .eql 5 v96 (V.int .u8 1)) fun v97 =>
 (bv v97 fun b98 => if b98 then
 (bd (slcH h73 v57) fun p99 =>
 (if (((p99.2).length : Int) == (IntKind.i64.wrap (Int.tmod x0 15))) then
 (cl (call n 13 [] h73) (fun r100 h101 =>
 (one1 r100 fun v103 =>
 (bv v103 fun b104 => if b104 then
 (bd (idxP 2 0 v69) fun p105 =>
 (bd (addP 0 p105) fun p106 =>
 (bd3 (cellsP h101 p106) fun cs108 m107 o109 => if (o109 + 1 ≤ m107 ∧ 0 < 1) then
 (bd (cs108)[o109]? fun v110 =>
 (bd (bop prog .eql 5 v110 (V.int .u8 3)) fun v111 =>
 (bv v111 fun b112 => if b112 then
 (cl (call n 23 [v75, v57] h101) (fun r113 h114 =>
 (one1 r113 fun v116 =>
 some (Res.ret [v116], h114))) (fun z115 h114 => some (Res.pan z115, h114)))
 else
 some (Res.ret [(V.bool false)], h101)))) else none)))
 else
 some (Res.ret [(V.bool false)], h101)))) (fun z102 h101 => some (Res.pan z102, h101)))
 else
 (bd ((setR (lcs (gv st37 0)) 0 (V.cells v64)))[0]? fun v117 =>
 (bd (bop prog .eql 5 v117 (V.int .u8 1)) fun v118 =>
 (bv v118 fun b119 => if b119 then
 (cl (call n 13 [] h73) (fun r120 h121 =>
 (one1 r120 fun v123 =>
 (bv v123 fun b124 => if b124 then
 (bd (idxP 2 0 v69) fun p125 =>
 (bd (addP 0 p125) fun p126 =>
 (bd3 (cellsP h121 p126) fun cs128 m127 o129 => if (o129 + 1 ≤ m127 ∧ 0 < 1) then
 (bd (cs128)[o129]? fun v130 =>
 (bd (bop prog .eql 5 v130 (V.int .u8 1)) fun v131 =>
 (bv v131 fun b132 => if b132 then
 (bd (slcH h121 v75) fun p133 =>
 (bd (slcH h121 v57) fun p134 =>
 some (Res.ret [(V.bool (((p133.2).length : Int) == (IntKind.i64.wrap (((p134.2).length : Int) + 1))))], h121)))
 else
 some (Res.ret [(V.bool false)], h121)))) else none)))
 else
 some (Res.ret [(V.bool false)], h121)))) (fun z122 h121 => some (Res.pan z122, h121)))
 else
 (bd (slcH h73 v57) fun p135 =>
 (if (((p135.2).length : Int) == 0) then
 (cl (call n 13 [] h73) (fun r136 h137 =>
 (one1 r136 fun v139 =>
 (bv v139 fun b140 => if b140 then
 (bd (idxP 2 0 v69) fun p141 =>
 (bd (addP 0 p141) fun p142 =>
 (bd3 (cellsP h137 p142) fun cs144 m143 o145 => if (o145 + 1 ≤ m143 ∧ 0 < 1) then
 (bd (cs144)[o145]? fun v146 =>
 (bd (bop prog .eql 5 v146 (V.int .u8 4)) fun v147 =>
 (bv v147 fun b148 => if b148 then
 (bd (slcH h137 v75) fun p149 =>
 some (Res.ret [(V.bool (((p149.2).length : Int) == 0))], h137))
 else
 some (Res.ret [(V.bool false)], h137)))) else none)))
 else
 some (Res.ret [(V.bool false)], h137)))) (fun z138 h137 => some (Res.pan z138, h137)))
 else
 (cl (call n 13 [] h73) (fun r150 h151 =>
 (one1 r150 fun v153 =>
 (bv v153 fun b154 => if b154 then
 (bd (idxP 2 0 v69) fun p155 =>
 (bd3 (cellsP h151 p155) fun cs157 m156 o158 => if (o158 + 2 ≤ m156 ∧ 0 < 2) then
 (bd (idxP 1 0 v57) fun p159 =>
 (bd3 (cellsP h151 p159) fun cs161 m160 o162 => if (o162 + 1 ≤ m160 ∧ 0 < 1) then
 (bd (cs161)[o162]? fun v163 =>
 (bd (bldV prog 34 [(0, (V.int .u8 2)), (1, v163)]) fun cs164 =>
 (bd (bop prog .eql 34 (V.agg ((cs157).drop o158 |>.take 2)) (V.agg cs164)) fun v165 =>
 (bv v165 fun b166 => if b166 then
 (bd (lenP v57) fun n167 =>
 (bd (sliceP 1 1 n167 (none : Option Nat) true v57) fun v168 =>
 (cl (call n 23 [v75, v168] h151) (fun r169 h170 =>
 (one1 r169 fun v172 =>
 some (Res.ret [v172], h170))) (fun z171 h170 => none))))
 else
 some (Res.ret [(V.bool false)], h151))))) else none)) else none))
 else
 some (Res.ret [(V.bool false)], h151)))) (fun z152 h151 => none)))))))))
 else
 (bd ((setR (lcs (gv st37 0)) 0 (V.cells v64)))[0]? fun v173 =>
 (bd (bop prog .eql 5 v173 (V.int .u8 1)) fun v174 =>
 (bv v174 fun b175 => if b175 then
 (cl (call n 13 [] h73) (fun r176 h177 =>
 (one1 r176 fun v179 =>
 (bv v179 fun b180 => if b180 then
 (bd (idxP 2 0 v69) fun p181 =>
 (bd (addP 0 p181) fun p182 =>
 (bd3 (cellsP h177 p182) fun cs184 m183 o185 => if (o185 + 1 ≤ m183 ∧ 0 < 1) then
 (bd (cs184)[o185]? fun v186 =>
 (bd (bop prog .eql 5 v186 (V.int .u8 1)) fun v187 =>
 (bv v187 fun b188 => if b188 then
 (bd (slcH h177 v75) fun p189 =>
 (bd (slcH h177 v57) fun p190 =>
 some (Res.ret [(V.bool (((p189.2).length : Int) == (IntKind.i64.wrap (((p190.2).length : Int) + 1))))], h177)))
 else
 some (Res.ret [(V.bool false)], h177)))) else none)))
 else
 some (Res.ret [(V.bool false)], h177)))) (fun z178 h177 => some (Res.pan z178, h177)))
 else
 (bd (slcH h73 v57) fun p191 =>
 (if (((p191.2).length : Int) == 0) then
 (cl (call n 13 [] h73) (fun r192 h193 =>
 (one1 r192 fun v195 =>
 (bv v195 fun b196 => if b196 then
 (bd (idxP 2 0 v69) fun p197 =>
 (bd (addP 0 p197) fun p198 =>
 (bd3 (cellsP h193 p198) fun cs200 m199 o201 => if (o201 + 1 ≤ m199 ∧ 0 < 1) then
 (bd (cs200)[o201]? fun v202 =>
 (bd (bop prog .eql 5 v202 (V.int .u8 4)) fun v203 =>
 (bv v203 fun b204 => if b204 then
 (bd (slcH h193 v75) fun p205 =>
 some (Res.ret [(V.bool (((p205.2).length : Int) == 0))], h193))
 else
 some (Res.ret [(V.bool false)], h193)))) else none)))
 else
 some (Res.ret [(V.bool false)], h193)))) (fun z194 h193 => some (Res.pan z194, h193)))
 else
 (cl (call n 13 [] h73) (fun r206 h207 =>
 (one1 r206 fun v209 =>
 (bv v209 fun b210 => if b210 then
 (bd (idxP 2 0 v69) fun p211 =>
 (bd3 (cellsP h207 p211) fun cs213 m212 o214 => if (o214 + 2 ≤ m212 ∧ 0 < 2) then
 (bd (idxP 1 0 v57) fun p215 =>
 (bd3 (cellsP h207 p215) fun cs217 m216 o218 => if (o218 + 1 ≤ m216 ∧ 0 < 1) then
 (bd (cs217)[o218]? fun v219 =>
 (bd (bldV prog 34 [(0, (V.int .u8 2)), (1, v219)]) fun cs220 =>
 (bd (bop prog .eql 34 (V.agg ((cs213).drop o214 |>.take 2)) (V.agg cs220)) fun v221 =>
 (bv v221 fun b222 => if b222 then
 (bd (lenP v57) fun n223 =>
 (bd (sliceP 1 1 n223 (none : Option Nat) true v57) fun v224 =>
 (cl (call n 23 [v75, v224] h207) (fun r225 h226 =>
 (one1 r225 fun v228 =>
 some (Res.ret [v228], h226))) (fun z227 h226 => none))))
 else
 some (Res.ret [(V.bool false)], h207))))) else none)) else none))
 else
 some (Res.ret [(V.bool false)], h207)))) (fun z208 h207 => none))))))))))))))) (fun z74 h73 => some (Res.pan z74, h73))))))))) (fun z68 h67 => some (Res.pan z68, h67)))) else none) else none)))))) (fun z60 h59 => some (Res.pan z60, h59))))) (fun z56 h55 => some (Res.pan z56, h55)))))
noncomputable def lwOne (n : Nat) (x0 : Int) (x1 : List (List V)) (x1b : Bool) (x2_0 : Int) (x2_1 : Int) (x3 : Int) : Option (Res × Heap) :=
 (cl (call n 15 [(V.int .i64 (IntKind.i64.wrap (Int.tmod x0 15)))] []) (fun r0 h1 =>
 (one1 r0 fun v3 =>
 (cl (call n 16 [] h1) (fun r4 h5 =>
 (one1 r4 fun v7 =>
 (bd (bopH prog h5 .eql 26 v3 (V.val (.pointer none))) fun v8 =>
 (bv v8 fun b9 => if b9 then
 (bd (bopH prog h5 .neq 26 v3 (V.val (.pointer none))) fun v10 =>
 (bv v10 fun b11 => if b11 then
 (bd (bopH prog h5 .neq 28 v7 (V.val (.pointer none))) fun v12 =>
 (bv v12 fun b13 => if b13 then
 (cl (call n 13 [] h5) (fun r14 h15 =>
 (one1 r14 fun v17 =>
 some (Res.ret [v17], h15))) (fun z16 h15 => some (Res.pan z16, h15)))
 else
 some (Res.ret [(V.bool false)], h5)))
 else
 some (Res.ret [(V.bool false)], h5)))
 else
 (bd (bopH prog h5 .eql 28 v7 (V.val (.pointer none))) fun v18 =>
 (bv v18 fun b19 => if b19 then
 (bd (bopH prog h5 .neq 26 v3 (V.val (.pointer none))) fun v20 =>
 (bv v20 fun b21 => if b21 then
 (bd (bopH prog h5 .neq 28 v7 (V.val (.pointer none))) fun v22 =>
 (bv v22 fun b23 => if b23 then
 (cl (call n 13 [] h5) (fun r24 h25 =>
 (one1 r24 fun v27 =>
 some (Res.ret [v27], h25))) (fun z26 h25 => some (Res.pan z26, h25)))
 else
 some (Res.ret [(V.bool false)], h5)))
 else
 some (Res.ret [(V.bool false)], h5)))
 else
 (if (decide (((x1).length : Int) > 60)) then
 (bd (bopH prog h5 .neq 26 v3 (V.val (.pointer none))) fun v28 =>
 (bv v28 fun b29 => if b29 then
 (bd (bopH prog h5 .neq 28 v7 (V.val (.pointer none))) fun v30 =>
 (bv v30 fun b31 => if b31 then
 (cl (call n 13 [] h5) (fun r32 h33 =>
 (one1 r32 fun v35 =>
 some (Res.ret [v35], h33))) (fun z34 h33 => some (Res.pan z34, h33)))
 else
 some (Res.ret [(V.bool false)], h5)))
 else
 some (Res.ret [(V.bool false)], h5)))
 else
 (loopx n (lwOne_l36 n x0 x1 x1b x3 v3 v7) [(V.agg [(V.int .u8 x2_0), (V.int .i32 x2_1)]), (V.int .i64 0)] h5)))))))) (fun z6 h5 => some (Res.pan z6, h5))))) (fun z2 h1 => some (Res.pan z2, h1)))
theorem lwOne_eq (n : Nat) (x0 : Int) (x1 : List (List V)) (x1b : Bool) (x2_0 : Int) (x2_1 : Int) (x3 : Int) (h : Heap) : call (n + 1) 6 [(V.int .u8 x0), (V.sl 1 x1 x1b), (V.agg [(V.int .u8 x2_0), (V.int .i32 x2_1)]), (V.int .u8 x3)] h = gcw [(V.int .u8 x0), (V.sl 1 x1 x1b), (V.agg [(V.int .u8 x2_0), (V.int .i32 x2_1)]), (V.int .u8 x3)] (lwOne n x0 x1 x1b x2_0 x2_1 x3) h := by kernel_rfl
noncomputable def lwTurned_l140 (n : Nat) (v22 : V) (v26 : V) (st141 : List V) (hh142 : Heap) (next143 : List V → Heap → Option (Res × Heap)) : Option (Res × Heap) :=
 (bd (bop prog .lss 3 (gv st141 2) (V.int .i64 6)) fun v144 =>
 (bv v144 fun b145 => if b145 then
 (bdS (nv (gv st141 2)) fun n146 =>
 (if (1 = 1 ∧ n146 < ((lsl (gv st141 1))).length ∧ (some 137 : Option Nat) ≠ some 16) then
 (bd ((lsl (gv st141 1)))[n146]? fun es147 =>
 (bd (es147)[0]? fun v148 =>
 (bd (bop prog .neq 3 v148 (V.int .i64 0)) fun v149 =>
 (bv v149 fun b150 => if b150 then
 some (Res.ret [(V.bool false)], hh142)
 else
 (bd (bop prog .add 3 (gv st141 2) (V.int .i64 1)) fun v151 =>
 (next143 [(gv st141 0), (V.sl 1 (lsl (gv st141 1)) false), v151, (V.bool false)] hh142)))))) else none))
 else
 (cl (call n 13 [] hh142) (fun r152 h153 =>
 (one1 r152 fun v155 =>
 (bv v155 fun b156 => if b156 then
 (cl (call n 21 [v22] h153) (fun r157 h158 =>
 (one1 r157 fun v160 =>
 (cl (call n 21 [v26] h158) (fun r161 h162 =>
 (one1 r161 fun v164 =>
 (cl (call n 23 [v160, v164] h162) (fun r165 h166 =>
 (one1 r165 fun v168 =>
 some (Res.ret [v168], h166))) (fun z167 h166 => some (Res.pan z167, h166))))) (fun z163 h162 => some (Res.pan z163, h162))))) (fun z159 h158 => some (Res.pan z159, h158)))
 else
 some (Res.ret [(V.bool false)], h153)))) (fun z154 h153 => some (Res.pan z154, h153)))))
noncomputable def lwTurned_l104 (n : Nat) (v22 : V) (v26 : V) (v91 : V) (v99 : V) (st105 : List V) (hh106 : Heap) (next107 : List V → Heap → Option (Res × Heap)) : Option (Res × Heap) :=
 (bd (slcH hh106 v91) fun p108 =>
 (bd (bop prog .lss 3 (gv st105 1) (V.int .i64 ((p108.2).length : Int))) fun v109 =>
 (bv v109 fun b110 => if b110 then
 (bdS (nv (gv st105 1)) fun n111 =>
 (bd (idxP 2 n111 v91) fun p112 =>
 (bd (addP 0 p112) fun p113 =>
 (bd3 (cellsP hh106 p113) fun cs115 m114 o116 => if (o116 + 1 ≤ m114 ∧ 0 < 1) then
 (bd (cs115)[o116]? fun v117 =>
 (bd (bop prog .rem 5 v117 (V.int .u8 6)) fun v118 =>
 (bdS (nv v118) fun n119 =>
 (if (1 = 1 ∧ n119 < ((lsl (gv st105 0))).length ∧ (some 116 : Option Nat) ≠ some 16) then
 (bd ((lsl (gv st105 0)))[n119]? fun es120 =>
 (bd (es120)[0]? fun v121 =>
 (bd (bop prog .add 3 v121 (V.int .i64 1)) fun v122 =>
 (bdS (nv v118) fun n123 =>
 (if (1 = 1 ∧ n123 < ((lsl (gv st105 0))).length ∧ (some 119 : Option Nat) ≠ some 16) then
 (if ((V.cells v122)).length = 1 then
 (if (1 = 1 ∧ 0 < 1 ∧ 0 + ((V.cells v122)).length ≤ 1) then
 (bd ((lsl (gv st105 0)))[n123]? fun es124 =>
 (bdS (nv (gv st105 1)) fun n125 =>
 (bd (idxP 2 n125 v99) fun p126 =>
 (bd (addP 0 p126) fun p127 =>
 (bd3 (cellsP hh106 p127) fun cs129 m128 o130 => if (o130 + 1 ≤ m128 ∧ 0 < 1) then
 (bd (cs129)[o130]? fun v131 =>
 (bd (bop prog .rem 5 v131 (V.int .u8 6)) fun v132 =>
 (bdS (nv v132) fun n133 =>
 (if (1 = 1 ∧ n133 < ((((lsl (gv st105 0))).set n123 (setR es124 0 (V.cells v122)))).length ∧ (some 127 : Option Nat) ≠ some 16) then
 (bd ((((lsl (gv st105 0))).set n123 (setR es124 0 (V.cells v122))))[n133]? fun es134 =>
 (bd (es134)[0]? fun v135 =>
 (bd (bop prog .sub 3 v135 (V.int .i64 1)) fun v136 =>
 (bdS (nv v132) fun n137 =>
 (if (1 = 1 ∧ n137 < ((((lsl (gv st105 0))).set n123 (setR es124 0 (V.cells v122)))).length ∧ (some 130 : Option Nat) ≠ some 16) then
 (if ((V.cells v136)).length = 1 then
 (if (1 = 1 ∧ 0 < 1 ∧ 0 + ((V.cells v136)).length ≤ 1) then
 (bd ((((lsl (gv st105 0))).set n123 (setR es124 0 (V.cells v122))))[n137]? fun es138 =>
 (bd (bop prog .add 3 (gv st105 1) (V.int .i64 1)) fun v139 =>
 (next107 [(V.sl 1 (((((lsl (gv st105 0))).set n123 (setR es124 0 (V.cells v122)))).set n137 (setR es138 0 (V.cells v136))) false), v139, (V.bool false)] hh106))) else none) else none) else none))))) else none)))) else none))))) else none) else none) else none))))) else none)))) else none))))
 else
 (loopx n (lwTurned_l140 n v22 v26) [(V.bool false), (V.sl 1 (lsl (gv st105 0)) false), (V.int .i64 0), (V.bool false)] hh106))))
noncomputable def lwTurned_l55 (n : Nat) (x2 : List (List V)) (x2b : Bool) (v3 : V) (v22 : V) (v26 : V) (st56 : List V) (hh57 : Heap) (next58 : List V → Heap → Option (Res × Heap)) : Option (Res × Heap) :=
 (bd (bop prog .lss 3 (gv st56 1) (V.int .i64 ((x2).length : Int))) fun v59 =>
 (bv v59 fun b60 => if b60 then
 (bdS (nv (gv st56 1)) fun n61 =>
 (bd (idxP 1 n61 (V.sl 1 x2 x2b)) fun p62 =>
 (bd3 (cellsP hh57 p62) fun cs64 m63 o65 => if (o65 + 1 ≤ m63 ∧ 0 < 1) then
 (bd (cs64)[o65]? fun v66 =>
 (bd (cvt prog 5 21 v66) fun v67 =>
 (cl (call n 22 [v22, v67, (V.int .i64 1)] hh57) (fun r68 h69 =>
 (one1 r68 fun v71 =>
 (bdS (nv (gv st56 1)) fun n72 =>
 (bd (idxP 1 n72 (V.sl 1 x2 x2b)) fun p73 =>
 (bd3 (cellsP h69 p73) fun cs75 m74 o76 => if (o76 + 1 ≤ m74 ∧ 0 < 1) then
 (bd (cs75)[o76]? fun v77 =>
 (bd (cvt prog 5 21 v77) fun v78 =>
 (cl (call n 22 [v26, v78, (V.int .i64 1)] h69) (fun r79 h80 =>
 (one1 r79 fun v82 =>
 (bd (bop prog .add 3 (gv st56 1) (V.int .i64 1)) fun v83 =>
 (next58 [(V.sl 2 (lsl (gv st56 0)) false), v83] h80)))) (fun z81 h80 => some (Res.pan z81, h80))))) else none))))) (fun z70 h69 => some (Res.pan z70, h69))))) else none)))
 else
 (cl (call n 16 [] hh57) (fun r84 h85 =>
 (one1 r84 fun v87 =>
 (cl (call n 18 [v22, v87, v3] h85) (fun r88 h89 =>
 (one1 r88 fun v91 =>
 (cl (call n 16 [] h89) (fun r92 h93 =>
 (one1 r92 fun v95 =>
 (cl (call n 18 [v26, v95, (V.sl 2 (lsl (gv st56 0)) false)] h93) (fun r96 h97 =>
 (one1 r96 fun v99 =>
 (if (6 = 6 ∧ 6 < lim ∧ 1 = 1) then
 (bd (slcH h97 v91) fun p100 =>
 (bd (slcH h97 v3) fun p101 =>
 (if (((p100.2).length : Int) != ((p101.2).length : Int)) then
 some (Res.ret [(V.bool false)], h97)
 else
 (bd (slcH h97 v99) fun p102 =>
 (bd (slcH h97 v3) fun p103 =>
 (if (((p102.2).length : Int) != ((p103.2).length : Int)) then
 some (Res.ret [(V.bool false)], h97)
 else
 (loopx n (lwTurned_l104 n v22 v26 v91 v99) [(V.sl 1 (List.replicate 6 [(V.int .i64 0)]) false), (V.int .i64 0), (V.bool false)] h97))))))) else none))) (fun z98 h97 => some (Res.pan z98, h97))))) (fun z94 h93 => some (Res.pan z94, h93))))) (fun z90 h89 => some (Res.pan z90, h89))))) (fun z86 h85 => some (Res.pan z86, h85)))))
noncomputable def lwTurned_l5 (n : Nat) (x0 : Int) (x2 : List (List V)) (x2b : Bool) (v3 : V) (st6 : List V) (hh7 : Heap) (next8 : List V → Heap → Option (Res × Heap)) : Option (Res × Heap) :=
 (bd (bop prog .geq 3 (gv st6 1) (V.int .i64 0)) fun v9 =>
 (bv v9 fun b10 => if b10 then
 (bdS (nv (gv st6 1)) fun n11 =>
 (bd (idxP 2 n11 v3) fun p12 =>
 (bd3 (cellsP hh7 p12) fun cs14 m13 o15 => if (o15 + 2 ≤ m13 ∧ 0 < 2) then
 (bd (bslV prog 24 1 [(0, (V.agg ((cs14).drop o15 |>.take 2)))]) fun p16 =>
 (bd (app 38 2 (S.own 38 2 (lsl (gv st6 0))) p16.2) fun l17 =>
 (bd (bop prog .sub 3 (gv st6 1) (V.int .i64 1)) fun v18 =>
 (next8 [(V.sl 2 l17 false), v18] hh7)))) else none)))
 else
 (cl (call n 15 [(V.int .i64 (IntKind.i64.wrap (Int.tmod x0 15)))] hh7) (fun r19 h20 =>
 (one1 r19 fun v22 =>
 (cl (call n 15 [(V.int .i64 (IntKind.i64.wrap (Int.tmod x0 15)))] h20) (fun r23 h24 =>
 (one1 r23 fun v26 =>
 (bd (bopH prog h24 .eql 26 v22 (V.val (.pointer none))) fun v27 =>
 (bv v27 fun b28 => if b28 then
 (bd (bopH prog h24 .neq 26 v22 (V.val (.pointer none))) fun v29 =>
 (bv v29 fun b30 => if b30 then
 (bd (bopH prog h24 .neq 26 v26 (V.val (.pointer none))) fun v31 =>
 (bv v31 fun b32 => if b32 then
 (cl (call n 13 [] h24) (fun r33 h34 =>
 (one1 r33 fun v36 =>
 some (Res.ret [v36], h34))) (fun z35 h34 => some (Res.pan z35, h34)))
 else
 some (Res.ret [(V.bool false)], h24)))
 else
 some (Res.ret [(V.bool false)], h24)))
 else
 (bd (bopH prog h24 .eql 26 v26 (V.val (.pointer none))) fun v37 =>
 (bv v37 fun b38 => if b38 then
 (bd (bopH prog h24 .neq 26 v22 (V.val (.pointer none))) fun v39 =>
 (bv v39 fun b40 => if b40 then
 (bd (bopH prog h24 .neq 26 v26 (V.val (.pointer none))) fun v41 =>
 (bv v41 fun b42 => if b42 then
 (cl (call n 13 [] h24) (fun r43 h44 =>
 (one1 r43 fun v46 =>
 some (Res.ret [v46], h44))) (fun z45 h44 => some (Res.pan z45, h44)))
 else
 some (Res.ret [(V.bool false)], h24)))
 else
 some (Res.ret [(V.bool false)], h24)))
 else
 (if (decide (((x2).length : Int) > 60)) then
 (bd (bopH prog h24 .neq 26 v22 (V.val (.pointer none))) fun v47 =>
 (bv v47 fun b48 => if b48 then
 (bd (bopH prog h24 .neq 26 v26 (V.val (.pointer none))) fun v49 =>
 (bv v49 fun b50 => if b50 then
 (cl (call n 13 [] h24) (fun r51 h52 =>
 (one1 r51 fun v54 =>
 some (Res.ret [v54], h52))) (fun z53 h52 => some (Res.pan z53, h52)))
 else
 some (Res.ret [(V.bool false)], h24)))
 else
 some (Res.ret [(V.bool false)], h24)))
 else
 (loopx n (lwTurned_l55 n x2 x2b v3 v22 v26) [(V.sl 2 (lsl (gv st6 0)) false), (V.int .i64 0)] h24)))))))) (fun z25 h24 => some (Res.pan z25, h24))))) (fun z21 h20 => some (Res.pan z21, h20)))))
noncomputable def lwTurned (n : Nat) (x0 : Int) (x1 : List (List V)) (x1b : Bool) (x2 : List (List V)) (x2b : Bool) : Option (Res × Heap) :=
 (cl (call n 14 [(V.sl 1 x1 x1b), (V.int .u8 3)] []) (fun r0 h1 =>
 (one1 r0 fun v3 =>
 (bd (slcH h1 v3) fun p4 =>
 (loopx n (lwTurned_l5 n x0 x2 x2b v3) [(V.sl 2 [] false), (V.int .i64 (IntKind.i64.wrap (((p4.2).length : Int) - 1)))] h1)))) (fun z2 h1 => some (Res.pan z2, h1)))
theorem lwTurned_eq (n : Nat) (x0 : Int) (x1 : List (List V)) (x1b : Bool) (x2 : List (List V)) (x2b : Bool) (h : Heap) : call (n + 1) 5 [(V.int .u8 x0), (V.sl 1 x1 x1b), (V.sl 1 x2 x2b)] h = gcw [(V.int .u8 x0), (V.sl 1 x1 x1b), (V.sl 1 x2 x2b)] (lwTurned n x0 x1 x1b x2 x2b) h := by kernel_rfl
noncomputable def lwCoins_l68 (n : Nat) (v15 : V) (v19 : V) (v61 : V) (v65 : V) (st69 : List V) (hh70 : Heap) (next71 : List V → Heap → Option (Res × Heap)) : Option (Res × Heap) :=
 (bd (slcH hh70 v65) fun p72 =>
 (bd (bop prog .lss 3 (gv st69 1) (V.int .i64 ((p72.2).length : Int))) fun v73 =>
 (bv v73 fun b74 => if b74 then
 (bv (gv st69 0) fun b75 => if b75 then
 (bdS (nv (gv st69 1)) fun n76 =>
 (bd (idxP 2 n76 v65) fun p77 =>
 (bd (addP 0 p77) fun p78 =>
 (bd3 (cellsP hh70 p78) fun cs80 m79 o81 => if (o81 + 1 ≤ m79 ∧ 0 < 1) then
 (bd (cs80)[o81]? fun v82 =>
 (bd (bop prog .geq 5 v82 (V.int .u8 3)) fun v83 =>
 (bd (bop prog .add 3 (gv st69 1) (V.int .i64 1)) fun v84 =>
 (next71 [v83, v84] hh70)))) else none))))
 else
 (bd (bop prog .add 3 (gv st69 1) (V.int .i64 1)) fun v85 =>
 (next71 [(V.bool false), v85] hh70)))
 else
 (cl (call n 13 [] hh70) (fun r86 h87 =>
 (one1 r86 fun v89 =>
 (bv v89 fun b90 => if b90 then
 (cl (call n 20 [v15] h87) (fun r91 h92 =>
 (one1 r91 fun v94 =>
 (bd (bop prog .eql 3 v94 v61) fun v95 =>
 (bv v95 fun b96 => if b96 then
 (cl (call n 20 [v19] h92) (fun r97 h98 =>
 (one1 r97 fun v100 =>
 (bd (bop prog .eql 3 v100 v61) fun v101 =>
 (bv v101 fun b102 => if b102 then
 some (Res.ret [(gv st69 0)], h98)
 else
 some (Res.ret [(V.bool false)], h98))))) (fun z99 h98 => some (Res.pan z99, h98)))
 else
 some (Res.ret [(V.bool false)], h92))))) (fun z93 h92 => some (Res.pan z93, h92)))
 else
 some (Res.ret [(V.bool false)], h87)))) (fun z88 h87 => some (Res.pan z88, h87))))))
noncomputable def lwCoins_l36 (n : Nat) (v7 : V) (v15 : V) (v19 : V) (v35 : V) (st37 : List V) (hh38 : Heap) (next39 : List V → Heap → Option (Res × Heap)) : Option (Res × Heap) :=
 (bd (slcH hh38 v35) fun p40 =>
 (bd (bop prog .lss 3 (gv st37 0) (V.int .i64 ((p40.2).length : Int))) fun v41 =>
 (bv v41 fun b42 => if b42 then
 (bdS (nv (gv st37 0)) fun n43 =>
 (bd (idxP 2 n43 v35) fun p44 =>
 (bd (addP 0 p44) fun p45 =>
 (bd3 (cellsP hh38 p45) fun cs47 m46 o48 => if (o48 + 1 ≤ m46 ∧ 0 < 1) then
 (bd (cs47)[o48]? fun v49 =>
 (bd (bop prog .eql 5 v49 (V.int .u8 1)) fun v50 =>
 (bv v50 fun b51 => if b51 then
 (cl (call n 19 [v19] hh38) (fun r52 h53 =>
 (one1 r52 fun v55 =>
 (bd (bop prog .add 3 (gv st37 0) (V.int .i64 1)) fun v56 =>
 (next39 [v56] h53)))) (fun z54 h53 => some (Res.pan z54, h53)))
 else
 (bd (bop prog .add 3 (gv st37 0) (V.int .i64 1)) fun v57 =>
 (next39 [v57] hh38))))) else none))))
 else
 (cl (call n 20 [v19] hh38) (fun r58 h59 =>
 (one1 r58 fun v61 =>
 (cl (call n 18 [(V.val (.pointer none)), v19, v7] h59) (fun r62 h63 =>
 (one1 r62 fun v65 =>
 (bd (slcH h63 v65) fun p66 =>
 (bd (slcH h63 v7) fun p67 =>
 (loopx n (lwCoins_l68 n v15 v19 v61 v65) [(V.bool (((p66.2).length : Int) == ((p67.2).length : Int))), (V.int .i64 0)] h63))))) (fun z64 h63 => some (Res.pan z64, h63))))) (fun z60 h59 => some (Res.pan z60, h59))))))
noncomputable def lwCoins (n : Nat) (x0 : Int) (x1 : List (List V)) (x1b : Bool) (x2 : List (List V)) (x2b : Bool) : Option (Res × Heap) :=
 (if (decide (((x2).length : Int) > 60)) then
 (cl (call n 13 [] []) (fun r0 h1 =>
 (one1 r0 fun v3 =>
 some (Res.ret [v3], h1))) (fun z2 h1 => some (Res.pan z2, h1)))
 else
 (cl (call n 14 [(V.sl 1 x1 x1b), (V.int .u8 3)] []) (fun r4 h5 =>
 (one1 r4 fun v7 =>
 (cl (call n 15 [(V.int .i64 (IntKind.i64.wrap (Int.tmod x0 12)))] h5) (fun r8 h9 =>
 (one1 r8 fun v11 =>
 (cl (call n 16 [] h9) (fun r12 h13 =>
 (one1 r12 fun v15 =>
 (cl (call n 16 [] h13) (fun r16 h17 =>
 (one1 r16 fun v19 =>
 (bd (bopH prog h17 .eql 26 v11 (V.val (.pointer none))) fun v20 =>
 (bv v20 fun b21 => if b21 then
 some (Res.ret [(V.bool false)], h17)
 else
 (bd (bopH prog h17 .eql 28 v15 (V.val (.pointer none))) fun v22 =>
 (bv v22 fun b23 => if b23 then
 some (Res.ret [(V.bool false)], h17)
 else
 (bd (bopH prog h17 .eql 28 v19 (V.val (.pointer none))) fun v24 =>
 (bv v24 fun b25 => if b25 then
 some (Res.ret [(V.bool false)], h17)
 else
 (cl (call n 17 [v15, (V.sl 1 x2 x2b)] h17) (fun r26 h27 =>
 (cl (call n 17 [v19, (V.sl 1 x2 x2b)] h27) (fun r29 h30 =>
 (cl (call n 18 [v11, v15, v7] h30) (fun r32 h33 =>
 (one1 r32 fun v35 =>
 (loopx n (lwCoins_l36 n v7 v15 v19 v35) [(V.int .i64 0)] h33))) (fun z34 h33 => some (Res.pan z34, h33)))) (fun z31 h30 => some (Res.pan z31, h30)))) (fun z28 h27 => some (Res.pan z28, h27))))))))))) (fun z18 h17 => some (Res.pan z18, h17))))) (fun z14 h13 => some (Res.pan z14, h13))))) (fun z10 h9 => some (Res.pan z10, h9))))) (fun z6 h5 => some (Res.pan z6, h5))))
theorem lwCoins_eq (n : Nat) (x0 : Int) (x1 : List (List V)) (x1b : Bool) (x2 : List (List V)) (x2b : Bool) (h : Heap) : call (n + 1) 3 [(V.int .u8 x0), (V.sl 1 x1 x1b), (V.sl 1 x2 x2b)] h = gcw [(V.int .u8 x0), (V.sl 1 x1 x1b), (V.sl 1 x2 x2b)] (lwCoins n x0 x1 x1b x2 x2b) h := by kernel_rfl
noncomputable def lwsame (n : Nat) (m : Int) (bits : V) (a : V) (b : V) (h : Heap) : Option (Res × Heap) :=
 (cl (call n 15 [(V.int .i64 m)] h) (fun r0 h1 =>
 (one1 r0 fun v3 =>
 (cl (call n 16 [] h1) (fun r4 h5 =>
 (one1 r4 fun v7 =>
 (bd (bopH prog h5 .eql 26 v3 (V.val (.pointer none))) fun v8 =>
 (bv v8 fun b9 => if b9 then
 some (Res.ret [(V.bool false)], h5)
 else
 (bd (bopH prog h5 .eql 28 v7 (V.val (.pointer none))) fun v10 =>
 (bv v10 fun b11 => if b11 then
 some (Res.ret [(V.bool false)], h5)
 else
 (cl (call n 17 [v7, bits] h5) (fun r12 h13 =>
 (cl (call n 50 [(V.int .u8 3), (V.int .i64 m), (V.sl 0 [] true), a] h13) (fun r15 h16 =>
 (bd (r15)[0]? fun v18 =>
 (bd (r15)[1]? fun v19 =>
 (cl (call n 50 [(V.int .u8 3), (V.int .i64 m), v18, b] h16) (fun r20 h21 =>
 (bd (r20)[0]? fun v23 =>
 (bd (r20)[1]? fun v24 =>
 (cl (call n 18 [v3, v7, a] h21) (fun r25 h26 =>
 (one1 r25 fun v28 =>
 (cl (call n 47 [v3, v7, b] h26) (fun r29 h30 =>
 (one1 r29 fun v32 =>
 (cl (call n 31 [v28, v19] h30) (fun r33 h34 =>
 (one1 r33 fun v36 =>
 (bv v36 fun b37 => if b37 then
 (cl (call n 31 [v32, v24] h34) (fun r38 h39 =>
 (one1 r38 fun v41 =>
 (bv v41 fun b42 => if b42 then
 (cl (call n 21 [v3] h39) (fun r43 h44 =>
 (one1 r43 fun v46 =>
 (cl (call n 23 [v46, v23] h44) (fun r47 h48 =>
 (one1 r47 fun v50 =>
 some (Res.ret [v50], h48))) (fun z49 h48 => some (Res.pan z49, h48))))) (fun z45 h44 => some (Res.pan z45, h44)))
 else
 some (Res.ret [(V.bool false)], h39)))) (fun z40 h39 => some (Res.pan z40, h39)))
 else
 some (Res.ret [(V.bool false)], h34)))) (fun z35 h34 => some (Res.pan z35, h34))))) (fun z31 h30 => some (Res.pan z31, h30))))) (fun z27 h26 => some (Res.pan z27, h26)))))) (fun z22 h21 => some (Res.pan z22, h21)))))) (fun z17 h16 => some (Res.pan z17, h16)))) (fun z14 h13 => some (Res.pan z14, h13))))))))) (fun z6 h5 => some (Res.pan z6, h5))))) (fun z2 h1 => some (Res.pan z2, h1)))
theorem lwsame_eq (n : Nat) (m : Int) (bits : V) (a : V) (b : V) (h : Heap) : call (n + 1) 25 [(V.int .i64 m), bits, a, b] h = lwsame n m bits a b h := by kernel_rfl
noncomputable def lwSame (n : Nat) (x0 : Int) (x1 : Int) (x2 : List (List V)) (x2b : Bool) (x3 : List (List V)) (x3b : Bool) (x4 : List (List V)) (x4b : Bool) (x5 : List (List V)) (x5b : Bool) : Option (Res × Heap) :=
 (if (decide ((IntKind.i64.wrap ((IntKind.i64.wrap ((IntKind.i64.wrap (((x2).length : Int) + ((x3).length : Int))) + ((x4).length : Int))) + ((x5).length : Int))) > 200)) then
 (cl (call n 13 [] []) (fun r0 h1 =>
 (one1 r0 fun v3 =>
 some (Res.ret [v3], h1))) (fun z2 h1 => some (Res.pan z2, h1)))
 else
 (cl (call n 13 [] []) (fun r4 h5 =>
 (one1 r4 fun v7 =>
 (bv v7 fun b8 => if b8 then
 (cl (call n 25 [(V.int .i64 x0), (V.sl 1 x2 x2b), (V.sl 2 x3 x3b), (V.sl 2 x4 x4b)] h5) (fun r9 h10 =>
 (one1 r9 fun v12 =>
 (bv v12 fun b13 => if b13 then
 (cl (call n 14 [(V.sl 1 x5 x5b), (V.int .u8 2)] h10) (fun r14 h15 =>
 (one1 r14 fun v17 =>
 (cl (call n 25 [(V.int .i64 (IntKind.i64.wrap (Int.tmod x1 9))), (V.sl 1 x2 x2b), v17, (V.sl 2 x4 x4b)] h15) (fun r18 h19 =>
 (one1 r18 fun v21 =>
 some (Res.ret [v21], h19))) (fun z20 h19 => some (Res.pan z20, h19))))) (fun z16 h15 => some (Res.pan z16, h15)))
 else
 some (Res.ret [(V.bool false)], h10)))) (fun z11 h10 => some (Res.pan z11, h10)))
 else
 some (Res.ret [(V.bool false)], h5)))) (fun z6 h5 => some (Res.pan z6, h5))))
theorem lwSame_eq (n : Nat) (x0 : Int) (x1 : Int) (x2 : List (List V)) (x2b : Bool) (x3 : List (List V)) (x3b : Bool) (x4 : List (List V)) (x4b : Bool) (x5 : List (List V)) (x5b : Bool) (h : Heap) : call (n + 1) 8 [(V.int .i64 x0), (V.int .u8 x1), (V.sl 1 x2 x2b), (V.sl 2 x3 x3b), (V.sl 2 x4 x4b), (V.sl 1 x5 x5b)] h = gcw [(V.int .i64 x0), (V.int .u8 x1), (V.sl 1 x2 x2b), (V.sl 2 x3 x3b), (V.sl 2 x4 x4b), (V.sl 1 x5 x5b)] (lwSame n x0 x1 x2 x2b x3 x3b x4 x4b x5 x5b) h := by kernel_rfl
end Go.Proofs.Try
