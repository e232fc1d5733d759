import Derived.Test.YtodgpfffnnlbhaaLset
import Derived.Test.YtodgpfffnnlbhaaLwd
/-! the reference of layer 8 (order, heap, batch): PRINTED BY A PROGRAM OF MINE (lift6.lean) -/
set_option linter.unusedVariables false
namespace Go.Proofs.Try
open Go.L
set_option maxRecDepth 100000
noncomputable def rLess (n : Nat) (k : Int) (v : Int) (k2 : Int) (v2 : Int) (h : Heap) : Option (Res × Heap) :=
 (if (k == 1) then
 (if (k2 == 1) then
 some (Res.ret [(V.bool (decide (v ≤ v2)))], h)
 else
 (if (k == 1) then
 some (Res.ret [(V.bool true)], h)
 else
 some (Res.ret [(V.bool (k2 != 1))], h)))
 else
 (if (k == 1) then
 some (Res.ret [(V.bool true)], h)
 else
 some (Res.ret [(V.bool (k2 != 1))], h)))
theorem rLess_eq (n : Nat) (k : Int) (v : Int) (k2 : Int) (v2 : Int) (h : Heap) : call (n + 1) 69 [(V.agg [(V.int .u8 k), (V.int .i32 v)]), (V.agg [(V.int .u8 k2), (V.int .i32 v2)])] h = rLess n k v k2 v2 h := by kernel_rfl
noncomputable def rOrder_l7 (n : Nat) (l : V) (st1 : List V) (next3 : List V → Heap → Option (Res × Heap)) (st8 : List V) (hh9 : Heap) (next10 : List V → Heap → Option (Res × Heap)) : Option (Res × Heap) :=
 (bd (bop prog .gtr 3 (gv st8 2) (V.int .i64 0)) fun v11 =>
 (bv v11 fun b12 => if b12 then
 (bd (bop prog .sub 3 (gv st8 2) (V.int .i64 1)) fun v13 =>
 (bdS (nv v13) fun n14 =>
 (if (1 = 1 ∧ n14 < ((lsl (gv st8 1))).length ∧ (some 28 : Option Nat) ≠ some 5) then
 (bd ((lsl (gv st8 1)))[n14]? fun es15 =>
 (bd (es15)[0]? fun v16 =>
 (bdS (nv v16) fun n17 =>
 (bd (idxP 2 n17 l) fun p18 =>
 (bd3 (cellsP hh9 p18) fun cs20 m19 o21 => if (o21 + 2 ≤ m19 ∧ 0 < 2) then
 (bdS (nv (gv st1 2)) fun n22 =>
 (bd (idxP 2 n22 l) fun p23 =>
 (bd3 (cellsP hh9 p23) fun cs25 m24 o26 => if (o26 + 2 ≤ m24 ∧ 0 < 2) then
 (cl (call n 69 [(V.agg ((cs20).drop o21 |>.take 2)), (V.agg ((cs25).drop o26 |>.take 2))] hh9) (fun r27 h28 =>
 (one1 r27 fun v30 =>
 (bd (uop .not v30) fun v31 =>
 (bv v31 fun b32 => if b32 then
 (bd (bop prog .sub 3 (gv st8 2) (V.int .i64 1)) fun v33 =>
 (next10 [(V.sl 1 (lsl (gv st8 0)) false), (V.sl 1 (lsl (gv st8 1)) false), v33] h28))
 else
 (bd (lenP (V.sl 1 (lsl (gv st8 1)) false)) fun n34 =>
 (bdS (nv (gv st8 2)) fun n35 =>
 (bd (sliceP 1 0 n35 (none : Option Nat) true (V.sl 1 (lsl (gv st8 1)) false)) fun v36 =>
 (bdS (slcH h28 v36) fun p37 =>
 (if (43 = 43 ∧ (p37.1 = 1 ∨ (p37.2).isEmpty = true)) then
 (bd (app 3 1 (S.own 3 1 []) p37.2) fun l38 =>
 (bd (bslV prog 43 1 [(0, (gv st1 2))]) fun p39 =>
 (bd (app 3 1 (S.own 3 1 l38) p39.2) fun l40 =>
 (bd (lenP (V.sl 1 (lsl (gv st8 1)) false)) fun n41 =>
 (bdS (nv (gv st8 2)) fun n42 =>
 (bd (sliceP 1 n42 n41 (none : Option Nat) true (V.sl 1 (lsl (gv st8 1)) false)) fun v43 =>
 (bdS (slcH h28 v43) fun p44 =>
 (if (43 = 43 ∧ (p44.1 = 1 ∨ (p44.2).isEmpty = true)) then
 (bd (app 3 1 (S.own 3 1 l40) p44.2) fun l45 =>
 (bd (bop prog .add 3 (gv st1 2) (V.int .i64 1)) fun v46 =>
 (next3 [(V.sl 1 (lsl (gv st8 0)) false), (V.sl 1 l45 false), v46] h28))) else none)))))))) else none))))))))) (fun z29 h28 => none)) else none))) else none))))) else none)))
 else
 (bd (lenP (V.sl 1 (lsl (gv st8 1)) false)) fun n47 =>
 (bdS (nv (gv st8 2)) fun n48 =>
 (bd (sliceP 1 0 n48 (none : Option Nat) true (V.sl 1 (lsl (gv st8 1)) false)) fun v49 =>
 (bdS (slcH hh9 v49) fun p50 =>
 (if (43 = 43 ∧ (p50.1 = 1 ∨ (p50.2).isEmpty = true)) then
 (bd (app 3 1 (S.own 3 1 []) p50.2) fun l51 =>
 (bd (bslV prog 43 1 [(0, (gv st1 2))]) fun p52 =>
 (bd (app 3 1 (S.own 3 1 l51) p52.2) fun l53 =>
 (bd (lenP (V.sl 1 (lsl (gv st8 1)) false)) fun n54 =>
 (bdS (nv (gv st8 2)) fun n55 =>
 (bd (sliceP 1 n55 n54 (none : Option Nat) true (V.sl 1 (lsl (gv st8 1)) false)) fun v56 =>
 (bdS (slcH hh9 v56) fun p57 =>
 (if (43 = 43 ∧ (p57.1 = 1 ∨ (p57.2).isEmpty = true)) then
 (bd (app 3 1 (S.own 3 1 l53) p57.2) fun l58 =>
 (bd (bop prog .add 3 (gv st1 2) (V.int .i64 1)) fun v59 =>
 (next3 [(V.sl 1 (lsl (gv st8 0)) false), (V.sl 1 l58 false), v59] hh9))) else none)))))))) else none)))))))
noncomputable def rOrder_l0 (n : Nat) (l : V) (st1 : List V) (hh2 : Heap) (next3 : List V → Heap → Option (Res × Heap)) : Option (Res × Heap) :=
 (bd (slcH hh2 l) fun p4 =>
 (bd (bop prog .lss 3 (gv st1 2) (V.int .i64 ((p4.2).length : Int))) fun v5 =>
 (bv v5 fun b6 => if b6 then
 (loopx n (rOrder_l7 n l st1 next3) [(V.sl 1 (lsl (gv st1 0)) false), (V.sl 1 (lsl (gv st1 1)) false), (V.int .i64 (((lsl (gv st1 1))).length : Int))] hh2)
 else
 some (Res.ret [(V.sl 1 (lsl (gv st1 1)) false)], hh2))))
noncomputable def rOrder (n : Nat) (l : V) : Option (Res × Heap) :=
 (loopx n (rOrder_l0 n l) [(V.sl 1 [] false), (V.sl 1 [] false), (V.int .i64 0)] [])
theorem rOrder_eq (n : Nat) (l : V) (h : Heap) : call (n + 1) 49 [(V.int .u8 3), l] h = gcw [(V.int .u8 3), l] (rOrder n l) h := by kernel_rfl
noncomputable def rHeap_l7 (n : Nat) (s : V) (st8 : List V) (hh9 : Heap) (next10 : List V → Heap → Option (Res × Heap)) : Option (Res × Heap) :=
 (bd (slcH hh9 s) fun p11 =>
 (bd (bop prog .lss 3 (gv st8 3) (V.int .i64 ((p11.2).length : Int))) fun v12 =>
 (bv v12 fun b13 => if b13 then
 (bdS (nv (gv st8 3)) fun n14 =>
 (bd (idxP 1 n14 s) fun p15 =>
 (bd3 (cellsP hh9 p15) fun cs17 m16 o18 => if (o18 + 1 ≤ m16 ∧ 0 < 1) then
 (bd (cs17)[o18]? fun v19 =>
 (bd ((lcs (gv st8 0)))[1]? fun v20 =>
 (bd (bop prog .leq 21 v19 v20) fun v21 =>
 (bv v21 fun b22 => if b22 then
 (bd (bop prog .add 3 (gv st8 3) (V.int .i64 1)) fun v23 =>
 (next10 [(V.agg (lcs (gv st8 0))), (V.sl 1 (lsl (gv st8 1)) false), (V.agg (lcs (gv st8 2))), v23] hh9))
 else
 (bd (lenP s) fun n24 =>
 (bdS (nv (gv st8 3)) fun n25 =>
 (bd (sliceP 1 0 n25 (none : Option Nat) true s) fun v26 =>
 (bdS (slcH hh9 v26) fun p27 =>
 (if (39 = 39 ∧ (p27.1 = 1 ∨ (p27.2).isEmpty = true)) then
 (bd (app 21 1 (S.own 21 1 []) p27.2) fun l28 =>
 (bd ((lcs (gv st8 0)))[1]? fun v29 =>
 (bd (bslV prog 39 1 [(0, v29)]) fun p30 =>
 (bd (app 21 1 (S.own 21 1 l28) p30.2) fun l31 =>
 (bd (lenP s) fun n32 =>
 (bdS (nv (gv st8 3)) fun n33 =>
 (bd (sliceP 1 n33 n32 (none : Option Nat) true s) fun v34 =>
 (bdS (slcH hh9 v34) fun p35 =>
 (if (39 = 39 ∧ (p35.1 = 1 ∨ (p35.2).isEmpty = true)) then
 (bd (app 21 1 (S.own 21 1 l31) p35.2) fun l36 =>
 some (Res.ret [(V.sl 1 l36 false), (V.agg (((setR (lcs (gv st8 2)) 0 [(V.int .u8 1), (V.int .i32 0)])).drop 0 |>.take 2))], hh9)) else none))))))))) else none))))))))) else none)))
 else
 (bd (lenP s) fun n37 =>
 (bdS (nv (gv st8 3)) fun n38 =>
 (bd (sliceP 1 0 n38 (none : Option Nat) true s) fun v39 =>
 (bdS (slcH hh9 v39) fun p40 =>
 (if (39 = 39 ∧ (p40.1 = 1 ∨ (p40.2).isEmpty = true)) then
 (bd (app 21 1 (S.own 21 1 []) p40.2) fun l41 =>
 (bd ((lcs (gv st8 0)))[1]? fun v42 =>
 (bd (bslV prog 39 1 [(0, v42)]) fun p43 =>
 (bd (app 21 1 (S.own 21 1 l41) p43.2) fun l44 =>
 (bd (lenP s) fun n45 =>
 (bdS (nv (gv st8 3)) fun n46 =>
 (bd (sliceP 1 n46 n45 (none : Option Nat) true s) fun v47 =>
 (bdS (slcH hh9 v47) fun p48 =>
 (if (39 = 39 ∧ (p48.1 = 1 ∨ (p48.2).isEmpty = true)) then
 (bd (app 21 1 (S.own 21 1 l44) p48.2) fun l49 =>
 some (Res.ret [(V.sl 1 l49 false), (V.agg (((setR (lcs (gv st8 2)) 0 [(V.int .u8 1), (V.int .i32 0)])).drop 0 |>.take 2))], hh9)) else none))))))))) else none))))))))
noncomputable def rHeap_l71 (n : Nat) (s : V) (st72 : List V) (hh73 : Heap) (next74 : List V → Heap → Option (Res × Heap)) : Option (Res × Heap) :=
 (bd (slcH hh73 s) fun p75 =>
 (bd (bop prog .lss 3 (gv st72 3) (V.int .i64 ((p75.2).length : Int))) fun v76 =>
 (bv v76 fun b77 => if b77 then
 (bdS (nv (gv st72 3)) fun n78 =>
 (bd (idxP 1 n78 s) fun p79 =>
 (bd3 (cellsP hh73 p79) fun cs81 m80 o82 => if (o82 + 1 ≤ m80 ∧ 0 < 1) then
 (bd (cs81)[o82]? fun v83 =>
 (bd ((lcs (gv st72 0)))[1]? fun v84 =>
 (bd (bop prog .leq 21 v83 v84) fun v85 =>
 (bv v85 fun b86 => if b86 then
 (bd (bop prog .add 3 (gv st72 3) (V.int .i64 1)) fun v87 =>
 (next74 [(V.agg (lcs (gv st72 0))), (V.sl 1 (lsl (gv st72 1)) false), (V.agg (lcs (gv st72 2))), v87] hh73))
 else
 (bd (lenP s) fun n88 =>
 (bdS (nv (gv st72 3)) fun n89 =>
 (bd (sliceP 1 0 n89 (none : Option Nat) true s) fun v90 =>
 (bdS (slcH hh73 v90) fun p91 =>
 (if (39 = 39 ∧ (p91.1 = 1 ∨ (p91.2).isEmpty = true)) then
 (bd (app 21 1 (S.own 21 1 []) p91.2) fun l92 =>
 (bd ((lcs (gv st72 0)))[1]? fun v93 =>
 (bd (bslV prog 39 1 [(0, v93)]) fun p94 =>
 (bd (app 21 1 (S.own 21 1 l92) p94.2) fun l95 =>
 (bd (lenP s) fun n96 =>
 (bdS (nv (gv st72 3)) fun n97 =>
 (bd (sliceP 1 n97 n96 (none : Option Nat) true s) fun v98 =>
 (bdS (slcH hh73 v98) fun p99 =>
 (if (39 = 39 ∧ (p99.1 = 1 ∨ (p99.2).isEmpty = true)) then
 (bd (app 21 1 (S.own 21 1 l95) p99.2) fun l100 =>
 some (Res.ret [(V.sl 1 l100 false), (V.agg (((setR (lcs (gv st72 2)) 0 [(V.int .u8 1), (V.int .i32 0)])).drop 0 |>.take 2))], hh73)) else none))))))))) else none))))))))) else none)))
 else
 (bd (lenP s) fun n101 =>
 (bdS (nv (gv st72 3)) fun n102 =>
 (bd (sliceP 1 0 n102 (none : Option Nat) true s) fun v103 =>
 (bdS (slcH hh73 v103) fun p104 =>
 (if (39 = 39 ∧ (p104.1 = 1 ∨ (p104.2).isEmpty = true)) then
 (bd (app 21 1 (S.own 21 1 []) p104.2) fun l105 =>
 (bd ((lcs (gv st72 0)))[1]? fun v106 =>
 (bd (bslV prog 39 1 [(0, v106)]) fun p107 =>
 (bd (app 21 1 (S.own 21 1 l105) p107.2) fun l108 =>
 (bd (lenP s) fun n109 =>
 (bdS (nv (gv st72 3)) fun n110 =>
 (bd (sliceP 1 n110 n109 (none : Option Nat) true s) fun v111 =>
 (bdS (slcH hh73 v111) fun p112 =>
 (if (39 = 39 ∧ (p112.1 = 1 ∨ (p112.2).isEmpty = true)) then
 (bd (app 21 1 (S.own 21 1 l108) p112.2) fun l113 =>
 some (Res.ret [(V.sl 1 l113 false), (V.agg (((setR (lcs (gv st72 2)) 0 [(V.int .u8 1), (V.int .i32 0)])).drop 0 |>.take 2))], hh73)) else none))))))))) else none))))))))
noncomputable def rHeap (n : Nat) (m : Int) (s : V) (k : Int) (v : Int) (h : Heap) : Option (Res × Heap) :=
 (if (k == 1) then
 (bd (slcH h s) fun p0 =>
 (cl (call n 66 [(V.int .i64 m)] h) (fun r1 h2 =>
 (one1 r1 fun v4 =>
 (bd (bop prog .geq 3 (V.int .i64 ((p0.2).length : Int)) v4) fun v5 =>
 (bv v5 fun b6 => if b6 then
 some (Res.ret [s, (V.agg [(V.int .u8 3), (V.int .i32 0)])], h2)
 else
 (if (k == 1) then
 (loopx n (rHeap_l7 n s) [(V.agg [(V.int .u8 k), (V.int .i32 v)]), (V.sl 1 [] false), (V.agg [(V.int .u8 0), (V.int .i32 0)]), (V.int .i64 0)] h2)
 else
 (if (k == 2) then
 (bd (slcH h2 s) fun p50 =>
 (if (((p50.2).length : Int) == 0) then
 some (Res.ret [s, (V.agg [(V.int .u8 4), (V.int .i32 0)])], h2)
 else
 (if (k == 2) then
 (bd (lenP s) fun n51 =>
 (bd (sliceP 1 1 n51 (none : Option Nat) true s) fun v52 =>
 (bdS (slcH h2 v52) fun p53 =>
 (if (39 = 39 ∧ (p53.1 = 1 ∨ (p53.2).isEmpty = true)) then
 (bd (app 21 1 (S.own 21 1 []) p53.2) fun l54 =>
 (bd (idxP 1 0 s) fun p55 =>
 (bd3 (cellsP h2 p55) fun cs57 m56 o58 => if (o58 + 1 ≤ m56 ∧ 0 < 1) then
 (bd (cs57)[o58]? fun v59 =>
 (bd (bldV prog 34 [(0, (V.int .u8 2)), (1, v59)]) fun cs60 =>
 (if (cs60).length = 2 then
 (if ((cs60).length ≤ 2) then
 some (Res.ret [(V.sl 1 l54 false), (V.agg (((setR [(V.int .u8 0), (V.int .i32 0)] 0 cs60)).drop 0 |>.take 2))], h2) else none) else none))) else none))) else none))))
 else
 some (Res.ret [s, (V.agg [(V.int .u8 5), (V.int .i32 0)])], h2))))
 else
 (if (k == 2) then
 (bd (lenP s) fun n61 =>
 (bd (sliceP 1 1 n61 (none : Option Nat) true s) fun v62 =>
 (bdS (slcH h2 v62) fun p63 =>
 (if (39 = 39 ∧ (p63.1 = 1 ∨ (p63.2).isEmpty = true)) then
 (bd (app 21 1 (S.own 21 1 []) p63.2) fun l64 =>
 (bd (idxP 1 0 s) fun p65 =>
 (bd3 (cellsP h2 p65) fun cs67 m66 o68 => if (o68 + 1 ≤ m66 ∧ 0 < 1) then
 (bd (cs67)[o68]? fun v69 =>
 (bd (bldV prog 34 [(0, (V.int .u8 2)), (1, v69)]) fun cs70 =>
 (if (cs70).length = 2 then
 (if ((cs70).length ≤ 2) then
 some (Res.ret [(V.sl 1 l64 false), (V.agg (((setR [(V.int .u8 0), (V.int .i32 0)] 0 cs70)).drop 0 |>.take 2))], h2) else none) else none))) else none))) else none))))
 else
 some (Res.ret [s, (V.agg [(V.int .u8 5), (V.int .i32 0)])], h2)))))))) (fun z3 h2 => some (Res.pan z3, h2))))
 else
 (if (k == 1) then
 (loopx n (rHeap_l71 n s) [(V.agg [(V.int .u8 k), (V.int .i32 v)]), (V.sl 1 [] false), (V.agg [(V.int .u8 0), (V.int .i32 0)]), (V.int .i64 0)] h)
 else
 (if (k == 2) then
 (bd (slcH h s) fun p114 =>
 (if (((p114.2).length : Int) == 0) then
 some (Res.ret [s, (V.agg [(V.int .u8 4), (V.int .i32 0)])], h)
 else
 (if (k == 2) then
 (bd (lenP s) fun n115 =>
 (bd (sliceP 1 1 n115 (none : Option Nat) true s) fun v116 =>
 (bdS (slcH h v116) fun p117 =>
 (if (39 = 39 ∧ (p117.1 = 1 ∨ (p117.2).isEmpty = true)) then
 (bd (app 21 1 (S.own 21 1 []) p117.2) fun l118 =>
 (bd (idxP 1 0 s) fun p119 =>
 (bd3 (cellsP h p119) fun cs121 m120 o122 => if (o122 + 1 ≤ m120 ∧ 0 < 1) then
 (bd (cs121)[o122]? fun v123 =>
 (bd (bldV prog 34 [(0, (V.int .u8 2)), (1, v123)]) fun cs124 =>
 (if (cs124).length = 2 then
 (if ((cs124).length ≤ 2) then
 some (Res.ret [(V.sl 1 l118 false), (V.agg (((setR [(V.int .u8 0), (V.int .i32 0)] 0 cs124)).drop 0 |>.take 2))], h) else none) else none))) else none))) else none))))
 else
 some (Res.ret [s, (V.agg [(V.int .u8 5), (V.int .i32 0)])], h))))
 else
 (if (k == 2) then
 (bd (lenP s) fun n125 =>
 (bd (sliceP 1 1 n125 (none : Option Nat) true s) fun v126 =>
 (bdS (slcH h v126) fun p127 =>
 (if (39 = 39 ∧ (p127.1 = 1 ∨ (p127.2).isEmpty = true)) then
 (bd (app 21 1 (S.own 21 1 []) p127.2) fun l128 =>
 (bd (idxP 1 0 s) fun p129 =>
 (bd3 (cellsP h p129) fun cs131 m130 o132 => if (o132 + 1 ≤ m130 ∧ 0 < 1) then
 (bd (cs131)[o132]? fun v133 =>
 (bd (bldV prog 34 [(0, (V.int .u8 2)), (1, v133)]) fun cs134 =>
 (if (cs134).length = 2 then
 (if ((cs134).length ≤ 2) then
 some (Res.ret [(V.sl 1 l128 false), (V.agg (((setR [(V.int .u8 0), (V.int .i32 0)] 0 cs134)).drop 0 |>.take 2))], h) else none) else none))) else none))) else none))))
 else
 some (Res.ret [s, (V.agg [(V.int .u8 5), (V.int .i32 0)])], h)))))
theorem rHeap_eq (n : Nat) (m : Int) (s : V) (k : Int) (v : Int) (h : Heap) : call (n + 1) 74 [(V.int .i64 m), s, (V.agg [(V.int .u8 k), (V.int .i32 v)])] h = rHeap n m s k v h := by kernel_rfl
noncomputable def rApply (n : Nat) (m : Int) (s : V) (k : Int) (v : Int) : Option (Res × Heap) :=
 (cl (call n 74 [(V.int .i64 m), s, (V.agg [(V.int .u8 k), (V.int .i32 v)])] []) (fun r0 h1 =>
 (bd (r0)[0]? fun v3 =>
 (bd (r0)[1]? fun v4 =>
 (if ((V.cells v4)).length = 2 then
 (if (((V.cells v4)).length ≤ 2) then
 (if ((((setR [(V.int .u8 5), (V.int .i32 0)] 0 (V.cells v4))).drop 0 |>.take 2)).length = 2 then
 (if (((((setR [(V.int .u8 5), (V.int .i32 0)] 0 (V.cells v4))).drop 0 |>.take 2)).length ≤ 2) then
 some (Res.ret [v3, (V.agg (((setR [(V.int .u8 0), (V.int .i32 0)] 0 (((setR [(V.int .u8 5), (V.int .i32 0)] 0 (V.cells v4))).drop 0 |>.take 2))).drop 0 |>.take 2))], h1) else none) else none) else none) else none)))) (fun z2 h1 => some (Res.pan z2, h1)))
theorem rApply_eq (n : Nat) (m : Int) (s : V) (k : Int) (v : Int) (h : Heap) : call (n + 1) 52 [(V.int .u8 3), (V.int .i64 m), s, (V.agg [(V.int .u8 k), (V.int .i32 v)])] h = gcw [(V.int .u8 3), (V.int .i64 m), s, (V.agg [(V.int .u8 k), (V.int .i32 v)])] (rApply n m s k v) h := by kernel_rfl
noncomputable def rBatch_l7 (n : Nat) (m : Int) (l : V) (v6 : V) (st8 : List V) (hh9 : Heap) (next10 : List V → Heap → Option (Res × Heap)) : Option (Res × Heap) :=
 (bd (slcH hh9 v6) fun p11 =>
 (bd (bop prog .lss 3 (gv st8 4) (V.int .i64 ((p11.2).length : Int))) fun v12 =>
 (bv v12 fun b13 => if b13 then
 (bdS (nv (gv st8 4)) fun n14 =>
 (bd (idxP 1 n14 v6) fun p15 =>
 (bd3 (cellsP hh9 p15) fun cs17 m16 o18 => if (o18 + 1 ≤ m16 ∧ 0 < 1) then
 (bd (cs17)[o18]? fun v19 =>
 (bdS (nv v19) fun n20 =>
 (bd (idxP 2 n20 l) fun p21 =>
 (bd3 (cellsP hh9 p21) fun cs23 m22 o24 => if (o24 + 2 ≤ m22 ∧ 0 < 2) then
 (cl (call n 52 [(V.int .u8 3), (V.int .i64 m), (gv st8 0), (V.agg ((cs23).drop o24 |>.take 2))] hh9) (fun r25 h26 =>
 (bd (r25)[0]? fun v28 =>
 (bd (r25)[1]? fun v29 =>
 (if ((V.cells v29)).length = 2 then
 (if (((V.cells v29)).length ≤ 2) then
 (bdS (nv (gv st8 4)) fun n30 =>
 (bd (idxP 1 n30 v6) fun p31 =>
 (bd3 (cellsP h26 p31) fun cs33 m32 o34 => if (o34 + 1 ≤ m32 ∧ 0 < 1) then
 (bd (cs33)[o34]? fun v35 =>
 (bdS (nv v35) fun n36 =>
 (if (2 = 2 ∧ n36 < ((lsl (gv st8 3))).length ∧ (some 48 : Option Nat) ≠ some 10) then
 (if ((((setR [(V.int .u8 0), (V.int .i32 0)] 0 (V.cells v29))).drop 0 |>.take 2)).length = 2 then
 (if (2 = 2 ∧ 0 < 2 ∧ 0 + ((((setR [(V.int .u8 0), (V.int .i32 0)] 0 (V.cells v29))).drop 0 |>.take 2)).length ≤ 2) then
 (bd ((lsl (gv st8 3)))[n36]? fun es37 =>
 (bd (bop prog .add 3 (gv st8 4) (V.int .i64 1)) fun v38 =>
 (next10 [v28, (V.sl 1 (lsl (gv st8 1)) false), (V.sl 2 (lsl (gv st8 2)) false), (V.sl 2 (((lsl (gv st8 3))).set n36 (setR es37 0 (((setR [(V.int .u8 0), (V.int .i32 0)] 0 (V.cells v29))).drop 0 |>.take 2))) false), v38, (V.bool false)] h26))) else none) else none) else none))) else none))) else none) else none)))) (fun z27 h26 => some (Res.pan z27, h26))) else none)))) else none)))
 else
 some (Res.ret [(gv st8 0), (V.sl 2 (lsl (gv st8 3)) false)], hh9))))
noncomputable def rBatch (n : Nat) (m : Int) (s : V) (l : V) : Option (Res × Heap) :=
 (bd (slcH [] l) fun p0 =>
 (bdS (nv (V.int .i64 ((p0.2).length : Int))) fun n1 =>
 (bdS (nv (V.int .i64 ((p0.2).length : Int))) fun n2 =>
 (if (n1 = n2 ∧ n1 < lim ∧ 2 = 2) then
 (cl (call n 49 [(V.int .u8 3), l] []) (fun r3 h4 =>
 (one1 r3 fun v6 =>
 (loopx n (rBatch_l7 n m l v6) [s, (V.sl 1 [] false), (V.sl 2 [] false), (V.sl 2 (List.replicate n1 [(V.int .u8 0), (V.int .i32 0)]) false), (V.int .i64 0), (V.bool false)] h4))) (fun z5 h4 => some (Res.pan z5, h4))) else none))))
theorem rBatch_eq (n : Nat) (m : Int) (s : V) (l : V) (h : Heap) : call (n + 1) 50 [(V.int .u8 3), (V.int .i64 m), s, l] h = gcw [(V.int .u8 3), (V.int .i64 m), s, l] (rBatch n m s l) h := by kernel_rfl
end Go.Proofs.Try
