import Derived.Test.YtjnjofillhdffaaLwd
/-! spec.Order, Batch, the answers of reaperref08, and the laws: PRINTED BY A PROGRAM OF MINE (lift4.lean) -/
set_option linter.unusedVariables false
namespace Go.Proofs.Try
open Go.L
set_option maxRecDepth 100000
noncomputable def lLate (n : Nat) (x0_0 : Int) (x0_1 : Int) : Option (Res × Heap) :=
 (if (x0_0 == 1) then
 some (Res.ret [(V.int .i64 0)], [])
 else
 some (Res.ret [(V.int .i64 1)], []))
theorem lLate_eq (n : Nat) (x0_0 : Int) (x0_1 : Int) (h : Heap) : call (n + 1) 66 [(V.agg [(V.int .u8 x0_0), (V.int .i32 x0_1)])] h = gcw [(V.agg [(V.int .u8 x0_0), (V.int .i32 x0_1)])] (lLate n x0_0 x0_1) h := by kernel_rfl
noncomputable def lNaN (n : Nat) (x0 : Int) (h : Heap) : Option (Res × Heap) :=
 some (Res.ret [(V.bool (x0 != x0))], h)
theorem lNaN_eq (n : Nat) (x0 : Int) (h : Heap) : call (n + 1) 87 [(V.int .i32 x0)] h = lNaN n x0 h := by kernel_rfl
noncomputable def lCmp (n : Nat) (x : Int) (y : Int) (h : Heap) : Option (Res × Heap) :=
 (cl (call n 87 [(V.int .i32 x)] h) (fun r0 h1 =>
 (one1 r0 fun v3 =>
 (cl (call n 87 [(V.int .i32 y)] h1) (fun r4 h5 =>
 (one1 r4 fun v7 =>
 (bv v3 fun b8 => if b8 then
 (bv v7 fun b9 => if b9 then
 some (Res.ret [(V.int .i64 0)], h5)
 else
 some (Res.ret [(V.int .i64 (-1))], h5))
 else
 (bv v7 fun b10 => if b10 then
 some (Res.ret [(V.int .i64 1)], h5)
 else
 (if (decide (x < y)) then
 some (Res.ret [(V.int .i64 (-1))], h5)
 else
 (if (decide (x > y)) then
 some (Res.ret [(V.int .i64 1)], h5)
 else
 some (Res.ret [(V.int .i64 0)], h5))))))) (fun z6 h5 => some (Res.pan z6, h5))))) (fun z2 h1 => some (Res.pan z2, h1)))
theorem lCmp_eq (n : Nat) (x : Int) (y : Int) (h : Heap) : call (n + 1) 69 [(V.int .i32 x), (V.int .i32 y)] h = lCmp n x y h := by kernel_rfl
noncomputable def lOrd2 (n : Nat) (a : Int) (b : Int) (os : V) : Option (Res × Heap) :=
 (bdS (nv (V.int .i64 a)) fun n0 =>
 (slk os fun q1 l2 x3 => if (q1 = 2) then
 (bd (l2)[n0]? fun es4 =>
 (bdS (nv (V.int .i64 b)) fun n5 =>
 (slk os fun q6 l7 x8 => if (q6 = 2) then
 (bd (l7)[n5]? fun es9 =>
 (if (((es4).drop 0 |>.take 2)).length = 2 then
 (if ((((es4).drop 0 |>.take 2)).length ≤ 2) then
 (if (((es9).drop 0 |>.take 2)).length = 2 then
 (if ((((es9).drop 0 |>.take 2)).length ≤ 2) then
 (clS (call n 66 [(V.agg (((setR [(V.int .u8 0), (V.int .i32 0)] 0 ((es4).drop 0 |>.take 2))).drop 0 |>.take 2))] []) fun r10 =>
 (one1 r10 fun v13 =>
 (clS (call n 66 [(V.agg (((setR [(V.int .u8 0), (V.int .i32 0)] 0 ((es9).drop 0 |>.take 2))).drop 0 |>.take 2))] []) fun r14 =>
 (one1 r14 fun v17 =>
 (bd (bop prog .add 3 v13 v17) fun v18 =>
 (bd (bop prog .eql 3 v18 (V.int .i64 0)) fun v19 =>
 (bv v19 fun b20 => if b20 then
 (bd ((setR [(V.int .u8 0), (V.int .i32 0)] 0 ((es4).drop 0 |>.take 2)))[1]? fun v21 =>
 (bd ((setR [(V.int .u8 0), (V.int .i32 0)] 0 ((es9).drop 0 |>.take 2)))[1]? fun v22 =>
 (cl (call n 69 [v21, v22] [(HB.box 1 [os]), (HB.box 1 [(V.fn 66 [])])]) (fun r23 h24 =>
 (one1 r23 fun v26 =>
 some (Res.ret [v26], h24))) (fun z25 h24 => some (Res.pan z25, h24)))))
 else
 (clS (call n 66 [(V.agg (((setR [(V.int .u8 0), (V.int .i32 0)] 0 ((es4).drop 0 |>.take 2))).drop 0 |>.take 2))] []) fun r27 =>
 (one1 r27 fun v30 =>
 (clS (call n 66 [(V.agg (((setR [(V.int .u8 0), (V.int .i32 0)] 0 ((es9).drop 0 |>.take 2))).drop 0 |>.take 2))] []) fun r31 =>
 (one1 r31 fun v34 =>
 (bd (bop prog .sub 3 v30 v34) fun v35 =>
 some (Res.ret [v35], [(HB.box 1 [os]), (HB.box 1 [(V.fn 66 [])])]))))))))))))) else none) else none) else none) else none)) else none))) else none))
theorem lOrd2_eq (n : Nat) (a : Int) (b : Int) (os : V) : call (n + 1) 68 [(V.int .i64 a), (V.int .i64 b), (V.ptr 0 0), (V.ptr 1 0)] [(HB.box 1 [os]), (HB.box 1 [(V.fn 66 [])])] = lOrd2 n a b os := by kernel_rfl
noncomputable def lOrder_l4 (n : Nat) (o : Int) (n2 : Nat) (st5 : List V) (hh6 : Heap) (next7 : List V → Heap → Option (Res × Heap)) : Option (Res × Heap) :=
 (bd (bop prog .lss 3 (gv st5 4) (V.int .i64 (((List.replicate n2 [(V.int .i64 0)])).length : Int))) fun v8 =>
 (bv v8 fun b9 => if b9 then
 (bdS (nv (gv st5 4)) fun n10 =>
 (if (1 = 1 ∧ n10 < ((lsl (gv st5 2))).length ∧ (some 19 : Option Nat) ≠ some 5) then
 (if ((V.cells (gv st5 4))).length = 1 then
 (if (1 = 1 ∧ 0 < 1 ∧ 0 + ((V.cells (gv st5 4))).length ≤ 1) then
 (bd ((lsl (gv st5 2)))[n10]? fun es11 =>
 (bd (bop prog .add 3 (gv st5 4) (V.int .i64 1)) fun v12 =>
 (next7 [(V.agg (lcs (gv st5 0))), (V.sl 1 (lsl (gv st5 1)) false), (V.sl 1 (((lsl (gv st5 2))).set n10 (setR es11 0 (V.cells (gv st5 4)))) false), (V.bool false), v12] hh6))) else none) else none) else none))
 else
 (if (o != 3) then
 some (Res.ret [(V.sl 1 (lsl (gv st5 2)) false)], hh6)
 else
 (clm (call n 67 (V.sl 1 (lsl (gv st5 2)) false :: [(V.fn 68 [(V.ptr (hh6).length 0), (V.ptr ((hh6 ++ [(HB.box 1 (lcs (gv st5 0)))])).length 0)])]) ((hh6 ++ [(HB.box 1 (lcs (gv st5 0)))]) ++ [(HB.box 1 [(V.fn 66 [])])])) 1 fun l13 r14 h15 =>
 some (Res.ret [(V.sl 1 l13 false)], h15)))))
noncomputable def lOrder (n : Nat) (o : Int) (os : V) : Option (Res × Heap) :=
 (if ((V.cells os)).length = 1 then
 (bd ((V.cells os))[0]? fun v0 =>
 (bd (slc v0) fun p1 =>
 (bdS (nv (V.int .i64 ((p1.2).length : Int))) fun n2 =>
 (bdS (nv (V.int .i64 ((p1.2).length : Int))) fun n3 =>
 (if (n2 = n3 ∧ n2 < lim ∧ 1 = 1) then
 (loopx n (lOrder_l4 n o n2) [(V.agg (V.cells os)), (V.sl 1 [] false), (V.sl 1 (List.replicate n2 [(V.int .i64 0)]) false), (V.bool false), (V.int .i64 0)] []) else none))))) else none)
theorem lOrder_eq (n : Nat) (o : Int) (os : V) (h : Heap) : call (n + 1) 46 [(V.int .u8 o), os] h = gcw [(V.int .u8 o), os] (lOrder n o os) h := by kernel_rfl
noncomputable def lBatch_l9 (n : Nat) (o : Int) (m : Int) (os : V) (v7 : V) (p8 : Nat × List (List V)) (st10 : List V) (hh11 : Heap) (next12 : List V → Heap → Option (Res × Heap)) : Option (Res × Heap) :=
 (bd (bop prog .lss 3 (gv st10 6) (V.int .i64 ((p8.2).length : Int))) fun v13 =>
 (bv v13 fun b14 => if b14 then
 (bdS (nv (gv st10 6)) fun n15 =>
 (slk v7 fun q16 l17 x18 => if (q16 = 1) then
 (bd (l17)[n15]? fun es19 =>
 (bd (es19)[0]? fun v20 =>
 (bdS (nv v20) fun n21 =>
 (slk os fun q22 l23 x24 => if (q22 = 2) then
 (bd (l23)[n21]? fun es25 =>
 (cl (call n 26 [(V.int .u8 o), (V.int .i64 m), (gv st10 0), (V.agg ((es25).drop 0 |>.take 2))] hh11) (fun r26 h27 =>
 (bd (r26)[0]? fun v29 =>
 (bd (r26)[1]? fun v30 =>
 (bdS (nv v20) fun n31 =>
 (if (2 = 2 ∧ n31 < ((lsl (gv st10 3))).length ∧ (some 39 : Option Nat) ≠ some 10) then
 (if ((V.cells v30)).length = 2 then
 (if (2 = 2 ∧ 0 < 2 ∧ 0 + ((V.cells v30)).length ≤ 2) then
 (bd ((lsl (gv st10 3)))[n31]? fun es32 =>
 (bd (bop prog .add 3 (gv st10 6) (V.int .i64 1)) fun v33 =>
 (next12 [v29, (V.sl 1 (lsl (gv st10 1)) false), (V.sl 2 (lsl (gv st10 2)) false), (V.sl 2 (((lsl (gv st10 3))).set n31 (setR es32 0 (V.cells v30))) false), (V.bool false), (V.bool false), v33] h27))) else none) else none) else none))))) (fun z28 h27 => some (Res.pan z28, h27)))) else none)))) else none))
 else
 some (Res.ret [(gv st10 0), (V.sl 2 (lsl (gv st10 3)) false)], hh11)))
noncomputable def lBatch (n : Nat) (o : Int) (m : Int) (s : V) (os : V) : Option (Res × Heap) :=
 (bd (slc s) fun p0 =>
 (if ((p0.1 = 1 ∨ (p0.2).isEmpty = true) ∧ (p0.2).length < lim) then
 (bd (slc os) fun p1 =>
 (bdS (nv (V.int .i64 ((p1.2).length : Int))) fun n2 =>
 (bdS (nv (V.int .i64 ((p1.2).length : Int))) fun n3 =>
 (if (n2 = n3 ∧ n2 < lim ∧ 2 = 2) then
 (cl (call n 46 [(V.int .u8 o), os] []) (fun r4 h5 =>
 (one1 r4 fun v7 =>
 (bd (slc v7) fun p8 =>
 (loopx n (lBatch_l9 n o m os v7 p8) [(V.sl 1 p0.2 false), (V.sl 1 [] false), (V.sl 2 [] false), (V.sl 2 (List.replicate n2 [(V.int .u8 0), (V.int .i32 0)]) false), (V.bool false), (V.bool false), (V.int .i64 0)] h5)))) (fun z6 h5 => some (Res.pan z6, h5))) else none)))) else none))
theorem lBatch_eq (n : Nat) (o : Int) (m : Int) (s : V) (os : V) (h : Heap) : call (n + 1) 45 [(V.int .u8 o), (V.int .i64 m), s, os] h = gcw [(V.int .u8 o), (V.int .i64 m), s, os] (lBatch n o m s os) h := by kernel_rfl
noncomputable def rRun_l0 (n : Nat) (o : Int) (m : Int) (os : V) (st1 : List V) (hh2 : Heap) (next3 : List V → Heap → Option (Res × Heap)) : Option (Res × Heap) :=
 (bd (slc os) fun p4 =>
 (bd (bop prog .lss 3 (gv st1 4) (V.int .i64 ((p4.2).length : Int))) fun v5 =>
 (bv v5 fun b6 => if b6 then
 (bdS (nv (gv st1 4)) fun n7 =>
 (slk os fun q8 l9 x10 => if (q8 = 2) then
 (bd (l9)[n7]? fun es11 =>
 (cl (call n 54 [(V.int .u8 o), (V.int .i64 m), (gv st1 0), (V.agg ((es11).drop 0 |>.take 2))] hh2) (fun r12 h13 =>
 (bd (r12)[0]? fun v15 =>
 (bd (r12)[1]? fun v16 =>
 (if ((V.cells v16)).length = 2 then
 (if (((V.cells v16)).length ≤ 2) then
 (bd (bslV prog 31 1 [(0, (V.agg (((setR [(V.int .u8 0), (V.int .i32 0)] 0 (V.cells v16))).drop 0 |>.take 2)))]) fun p17 =>
 (bd (app 34 2 (S.own 34 2 (lsl (gv st1 3))) p17.2) fun l18 =>
 (bd (bop prog .add 3 (gv st1 4) (V.int .i64 1)) fun v19 =>
 (next3 [v15, (V.sl 1 (lsl (gv st1 1)) false), (V.sl 2 (lsl (gv st1 2)) false), (V.sl 2 l18 false), v19] h13)))) else none) else none)))) (fun z14 h13 => some (Res.pan z14, h13)))) else none))
 else
 some (Res.ret [(gv st1 0), (V.sl 2 (lsl (gv st1 3)) false)], hh2))))
noncomputable def rRun (n : Nat) (o : Int) (m : Int) (s : V) (os : V) (h : Heap) : Option (Res × Heap) :=
 (loopx n (rRun_l0 n o m os) [s, (V.sl 1 [] false), (V.sl 2 [] false), (V.sl 2 [] false), (V.int .i64 0)] h)
theorem rRun_eq (n : Nat) (o : Int) (m : Int) (s : V) (os : V) (h : Heap) : call (n + 1) 52 [(V.int .u8 o), (V.int .i64 m), s, os] h = rRun n o m s os h := by kernel_rfl
noncomputable def rOrder_l7 (n : Nat) (o : Int) (os : V) (st1 : List V) (next3 : List V → Heap → Option (Res × Heap)) (st8 : List V) (hh9 : Heap) (next10 : List V → Heap → Option (Res × Heap)) : Option (Res × Heap) :=
 (if (o == 3) then
 (bd (bop prog .gtr 3 (gv st8 2) (V.int .i64 0)) fun v11 =>
 (bv v11 fun b12 => if b12 then
 (bd (bop prog .sub 3 (gv st8 2) (V.int .i64 1)) fun v13 =>
 (bdS (nv v13) fun n14 =>
 (if (1 = 1 ∧ n14 < ((lsl (gv st8 1))).length ∧ (some 28 : Option Nat) ≠ some 5) then
 (bd ((lsl (gv st8 1)))[n14]? fun es15 =>
 (bd (es15)[0]? fun v16 =>
 (bdS (nv v16) fun n17 =>
 (slk os fun q18 l19 x20 => if (q18 = 2) then
 (bd (l19)[n17]? fun es21 =>
 (bdS (nv (gv st1 2)) fun n22 =>
 (slk os fun q23 l24 x25 => if (q23 = 2) then
 (bd (l24)[n22]? fun es26 =>
 (cl (call n 79 [(V.agg ((es21).drop 0 |>.take 2)), (V.agg ((es26).drop 0 |>.take 2))] hh9) (fun r27 h28 =>
 (one1 r27 fun v30 =>
 (bd (uop .not v30) fun v31 =>
 (bv v31 fun b32 => if b32 then
 (bd (bop prog .sub 3 (gv st8 2) (V.int .i64 1)) fun v33 =>
 (next10 [(V.sl 1 (lsl (gv st8 0)) false), (V.sl 1 (lsl (gv st8 1)) false), v33] h28))
 else
 (bdS (nv (gv st8 2)) fun n34 =>
 (if (0 ≤ n34 ∧ n34 ≤ ((lsl (gv st8 1))).length ∧ (1 = 1 ∨ ((lsl (gv st8 1))).isEmpty = true) ∧ ((none : Option Nat) = none ∨ (none : Option Nat) = some n34) ∧ true = true) then
 (bd (app 3 1 (S.own 3 1 []) ((((lsl (gv st8 1))).take n34).drop 0)) fun l35 =>
 (bd (bslV prog 43 1 [(0, (gv st1 2))]) fun p36 =>
 (bd (app 3 1 (S.own 3 1 l35) p36.2) fun l37 =>
 (bdS (nv (gv st8 2)) fun n38 =>
 (if (n38 ≤ ((lsl (gv st8 1))).length ∧ ((lsl (gv st8 1))).length ≤ ((lsl (gv st8 1))).length ∧ (1 = 1 ∨ ((lsl (gv st8 1))).isEmpty = true) ∧ ((none : Option Nat) = none ∨ (none : Option Nat) = some ((lsl (gv st8 1))).length) ∧ true = true) then
 (bd (app 3 1 (S.own 3 1 l37) ((((lsl (gv st8 1))).take ((lsl (gv st8 1))).length).drop n38)) fun l39 =>
 (bd (bop prog .add 3 (gv st1 2) (V.int .i64 1)) fun v40 =>
 (next3 [(V.sl 1 (lsl (gv st8 0)) false), (V.sl 1 l39 false), v40] h28))) else none))))) else none)))))) (fun z29 h28 => none))) else none))) else none)))) else none)))
 else
 (bdS (nv (gv st8 2)) fun n41 =>
 (if (0 ≤ n41 ∧ n41 ≤ ((lsl (gv st8 1))).length ∧ (1 = 1 ∨ ((lsl (gv st8 1))).isEmpty = true) ∧ ((none : Option Nat) = none ∨ (none : Option Nat) = some n41) ∧ true = true) then
 (bd (app 3 1 (S.own 3 1 []) ((((lsl (gv st8 1))).take n41).drop 0)) fun l42 =>
 (bd (bslV prog 43 1 [(0, (gv st1 2))]) fun p43 =>
 (bd (app 3 1 (S.own 3 1 l42) p43.2) fun l44 =>
 (bdS (nv (gv st8 2)) fun n45 =>
 (if (n45 ≤ ((lsl (gv st8 1))).length ∧ ((lsl (gv st8 1))).length ≤ ((lsl (gv st8 1))).length ∧ (1 = 1 ∨ ((lsl (gv st8 1))).isEmpty = true) ∧ ((none : Option Nat) = none ∨ (none : Option Nat) = some ((lsl (gv st8 1))).length) ∧ true = true) then
 (bd (app 3 1 (S.own 3 1 l44) ((((lsl (gv st8 1))).take ((lsl (gv st8 1))).length).drop n45)) fun l46 =>
 (bd (bop prog .add 3 (gv st1 2) (V.int .i64 1)) fun v47 =>
 (next3 [(V.sl 1 (lsl (gv st8 0)) false), (V.sl 1 l46 false), v47] hh9))) else none))))) else none))))
 else
 (bdS (nv (gv st8 2)) fun n48 =>
 (if (0 ≤ n48 ∧ n48 ≤ ((lsl (gv st8 1))).length ∧ (1 = 1 ∨ ((lsl (gv st8 1))).isEmpty = true) ∧ ((none : Option Nat) = none ∨ (none : Option Nat) = some n48) ∧ true = true) then
 (bd (app 3 1 (S.own 3 1 []) ((((lsl (gv st8 1))).take n48).drop 0)) fun l49 =>
 (bd (bslV prog 43 1 [(0, (gv st1 2))]) fun p50 =>
 (bd (app 3 1 (S.own 3 1 l49) p50.2) fun l51 =>
 (bdS (nv (gv st8 2)) fun n52 =>
 (if (n52 ≤ ((lsl (gv st8 1))).length ∧ ((lsl (gv st8 1))).length ≤ ((lsl (gv st8 1))).length ∧ (1 = 1 ∨ ((lsl (gv st8 1))).isEmpty = true) ∧ ((none : Option Nat) = none ∨ (none : Option Nat) = some ((lsl (gv st8 1))).length) ∧ true = true) then
 (bd (app 3 1 (S.own 3 1 l51) ((((lsl (gv st8 1))).take ((lsl (gv st8 1))).length).drop n52)) fun l53 =>
 (bd (bop prog .add 3 (gv st1 2) (V.int .i64 1)) fun v54 =>
 (next3 [(V.sl 1 (lsl (gv st8 0)) false), (V.sl 1 l53 false), v54] hh9))) else none))))) else none)))
noncomputable def rOrder_l0 (n : Nat) (o : Int) (os : V) (st1 : List V) (hh2 : Heap) (next3 : List V → Heap → Option (Res × Heap)) : Option (Res × Heap) :=
 (bd (slc os) fun p4 =>
 (bd (bop prog .lss 3 (gv st1 2) (V.int .i64 ((p4.2).length : Int))) fun v5 =>
 (bv v5 fun b6 => if b6 then
 (loopx n (rOrder_l7 n o os st1 next3) [(V.sl 1 (lsl (gv st1 0)) false), (V.sl 1 (lsl (gv st1 1)) false), (V.int .i64 (((lsl (gv st1 1))).length : Int))] hh2)
 else
 some (Res.ret [(V.sl 1 (lsl (gv st1 1)) false)], hh2))))
noncomputable def rOrder (n : Nat) (o : Int) (os : V) (h : Heap) : Option (Res × Heap) :=
 (loopx n (rOrder_l0 n o os) [(V.sl 1 [] false), (V.sl 1 [] false), (V.int .i64 0)] h)
theorem rOrder_eq (n : Nat) (o : Int) (os : V) (h : Heap) : call (n + 1) 55 [(V.int .u8 o), os] h = rOrder n o os h := by kernel_rfl
noncomputable def rBatch_l7 (n : Nat) (o : Int) (m : Int) (os : V) (v6 : V) (st8 : List V) (hh9 : Heap) (next10 : List V → Heap → Option (Res × Heap)) : Option (Res × Heap) :=
 (bd (slc v6) fun p11 =>
 (bd (bop prog .lss 3 (gv st8 4) (V.int .i64 ((p11.2).length : Int))) fun v12 =>
 (bv v12 fun b13 => if b13 then
 (bdS (nv (gv st8 4)) fun n14 =>
 (slk v6 fun q15 l16 x17 => if (q15 = 1) then
 (bd (l16)[n14]? fun es18 =>
 (bd (es18)[0]? fun v19 =>
 (bdS (nv v19) fun n20 =>
 (slk os fun q21 l22 x23 => if (q21 = 2) then
 (bd (l22)[n20]? fun es24 =>
 (cl (call n 54 [(V.int .u8 o), (V.int .i64 m), (gv st8 0), (V.agg ((es24).drop 0 |>.take 2))] hh9) (fun r25 h26 =>
 (bd (r25)[0]? fun v28 =>
 (bd (r25)[1]? fun v29 =>
 (if ((V.cells v29)).length = 2 then
 (if (((V.cells v29)).length ≤ 2) then
 (bdS (nv (gv st8 4)) fun n30 =>
 (slk v6 fun q31 l32 x33 => if (q31 = 1) then
 (bd (l32)[n30]? fun es34 =>
 (bd (es34)[0]? fun v35 =>
 (bdS (nv v35) fun n36 =>
 (if (2 = 2 ∧ n36 < ((lsl (gv st8 3))).length ∧ (some 48 : Option Nat) ≠ some 10) then
 (if ((((setR [(V.int .u8 0), (V.int .i32 0)] 0 (V.cells v29))).drop 0 |>.take 2)).length = 2 then
 (if (2 = 2 ∧ 0 < 2 ∧ 0 + ((((setR [(V.int .u8 0), (V.int .i32 0)] 0 (V.cells v29))).drop 0 |>.take 2)).length ≤ 2) then
 (bd ((lsl (gv st8 3)))[n36]? fun es37 =>
 (bd (bop prog .add 3 (gv st8 4) (V.int .i64 1)) fun v38 =>
 (next10 [v28, (V.sl 1 (lsl (gv st8 1)) false), (V.sl 2 (lsl (gv st8 2)) false), (V.sl 2 (((lsl (gv st8 3))).set n36 (setR es37 0 (((setR [(V.int .u8 0), (V.int .i32 0)] 0 (V.cells v29))).drop 0 |>.take 2))) false), v38, (V.bool false)] h26))) else none) else none) else none)))) else none)) else none) else none)))) (fun z27 h26 => some (Res.pan z27, h26)))) else none)))) else none))
 else
 some (Res.ret [(gv st8 0), (V.sl 2 (lsl (gv st8 3)) false)], hh9))))
noncomputable def rBatch (n : Nat) (o : Int) (m : Int) (s : V) (os : V) (h : Heap) : Option (Res × Heap) :=
 (bd (slc os) fun p0 =>
 (bdS (nv (V.int .i64 ((p0.2).length : Int))) fun n1 =>
 (bdS (nv (V.int .i64 ((p0.2).length : Int))) fun n2 =>
 (if (n1 = n2 ∧ n1 < lim ∧ 2 = 2) then
 (cl (call n 55 [(V.int .u8 o), os] h) (fun r3 h4 =>
 (one1 r3 fun v6 =>
 (loopx n (rBatch_l7 n o m os v6) [s, (V.sl 1 [] false), (V.sl 2 [] false), (V.sl 2 (List.replicate n1 [(V.int .u8 0), (V.int .i32 0)]) false), (V.int .i64 0), (V.bool false)] h4))) (fun z5 h4 => some (Res.pan z5, h4))) else none))))
theorem rBatch_eq (n : Nat) (o : Int) (m : Int) (s : V) (os : V) (h : Heap) : call (n + 1) 53 [(V.int .u8 o), (V.int .i64 m), s, os] h = rBatch n o m s os h := by kernel_rfl
noncomputable def rLess (n : Nat) (x0_0 : Int) (x0_1 : Int) (x1_0 : Int) (x1_1 : Int) (h : Heap) : Option (Res × Heap) :=
 (if (x0_0 == 1) then
 (if (x1_0 == 1) then
 some (Res.ret [(V.bool (decide (x0_1 ≤ x1_1)))], h)
 else
 (if (x0_0 == 1) then
 some (Res.ret [(V.bool true)], h)
 else
 some (Res.ret [(V.bool (x1_0 != 1))], h)))
 else
 (if (x0_0 == 1) then
 some (Res.ret [(V.bool true)], h)
 else
 some (Res.ret [(V.bool (x1_0 != 1))], h)))
theorem rLess_eq (n : Nat) (x0_0 : Int) (x0_1 : Int) (x1_0 : Int) (x1_1 : Int) (h : Heap) : call (n + 1) 79 [(V.agg [(V.int .u8 x0_0), (V.int .i32 x0_1)]), (V.agg [(V.int .u8 x1_0), (V.int .i32 x1_1)])] h = rLess n x0_0 x0_1 x1_0 x1_1 h := by kernel_rfl
noncomputable def rInts_l2 (n : Nat) (a : V) (b : V) (st3 : List V) (hh4 : Heap) (next5 : List V → Heap → Option (Res × Heap)) : Option (Res × Heap) :=
 (bd (slc a) fun p6 =>
 (bd (bop prog .lss 3 (gv st3 1) (V.int .i64 ((p6.2).length : Int))) fun v7 =>
 (bv v7 fun b8 => if b8 then
 (bdS (nv (gv st3 1)) fun n9 =>
 (slk a fun q10 l11 x12 => if (q10 = 1) then
 (bd (l11)[n9]? fun es13 =>
 (bd (es13)[0]? fun v14 =>
 (bdS (nv (gv st3 1)) fun n15 =>
 (slk b fun q16 l17 x18 => if (q16 = 1) then
 (bd (l17)[n15]? fun es19 =>
 (bd (es19)[0]? fun v20 =>
 (bd (bop prog .neq 3 v14 v20) fun v21 =>
 (bv v21 fun b22 => if b22 then
 some (Res.ret [(V.bool false)], hh4)
 else
 (bd (bop prog .add 3 (gv st3 1) (V.int .i64 1)) fun v23 =>
 (next5 [(gv st3 0), v23] hh4)))))) else none)))) else none))
 else
 some (Res.ret [(V.bool true)], hh4))))
noncomputable def rInts (n : Nat) (a : V) (b : V) (h : Heap) : Option (Res × Heap) :=
 (bd (slc a) fun p0 =>
 (bd (slc b) fun p1 =>
 (if (((p0.2).length : Int) != ((p1.2).length : Int)) then
 some (Res.ret [(V.bool false)], h)
 else
 (loopx n (rInts_l2 n a b) [(V.bool false), (V.int .i64 0)] h))))
theorem rInts_eq (n : Nat) (a : V) (b : V) (h : Heap) : call (n + 1) 32 [a, b] h = rInts n a b h := by kernel_rfl
end Go.Proofs.Try
