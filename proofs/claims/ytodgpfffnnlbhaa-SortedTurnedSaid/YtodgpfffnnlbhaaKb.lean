import Derived.Test.YtodgpfffnnlbhaaLset
import Derived.Test.YtodgpfffnnlbhaaLwd
/-! sorted: PRINTED BY A PROGRAM OF MINE (lift6.lean) -/
set_option linter.unusedVariables false
namespace Go.Proofs.Try
open Go.L
set_option maxRecDepth 100000
noncomputable def putKey (n : Nat) (x0_0 : Int) (x0_1 : Int) : Option (Res × Heap) :=
 some (Res.ret [(V.int .i32 x0_1)], [])
theorem putKey_eq (n : Nat) (x0_0 : Int) (x0_1 : Int) (h : Heap) : call (n + 1) 61 [(V.agg [(V.int .u8 x0_0), (V.int .i32 x0_1)])] h = gcw [(V.agg [(V.int .u8 x0_0), (V.int .i32 x0_1)])] (putKey n x0_0 x0_1) h := by kernel_rfl
noncomputable def byCmp (n : Nat) (a : Int) (b : Int) (l : List (List V)) (lb : Bool) (h : Heap) : Option (Res × Heap) :=
 (bdS (nv (V.int .i64 a)) fun n0 =>
 (bd (idxP 2 n0 (V.sl 2 l lb)) fun p1 =>
 (clS (call n 61 [(V.agg (((esP p1)).drop 0 |>.take 2))] []) fun r2 =>
 (one1 r2 fun v5 =>
 (bdS (nv (V.int .i64 b)) fun n6 =>
 (bd (idxP 2 n6 (V.sl 2 l lb)) fun p7 =>
 (clS (call n 61 [(V.agg (((esP p7)).drop 0 |>.take 2))] []) fun r8 =>
 (one1 r8 fun v11 =>
 (clH (call n 82 [v5, v11] h) fun r12 h13 =>
 (one1 r12 fun v15 =>
 some (Res.ret [v15], h13)))))))))))
theorem byCmp_eq (n : Nat) (a : Int) (b : Int) (l : List (List V)) (lb : Bool) (h : Heap) : call (n + 1) 81 [(V.int .i64 a), (V.int .i64 b), (V.iptr 1 [(V.fn 61 [])] 0), (V.iptr 1 [(V.sl 2 l lb)] 0)] h = byCmp n a b l lb h := by kernel_rfl
noncomputable def srtBy (n : Nat) (l : List (List V)) (lb : Bool) (b : Nat) (hi : Nat) (h : Heap) : Option (Res × Heap) :=
 (rwT ((h)[b]?) fun el0 sl0 l0 => if ((el0 = 3 ∧ 1 = 1 ∧ sl0 = 1) ∧ (0 = 0 ∧ hi = l0.length)) then (clr (call n 80 (V.sl 1 l0 false :: [(V.fn 81 [(V.iptr 1 [(V.fn 61 [])] 0), (V.iptr 1 [(V.sl 2 l lb)] 0)])]) ((h).set b HB.dead)) fun sl1 l1 r2 h3 => if sl1 = 1 ∧ l1.length = l0.length then
 some (Res.ret [(V.row b 1 0 hi)], ((h3).set b (HB.row 3 1 l1 true))) else none) else none)
theorem srtBy_eq (n : Nat) (l : List (List V)) (lb : Bool) (b : Nat) (hi : Nat) (h : Heap) : call (n + 1) 60 [(V.sl 2 l lb), (V.row b 1 0 hi), (V.fn 61 [])] h = srtBy n l lb b hi h := by kernel_rfl
noncomputable def parted_l0 (n : Nat) (l : List (List V)) (lb : Bool) (st1 : List V) (hh2 : Heap) (next3 : List V → Heap → Option (Res × Heap)) : Option (Res × Heap) :=
 (bd (bop prog .lss 3 (gv st1 2) (V.int .i64 ((l).length : Int))) fun v4 =>
 (bv v4 fun b5 => if b5 then
 (bdS (nv (gv st1 2)) fun n6 =>
 (bd (idxP 2 n6 (V.sl 2 l lb)) fun p7 =>
 (bd3 (cellsP hh2 p7) fun cs9 m8 o10 => if (o10 + 2 ≤ m8 ∧ 0 < 2) then
 (if (((cs9).drop o10 |>.take 2)).length = 2 then
 (if ((((cs9).drop o10 |>.take 2)).length ≤ 2) then
 (bd ((setR [(V.int .u8 0), (V.int .i32 0)] 0 ((cs9).drop o10 |>.take 2)))[0]? fun v11 =>
 (bd (bop prog .eql 5 v11 (V.int .u8 1)) fun v12 =>
 (bv v12 fun b13 => if b13 then
 (bd (bslV prog 43 1 [(0, (gv st1 2))]) fun p14 =>
 (bd (app 3 1 (S.own 3 1 (lsl (gv st1 0))) p14.2) fun l15 =>
 (bd (bop prog .add 3 (gv st1 2) (V.int .i64 1)) fun v16 =>
 (next3 [(V.sl 1 l15 false), (V.sl 1 (lsl (gv st1 1)) false), v16] hh2))))
 else
 (bd (bslV prog 43 1 [(0, (gv st1 2))]) fun p17 =>
 (bd (app 3 1 (S.own 3 1 (lsl (gv st1 1))) p17.2) fun l18 =>
 (bd (bop prog .add 3 (gv st1 2) (V.int .i64 1)) fun v19 =>
 (next3 [(V.sl 1 (lsl (gv st1 0)) false), (V.sl 1 l18 false), v19] hh2))))))) else none) else none) else none)))
 else
 (cl (call n 60 [(V.sl 2 l lb), (V.row (hh2).length 1 0 ((lsl (gv st1 0))).length), (V.fn 61 [])] (hh2 ++ [(HB.row 3 1 (lsl (gv st1 0)) true)])) (fun r20 h21 =>
 (one1 r20 fun v23 =>
 some (Res.ret [v23, (V.row (h21).length 1 0 ((lsl (gv st1 1))).length)], (h21 ++ [(HB.row 3 1 (lsl (gv st1 1)) true)])))) (fun z22 h21 => some (Res.pan z22, h21)))))
noncomputable def parted (n : Nat) (l : List (List V)) (lb : Bool) (h : Heap) : Option (Res × Heap) :=
 (loopx n (parted_l0 n l lb) [(V.sl 1 [] false), (V.sl 1 [] false), (V.int .i64 0)] h)
theorem parted_eq (n : Nat) (l : List (List V)) (lb : Bool) (h : Heap) : call (n + 1) 34 [(V.sl 2 l lb)] h = parted n l lb h := by kernel_rfl
noncomputable def srtOrder (n : Nat) (l : List (List V)) (lb : Bool) (h : Heap) : Option (Res × Heap) :=
 (cl (call n 34 [(V.sl 2 l lb)] h) (fun r0 h1 =>
 (bd (r0)[0]? fun v3 =>
 (bd (r0)[1]? fun v4 =>
 (bdS (slcH h1 v4) fun p5 =>
 (if (43 = 43 ∧ (p5.1 = 1 ∨ (p5.2).isEmpty = true)) then
 (bd2 (appP 3 1 h1 p5.2 v3) fun v6 h7 =>
 some (Res.ret [v6], h7)) else none))))) (fun z2 h1 => some (Res.pan z2, h1)))
theorem srtOrder_eq (n : Nat) (l : List (List V)) (lb : Bool) (h : Heap) : call (n + 1) 33 [(V.sl 2 l lb)] h = srtOrder n l lb h := by kernel_rfl
noncomputable def srtRest_l1 (n : Nat) (s : Nat) (l : List (List V)) (lb : Bool) (o : V) (t : V) (p0 : Nat × List (List V)) (st2 : List V) (hh3 : Heap) (next4 : List V → Heap → Option (Res × Heap)) : Option (Res × Heap) :=
 (bd (bop prog .lss 3 (gv st2 1) (V.int .i64 ((p0.2).length : Int))) fun v5 =>
 (bv v5 fun b6 => if b6 then
 (bdS (nv (gv st2 1)) fun n7 =>
 (bd (idxP 1 n7 o) fun p8 =>
 (bd3 (cellsP hh3 p8) fun cs10 m9 o11 => if (o11 + 1 ≤ m9 ∧ 0 < 1) then
 (bd (cs10)[o11]? fun v12 =>
 (bdS (nv v12) fun n13 =>
 (bd (idxP 2 n13 t) fun p14 =>
 (bd (addP 0 p14) fun p15 =>
 (bd2 (writeB hh3 [(V.int .u8 5)] p15) fun b16 x17 =>
 (bdS (nv v12) fun n18 =>
 (bd (idxP 2 n18 (V.sl 2 l lb)) fun p19 =>
 (bd (addP 0 p19) fun p20 =>
 (bd3 (cellsP ((hh3).set b16 x17) p20) fun cs22 m21 o23 => if (o23 + 1 ≤ m21 ∧ 0 < 1) then
 (bd (cs22)[o23]? fun v24 =>
 (bd (bop prog .neq 5 v24 (V.int .u8 2)) fun v25 =>
 (bv v25 fun b26 => if b26 then
 (bd (bop prog .add 3 (gv st2 1) (V.int .i64 1)) fun v27 =>
 (next4 [(V.sl 2 (lsl (gv st2 0)) false), v27] ((hh3).set b16 x17)))
 else
 (bdS (nv v12) fun n28 =>
 (bd (idxP 2 n28 t) fun p29 =>
 (bd (addP 0 p29) fun p30 =>
 (bd2 (writeB ((hh3).set b16 x17) [(V.int .u8 4)] p30) fun b31 x32 =>
 (cl (call n 63 [(V.ptr s 0)] ((((hh3).set b16 x17)).set b31 x32)) (fun r33 h34 =>
 (bd (r33)[0]? fun v36 =>
 (bd (r33)[1]? fun v37 =>
 (bv v37 fun b38 => if b38 then
 (bd (bldV prog 34 [(0, (V.int .u8 2)), (1, v36)]) fun cs39 =>
 (bdS (nv v12) fun n40 =>
 (bd (idxP 2 n40 t) fun p41 =>
 (if (cs39).length = 2 then
 (bd2 (writeB h34 cs39 p41) fun b42 x43 =>
 (bd (bop prog .add 3 (gv st2 1) (V.int .i64 1)) fun v44 =>
 (next4 [(V.sl 2 (lsl (gv st2 0)) false), v44] ((h34).set b42 x43)))) else none))))
 else
 (bd (bop prog .add 3 (gv st2 1) (V.int .i64 1)) fun v45 =>
 (next4 [(V.sl 2 (lsl (gv st2 0)) false), v45] h34)))))) (fun z35 h34 => some (Res.pan z35, h34)))))))))) else none))))))))) else none)))
 else
 some (Res.ret [t], hh3)))
noncomputable def srtRest (n : Nat) (s : Nat) (l : List (List V)) (lb : Bool) (o : V) (t : V) (h : Heap) : Option (Res × Heap) :=
 (bd (slcH h o) fun p0 =>
 (loopx n (srtRest_l1 n s l lb o t p0) [(V.sl 2 [] false), (V.int .i64 0)] h))
theorem srtRest_eq (n : Nat) (s : Nat) (l : List (List V)) (lb : Bool) (o : V) (t : V) (h : Heap) : call (n + 1) 38 [(V.ptr s 0), (V.sl 2 l lb), o, t] h = srtRest n s l lb o t h := by kernel_rfl
noncomputable def srtApply_l61 (n : Nat) (s : Nat) (l : List (List V)) (lb : Bool) (v6 : V) (v59 : V) (p60 : Nat × List (List V)) (st62 : List V) (hh63 : Heap) (next64 : List V → Heap → Option (Res × Heap)) : Option (Res × Heap) :=
 (bd (bop prog .lss 3 (gv st62 3) (V.int .i64 ((p60.2).length : Int))) fun v65 =>
 (bv v65 fun b66 => if b66 then
 (bdS (nv (gv st62 3)) fun n67 =>
 (bd (idxP 1 n67 v59) fun p68 =>
 (bd3 (cellsP hh63 p68) fun cs70 m69 o71 => if (o71 + 1 ≤ m69 ∧ 0 < 1) then
 (bd (cs70)[o71]? fun v72 =>
 (bdS (nv v72) fun n73 =>
 (if (2 = 2 ∧ n73 < ((lsl (gv st62 1))).length ∧ (some 73 : Option Nat) ≠ some 7) then
 (bd ((lsl (gv st62 1)))[n73]? fun es74 =>
 (bd (bop prog .add 3 (gv st62 3) (V.int .i64 1)) fun v75 =>
 (next64 [(V.sl 2 (lsl (gv st62 0)) false), (V.sl 2 (((lsl (gv st62 1))).set n73 (setR es74 0 [(V.int .u8 3)])) false), (V.bool false), v75] hh63))) else none))) else none)))
 else
 (cl (call n 38 [(V.ptr s 0), (V.sl 2 l lb), v6, (V.row (hh63).length 2 0 ((lsl (gv st62 1))).length)] (hh63 ++ [(HB.row 34 2 (lsl (gv st62 1)) true)])) (fun r76 h77 =>
 (one1 r76 fun v79 =>
 some (Res.ret [v79], h77))) (fun z78 h77 => some (Res.pan z78, h77)))))
noncomputable def srtApply_l23 (n : Nat) (s : Nat) (c : Nat) (l : List (List V)) (lb : Bool) (v5 : V) (v6 : V) (v18 : V) (v21 : V) (p22 : Nat × List (List V)) (st24 : List V) (hh25 : Heap) (next26 : List V → Heap → Option (Res × Heap)) : Option (Res × Heap) :=
 (bd (bop prog .lss 3 (gv st24 5) (V.int .i64 ((p22.2).length : Int))) fun v27 =>
 (bv v27 fun b28 => if b28 then
 (bdS (nv (gv st24 5)) fun n29 =>
 (bd (idxP 1 n29 v21) fun p30 =>
 (bd3 (cellsP hh25 p30) fun cs32 m31 o33 => if (o33 + 1 ≤ m31 ∧ 0 < 1) then
 (bd (cs32)[o33]? fun v34 =>
 (bdS (nv v34) fun n35 =>
 (bd (idxP 2 n35 (V.sl 2 l lb)) fun p36 =>
 (bd (addP 1 p36) fun p37 =>
 (bd3 (cellsP hh25 p37) fun cs39 m38 o40 => if (o40 + 1 ≤ m38 ∧ 0 < 1) then
 (bd (cs39)[o40]? fun v41 =>
 (bd (bslV prog 39 1 [(0, v41)]) fun p42 =>
 (bd (app 21 1 (S.own 21 1 (lsl (gv st24 2))) p42.2) fun l43 =>
 (cl (call n 19 [(V.ptr c 0)] hh25) (fun r44 h45 =>
 (one1 r44 fun v47 =>
 (bd (bslV prog 43 1 [(0, v47)]) fun p48 =>
 (bd (app 3 1 (S.own 3 1 (lsl (gv st24 3))) p48.2) fun l49 =>
 (bdS (nv v34) fun n50 =>
 (if (2 = 2 ∧ n50 < ((lsl (gv st24 1))).length ∧ (some 56 : Option Nat) ≠ some 7) then
 (bd ((lsl (gv st24 1)))[n50]? fun es51 =>
 (bd (bop prog .add 3 (gv st24 5) (V.int .i64 1)) fun v52 =>
 (next26 [(V.sl 2 (lsl (gv st24 0)) false), (V.sl 2 (((lsl (gv st24 1))).set n50 (setR es51 0 [(V.int .u8 1)])) false), (V.sl 1 l43 false), (V.sl 1 l49 false), (V.bool false), v52] h45))) else none)))))) (fun z46 h45 => some (Res.pan z46, h45)))))) else none))))) else none)))
 else
 (cl (call n 37 [(V.ptr s 0), (V.row (hh25).length 1 0 ((lsl (gv st24 2))).length), (V.row ((hh25 ++ [(HB.row 21 1 (lsl (gv st24 2)) true)])).length 1 0 ((lsl (gv st24 3))).length)] ((hh25 ++ [(HB.row 21 1 (lsl (gv st24 2)) true)]) ++ [(HB.row 3 1 (lsl (gv st24 3)) true)])) (fun r53 h54 =>
 (one1 r53 fun v56 =>
 (bd (lenP v5) fun n57 =>
 (bdS (nv v18) fun n58 =>
 (bd (sliceP 1 n58 n57 (none : Option Nat) true v5) fun v59 =>
 (bd (slcH h54 v59) fun p60 =>
 (loopx n (srtApply_l61 n s l lb v6 v59 p60) [(V.sl 2 (lsl (gv st24 0)) false), (V.sl 2 (lsl (gv st24 1)) false), (V.bool false), (V.int .i64 0)] h54))))))) (fun z55 h54 => some (Res.pan z55, h54)))))
noncomputable def srtApply (n : Nat) (s : Nat) (c : Nat) (l : List (List V)) (lb : Bool) (h : Heap) : Option (Res × Heap) :=
 (bdS (nv (V.int .i64 ((l).length : Int))) fun n0 =>
 (bdS (nv (V.int .i64 ((l).length : Int))) fun n1 =>
 (if (n0 = n1 ∧ n0 < lim ∧ 2 = 2) then
 (cl (call n 34 [(V.sl 2 l lb)] h) (fun r2 h3 =>
 (bd (r2)[0]? fun v5 =>
 (bd (r2)[1]? fun v6 =>
 (bd (slcH h3 v5) fun p7 =>
 (cl (call n 35 [(V.ptr s 0)] h3) (fun r8 h9 =>
 (one1 r8 fun v11 =>
 (cl (call n 36 [(V.ptr s 0)] h9) (fun r12 h13 =>
 (one1 r12 fun v15 =>
 (bd (bop prog .sub 3 v11 v15) fun v16 =>
 (bd (evBsL [(some (V.int .i64 ((p7.2).length : Int))), (valB h13 v16)]) fun a17 => bd (mm false a17) fun v18 =>
 (bd (lenP v5) fun n19 =>
 (bdS (nv v18) fun n20 =>
 (bd (sliceP 1 0 n20 (none : Option Nat) true v5) fun v21 =>
 (bd (slcH h13 v21) fun p22 =>
 (loopx n (srtApply_l23 n s c l lb v5 v6 v18 v21 p22) [(V.sl 2 [] false), (V.sl 2 (List.replicate n0 [(V.int .u8 0), (V.int .i32 0)]) false), (V.sl 1 [] false), (V.sl 1 [] false), (V.bool false), (V.int .i64 0)] h13))))))))) (fun z14 h13 => some (Res.pan z14, h13))))) (fun z10 h9 => some (Res.pan z10, h9))))))) (fun z4 h3 => some (Res.pan z4, h3))) else none)))
theorem srtApply_eq (n : Nat) (s : Nat) (c : Nat) (l : List (List V)) (lb : Bool) (h : Heap) : call (n + 1) 18 [(V.ptr s 0), (V.ptr c 0), (V.sl 2 l lb)] h = srtApply n s c l lb h := by kernel_rfl
noncomputable def srtPlain_l8 (n : Nat) (s : Nat) (c : Nat) (l : List (List V)) (lb : Bool) (v5 : V) (v6 : V) (p7 : Nat × List (List V)) (st9 : List V) (hh10 : Heap) (next11 : List V → Heap → Option (Res × Heap)) : Option (Res × Heap) :=
 (bd (bop prog .lss 3 (gv st9 3) (V.int .i64 ((p7.2).length : Int))) fun v12 =>
 (bv v12 fun b13 => if b13 then
 (bdS (nv (gv st9 3)) fun n14 =>
 (bd (idxP 1 n14 v5) fun p15 =>
 (bd3 (cellsP hh10 p15) fun cs17 m16 o18 => if (o18 + 1 ≤ m16 ∧ 0 < 1) then
 (bd (cs17)[o18]? fun v19 =>
 (bdS (nv v19) fun n20 =>
 (if (2 = 2 ∧ n20 < ((lsl (gv st9 1))).length ∧ (some 28 : Option Nat) ≠ some 7) then
 (bd ((lsl (gv st9 1)))[n20]? fun es21 =>
 (cl (call n 36 [(V.ptr s 0)] hh10) (fun r22 h23 =>
 (one1 r22 fun v25 =>
 (cl (call n 35 [(V.ptr s 0)] h23) (fun r26 h27 =>
 (one1 r26 fun v29 =>
 (bd (bop prog .lss 3 v25 v29) fun v30 =>
 (bv v30 fun b31 => if b31 then
 (bdS (nv v19) fun n32 =>
 (bd (idxP 2 n32 (V.sl 2 l lb)) fun p33 =>
 (bd ((esP p33))[1]? fun v34 =>
 (clH (call n 19 [(V.ptr c 0)] h27) fun r35 h36 =>
 (one1 r35 fun v38 =>
 (clH (call n 22 [(V.ptr s 0), v34, v38] h36) fun r39 h40 =>
 (one1 r39 fun v42 =>
 (bdS (nv v19) fun n43 =>
 (if (2 = 2 ∧ n43 < ((((lsl (gv st9 1))).set n20 (setR es21 0 [(V.int .u8 3)]))).length ∧ (some 46 : Option Nat) ≠ some 7) then
 (bd ((((lsl (gv st9 1))).set n20 (setR es21 0 [(V.int .u8 3)])))[n43]? fun es44 =>
 (bd (bop prog .add 3 (gv st9 3) (V.int .i64 1)) fun v45 =>
 (next11 [(V.sl 2 (lsl (gv st9 0)) false), (V.sl 2 (((((lsl (gv st9 1))).set n20 (setR es21 0 [(V.int .u8 3)]))).set n43 (setR es44 0 [(V.int .u8 1)])) false), (V.bool false), v45] h40))) else none)))))))))
 else
 (bd (bop prog .add 3 (gv st9 3) (V.int .i64 1)) fun v46 =>
 (next11 [(V.sl 2 (lsl (gv st9 0)) false), (V.sl 2 (((lsl (gv st9 1))).set n20 (setR es21 0 [(V.int .u8 3)])) false), (V.bool false), v46] h27)))))) (fun z28 h27 => some (Res.pan z28, h27))))) (fun z24 h23 => some (Res.pan z24, h23)))) else none))) else none)))
 else
 (cl (call n 38 [(V.ptr s 0), (V.sl 2 l lb), v6, (V.row (hh10).length 2 0 ((lsl (gv st9 1))).length)] (hh10 ++ [(HB.row 34 2 (lsl (gv st9 1)) true)])) (fun r47 h48 =>
 (one1 r47 fun v50 =>
 some (Res.ret [v50], h48))) (fun z49 h48 => some (Res.pan z49, h48)))))
noncomputable def srtPlain (n : Nat) (s : Nat) (c : Nat) (l : List (List V)) (lb : Bool) (h : Heap) : Option (Res × Heap) :=
 (bdS (nv (V.int .i64 ((l).length : Int))) fun n0 =>
 (bdS (nv (V.int .i64 ((l).length : Int))) fun n1 =>
 (if (n0 = n1 ∧ n0 < lim ∧ 2 = 2) then
 (cl (call n 34 [(V.sl 2 l lb)] h) (fun r2 h3 =>
 (bd (r2)[0]? fun v5 =>
 (bd (r2)[1]? fun v6 =>
 (bd (slcH h3 v5) fun p7 =>
 (loopx n (srtPlain_l8 n s c l lb v5 v6 p7) [(V.sl 2 [] false), (V.sl 2 (List.replicate n0 [(V.int .u8 0), (V.int .i32 0)]) false), (V.bool false), (V.int .i64 0)] h3))))) (fun z4 h3 => some (Res.pan z4, h3))) else none)))
theorem srtPlain_eq (n : Nat) (s : Nat) (c : Nat) (l : List (List V)) (lb : Bool) (h : Heap) : call (n + 1) 47 [(V.ptr s 0), (V.ptr c 0), (V.sl 2 l lb)] h = srtPlain n s c l lb h := by kernel_rfl
end Go.Proofs.Try
