import Derived.Test.YtodgpfffnnlbhaaLset
import Derived.Test.YtodgpfffnnlbhaaLwd
/-! sorted, of a list that is nil: PRINTED BY A PROGRAM OF MINE (lift6.lean) -/
set_option linter.unusedVariables false
namespace Go.Proofs.Try
open Go.L
set_option maxRecDepth 100000
noncomputable def skipBatchZ_l16 (n : Nat) (l : V) (m : V) (p15 : Nat × List (List V)) (st17 : List V) (hh18 : Heap) (next19 : List V → Heap → Option (Res × Heap)) : Option (Res × Heap) :=
 (bd (bop prog .lss 3 (gv st17 4) (V.int .i64 ((p15.2).length : Int))) fun v20 =>
 (bv v20 fun b21 => if b21 then
 (bdS (nv (gv st17 4)) fun n22 =>
 (bd (idxP 1 n22 l) fun p23 =>
 (bd3 (cellsP hh18 p23) fun cs25 m24 o26 => if (o26 + 1 ≤ m24 ∧ 0 < 1) then
 (bd (cs25)[o26]? fun v27 =>
 (bd (addP 0 (V.val (.pointer none))) fun p28 =>
 (bd (addP 10 p28) fun p29 =>
 (bd3 (cellsP hh18 p29) fun cs31 m30 o32 => if (o32 + 1 ≤ m30 ∧ 0 < 1) then
 (bd (cs31)[o32]? fun v33 =>
 (bd (addP 0 (V.val (.pointer none))) fun p34 =>
 (bd (addP 11 p34) fun p35 =>
 (bd3 (cellsP hh18 p35) fun cs37 m36 o38 => if (o38 + 1 ≤ m36 ∧ 0 < 1) then
 (bd (cs37)[o38]? fun v39 =>
 (bd (bop prog .geq 3 v33 v39) fun v40 =>
 (bv v40 fun b41 => if b41 then
 some (Res.ret [(V.sl 1 (lsl (gv st17 1)) false)], hh18)
 else
 (bd (slcH hh18 m) fun p42 =>
 (bd (bop prog .lss 3 (gv st17 4) (V.int .i64 ((p42.2).length : Int))) fun v43 =>
 (bv v43 fun b44 => if b44 then
 (bdS (nv (gv st17 4)) fun n45 =>
 (bd (idxP 1 n45 m) fun p46 =>
 (bd3 (cellsP hh18 p46) fun cs48 m47 o49 => if (o49 + 1 ≤ m47 ∧ 0 < 1) then
 (bd (cs48)[o49]? fun v50 =>
 (cl (call n 42 [(V.agg (((lcs (gv st17 2))).drop 0 |>.take 8)), v27] hh18) (fun r51 h52 =>
 (one1 r51 fun v54 =>
 (cl (call n 44 [v27, v50] h52) (fun r55 h56 =>
 (one1 r55 fun v58 =>
 (cl (call n 43 [v54, v58] h56) (fun r59 h60 =>
 (one1 r59 fun v62 =>
 (if ((V.cells v62)).length = 8 then
 (if (((V.cells v62)).length ≤ 8) then
 (bd (addP 0 (V.val (.pointer none))) fun p63 =>
 (bd (addP 10 p63) fun p64 =>
 (bd3 (cellsP h60 p64) fun cs66 m65 o67 => if (o67 + 1 ≤ m65 ∧ 0 < 1) then
 (bd (cs66)[o67]? fun v68 =>
 (bd (bop prog .add 3 v68 (V.int .i64 1)) fun v69 =>
 (bd (addP 0 (V.val (.pointer none))) fun p70 =>
 (bd (addP 10 p70) fun p71 =>
 (if ((V.cells v69)).length = 1 then
 (bd2 (writeB h60 (V.cells v69) p71) fun b72 x73 =>
 (bdS (nv (gv st17 4)) fun n74 =>
 (if (1 = 1 ∧ n74 < ((lsl (gv st17 1))).length ∧ (some 65 : Option Nat) ≠ some 7) then
 (bd ((lsl (gv st17 1)))[n74]? fun es75 =>
 (bd (bop prog .add 3 (gv st17 4) (V.int .i64 1)) fun v76 =>
 (next19 [(V.sl 1 (lsl (gv st17 0)) false), (V.sl 1 (((lsl (gv st17 1))).set n74 (setR es75 0 [(V.bool true)])) false), (V.agg (setR (lcs (gv st17 2)) 0 (V.cells v62))), (V.bool false), v76] ((h60).set b72 x73)))) else none))) else none))))) else none))) else none) else none))) (fun z61 h60 => some (Res.pan z61, h60))))) (fun z57 h56 => some (Res.pan z57, h56))))) (fun z53 h52 => some (Res.pan z53, h52)))) else none)))
 else
 (cl (call n 42 [(V.agg (((lcs (gv st17 2))).drop 0 |>.take 8)), v27] hh18) (fun r77 h78 =>
 (one1 r77 fun v80 =>
 (cl (call n 44 [v27, (V.int .i64 1)] h78) (fun r81 h82 =>
 (one1 r81 fun v84 =>
 (cl (call n 43 [v80, v84] h82) (fun r85 h86 =>
 (one1 r85 fun v88 =>
 (if ((V.cells v88)).length = 8 then
 (if (((V.cells v88)).length ≤ 8) then
 (bd (addP 0 (V.val (.pointer none))) fun p89 =>
 (bd (addP 10 p89) fun p90 =>
 (bd3 (cellsP h86 p90) fun cs92 m91 o93 => if (o93 + 1 ≤ m91 ∧ 0 < 1) then
 (bd (cs92)[o93]? fun v94 =>
 (bd (bop prog .add 3 v94 (V.int .i64 1)) fun v95 =>
 (bd (addP 0 (V.val (.pointer none))) fun p96 =>
 (bd (addP 10 p96) fun p97 =>
 (if ((V.cells v95)).length = 1 then
 (bd2 (writeB h86 (V.cells v95) p97) fun b98 x99 =>
 (bdS (nv (gv st17 4)) fun n100 =>
 (if (1 = 1 ∧ n100 < ((lsl (gv st17 1))).length ∧ (some 65 : Option Nat) ≠ some 7) then
 (bd ((lsl (gv st17 1)))[n100]? fun es101 =>
 (bd (bop prog .add 3 (gv st17 4) (V.int .i64 1)) fun v102 =>
 (next19 [(V.sl 1 (lsl (gv st17 0)) false), (V.sl 1 (((lsl (gv st17 1))).set n100 (setR es101 0 [(V.bool true)])) false), (V.agg (setR (lcs (gv st17 2)) 0 (V.cells v88))), (V.bool false), v102] ((h86).set b98 x99)))) else none))) else none))))) else none))) else none) else none))) (fun z87 h86 => some (Res.pan z87, h86))))) (fun z83 h82 => some (Res.pan z83, h82))))) (fun z79 h78 => some (Res.pan z79, h78))))))))) else none)))) else none)))) else none)))
 else
 some (Res.ret [(V.sl 1 (lsl (gv st17 1)) false)], hh18)))
noncomputable def skipBatchZ (n : Nat) (l : V) (m : V) (h : Heap) : Option (Res × Heap) :=
 (bd (slcH h l) fun p0 =>
 (bdS (nv (V.int .i64 ((p0.2).length : Int))) fun n1 =>
 (bdS (nv (V.int .i64 ((p0.2).length : Int))) fun n2 =>
 (if (n1 = n2 ∧ n1 < lim ∧ 1 = 1) then
 (bd (bopH prog h .eql 26 (V.val (.pointer none)) (V.val (.pointer none))) fun v3 =>
 (bv v3 fun b4 => if b4 then
 some (Res.ret [(V.sl 1 (List.replicate n1 [(V.bool false)]) false)], h)
 else
 (cl (call n 62 [l] h) (fun r5 h6 =>
 (one1 r5 fun v8 =>
 (bd (uop .not v8) fun v9 =>
 (bv v9 fun b10 => if b10 then
 some (Res.ret [(V.sl 1 (List.replicate n1 [(V.bool false)]) false)], h6)
 else
 (cl (call n 41 [(V.val (.pointer none))] h6) (fun r11 h12 =>
 (one1 r11 fun v14 =>
 (if ((V.cells v14)).length = 8 then
 (if (((V.cells v14)).length ≤ 8) then
 (bd (slcH h12 l) fun p15 =>
 (loopx n (skipBatchZ_l16 n l m p15) [(V.sl 1 [] false), (V.sl 1 (List.replicate n1 [(V.bool false)]) false), (V.agg (setR [(V.val (.pointer none)), (V.val (.pointer none)), (V.val (.pointer none)), (V.val (.pointer none)), (V.val (.pointer none)), (V.val (.pointer none)), (V.val (.pointer none)), (V.val (.pointer none))] 0 (V.cells v14))), (V.bool false), (V.int .i64 0)] h12)) else none) else none))) (fun z13 h12 => some (Res.pan z13, h12))))))) (fun z7 h6 => some (Res.pan z7, h6))))) else none))))
theorem skipBatchZ_eq (n : Nat) (l : V) (m : V) (h : Heap) : call (n + 1) 37 [(V.val (.pointer none)), l, m] h = skipBatchZ n l m h := by kernel_rfl
noncomputable def srtRestZ_l1 (n : Nat) (l : List (List V)) (lb : Bool) (o : V) (t : V) (p0 : Nat × List (List V)) (st2 : List V) (hh3 : Heap) (next4 : List V → Heap → Option (Res × Heap)) : Option (Res × Heap) :=
 (bd (bop prog .lss 3 (gv st2 1) (V.int .i64 ((p0.2).length : Int))) fun v5 =>
 (bv v5 fun b6 => if b6 then
 (bdS (nv (gv st2 1)) fun n7 =>
 (bd (idxP 1 n7 o) fun p8 =>
 (bd3 (cellsP hh3 p8) fun cs10 m9 o11 => if (o11 + 1 ≤ m9 ∧ 0 < 1) then
 (bd (cs10)[o11]? fun v12 =>
 (bdS (nv v12) fun n13 =>
 (bd (idxP 2 n13 t) fun p14 =>
 (bd (addP 0 p14) fun p15 =>
 (bd2 (writeB hh3 [(V.int .u8 5)] p15) fun b16 x17 =>
 (bdS (nv v12) fun n18 =>
 (bd (idxP 2 n18 (V.sl 2 l lb)) fun p19 =>
 (bd (addP 0 p19) fun p20 =>
 (bd3 (cellsP ((hh3).set b16 x17) p20) fun cs22 m21 o23 => if (o23 + 1 ≤ m21 ∧ 0 < 1) then
 (bd (cs22)[o23]? fun v24 =>
 (bd (bop prog .neq 5 v24 (V.int .u8 2)) fun v25 =>
 (bv v25 fun b26 => if b26 then
 (bd (bop prog .add 3 (gv st2 1) (V.int .i64 1)) fun v27 =>
 (next4 [(V.sl 2 (lsl (gv st2 0)) false), v27] ((hh3).set b16 x17)))
 else
 (bdS (nv v12) fun n28 =>
 (bd (idxP 2 n28 t) fun p29 =>
 (bd (addP 0 p29) fun p30 =>
 (bd2 (writeB ((hh3).set b16 x17) [(V.int .u8 4)] p30) fun b31 x32 =>
 (cl (call n 63 [(V.val (.pointer none))] ((((hh3).set b16 x17)).set b31 x32)) (fun r33 h34 =>
 (bd (r33)[0]? fun v36 =>
 (bd (r33)[1]? fun v37 =>
 (bv v37 fun b38 => if b38 then
 (bd (bldV prog 34 [(0, (V.int .u8 2)), (1, v36)]) fun cs39 =>
 (bdS (nv v12) fun n40 =>
 (bd (idxP 2 n40 t) fun p41 =>
 (if (cs39).length = 2 then
 (bd2 (writeB h34 cs39 p41) fun b42 x43 =>
 (bd (bop prog .add 3 (gv st2 1) (V.int .i64 1)) fun v44 =>
 (next4 [(V.sl 2 (lsl (gv st2 0)) false), v44] ((h34).set b42 x43)))) else none))))
 else
 (bd (bop prog .add 3 (gv st2 1) (V.int .i64 1)) fun v45 =>
 (next4 [(V.sl 2 (lsl (gv st2 0)) false), v45] h34)))))) (fun z35 h34 => some (Res.pan z35, h34)))))))))) else none))))))))) else none)))
 else
 some (Res.ret [t], hh3)))
noncomputable def srtRestZ (n : Nat) (l : List (List V)) (lb : Bool) (o : V) (t : V) (h : Heap) : Option (Res × Heap) :=
 (bd (slcH h o) fun p0 =>
 (loopx n (srtRestZ_l1 n l lb o t p0) [(V.sl 2 [] false), (V.int .i64 0)] h))
theorem srtRestZ_eq (n : Nat) (l : List (List V)) (lb : Bool) (o : V) (t : V) (h : Heap) : call (n + 1) 38 [(V.val (.pointer none)), (V.sl 2 l lb), o, t] h = srtRestZ n l lb o t h := by kernel_rfl
noncomputable def srtApplyZ_l61 (n : Nat) (l : List (List V)) (lb : Bool) (v6 : V) (v59 : V) (p60 : Nat × List (List V)) (st62 : List V) (hh63 : Heap) (next64 : List V → Heap → Option (Res × Heap)) : Option (Res × Heap) :=
 (bd (bop prog .lss 3 (gv st62 3) (V.int .i64 ((p60.2).length : Int))) fun v65 =>
 (bv v65 fun b66 => if b66 then
 (bdS (nv (gv st62 3)) fun n67 =>
 (bd (idxP 1 n67 v59) fun p68 =>
 (bd3 (cellsP hh63 p68) fun cs70 m69 o71 => if (o71 + 1 ≤ m69 ∧ 0 < 1) then
 (bd (cs70)[o71]? fun v72 =>
 (bdS (nv v72) fun n73 =>
 (if (2 = 2 ∧ n73 < ((lsl (gv st62 1))).length ∧ (some 73 : Option Nat) ≠ some 7) then
 (bd ((lsl (gv st62 1)))[n73]? fun es74 =>
 (bd (bop prog .add 3 (gv st62 3) (V.int .i64 1)) fun v75 =>
 (next64 [(V.sl 2 (lsl (gv st62 0)) false), (V.sl 2 (((lsl (gv st62 1))).set n73 (setR es74 0 [(V.int .u8 3)])) false), (V.bool false), v75] hh63))) else none))) else none)))
 else
 (cl (call n 38 [(V.val (.pointer none)), (V.sl 2 l lb), v6, (V.row (hh63).length 2 0 ((lsl (gv st62 1))).length)] (hh63 ++ [(HB.row 34 2 (lsl (gv st62 1)) true)])) (fun r76 h77 =>
 (one1 r76 fun v79 =>
 some (Res.ret [v79], h77))) (fun z78 h77 => some (Res.pan z78, h77)))))
noncomputable def srtApplyZ_l23 (n : Nat) (c : Nat) (l : List (List V)) (lb : Bool) (v5 : V) (v6 : V) (v18 : V) (v21 : V) (p22 : Nat × List (List V)) (st24 : List V) (hh25 : Heap) (next26 : List V → Heap → Option (Res × Heap)) : Option (Res × Heap) :=
 (bd (bop prog .lss 3 (gv st24 5) (V.int .i64 ((p22.2).length : Int))) fun v27 =>
 (bv v27 fun b28 => if b28 then
 (bdS (nv (gv st24 5)) fun n29 =>
 (bd (idxP 1 n29 v21) fun p30 =>
 (bd3 (cellsP hh25 p30) fun cs32 m31 o33 => if (o33 + 1 ≤ m31 ∧ 0 < 1) then
 (bd (cs32)[o33]? fun v34 =>
 (bdS (nv v34) fun n35 =>
 (bd (idxP 2 n35 (V.sl 2 l lb)) fun p36 =>
 (bd (addP 1 p36) fun p37 =>
 (bd3 (cellsP hh25 p37) fun cs39 m38 o40 => if (o40 + 1 ≤ m38 ∧ 0 < 1) then
 (bd (cs39)[o40]? fun v41 =>
 (bd (bslV prog 39 1 [(0, v41)]) fun p42 =>
 (bd (app 21 1 (S.own 21 1 (lsl (gv st24 2))) p42.2) fun l43 =>
 (cl (call n 19 [(V.ptr c 0)] hh25) (fun r44 h45 =>
 (one1 r44 fun v47 =>
 (bd (bslV prog 43 1 [(0, v47)]) fun p48 =>
 (bd (app 3 1 (S.own 3 1 (lsl (gv st24 3))) p48.2) fun l49 =>
 (bdS (nv v34) fun n50 =>
 (if (2 = 2 ∧ n50 < ((lsl (gv st24 1))).length ∧ (some 56 : Option Nat) ≠ some 7) then
 (bd ((lsl (gv st24 1)))[n50]? fun es51 =>
 (bd (bop prog .add 3 (gv st24 5) (V.int .i64 1)) fun v52 =>
 (next26 [(V.sl 2 (lsl (gv st24 0)) false), (V.sl 2 (((lsl (gv st24 1))).set n50 (setR es51 0 [(V.int .u8 1)])) false), (V.sl 1 l43 false), (V.sl 1 l49 false), (V.bool false), v52] h45))) else none)))))) (fun z46 h45 => some (Res.pan z46, h45)))))) else none))))) else none)))
 else
 (cl (call n 37 [(V.val (.pointer none)), (V.row (hh25).length 1 0 ((lsl (gv st24 2))).length), (V.row ((hh25 ++ [(HB.row 21 1 (lsl (gv st24 2)) true)])).length 1 0 ((lsl (gv st24 3))).length)] ((hh25 ++ [(HB.row 21 1 (lsl (gv st24 2)) true)]) ++ [(HB.row 3 1 (lsl (gv st24 3)) true)])) (fun r53 h54 =>
 (one1 r53 fun v56 =>
 (bd (lenP v5) fun n57 =>
 (bdS (nv v18) fun n58 =>
 (bd (sliceP 1 n58 n57 (none : Option Nat) true v5) fun v59 =>
 (bd (slcH h54 v59) fun p60 =>
 (loopx n (srtApplyZ_l61 n l lb v6 v59 p60) [(V.sl 2 (lsl (gv st24 0)) false), (V.sl 2 (lsl (gv st24 1)) false), (V.bool false), (V.int .i64 0)] h54))))))) (fun z55 h54 => some (Res.pan z55, h54)))))
noncomputable def srtApplyZ (n : Nat) (c : Nat) (l : List (List V)) (lb : Bool) (h : Heap) : Option (Res × Heap) :=
 (bdS (nv (V.int .i64 ((l).length : Int))) fun n0 =>
 (bdS (nv (V.int .i64 ((l).length : Int))) fun n1 =>
 (if (n0 = n1 ∧ n0 < lim ∧ 2 = 2) then
 (cl (call n 34 [(V.sl 2 l lb)] h) (fun r2 h3 =>
 (bd (r2)[0]? fun v5 =>
 (bd (r2)[1]? fun v6 =>
 (bd (slcH h3 v5) fun p7 =>
 (cl (call n 35 [(V.val (.pointer none))] h3) (fun r8 h9 =>
 (one1 r8 fun v11 =>
 (cl (call n 36 [(V.val (.pointer none))] h9) (fun r12 h13 =>
 (one1 r12 fun v15 =>
 (bd (bop prog .sub 3 v11 v15) fun v16 =>
 (bd (evBsL [(some (V.int .i64 ((p7.2).length : Int))), (valB h13 v16)]) fun a17 => bd (mm false a17) fun v18 =>
 (bd (lenP v5) fun n19 =>
 (bdS (nv v18) fun n20 =>
 (bd (sliceP 1 0 n20 (none : Option Nat) true v5) fun v21 =>
 (bd (slcH h13 v21) fun p22 =>
 (loopx n (srtApplyZ_l23 n c l lb v5 v6 v18 v21 p22) [(V.sl 2 [] false), (V.sl 2 (List.replicate n0 [(V.int .u8 0), (V.int .i32 0)]) false), (V.sl 1 [] false), (V.sl 1 [] false), (V.bool false), (V.int .i64 0)] h13))))))))) (fun z14 h13 => some (Res.pan z14, h13))))) (fun z10 h9 => some (Res.pan z10, h9))))))) (fun z4 h3 => some (Res.pan z4, h3))) else none)))
theorem srtApplyZ_eq (n : Nat) (c : Nat) (l : List (List V)) (lb : Bool) (h : Heap) : call (n + 1) 18 [(V.val (.pointer none)), (V.ptr c 0), (V.sl 2 l lb)] h = srtApplyZ n c l lb h := by kernel_rfl
end Go.Proofs.Try
