import Derived.Test.YtooibfffneecfaaLwd
/-! search.Fits and laws: PRINTED BY A PROGRAM OF MINE (lift2.lean): each function as a Lean definition, and that L reckons just that -/
set_option linter.unusedVariables false
namespace Go.Proofs.Try
open Go.L
set_option maxRecDepth 100000
noncomputable def lFits_l20 (n : Nat) (x0 : Int) (x1 : Int) (x2 : List (List V)) (x3 : List (List V)) (st1 : List V) (next3 : List V → Heap → Option (Res × Heap)) (v8 : V) (n19 : Nat) (st21 : List V) (hh22 : Heap) (next23 : List V → Heap → Option (Res × Heap)) : Option (Res × Heap) :=
 (bd (bop prog .lss 3 (gv st21 2) (V.int .i64 (((((x3).take n19).drop 0)).length : Int))) fun v24 =>
 (bv v24 fun b25 => if b25 then
 (bdS (nv (gv st21 2)) fun n26 =>
 (bd ((((x3).take n19).drop 0))[n26]? fun es27 =>
 (bd (es27)[0]? fun v28 =>
 (bdS (nv v8) fun n29 =>
 (bd (x2)[n29]? fun es30 =>
 (bdS (nv v28) fun n31 =>
 (bd (x2)[n31]? fun es32 =>
 (cl (call n 26 [(V.agg ((es30).drop 0 |>.take 8)), (V.agg ((es32).drop 0 |>.take 8))] hh22) (fun r33 h34 =>
 (one1 r33 fun v36 =>
 (bv v36 fun b37 => if b37 then
 some (Res.ret [(V.bool false)], h34)
 else
 (bd (bop prog .add 3 (gv st21 2) (V.int .i64 1)) fun v38 =>
 (next23 [(gv st21 0), (V.agg (lcs (gv st21 1))), v38] h34))))) (fun z35 h34 => none)))))))))
 else
 (bdS (nv v8) fun n39 =>
 (bd (x2)[n39]? fun es40 =>
 (cl (call n 42 [(V.int .u8 x0), (V.int .i64 x1), (gv st1 1), (V.agg ((es40).drop 2 |>.take 2))] hh22) (fun r41 h42 =>
 (bd (r41)[0]? fun v44 =>
 (bd (r41)[1]? fun v45 =>
 (if ((V.cells v45)).length = 2 then
 (if (((V.cells v45)).length ≤ 2) then
 (bdS (nv v8) fun n46 =>
 (bd (x2)[n46]? fun es47 =>
 (bd (es47)[7]? fun v48 =>
 (bd (bop prog .geq 3 v48 (V.int .i64 0)) fun v49 =>
 (bv v49 fun b50 => if b50 then
 (bdS (nv v8) fun n51 =>
 (bd (x2)[n51]? fun es52 =>
 (bd (bop prog .neq 32 (V.agg (((setR [(V.int .u8 0), (V.int .i32 0)] 0 (V.cells v45))).drop 0 |>.take 2)) (V.agg ((es52).drop 4 |>.take 2))) fun v53 =>
 (bv v53 fun b54 => if b54 then
 some (Res.ret [(V.bool false)], h42)
 else
 (bd (bop prog .add 3 (gv st1 2) (V.int .i64 1)) fun v55 =>
 (next3 [(gv st21 0), v44, v55] h42))))))
 else
 (bd (bop prog .add 3 (gv st1 2) (V.int .i64 1)) fun v56 =>
 (next3 [(gv st21 0), v44, v56] h42))))))) else none) else none)))) (fun z43 h42 => some (Res.pan z43, h42)))))))
noncomputable def lFits_l57 (n : Nat) (x2 : List (List V)) (st58 : List V) (hh59 : Heap) (next60 : List V → Heap → Option (Res × Heap)) : Option (Res × Heap) :=
 (bd (bop prog .lss 3 (gv st58 1) (V.int .i64 ((x2).length : Int))) fun v61 =>
 (bv v61 fun b62 => if b62 then
 (bdS (nv (gv st58 1)) fun n63 =>
 (bd (x2)[n63]? fun es64 =>
 (if (((es64).drop 0 |>.take 8)).length = 8 then
 (if ((((es64).drop 0 |>.take 8)).length ≤ 8) then
 (bdS (mapOf hh59 (V.map 0)) fun es65 =>
 (bd (kds prog 12 3) fun ksr66 => bdS (findI ksr66 (gv st58 1) es65 0) fun r66 => bd (entryV es65 (V.agg []) r66) fun v67 => if (((gv st58 1)).one = !false ∧ ((gv st58 1)).cells.length = ksr66.length ∧ true = true) then
 (if ((V.cells v67)).length = 0 then
 (if (((V.cells v67)).length ≤ 0) then
 (if (!r66.isSome) then
 (bd ((setR [(V.int .i64 0), (V.int .i64 0), (V.int .u8 0), (V.int .i32 0), (V.int .u8 0), (V.int .i32 0), (V.int .i64 0), (V.int .i64 0)] 0 ((es64).drop 0 |>.take 8)))[7]? fun v68 =>
 (bd (bop prog .geq 3 v68 (V.int .i64 0)) fun v69 =>
 (bv v69 fun b70 => if b70 then
 some (Res.ret [(V.bool false)], hh59)
 else
 (bd (bop prog .add 3 (gv st58 1) (V.int .i64 1)) fun v71 =>
 (next60 [(gv st58 0), v71] hh59)))))
 else
 (bd (bop prog .add 3 (gv st58 1) (V.int .i64 1)) fun v72 =>
 (next60 [(gv st58 0), v72] hh59))) else none) else none) else none)) else none) else none)))
 else
 some (Res.ret [(V.bool true)], hh59)))
noncomputable def lFits_l0 (n : Nat) (x0 : Int) (x1 : Int) (x2 : List (List V)) (x3 : List (List V)) (st1 : List V) (hh2 : Heap) (next3 : List V → Heap → Option (Res × Heap)) : Option (Res × Heap) :=
 (bd (bop prog .lss 3 (gv st1 2) (V.int .i64 ((x3).length : Int))) fun v4 =>
 (bv v4 fun b5 => if b5 then
 (bdS (nv (gv st1 2)) fun n6 =>
 (bd (x3)[n6]? fun es7 =>
 (bd (es7)[0]? fun v8 =>
 (bd (bop prog .lss 3 v8 (V.int .i64 0)) fun v9 =>
 (bv v9 fun b10 => if b10 then
 some (Res.ret [(V.bool false)], hh2)
 else
 (bd (bop prog .geq 3 v8 (V.int .i64 ((x2).length : Int))) fun v11 =>
 (bv v11 fun b12 => if b12 then
 some (Res.ret [(V.bool false)], hh2)
 else
 (bdS (mapOf hh2 (V.map 0)) fun es13 =>
 (bd (kds prog 12 3) fun ksr14 => bdS (findI ksr14 v8 es13 0) fun r14 => bd (entryV es13 (V.agg []) r14) fun v15 => if ((v8).one = !false ∧ (v8).cells.length = ksr14.length ∧ true = true) then
 (if ((V.cells v15)).length = 0 then
 (if (((V.cells v15)).length ≤ 0) then
 (if r14.isSome then
 some (Res.ret [(V.bool false)], hh2)
 else
 (mapAt (hh2)[0]? fun es16 => (bd (kds prog 12 3) fun ksr17 => bd (findI ksr17 v8 es16 0) fun r17 => if ((v8).one = !false ∧ (v8).cells.length = ksr17.length) then
 (bdS (nv (gv st1 2)) fun n19 =>
 (if (0 ≤ n19 ∧ n19 ≤ (x3).length ∧ (1 = 1 ∨ (x3).isEmpty = true) ∧ ((none : Option Nat) = none ∨ (none : Option Nat) = some n19) ∧ true = true) then
 (loopx n (lFits_l20 n x0 x1 x2 x3 st1 next3 v8 n19) [(gv st1 0), (V.agg (setR [] 0 (V.cells v15))), (V.int .i64 0)] ((hh2).set 0 (HB.map (upd es16 v8 (V.agg []) r17)))) else none)) else none))) else none) else none) else none)))))))))
 else
 (loopx n (lFits_l57 n x2) [(gv st1 0), (V.int .i64 0)] hh2)))
noncomputable def lFits (n : Nat) (x0 : Int) (x1 : Int) (x2 : List (List V)) (x2b : Bool) (x3 : List (List V)) (x3b : Bool) : Option (Res × Heap) :=
 (loopx n (lFits_l0 n x0 x1 x2 x3) [(V.bool false), (V.sl 1 [] false), (V.int .i64 0)] [(HB.map [])])
theorem lFits_eq (n : Nat) (x0 : Int) (x1 : Int) (x2 : List (List V)) (x2b : Bool) (x3 : List (List V)) (x3b : Bool) (h : Heap) : call (n + 1) 23 [(V.int .u8 x0), (V.int .i64 x1), (V.sl 8 x2 x2b), (V.sl 1 x3 x3b)] h = gcw [(V.int .u8 x0), (V.int .i64 x1), (V.sl 8 x2 x2b), (V.sl 1 x3 x3b)] (lFits n x0 x1 x2 x2b x3 x3b) h := by kernel_rfl
noncomputable def lawFit (n : Nat) (x0 : Int) (x1 : Int) (x2 : List (List V)) (x2b : Bool) (x3 : List (List V)) (x3b : Bool) (h : Heap) : Option (Res × Heap) :=
 (cl (call n 23 [(V.int .u8 x0), (V.int .i64 x1), (V.sl 8 x2 x2b), (V.sl 1 x3 x3b)] h) (fun r0 h1 =>
 (one1 r0 fun v3 =>
 (cl (call n 30 [(V.int .u8 x0), (V.int .i64 x1), (V.sl 8 x2 x2b), (V.sl 1 x3 x3b)] h1) (fun r4 h5 =>
 (one1 r4 fun v7 =>
 (bd (bop prog .eql 4 v3 v7) fun v8 =>
 some (Res.ret [v8], h5)))) (fun z6 h5 => some (Res.pan z6, h5))))) (fun z2 h1 => some (Res.pan z2, h1)))
theorem lawFit_eq (n : Nat) (x0 : Int) (x1 : Int) (x2 : List (List V)) (x2b : Bool) (x3 : List (List V)) (x3b : Bool) (h : Heap) : call (n + 1) 15 [(V.int .u8 x0), (V.int .i64 x1), (V.sl 8 x2 x2b), (V.sl 1 x3 x3b)] h = lawFit n x0 x1 x2 x2b x3 x3b h := by kernel_rfl
noncomputable def lawFits_l27 (n : Nat) (x0 : Int) (x1 : Int) (x2 : List (List V)) (x2b : Bool) (x3 : List (List V)) (x3b : Bool) (x4 : Int) (v25 : V) (st28 : List V) (hh29 : Heap) (next30 : List V → Heap → Option (Res × Heap)) : Option (Res × Heap) :=
 (bd (slc v25) fun p31 =>
 (bd (bop prog .lss 3 (gv st28 2) (V.int .i64 ((p31.2).length : Int))) fun v32 =>
 (bv v32 fun b33 => if b33 then
 (bd (bslV prog 23 1 [(0, (gv st28 2))]) fun p34 =>
 (bd (app 3 1 (S.own 3 1 (lsl (gv st28 0))) p34.2) fun l35 =>
 (bd (bslV prog 23 1 [(0, (gv st28 2))]) fun p36 =>
 (bd (app 3 1 (S.own 3 1 (lsl (gv st28 1))) p36.2) fun l37 =>
 (bd (bop prog .add 3 (gv st28 2) (V.int .i64 1)) fun v38 =>
 (next30 [(V.sl 1 l35 false), (V.sl 1 l37 false), v38] hh29))))))
 else
 (bd (slc v25) fun p39 =>
 (if (decide (((p39.2).length : Int) > 1)) then
 (bd (slc v25) fun p40 =>
 (bd (bop prog .rem 3 (V.int .i64 (IntKind.i64.wrap x4)) (V.int .i64 (IntKind.i64.wrap (((p40.2).length : Int) - 1)))) fun v41 =>
 (bd (bop prog .add 3 v41 (V.int .i64 1)) fun v42 =>
 (bdS (nv v41) fun n43 =>
 (if (1 = 1 ∧ n43 < ((lsl (gv st28 1))).length ∧ (some 82 : Option Nat) ≠ some 18) then
 (if ((V.cells v42)).length = 1 then
 (if (1 = 1 ∧ 0 < 1 ∧ 0 + ((V.cells v42)).length ≤ 1) then
 (bd ((lsl (gv st28 1)))[n43]? fun es44 =>
 (bd (bop prog .add 3 v41 (V.int .i64 1)) fun v45 =>
 (bdS (nv v45) fun n46 =>
 (if (1 = 1 ∧ n46 < ((((lsl (gv st28 1))).set n43 (setR es44 0 (V.cells v42)))).length ∧ (some 87 : Option Nat) ≠ some 18) then
 (if ((V.cells v41)).length = 1 then
 (if (1 = 1 ∧ 0 < 1 ∧ 0 + ((V.cells v41)).length ≤ 1) then
 (bd ((((lsl (gv st28 1))).set n43 (setR es44 0 (V.cells v42))))[n46]? fun es47 =>
 (cl (call n 15 [(V.int .u8 x0), (V.int .i64 x1), (V.sl 8 x2 x2b), (V.sl 1 x3 x3b)] hh29) (fun r48 h49 =>
 (one1 r48 fun v51 =>
 (bv v51 fun b52 => if b52 then
 (cl (call n 15 [(V.int .u8 (IntKind.u8.wrap (1 + (Int.tmod x0 3)))), (V.int .i64 (IntKind.i64.wrap (1 + (IntKind.i64.wrap (Int.tmod x4 5))))), v25, (V.sl 1 (lsl (gv st28 0)) false)] h49) (fun r53 h54 =>
 (one1 r53 fun v56 =>
 (bv v56 fun b57 => if b57 then
 (cl (call n 15 [(V.int .u8 (IntKind.u8.wrap (1 + (Int.tmod x0 3)))), (V.int .i64 (IntKind.i64.wrap (1 + (IntKind.i64.wrap (Int.tmod x4 5))))), v25, (V.sl 1 (((((lsl (gv st28 1))).set n43 (setR es44 0 (V.cells v42)))).set n46 (setR es47 0 (V.cells v41))) false)] h54) (fun r58 h59 =>
 (one1 r58 fun v61 =>
 (bv v61 fun b62 => if b62 then
 (cl (call n 15 [(V.int .u8 (IntKind.u8.wrap (1 + (Int.tmod x0 3)))), (V.int .i64 (IntKind.i64.wrap (1 + (IntKind.i64.wrap (Int.tmod x4 5))))), v25, (V.sl 1 x3 x3b)] h59) (fun r63 h64 =>
 (one1 r63 fun v66 =>
 (bv v66 fun b67 => if b67 then
 (bd (bop prog .rem 3 (V.int .i64 (IntKind.i64.wrap x4)) (V.int .i64 (IntKind.i64.wrap ((((lsl (gv st28 0))).length : Int) + 1)))) fun v68 =>
 (bdS (nv v68) fun n69 =>
 (if (0 ≤ n69 ∧ n69 ≤ ((lsl (gv st28 0))).length ∧ (1 = 1 ∨ ((lsl (gv st28 0))).isEmpty = true) ∧ ((none : Option Nat) = none ∨ (none : Option Nat) = some n69) ∧ true = true) then
 (cl (call n 15 [(V.int .u8 (IntKind.u8.wrap (1 + (Int.tmod x0 3)))), (V.int .i64 (IntKind.i64.wrap (1 + (IntKind.i64.wrap (Int.tmod x4 5))))), v25, (V.sl 1 ((((lsl (gv st28 0))).take n69).drop 0) false)] h64) (fun r70 h71 =>
 (one1 r70 fun v73 =>
 some (Res.ret [v73], h71))) (fun z72 h71 => some (Res.pan z72, h71))) else none)))
 else
 some (Res.ret [(V.bool false)], h64)))) (fun z65 h64 => some (Res.pan z65, h64)))
 else
 some (Res.ret [(V.bool false)], h59)))) (fun z60 h59 => some (Res.pan z60, h59)))
 else
 some (Res.ret [(V.bool false)], h54)))) (fun z55 h54 => some (Res.pan z55, h54)))
 else
 some (Res.ret [(V.bool false)], h49)))) (fun z50 h49 => some (Res.pan z50, h49)))) else none) else none) else none)))) else none) else none) else none)))))
 else
 (cl (call n 15 [(V.int .u8 x0), (V.int .i64 x1), (V.sl 8 x2 x2b), (V.sl 1 x3 x3b)] hh29) (fun r74 h75 =>
 (one1 r74 fun v77 =>
 (bv v77 fun b78 => if b78 then
 (cl (call n 15 [(V.int .u8 (IntKind.u8.wrap (1 + (Int.tmod x0 3)))), (V.int .i64 (IntKind.i64.wrap (1 + (IntKind.i64.wrap (Int.tmod x4 5))))), v25, (V.sl 1 (lsl (gv st28 0)) false)] h75) (fun r79 h80 =>
 (one1 r79 fun v82 =>
 (bv v82 fun b83 => if b83 then
 (cl (call n 15 [(V.int .u8 (IntKind.u8.wrap (1 + (Int.tmod x0 3)))), (V.int .i64 (IntKind.i64.wrap (1 + (IntKind.i64.wrap (Int.tmod x4 5))))), v25, (V.sl 1 (lsl (gv st28 1)) false)] h80) (fun r84 h85 =>
 (one1 r84 fun v87 =>
 (bv v87 fun b88 => if b88 then
 (cl (call n 15 [(V.int .u8 (IntKind.u8.wrap (1 + (Int.tmod x0 3)))), (V.int .i64 (IntKind.i64.wrap (1 + (IntKind.i64.wrap (Int.tmod x4 5))))), v25, (V.sl 1 x3 x3b)] h85) (fun r89 h90 =>
 (one1 r89 fun v92 =>
 (bv v92 fun b93 => if b93 then
 (bd (bop prog .rem 3 (V.int .i64 (IntKind.i64.wrap x4)) (V.int .i64 (IntKind.i64.wrap ((((lsl (gv st28 0))).length : Int) + 1)))) fun v94 =>
 (bdS (nv v94) fun n95 =>
 (if (0 ≤ n95 ∧ n95 ≤ ((lsl (gv st28 0))).length ∧ (1 = 1 ∨ ((lsl (gv st28 0))).isEmpty = true) ∧ ((none : Option Nat) = none ∨ (none : Option Nat) = some n95) ∧ true = true) then
 (cl (call n 15 [(V.int .u8 (IntKind.u8.wrap (1 + (Int.tmod x0 3)))), (V.int .i64 (IntKind.i64.wrap (1 + (IntKind.i64.wrap (Int.tmod x4 5))))), v25, (V.sl 1 ((((lsl (gv st28 0))).take n95).drop 0) false)] h90) (fun r96 h97 =>
 (one1 r96 fun v99 =>
 some (Res.ret [v99], h97))) (fun z98 h97 => some (Res.pan z98, h97))) else none)))
 else
 some (Res.ret [(V.bool false)], h90)))) (fun z91 h90 => some (Res.pan z91, h90)))
 else
 some (Res.ret [(V.bool false)], h85)))) (fun z86 h85 => some (Res.pan z86, h85)))
 else
 some (Res.ret [(V.bool false)], h80)))) (fun z81 h80 => some (Res.pan z81, h80)))
 else
 some (Res.ret [(V.bool false)], h75)))) (fun z76 h75 => some (Res.pan z76, h75))))))))
noncomputable def lawFits (n : Nat) (x0 : Int) (x1 : Int) (x2 : List (List V)) (x2b : Bool) (x3 : List (List V)) (x3b : Bool) (x4 : Int) (x5 : List (List V)) (x5b : Bool) (x6 : List (List V)) (x6b : Bool) : Option (Res × Heap) :=
 (if (decide (((x2).length : Int) > 30)) then
 (cl (call n 13 [] []) (fun r0 h1 =>
 (one1 r0 fun v3 =>
 some (Res.ret [v3], h1))) (fun z2 h1 => some (Res.pan z2, h1)))
 else
 (if (decide (((x3).length : Int) > 30)) then
 (cl (call n 13 [] []) (fun r4 h5 =>
 (one1 r4 fun v7 =>
 some (Res.ret [v7], h5))) (fun z6 h5 => some (Res.pan z6, h5)))
 else
 (if (decide ((IntKind.i64.wrap (((x5).length : Int) + ((x6).length : Int))) > 100)) then
 (cl (call n 13 [] []) (fun r8 h9 =>
 (one1 r8 fun v11 =>
 some (Res.ret [v11], h9))) (fun z10 h9 => some (Res.pan z10, h9)))
 else
 (cl (call n 13 [] []) (fun r12 h13 =>
 (one1 r12 fun v15 =>
 (bd (uop .not v15) fun v16 =>
 (bv v16 fun b17 => if b17 then
 (cl (call n 13 [] h13) (fun r18 h19 =>
 (one1 r18 fun v21 =>
 some (Res.ret [v21], h19))) (fun z20 h19 => some (Res.pan z20, h19)))
 else
 (cl (call n 14 [(V.int .u8 (IntKind.u8.wrap (1 + (Int.tmod x0 3)))), (V.int .i64 (IntKind.i64.wrap (1 + (IntKind.i64.wrap (Int.tmod x4 5))))), (V.sl 1 x5 x5b), (V.sl 1 x6 x6b)] h13) (fun r22 h23 =>
 (bd (r22)[0]? fun v25 =>
 (bd (r22)[1]? fun v26 =>
 (loopx n (lawFits_l27 n x0 x1 x2 x2b x3 x3b x4 v25) [(V.sl 1 [] false), (V.sl 1 [] false), (V.int .i64 0)] h23)))) (fun z24 h23 => some (Res.pan z24, h23))))))) (fun z14 h13 => some (Res.pan z14, h13))))))
theorem lawFits_eq (n : Nat) (x0 : Int) (x1 : Int) (x2 : List (List V)) (x2b : Bool) (x3 : List (List V)) (x3b : Bool) (x4 : Int) (x5 : List (List V)) (x5b : Bool) (x6 : List (List V)) (x6b : Bool) (h : Heap) : call (n + 1) 3 [(V.int .u8 x0), (V.int .i64 x1), (V.sl 8 x2 x2b), (V.sl 1 x3 x3b), (V.int .u8 x4), (V.sl 1 x5 x5b), (V.sl 1 x6 x6b)] h = gcw [(V.int .u8 x0), (V.int .i64 x1), (V.sl 8 x2 x2b), (V.sl 1 x3 x3b), (V.int .u8 x4), (V.sl 1 x5 x5b), (V.sl 1 x6 x6b)] (lawFits n x0 x1 x2 x2b x3 x3b x4 x5 x5b x6 x6b) h := by kernel_rfl
noncomputable def lawLog_l5 (n : Nat) (x0 : Int) (x1 : Int) (x3 : Int) (x4 : Int) (v3 : V) (v4 : V) (st6 : List V) (hh7 : Heap) (next8 : List V → Heap → Option (Res × Heap)) : Option (Res × Heap) :=
 (bd (slc v4) fun p9 =>
 (bd (bop prog .lss 3 (gv st6 1) (V.int .i64 ((p9.2).length : Int))) fun v10 =>
 (bv v10 fun b11 => if b11 then
 (bd (bslV prog 23 1 [(0, (gv st6 1))]) fun p12 =>
 (bd (app 3 1 (S.own 3 1 (lsl (gv st6 0))) p12.2) fun l13 =>
 (bd (bop prog .add 3 (gv st6 1) (V.int .i64 1)) fun v14 =>
 (next8 [(V.sl 1 l13 false), v14] hh7))))
 else
 (bd (slc v4) fun p15 =>
 (if (((p15.2).length : Int) == 0) then
 (cl (call n 13 [] hh7) (fun r16 h17 =>
 (one1 r16 fun v19 =>
 (bv v19 fun b20 => if b20 then
 (cl (call n 23 [(V.int .u8 (IntKind.u8.wrap (1 + (Int.tmod x0 3)))), (V.int .i64 (IntKind.i64.wrap (1 + (IntKind.i64.wrap (Int.tmod x1 5))))), v3, (V.sl 0 [] false)] h17) (fun r21 h22 =>
 (one1 r21 fun v24 =>
 some (Res.ret [v24], h22))) (fun z23 h22 => some (Res.pan z23, h22)))
 else
 some (Res.ret [(V.bool false)], h17)))) (fun z18 h17 => some (Res.pan z18, h17)))
 else
 (bd (slc v4) fun p25 =>
 (bd (bop prog .rem 3 (V.int .i64 (IntKind.i64.wrap x3)) (V.int .i64 ((p25.2).length : Int))) fun v26 =>
 (bdS (nv v26) fun n27 =>
 (if (0 ≤ n27 ∧ n27 ≤ ((lsl (gv st6 0))).length ∧ (1 = 1 ∨ ((lsl (gv st6 0))).isEmpty = true) ∧ ((none : Option Nat) = none ∨ (none : Option Nat) = some n27) ∧ true = true) then
 (bd (app 3 1 (S.own 3 1 []) ((((lsl (gv st6 0))).take n27).drop 0)) fun l28 =>
 (bd (bop prog .add 3 v26 (V.int .i64 1)) fun v29 =>
 (bdS (nv v29) fun n30 =>
 (if (n30 ≤ ((lsl (gv st6 0))).length ∧ ((lsl (gv st6 0))).length ≤ ((lsl (gv st6 0))).length ∧ (1 = 1 ∨ ((lsl (gv st6 0))).isEmpty = true) ∧ ((none : Option Nat) = none ∨ (none : Option Nat) = some ((lsl (gv st6 0))).length) ∧ true = true) then
 (bd (app 3 1 (S.own 3 1 l28) ((((lsl (gv st6 0))).take ((lsl (gv st6 0))).length).drop n30)) fun l31 =>
 (bd (app 3 1 (S.own 3 1 []) (lsl (gv st6 0))) fun l32 =>
 (bd (bslV prog 23 1 [(0, v26)]) fun p33 =>
 (bd (app 3 1 (S.own 3 1 l32) p33.2) fun l34 =>
 (bd (app 3 1 (S.own 3 1 []) (lsl (gv st6 0))) fun l35 =>
 (bd (slc v4) fun p36 =>
 (bd (bop prog .and 3 (V.int .i64 x4) (V.int .i64 1023)) fun v37 =>
 (bd (mm true [(V.int .i64 0), v37]) fun v38 =>
 (bd (bop prog .add 3 (V.int .i64 ((p36.2).length : Int)) v38) fun v39 =>
 (bd (bslV prog 23 1 [(0, v39)]) fun p40 =>
 (bd (app 3 1 (S.own 3 1 l35) p40.2) fun l41 =>
 (cl (call n 13 [] hh7) (fun r42 h43 =>
 (one1 r42 fun v45 =>
 (bv v45 fun b46 => if b46 then
 (cl (call n 23 [(V.int .u8 (IntKind.u8.wrap (1 + (Int.tmod x0 3)))), (V.int .i64 (IntKind.i64.wrap (1 + (IntKind.i64.wrap (Int.tmod x1 5))))), v3, (V.sl 1 (lsl (gv st6 0)) false)] h43) (fun r47 h48 =>
 (one1 r47 fun v50 =>
 (bv v50 fun b51 => if b51 then
 (cl (call n 23 [(V.int .u8 (IntKind.u8.wrap (1 + (Int.tmod x0 3)))), (V.int .i64 (IntKind.i64.wrap (1 + (IntKind.i64.wrap (Int.tmod x1 5))))), v3, (V.sl 1 l31 false)] h48) (fun r52 h53 =>
 (one1 r52 fun v55 =>
 (bd (uop .not v55) fun v56 =>
 (bv v56 fun b57 => if b57 then
 (cl (call n 23 [(V.int .u8 (IntKind.u8.wrap (1 + (Int.tmod x0 3)))), (V.int .i64 (IntKind.i64.wrap (1 + (IntKind.i64.wrap (Int.tmod x1 5))))), v3, (V.sl 1 l34 false)] h53) (fun r58 h59 =>
 (one1 r58 fun v61 =>
 (bd (uop .not v61) fun v62 =>
 (bv v62 fun b63 => if b63 then
 (cl (call n 23 [(V.int .u8 (IntKind.u8.wrap (1 + (Int.tmod x0 3)))), (V.int .i64 (IntKind.i64.wrap (1 + (IntKind.i64.wrap (Int.tmod x1 5))))), v3, (V.sl 1 l41 false)] h59) (fun r64 h65 =>
 (one1 r64 fun v67 =>
 (bd (uop .not v67) fun v68 =>
 some (Res.ret [v68], h65)))) (fun z66 h65 => some (Res.pan z66, h65)))
 else
 some (Res.ret [(V.bool false)], h59))))) (fun z60 h59 => some (Res.pan z60, h59)))
 else
 some (Res.ret [(V.bool false)], h53))))) (fun z54 h53 => some (Res.pan z54, h53)))
 else
 some (Res.ret [(V.bool false)], h48)))) (fun z49 h48 => some (Res.pan z49, h48)))
 else
 some (Res.ret [(V.bool false)], h43)))) (fun z44 h43 => some (Res.pan z44, h43)))))))))))))) else none)))) else none)))))))))
noncomputable def lawLog (n : Nat) (x0 : Int) (x1 : Int) (x2 : List (List V)) (x2b : Bool) (x3 : Int) (x4 : Int) : Option (Res × Heap) :=
 (cl (call n 14 [(V.int .u8 (IntKind.u8.wrap (1 + (Int.tmod x0 3)))), (V.int .i64 (IntKind.i64.wrap (1 + (IntKind.i64.wrap (Int.tmod x1 5))))), (V.sl 1 x2 x2b), (V.sl 0 [] false)] []) (fun r0 h1 =>
 (bd (r0)[0]? fun v3 =>
 (bd (r0)[1]? fun v4 =>
 (loopx n (lawLog_l5 n x0 x1 x3 x4 v3 v4) [(V.sl 1 [] false), (V.int .i64 0)] h1)))) (fun z2 h1 => some (Res.pan z2, h1)))
theorem lawLog_eq (n : Nat) (x0 : Int) (x1 : Int) (x2 : List (List V)) (x2b : Bool) (x3 : Int) (x4 : Int) (h : Heap) : call (n + 1) 7 [(V.int .u8 x0), (V.int .u8 x1), (V.sl 1 x2 x2b), (V.int .u8 x3), (V.int .i64 x4)] h = gcw [(V.int .u8 x0), (V.int .u8 x1), (V.sl 1 x2 x2b), (V.int .u8 x3), (V.int .i64 x4)] (lawLog n x0 x1 x2 x2b x3 x4) h := by kernel_rfl
end Go.Proofs.Try
