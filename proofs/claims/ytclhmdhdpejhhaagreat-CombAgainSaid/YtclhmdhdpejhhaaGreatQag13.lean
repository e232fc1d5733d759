/- Pu Xf Xp Xk Xg: what the law needs of these -/
import Derived.Test.YtclhmdhdpejhhaaGreatQag12
set_option linter.unusedVariables false
namespace Go.Proofs.Tryz
open Go.L
set_option maxRecDepth 100000
noncomputable def r2New (n : Nat) (x0 : Int) (h : Heap) : Option (Res × Heap) :=
 some (Res.ret [(V.agg [(V.int .i64 (if 0 < (if 1000 < x0 then 1000 else x0) then (if 1000 < x0 then 1000 else x0) else 0)), (V.sl 0 [] true), (V.int .i64 0)])], h)
theorem r2New_eq (n : Nat) (x0 : Int) (h : Heap) : call (n + 1) 72 [(V.int .i64 x0)] h = r2New n x0 h := by kernel_rfl
noncomputable def r2fresh (n : Nat) (sz : Int) (cv : V) (st : Int) (h : Heap) : Option (Res × Heap) :=
 (bdS (slcH h cv) fun p0 =>
 (if (54 = 54 /\ (p0.1 = 1 \/ (p0.2).isEmpty = true)) then
 (bd (app 2 1 (S.own 2 1 []) p0.2) fun l1 =>
 some (Res.ret [(V.agg [(V.int .i64 sz), (V.row (h).length 1 0 (l1).length), (V.int .i64 st)])], (h ++ [(HB.row 2 1 l1 true)]))) else none))
theorem r2fresh_eq (n : Nat) (sz : Int) (cv : V) (st : Int) (h : Heap) : call (n + 1) 101 [(V.agg [(V.int .i64 sz), cv, (V.int .i64 st)])] h = r2fresh n sz cv st h := by kernel_rfl
noncomputable def r2Has (n : Nat) (sz : Int) (cv : V) (st : Int) (a : Int) (h : Heap) : Option (Res × Heap) :=
 (if (decide (a ≥ 0)) then
 (bd (slcH h cv) fun p0 =>
 some (Res.ret [(V.bool (decide (a < ((p0.2).length : Int))))], h))
 else
 some (Res.ret [(V.bool false)], h))
theorem r2Has_eq (n : Nat) (sz : Int) (cv : V) (st : Int) (a : Int) (h : Heap) : call (n + 1) 102 [(V.agg [(V.int .i64 sz), cv, (V.int .i64 st)]), (V.int .i64 a)] h = r2Has n sz cv st a h := by kernel_rfl
noncomputable def r2Alloc (n : Nat) (sz : Int) (cv : V) (st : Int) (k : Int) (h : Heap) : Option (Res × Heap) :=
 (if (decide (k < 0)) then
 some (Res.ret [(V.agg [(V.int .i64 sz), cv, (V.int .i64 st)]), (V.int .i64 0), (V.int .i64 1)], h)
 else
 (bd (slcH h cv) fun p0 =>
 (if (decide (k > (IntKind.i64.wrap (sz - ((p0.2).length : Int))))) then
 some (Res.ret [(V.agg [(V.int .i64 sz), cv, (V.int .i64 st)]), (V.int .i64 0), (V.int .i64 11)], h)
 else
 (bd (slcH h cv) fun p1 =>
 (cl (call n 101 [(V.agg [(V.int .i64 sz), cv, (V.int .i64 st)])] h) (fun r2 h3 =>
 (one1 r2 fun v5 =>
 (if ((V.cells v5)).length = 3 then
 (if (((V.cells v5)).length <= 3) then
 (bd ((setR [(V.int .i64 0), (V.sl 0 [] true), (V.int .i64 0)] 0 (V.cells v5)))[1]? fun v6 =>
 (bdS (nv (V.int .i64 k)) fun n7 =>
 (if (n7 < lim /\ 1 = 1) then (if (nilS v6 = true /\ 0 < n7) then
 (bd ((setR (setR [(V.int .i64 0), (V.sl 0 [] true), (V.int .i64 0)] 0 (V.cells v5)) 1 [(V.row (h3).length 1 0 ((List.replicate n7 [(V.int .i64 0)])).length)]))[2]? fun v10 =>
 (bd (bop prog .add 3 v10 (V.int .i64 1)) fun v11 =>
 (if ((V.cells v11)).length = 1 then
 (if (0 = 0 /\ 2 + ((V.cells v11)).length <= 3) then
 (if ((((setR (setR (setR [(V.int .i64 0), (V.sl 0 [] true), (V.int .i64 0)] 0 (V.cells v5)) 1 [(V.row (h3).length 1 0 ((List.replicate n7 [(V.int .i64 0)])).length)]) 2 (V.cells v11))).drop 0 |>.take 3)).length = 3 then
 (if (((((setR (setR (setR [(V.int .i64 0), (V.sl 0 [] true), (V.int .i64 0)] 0 (V.cells v5)) 1 [(V.row (h3).length 1 0 ((List.replicate n7 [(V.int .i64 0)])).length)]) 2 (V.cells v11))).drop 0 |>.take 3)).length <= 3) then
 some (Res.ret [(V.agg (((setR [(V.int .i64 0), (V.sl 0 [] true), (V.int .i64 0)] 0 (((setR (setR (setR [(V.int .i64 0), (V.sl 0 [] true), (V.int .i64 0)] 0 (V.cells v5)) 1 [(V.row (h3).length 1 0 ((List.replicate n7 [(V.int .i64 0)])).length)]) 2 (V.cells v11))).drop 0 |>.take 3))).drop 0 |>.take 3)), (V.int .i64 ((p1.2).length : Int)), (V.int .i64 0)], (h3 ++ [(HB.row 2 1 (List.replicate n7 [(V.int .i64 0)]) true)])) else none) else none) else none) else none)))
 else if (true = true /\ isRow v6 = true) then (bd2 (appP 2 1 h3 (List.replicate n7 [(V.int .i64 0)]) v6) fun v8 h9 =>
 (if ((V.cells v8)).length = 1 then
 (if (0 = 0 /\ 1 + ((V.cells v8)).length <= 3) then
 (bd ((setR (setR [(V.int .i64 0), (V.sl 0 [] true), (V.int .i64 0)] 0 (V.cells v5)) 1 (V.cells v8)))[2]? fun v12 =>
 (bd (bop prog .add 3 v12 (V.int .i64 1)) fun v13 =>
 (if ((V.cells v13)).length = 1 then
 (if (0 = 0 /\ 2 + ((V.cells v13)).length <= 3) then
 (if ((((setR (setR (setR [(V.int .i64 0), (V.sl 0 [] true), (V.int .i64 0)] 0 (V.cells v5)) 1 (V.cells v8)) 2 (V.cells v13))).drop 0 |>.take 3)).length = 3 then
 (if (((((setR (setR (setR [(V.int .i64 0), (V.sl 0 [] true), (V.int .i64 0)] 0 (V.cells v5)) 1 (V.cells v8)) 2 (V.cells v13))).drop 0 |>.take 3)).length <= 3) then
 some (Res.ret [(V.agg (((setR [(V.int .i64 0), (V.sl 0 [] true), (V.int .i64 0)] 0 (((setR (setR (setR [(V.int .i64 0), (V.sl 0 [] true), (V.int .i64 0)] 0 (V.cells v5)) 1 (V.cells v8)) 2 (V.cells v13))).drop 0 |>.take 3))).drop 0 |>.take 3)), (V.int .i64 ((p1.2).length : Int)), (V.int .i64 0)], h9) else none) else none) else none) else none))) else none) else none)) else none) else none))) else none) else none))) (fun z4 h3 => some (Res.pan z4, h3)))))))
theorem r2Alloc_eq (n : Nat) (sz : Int) (cv : V) (st : Int) (k : Int) (h : Heap) : call (n + 1) 73 [(V.agg [(V.int .i64 sz), cv, (V.int .i64 st)]), (V.int .i64 k)] h = r2Alloc n sz cv st k h := by kernel_rfl
noncomputable def r2Store (n : Nat) (sz : Int) (cv : V) (st : Int) (a : Int) (v : Int) (h : Heap) : Option (Res × Heap) :=
 (cl (call n 102 [(V.agg [(V.int .i64 sz), cv, (V.int .i64 st)]), (V.int .i64 a)] h) (fun r0 h1 =>
 (one1 r0 fun v3 =>
 (bd (uop .not v3) fun v4 =>
 (bv v4 fun b5 => if b5 then
 some (Res.ret [(V.agg [(V.int .i64 sz), cv, (V.int .i64 st)]), (V.int .i64 10)], h1)
 else
 (cl (call n 101 [(V.agg [(V.int .i64 sz), cv, (V.int .i64 st)])] h1) (fun r6 h7 =>
 (one1 r6 fun v9 =>
 (if ((V.cells v9)).length = 3 then
 (if (((V.cells v9)).length <= 3) then
 (bd ((setR [(V.int .i64 0), (V.sl 0 [] true), (V.int .i64 0)] 0 (V.cells v9)))[1]? fun v10 =>
 (bdS (nv (V.int .i64 a)) fun n11 =>
 (bd (idxP 1 n11 v10) fun p12 =>
 (bd2 (writeB h7 [(V.int .i64 v)] p12) fun b13 x14 =>
 (bd ((setR [(V.int .i64 0), (V.sl 0 [] true), (V.int .i64 0)] 0 (V.cells v9)))[2]? fun v15 =>
 (bd (bop prog .add 3 v15 (V.int .i64 1)) fun v16 =>
 (if ((V.cells v16)).length = 1 then
 (if (0 = 0 /\ 2 + ((V.cells v16)).length <= 3) then
 (if ((((setR (setR [(V.int .i64 0), (V.sl 0 [] true), (V.int .i64 0)] 0 (V.cells v9)) 2 (V.cells v16))).drop 0 |>.take 3)).length = 3 then
 (if (((((setR (setR [(V.int .i64 0), (V.sl 0 [] true), (V.int .i64 0)] 0 (V.cells v9)) 2 (V.cells v16))).drop 0 |>.take 3)).length <= 3) then
 some (Res.ret [(V.agg (((setR [(V.int .i64 0), (V.sl 0 [] true), (V.int .i64 0)] 0 (((setR (setR [(V.int .i64 0), (V.sl 0 [] true), (V.int .i64 0)] 0 (V.cells v9)) 2 (V.cells v16))).drop 0 |>.take 3))).drop 0 |>.take 3)), (V.int .i64 0)], ((h7).set b13 x14)) else none) else none) else none) else none))))))) else none) else none))) (fun z8 h7 => some (Res.pan z8, h7))))))) (fun z2 h1 => some (Res.pan z2, h1)))
theorem r2Store_eq (n : Nat) (sz : Int) (cv : V) (st : Int) (a : Int) (v : Int) (h : Heap) : call (n + 1) 75 [(V.agg [(V.int .i64 sz), cv, (V.int .i64 st)]), (V.int .i64 a), (V.int .i64 v)] h = r2Store n sz cv st a v h := by kernel_rfl
noncomputable def l13Mem_l17 (n : Nat) (l : List (List V)) (lb : Bool) (v3 : V) (st18 : List V) (hh19 : Heap) (next20 : List V -> Heap -> Option (Res × Heap)) : Option (Res × Heap) :=
 (bd (bop prog .lss 3 (gv st18 3) (V.int .i64 ((l).length : Int))) fun v21 =>
 (bv v21 fun b22 => if b22 then
 (bdS (nv (gv st18 3)) fun n23 =>
 (bd (idxP 1 n23 (V.sl 1 l lb)) fun p24 =>
 (bd3 (cellsP hh19 p24) fun cs26 m25 o27 => if (o27 + 1 <= m25 /\ 0 < 1) then
 (bd (cs26)[o27]? fun v28 =>
 (cl (call n 52 [v3, (gv st18 3), v28] hh19) (fun r29 h30 =>
 (one1 r29 fun v32 =>
 (bdS (nv (gv st18 3)) fun n33 =>
 (bd (idxP 1 n33 (V.sl 1 l lb)) fun p34 =>
 (bd ((esP p34))[0]? fun v35 =>
 (clH (call n 75 [(V.agg (((lcs (gv st18 1))).drop 0 |>.take 3)), (gv st18 3), v35] h30) fun r36 h37 =>
 (bd (r36)[0]? fun v39 =>
 (bd (r36)[1]? fun v40 =>
 (if ((V.cells v39)).length = 3 then
 (if (((V.cells v39)).length <= 3) then
 (if ((((setR [(V.int .i64 0), (V.sl 0 [] true), (V.int .i64 0)] 0 (V.cells v39))).drop 0 |>.take 3)).length = 3 then
 (if (((((setR [(V.int .i64 0), (V.sl 0 [] true), (V.int .i64 0)] 0 (V.cells v39))).drop 0 |>.take 3)).length <= 3) then
 (bd (bop prog .add 3 (gv st18 3) (V.int .i64 1)) fun v41 =>
 (next20 [(V.agg (lcs (gv st18 0))), (V.agg (setR (lcs (gv st18 1)) 0 (((setR [(V.int .i64 0), (V.sl 0 [] true), (V.int .i64 0)] 0 (V.cells v39))).drop 0 |>.take 3))), (V.agg (lcs (gv st18 2))), v41] h37)) else none) else none) else none) else none))))))))) (fun z31 h30 => some (Res.pan z31, h30)))) else none)))
 else
 (if ((((lcs (gv st18 1))).drop 0 |>.take 3)).length = 3 then
 (if (((((lcs (gv st18 1))).drop 0 |>.take 3)).length <= 3) then
 some (Res.ret [v3, (V.agg (((setR (lcs (gv st18 0)) 0 (((lcs (gv st18 1))).drop 0 |>.take 3))).drop 0 |>.take 3))], hh19) else none) else none)))
noncomputable def l13Mem (n : Nat) (l : List (List V)) (lb : Bool) (h : Heap) : Option (Res × Heap) :=
 (cl (call n 71 [(V.int .i64 ((l).length : Int))] h) (fun r0 h1 =>
 (one1 r0 fun v3 =>
 (cl (call n 72 [(V.int .i64 ((l).length : Int))] h1) (fun r4 h5 =>
 (one1 r4 fun v7 =>
 (if ((V.cells v7)).length = 3 then
 (if (((V.cells v7)).length <= 3) then
 (cl (call n 73 [(V.agg (((setR [(V.int .i64 0), (V.sl 0 [] true), (V.int .i64 0)] 0 (V.cells v7))).drop 0 |>.take 3)), (V.int .i64 ((l).length : Int))] h5) (fun r8 h9 =>
 (bd (r8)[0]? fun v11 =>
 (bd (r8)[1]? fun v12 =>
 (bd (r8)[2]? fun v13 =>
 (if ((V.cells v11)).length = 3 then
 (if (((V.cells v11)).length <= 3) then
 (if ((((setR [(V.int .i64 0), (V.sl 0 [] true), (V.int .i64 0)] 0 (V.cells v11))).drop 0 |>.take 3)).length = 3 then
 (if (((((setR [(V.int .i64 0), (V.sl 0 [] true), (V.int .i64 0)] 0 (V.cells v11))).drop 0 |>.take 3)).length <= 3) then
 (cl (call n 74 [v3, (V.int .i64 ((l).length : Int))] h9) (fun r14 h15 =>
 (loopx n (l13Mem_l17 n l lb v3) [(V.agg [(V.int .i64 0), (V.sl 0 [] true), (V.int .i64 0)]), (V.agg (setR (setR [(V.int .i64 0), (V.sl 0 [] true), (V.int .i64 0)] 0 (V.cells v7)) 0 (((setR [(V.int .i64 0), (V.sl 0 [] true), (V.int .i64 0)] 0 (V.cells v11))).drop 0 |>.take 3))), (V.agg (setR [(V.int .i64 0), (V.sl 0 [] true), (V.int .i64 0)] 0 (V.cells v11))), (V.int .i64 0)] h15)) (fun z16 h15 => some (Res.pan z16, h15))) else none) else none) else none) else none))))) (fun z10 h9 => some (Res.pan z10, h9))) else none) else none))) (fun z6 h5 => some (Res.pan z6, h5))))) (fun z2 h1 => some (Res.pan z2, h1)))
theorem l13Mem_eq (n : Nat) (l : List (List V)) (lb : Bool) (h : Heap) : call (n + 1) 32 [(V.sl 1 l lb)] h = l13Mem n l lb h := by kernel_rfl
noncomputable def lawAg_l18 (n : Nat) (x0 : Int) (x2 : Int) (v8 : V) (v13 : V) (st19 : List V) (hh20 : Heap) (next21 : List V -> Heap -> Option (Res × Heap)) : Option (Res × Heap) :=
 (bd (bop prog .lss 3 (gv st19 3) (V.int .i64 400)) fun v22 =>
 (bv v22 fun b23 => if b23 then
 (cl (call n 50 [(V.agg (((lcs (gv st19 1))).drop 0 |>.take 13))] hh20) (fun r24 h25 =>
 (one1 r24 fun v27 =>
 (bv v27 fun b28 => if b28 then
 (cl (call n 38 [v8, v13, (V.int .i64 (IntKind.i64.wrap (1 + (IntKind.i64.wrap (Int.tmod x0 5))))), (V.agg (((lcs (gv st19 1))).drop 0 |>.take 13))] h25) (fun r29 h30 =>
 (bd (r29)[0]? fun v32 =>
 (bd (r29)[1]? fun v33 =>
 (if ((V.cells v32)).length = 13 then
 (if (((V.cells v32)).length <= 13) then
 (if ((((setR [(V.int .i64 0), (V.int .i64 0), (V.int .i64 0), (V.int .i64 0), (V.int .i64 0), (V.int .i64 0), (V.int .i64 0), (V.int .i64 0), (V.int .i64 0), (V.int .i64 0), (V.int .i64 0), (V.int .i64 0), (V.sl 0 [] true)] 0 (V.cells v32))).drop 0 |>.take 13)).length = 13 then
 (if (((((setR [(V.int .i64 0), (V.int .i64 0), (V.int .i64 0), (V.int .i64 0), (V.int .i64 0), (V.int .i64 0), (V.int .i64 0), (V.int .i64 0), (V.int .i64 0), (V.int .i64 0), (V.int .i64 0), (V.int .i64 0), (V.sl 0 [] true)] 0 (V.cells v32))).drop 0 |>.take 13)).length <= 13) then
 (cl (call n 51 [v8, (V.int .i64 3)] h30) (fun r34 h35 =>
 (bd (r34)[0]? fun v37 =>
 (bd (r34)[1]? fun v38 =>
 (bd (bop prog .eql 2 v37 (V.int .i64 0)) fun v39 =>
 (bv v39 fun b40 => if b40 then
 (bd (bop prog .lss 3 (gv st19 2) (V.int .i64 9)) fun v41 =>
 (bv v41 fun b42 => if b42 then
 (cl (call n 37 [(V.agg [(V.int .u8 1), (V.int .i32 x2)])] h35) (fun r43 h44 =>
 (one1 r43 fun v46 =>
 (cl (call n 52 [v8, (V.int .i64 3), v46] h44) (fun r47 h48 =>
 (one1 r47 fun v50 =>
 (bd (bop prog .add 3 (gv st19 2) (V.int .i64 1)) fun v51 =>
 (bd (bop prog .add 3 (gv st19 3) (V.int .i64 1)) fun v52 =>
 (next21 [(V.agg (lcs (gv st19 0))), (V.agg (setR (lcs (gv st19 1)) 0 (((setR [(V.int .i64 0), (V.int .i64 0), (V.int .i64 0), (V.int .i64 0), (V.int .i64 0), (V.int .i64 0), (V.int .i64 0), (V.int .i64 0), (V.int .i64 0), (V.int .i64 0), (V.int .i64 0), (V.int .i64 0), (V.sl 0 [] true)] 0 (V.cells v32))).drop 0 |>.take 13))), v51, v52, (V.bool false)] h48))))) (fun z49 h48 => some (Res.pan z49, h48))))) (fun z45 h44 => some (Res.pan z45, h44)))
 else
 (bd (bop prog .add 3 (gv st19 3) (V.int .i64 1)) fun v53 =>
 (next21 [(V.agg (lcs (gv st19 0))), (V.agg (setR (lcs (gv st19 1)) 0 (((setR [(V.int .i64 0), (V.int .i64 0), (V.int .i64 0), (V.int .i64 0), (V.int .i64 0), (V.int .i64 0), (V.int .i64 0), (V.int .i64 0), (V.int .i64 0), (V.int .i64 0), (V.int .i64 0), (V.int .i64 0), (V.sl 0 [] true)] 0 (V.cells v32))).drop 0 |>.take 13))), (gv st19 2), v53, (V.bool false)] h35))))
 else
 (bd (bop prog .add 3 (gv st19 3) (V.int .i64 1)) fun v54 =>
 (next21 [(V.agg (lcs (gv st19 0))), (V.agg (setR (lcs (gv st19 1)) 0 (((setR [(V.int .i64 0), (V.int .i64 0), (V.int .i64 0), (V.int .i64 0), (V.int .i64 0), (V.int .i64 0), (V.int .i64 0), (V.int .i64 0), (V.int .i64 0), (V.int .i64 0), (V.int .i64 0), (V.int .i64 0), (V.sl 0 [] true)] 0 (V.cells v32))).drop 0 |>.take 13))), (gv st19 2), v54, (V.bool false)] h35))))))) (fun z36 h35 => some (Res.pan z36, h35))) else none) else none) else none) else none)))) (fun z31 h30 => some (Res.pan z31, h30)))
 else
 (cl (call n 51 [v8, (V.int .i64 2)] h25) (fun r55 h56 =>
 (bd (r55)[0]? fun v58 =>
 (bd (r55)[1]? fun v59 =>
 (cl (call n 35 [] h56) (fun r60 h61 =>
 (one1 r60 fun v63 =>
 (bv v63 fun b64 => if b64 then
 (bd ((lcs (gv st19 1)))[1]? fun v65 =>
 (bd (bop prog .eql 3 v65 (V.int .i64 40)) fun v66 =>
 (bv v66 fun b67 => if b67 then
 (cl (call n 20 [v13] h61) (fun r68 h69 =>
 (one1 r68 fun v71 =>
 (bd (slcH h69 v71) fun p72 =>
 (if (((p72.2).length : Int) == (IntKind.i64.wrap (1 + (IntKind.i64.wrap (Int.tmod x0 5))))) then
 (bd (bop prog .eql 2 v58 (V.int .i64 (IntKind.i64.wrap (1 + (IntKind.i64.wrap (Int.tmod x0 5)))))) fun v73 =>
 (bv v73 fun b74 => if b74 then
 (bd ((lcs (gv st19 1)))[11]? fun v75 =>
 (bd (bop prog .eql 3 v75 (V.int .i64 (IntKind.i64.wrap (1 + (IntKind.i64.wrap (Int.tmod x0 5)))))) fun v76 =>
 some (Res.ret [v76], h69)))
 else
 some (Res.ret [(V.bool false)], h69)))
 else
 some (Res.ret [(V.bool false)], h69))))) (fun z70 h69 => some (Res.pan z70, h69)))
 else
 some (Res.ret [(V.bool false)], h61))))
 else
 some (Res.ret [(V.bool false)], h61)))) (fun z62 h61 => some (Res.pan z62, h61)))))) (fun z57 h56 => some (Res.pan z57, h56)))))) (fun z26 h25 => some (Res.pan z26, h25)))
 else
 (cl (call n 51 [v8, (V.int .i64 2)] hh20) (fun r77 h78 =>
 (bd (r77)[0]? fun v80 =>
 (bd (r77)[1]? fun v81 =>
 (cl (call n 35 [] h78) (fun r82 h83 =>
 (one1 r82 fun v85 =>
 (bv v85 fun b86 => if b86 then
 (bd ((lcs (gv st19 1)))[1]? fun v87 =>
 (bd (bop prog .eql 3 v87 (V.int .i64 40)) fun v88 =>
 (bv v88 fun b89 => if b89 then
 (cl (call n 20 [v13] h83) (fun r90 h91 =>
 (one1 r90 fun v93 =>
 (bd (slcH h91 v93) fun p94 =>
 (if (((p94.2).length : Int) == (IntKind.i64.wrap (1 + (IntKind.i64.wrap (Int.tmod x0 5))))) then
 (bd (bop prog .eql 2 v80 (V.int .i64 (IntKind.i64.wrap (1 + (IntKind.i64.wrap (Int.tmod x0 5)))))) fun v95 =>
 (bv v95 fun b96 => if b96 then
 (bd ((lcs (gv st19 1)))[11]? fun v97 =>
 (bd (bop prog .eql 3 v97 (V.int .i64 (IntKind.i64.wrap (1 + (IntKind.i64.wrap (Int.tmod x0 5)))))) fun v98 =>
 some (Res.ret [v98], h91)))
 else
 some (Res.ret [(V.bool false)], h91)))
 else
 some (Res.ret [(V.bool false)], h91))))) (fun z92 h91 => some (Res.pan z92, h91)))
 else
 some (Res.ret [(V.bool false)], h83))))
 else
 some (Res.ret [(V.bool false)], h83)))) (fun z84 h83 => some (Res.pan z84, h83)))))) (fun z79 h78 => some (Res.pan z79, h78)))))
noncomputable def lawAg (n : Nat) (x0 : Int) (x1 : Int) (x2 : Int) : Option (Res × Heap) :=
 (cl (call n 37 [(V.agg [(V.int .u8 1), (V.int .i32 x1)])] []) (fun r0 h1 =>
 (one1 r0 fun v3 =>
 (bd (bslV prog 54 8 [(0, (V.int .i64 1)), (1, (V.int .i64 3)), (2, (V.int .i64 0)), (3, v3), (4, (V.int .i64 1)), (5, (V.int .i64 0)), (6, (V.int .i64 0)), (7, (V.int .i64 0))]) fun p4 =>
 (cl (call n 32 [(V.sl 1 p4.2 false)] h1) (fun r5 h6 =>
 (bd (r5)[0]? fun v8 =>
 (bd (r5)[1]? fun v9 =>
 (if ((V.cells v9)).length = 3 then
 (if (((V.cells v9)).length <= 3) then
 (cl (call n 15 [(V.int .u8 1), (V.int .i64 10), (V.bool false)] h6) (fun r10 h11 =>
 (one1 r10 fun v13 =>
 (bd (bopH prog h11 .eql 58 v8 (V.val (.pointer none))) fun v14 =>
 (bv v14 fun b15 => if b15 then
 some (Res.ret [(V.bool false)], h11)
 else
 (bd (bopH prog h11 .eql 25 v13 (V.val (.pointer none))) fun v16 =>
 (bv v16 fun b17 => if b17 then
 some (Res.ret [(V.bool false)], h11)
 else
 (loopx n (lawAg_l18 n x0 x2 v8 v13) [(V.agg (setR [(V.int .i64 0), (V.sl 0 [] true), (V.int .i64 0)] 0 (V.cells v9))), (V.agg [(V.int .i64 0), (V.int .i64 20), (V.int .i64 0), (V.int .i64 0), (V.int .i64 0), (V.int .i64 0), (V.int .i64 0), (V.int .i64 0), (V.int .i64 0), (V.int .i64 0), (V.int .i64 0), (V.int .i64 0), (V.sl 0 [] true)]), (V.int .i64 0), (V.int .i64 0), (V.bool false)] h11))))))) (fun z12 h11 => some (Res.pan z12, h11))) else none) else none)))) (fun z7 h6 => some (Res.pan z7, h6)))))) (fun z2 h1 => some (Res.pan z2, h1)))
theorem lawAg_eq (n : Nat) (x0 : Int) (x1 : Int) (x2 : Int) (h : Heap) : call (n + 1) 12 [(V.int .u8 x0), (V.int .i32 x1), (V.int .i32 x2)] h = gcw [(V.int .u8 x0), (V.int .i32 x1), (V.int .i32 x2)] (lawAg n x0 x1 x2) h := by kernel_rfl
end Go.Proofs.Tryz
set_option linter.unusedVariables false
set_option linter.unusedSimpArgs false
namespace Go.Proofs.Tryz
open Go.L Go.Rp Go.Cm
set_option maxRecDepth 100000
theorem app_cel {l : List Int} (h : l.length < lim) : app 2 1 (S.own 2 1 []) (l.map cel) = some (l.map cel) := by
  unfold app
  simp [h]
theorem setR3 (x y z : V) : setR [.int .i64 0, .sl 0 [] true, .int .i64 0] 0 [x, y, z] = [x, y, z] := rfl
theorem setR3_1 (x y z w : V) : setR [x, y, z] 1 [w] = [x, w, z] := rfl
theorem setR3_2 (x y z w : V) : setR [x, y, z] 2 [w] = [x, y, w] := rfl
theorem cut3 (x y z : V) : (([x, y, z] : List V).drop 0 |>.take 3) = [x, y, z] := rfl
theorem ca (l : List V) : V.cells (.agg l) = l := rfl
theorem ci (k : IntKind) (x : Int) : V.cells (.int k x) = [.int k x] := rfl
theorem cr (b sz lo hi : Nat) : V.cells (.row b sz lo hi) = [.row b sz lo hi] := rfl
def RefAt (h : Heap) (b : Nat) (r : List V) (sz : Int) (l : List Int) (st : Int) : Prop :=
  r = [.int .i64 sz, .row b 1 0 l.length, .int .i64 st] /\ ∃ z, h[b]? = some (.row 2 1 (l.map cel) z)
theorem RefAt.keep {h h' : Heap} {b : Nat} {r : List V} {sz : Int} {l : List Int} {st : Int} (A : RefAt h b r sz l st) (hk : h'[b]? = h[b]?) : RefAt h' b r sz l st := by
  obtain ⟨h1, z, h2⟩ := A
  exact ⟨h1, z, hk.trans h2⟩
theorem RefAt.lt {h : Heap} {b : Nat} {r : List V} {sz : Int} {l : List Int} {st : Int} (A : RefAt h b r sz l st) : b < h.length := by
  obtain ⟨h1, z, h2⟩ := A
  exact lt_of_at h2
theorem r2_new (n : Nat) (k : Int) (h1 : 0 < k /\ k <= 1000) (h : Heap) : call (n + 1) 72 [.int .i64 k] h = some (.ret [.agg [.int .i64 k, .sl 0 [] true, .int .i64 0]], h) := by
  rw [r2New_eq]
  unfold r2New
  simp only [if_neg (show ¬ 1000 < k by omega), if_pos h1.1]
theorem r2_fresh (n : Nat) {h : Heap} {b : Nat} {r : List V} {sz : Int} {l : List Int} {st : Int} (A : RefAt h b r sz l st) (hl : l.length < lim) :
    call (n + 1) 101 [.agg r] h = some (.ret [.agg [.int .i64 sz, .row h.length 1 0 l.length, .int .i64 st]], h ++ [.row 2 1 (l.map cel) true]) := by
  obtain ⟨rfl, z, h2⟩ := A
  have hll : (l.map cel).length = l.length := List.length_map ..
  rw [r2fresh_eq]
  unfold r2fresh
  have e := slcH_all h2
  rw [hll] at e
  rw [e, bdS_some, if_pos ⟨rfl, .inl rfl⟩, app_cel hl, bd_some, hll]
theorem r2_alloc (n : Nat) (k : Nat) (h1 : 0 < k /\ k <= 1000) (h : Heap) : ∃ h' b r, call (n + 2) 73 [.agg [.int .i64 (k : Int), .sl 0 [] true, .int .i64 0], .int .i64 (k : Int)] h = some (.ret [.agg r, .int .i64 0, .int .i64 0], h') /\ RefAt h' b r k (List.replicate k 0) 1 /\ Fr h h' [] /\ h.length <= b := by
  rw [show n + 2 = (n + 1) + 1 from rfl, r2Alloc_eq]
  unfold r2Alloc
  have hlim : 1000 < lim := by unfold lim; omega
  rw [if_neg (by simp), show slcH h (V.sl 0 [] true) = some (0, []) from rfl, bd_some]
  rw [show ((0, ([] : List (List V))).2).length = 0 from rfl, if_neg (by rw [w64 (by omega) (by omega)]; simp), bd_some]
  have e1 : call (n + 1) 101 [.agg [.int .i64 (k : Int), .sl 0 [] true, .int .i64 0]] h = some (.ret [.agg [.int .i64 (k : Int), .row h.length 1 0 0, .int .i64 0]], h ++ [.row 2 1 [] true]) := by
    rw [r2fresh_eq]
    rfl
  rw [e1, cl_ret, one1_one]
  simp only [ca, setR3, cut3, List.length_cons, List.length_nil, Nat.zero_add, Nat.reduceAdd, if_true, Nat.le_refl, List.getElem?_cons_zero, List.getElem?_cons_succ, bd_some]
  rw [nv_nat, bdS_some, if_pos ⟨by omega, by first | trivial | rfl⟩, if_neg (by simp [nilS]), if_pos ⟨by first | trivial | rfl, rfl⟩]
  have e2 : appP 2 1 (h ++ [.row 2 1 [] true]) (List.replicate k [V.int .i64 0]) (V.row h.length 1 0 0) = some (.row (h.length + 1) 1 0 k, (h ++ [.dead]) ++ [.row 2 1 ((List.replicate k 0).map cel) true]) := by
    unfold appP
    dsimp only
    rw [List.getElem?_concat_length]
    simp only [List.length_nil, List.length_replicate, Nat.sub_self, Nat.zero_add, List.length_append, List.length_cons]
    rw [if_pos ⟨by decide, by decide, by omega⟩]
    simp [cel]
  rw [e2, bd2_some]
  simp only [cr, setR3_1, List.length_cons, List.length_nil, Nat.zero_add, Nat.reduceAdd, Nat.reduceLeDiff, and_self, if_true, List.getElem?_cons_zero, List.getElem?_cons_succ, bd_some]
  rw [bop_i64_add, bd_some]
  simp only [ci, setR3, setR3_2, cut3, List.length_cons, List.length_nil, Nat.zero_add, Nat.reduceAdd, Nat.reduceLeDiff, and_self, if_true, Nat.le_refl]
  refine ⟨_, h.length + 1, _, rfl, ⟨?_, true, ?_⟩, ⟨by simp, fun i q1 _ => ?_⟩, by omega⟩
  · simp only [List.length_replicate]
    rfl
  · rw [List.getElem?_append_right (by simp)]; simp
  · rw [List.getElem?_append_left (by simp; omega), List.getElem?_append_left (by omega)]
theorem r2_has (n : Nat) {h : Heap} {b : Nat} {r : List V} {sz : Int} {l : List Int} {st : Int} (A : RefAt h b r sz l st) (a : Int) :
    call (n + 1) 102 [.agg r, .int .i64 a] h = some (.ret [.bool (cget l a).isSome], h) := by
  obtain ⟨rfl, z, h2⟩ := A
  have hll : (l.map cel).length = l.length := List.length_map ..
  have e := slcH_all h2
  rw [hll] at e
  rw [r2Has_eq]
  unfold r2Has cget
  by_cases h0 : a < 0
  · rw [if_neg (by simpa using h0), if_pos h0]; rfl
  · rw [if_pos (by simpa using h0), if_neg h0, e, bd_some]
    simp only [hll]
    by_cases h3 : a < (l.length : Int)
    · rw [List.getElem?_eq_getElem (by omega)]; simp [h3]
    · rw [List.getElem?_eq_none (by omega)]; simp [h3]
theorem r2_store (n : Nat) {h : Heap} {b : Nat} {r : List V} {sz : Int} {l : List Int} {st : Int} (A : RefAt h b r sz l st) (hl : l.length < lim) (a v : Int) :
    ∃ h' b' r' e, call (n + 2) 75 [.agg r, .int .i64 a, .int .i64 v] h = some (.ret [.agg r', .int .i64 e], h') /\ RefAt h' b' r' sz (stL l a v) (ldS l a st) /\ Fr h h' [] /\ (b' = b \/ h.length <= b') := by
  have A0 := A
  have e1 := r2_has n A a
  have e2 := r2_fresh n A hl
  obtain ⟨rfl, z, h2⟩ := A
  rw [show n + 2 = (n + 1) + 1 from rfl, r2Store_eq]
  unfold r2Store
  rw [e1, cl_ret, one1_one, uop_not, bd_some, bv_bool]
  unfold ldS
  cases hg : cget l a with
  | none =>
    rw [if_pos (by rfl), stL_none hg]
    exact ⟨_, _, _, _, rfl, A0, .refl _ _, .inl rfl⟩
  | some x =>
    obtain ⟨q1, q2, q3⟩ := stL_some hg v
    have hlt := (List.getElem?_eq_some_iff.1 q3).1
    rw [if_neg (by simp), e2, cl_ret, one1_one]
    simp only [ca, setR3, cut3, List.length_cons, List.length_nil, Nat.zero_add, Nat.reduceAdd, if_true, Nat.le_refl, List.getElem?_cons_zero, List.getElem?_cons_succ, bd_some]
    rw [Go.L.nv_int q2, bdS_some, idxP_row (by omega), bd_some, writeB_rptr (List.getElem?_concat_length) (by decide) (by simp) (by rw [Nat.zero_add]; exact cgt_row hg), bd2_some, bop_i64_add, bd_some]
    simp only [ci, setR3, setR3_2, cut3, List.length_cons, List.length_nil, Nat.zero_add, Nat.reduceAdd, Nat.reduceLeDiff, and_self, if_true, Nat.le_refl, List.set_append_right _ _ (Nat.le_refl _), Nat.sub_self, List.set_cons_zero]
    refine ⟨_, h.length, _, _, rfl, ⟨?_, true, ?_⟩, Fr.app _ _, .inr (Nat.le_refl _)⟩
    · rw [stL_len]; rfl
    · rw [List.getElem?_concat_length, q1, List.map_set]; rfl
theorem ce_new (n : Nat) (k : Int) (h1 : 0 < k /\ k <= 1000) (h : Heap) : call (n + 1) 71 [.int .i64 k] h = some (.ret [.ptr h.length 0], h ++ [.box 3 [.int .i64 k, .sl 0 [] true, .int .i64 0]]) := by
  rw [ceNew_eq]
  unfold ceNew
  simp only [if_neg (show ¬ 1000 < k by omega), if_pos h1.1]
theorem ce_alloc (n : Nat) {h : Heap} {m : Nat} (k : Nat) (h1 : 0 < k /\ k <= 1000) (hm : h[m]? = some (.box 3 [.int .i64 (k : Int), .sl 0 [] true, .int .i64 0])) :
    ∃ h' a e, call (n + 1) 74 [.ptr m 0, .int .i64 (k : Int)] h = some (.ret [.int .i64 a, .int .u16 e], h') /\ MemAt h' m (h.length + 1) k (List.replicate k 0) 1 /\ Fr h h' [m] := by
  have hml := lt_of_at hm
  have hlim : 1000 < lim := by unfold lim; omega
  rw [ceAlloc_eq]
  unfold ceAlloc
  rw [if_neg (by simp), bop_mem_nil, bd_some, bv_bool, if_neg (by decide)]
  generalize hg : h ++ [HB.box 1 [V.int .u16 0]] = g
  have gl : g.length = h.length + 1 := by rw [<- hg]; simp
  have g1 : g[m]? = some (.box 3 [.int .i64 (k : Int), .sl 0 [] true, .int .i64 0]) := by rw [<- hg, List.getElem?_append_left hml, hm]
  have g2 : g[h.length]? = some (.box 1 [V.int .u16 0]) := by rw [<- hg, List.getElem?_concat_length]
  have g3 : ∀ i, i < h.length -> g[i]? = h[i]? := fun i hi => by rw [<- hg, List.getElem?_append_left hi]
  rw [cellsP_box g1, bd3_some, if_pos (by decide)]
  simp only [List.getElem?_cons_zero, List.getElem?_cons_succ, bd_some]
  rw [show slcH g (V.sl 0 [] true) = some (0, []) from rfl, bd_some, cellsP_box g1, bd3_some, if_pos (by decide)]
  simp only [List.getElem?_cons_zero, List.getElem?_cons_succ, bd_some, List.length_nil]
  rw [bop_i64_sub, bd_some, w64 (by omega) (by omega), bop_i64_gtr, bd_some, bv_bool, if_neg (by simp), bd3_some, if_pos (by decide)]
  simp only [List.getElem?_cons_zero, List.getElem?_cons_succ, bd_some]
  rw [nv_nat, bdS_some, if_pos ⟨by omega, by first | trivial | rfl⟩, if_pos ⟨rfl, h1.1⟩]
  have k1 : (g ++ [HB.row 2 1 (List.replicate k [V.int .i64 0]) true])[m]? = some (.box 3 [.int .i64 (k : Int), .sl 0 [] true, .int .i64 0]) := by rw [List.getElem?_append_left (by omega), g1]
  rw [writeB_box k1 (by simp), bd2_some]
  generalize hk : (g ++ [HB.row 2 1 (List.replicate k [V.int .i64 0]) true]).set m (HB.box 3 (setR [.int .i64 (k : Int), .sl 0 [] true, .int .i64 0] 1 [(V.row (g).length 1 0 ((List.replicate k [(V.int .i64 0)])).length)])) = g'
  have k2 : g'[h.length]? = some (.box 1 [V.int .u16 0]) := by rw [<- hk, List.getElem?_set_ne (by omega), List.getElem?_append_left (by omega), g2]
  have k3 : g'[m]? = some (.box 3 [.int .i64 (k : Int), .row (h.length + 1) 1 0 k, .int .i64 0]) := by
    rw [<- hk, set_at (by simp; omega), gl, List.length_replicate]; rfl
  have k4 : g'[h.length + 1]? = some (.row 2 1 ((List.replicate k 0).map cel) true) := by
    rw [<- hk, List.getElem?_set_ne (by omega), <- gl, List.getElem?_concat_length]; simp [cel]
  have k5 : ∀ i, i < h.length -> i ≠ m -> g'[i]? = h[i]? := fun i hi hn => by rw [<- hk, List.getElem?_set_ne (Ne.symm hn), List.getElem?_append_left (by omega), g3 i hi]
  rw [writeB_box k2 (by simp), bd2_some, show setR [V.int .u16 0] 0 [V.int .u16 0] = [V.int .u16 0] from rfl]
  have j2 : (g'.set h.length (HB.box 1 [V.int .u16 0]))[h.length]? = some (.box 1 [V.int .u16 0]) := set_at (lt_of_at k2) _
  have j3 : (g'.set h.length (HB.box 1 [V.int .u16 0]))[m]? = _ := (List.getElem?_set_ne (by omega)).trans k3
  have j4 : (g'.set h.length (HB.box 1 [V.int .u16 0]))[h.length + 1]? = _ := (List.getElem?_set_ne (by omega)).trans k4
  rw [ce_count n j3 j2, bd2_some, if_pos rfl]
  have i2 : ((g'.set h.length (HB.box 1 [V.int .u16 0])).set m (.box 3 [.int .i64 (k : Int), .row (h.length + 1) 1 0 k, .int .i64 (inc 0)]))[h.length]? = some (.box 1 [V.int .u16 0]) := (List.getElem?_set_ne (by omega)).trans j2
  rw [cellsP_box i2, bd3_some, if_pos (by decide)]
  simp only [List.getElem?_cons_zero, bd_some]
  refine ⟨_, _, _, rfl, ⟨by omega, ?_, true, ?_⟩, ⟨?_, fun i q1 q2 => ?_⟩⟩
  · rw [set_at (lt_of_at j3), List.length_replicate]; rfl
  · rw [List.getElem?_set_ne (by omega)]; exact j4
  · have := lt_of_at k4
    simp; omega
  · simp only [List.mem_singleton] at q2
    rw [List.getElem?_set_ne (Ne.symm q2), List.getElem?_set_ne (by omega), k5 i q1 q2]
theorem mem_loop (n : Nat) (l : List Int) (lb : Bool) {m rb : Nat} {sz : Int} (hl : l.length <= 1000) {s2 : List V} : ∀ (d j M : Nat) (h : Heap) (cur : List Int) (st : Int) (b : Nat) (r s0 : List V), s0.length = 3 -> j + d = l.length -> d < M -> cur.length = l.length -> (∀ i, i < j -> cur[i]? = l[i]?) -> MemAt h m rb sz cur st -> RefAt h b r sz cur st -> b ≠ m -> b ≠ rb →
    ∃ h' b' r' st', loopx M (l13Mem_l17 (n + 2) (l.map cel) lb (.ptr m 0)) [.agg s0, .agg r, .agg s2, .int .i64 (j : Int)] h = some (.ret [.ptr m 0, .agg r'], h') /\ MemAt h' m rb sz l st' /\ RefAt h' b' r' sz l st' /\ Fr h h' [m, rb] /\ (b' = b \/ h.length <= b') /\ b' ≠ m /\ b' ≠ rb
  | 0, j, M + 1, h, cur, st, b, r, s0 => by
    intro h0 hj hM hc hcur A B hb1 hb2
    have e0 : cur = l := List.ext_getElem? fun i => by
      by_cases hi : i < l.length
      · exact hcur i (by omega)
      · rw [List.getElem?_eq_none (by omega), List.getElem?_eq_none (by omega)]
    subst e0
    obtain ⟨x, y, z, rfl⟩ : ∃ x y z, s0 = [x, y, z] := by
      match s0, h0 with
      | [x, y, z], _ => exact ⟨x, y, z, rfl⟩
    obtain ⟨rfl, B2⟩ := id B
    refine ⟨h, b, _, st, ?_, A, B, .refl _ _, .inl rfl, hb1, hb2⟩
    rw [loopx_succ]
    unfold l13Mem_l17
    simp only [gv, List.getD_cons_zero, List.getD_cons_succ, lcs_agg]
    rw [bop_i64_lss, bd_some, bv_bool, if_neg (by simp; omega)]
    rfl
  | d + 1, j, M + 1, h, cur, st, b, r, s0 => by
    intro h0 hj hM hc hcur A B hb1 hb2
    have hlim : 1000 < lim := by unfold lim; omega
    have hjl : j < l.length := by omega
    have hx : (l.map cel)[j]? = some (cel l[j]) := by rw [List.getElem?_map, List.getElem?_eq_getElem hjl]; rfl
    obtain ⟨h1, e1, c1, A1, F1⟩ := ce_store n A (j : Int) l[j]
    have B1 : RefAt h1 b r sz cur st := B.keep (F1.old _ B.lt (by simp [hb1, hb2]))
    obtain ⟨h2, b2, r2, e2, c2, B2, F2, hb⟩ := r2_store n B1 (by omega) (j : Int) l[j]
    have hg : cget cur (j : Int) = some (cur[j]'(by omega)) := by
      unfold cget
      rw [if_neg (by omega), Int.toNat_natCast, List.getElem?_eq_getElem (by omega)]
    obtain ⟨q1, _, _⟩ := stL_some hg l[j]
    rw [Int.toNat_natCast] at q1
    have A2 := A1.fr F2 (by simp) (by simp)
    have hml := A1.lt
    have hn1 : b2 ≠ m := by rcases hb with e | e <;> omega
    have hn2 : b2 ≠ rb := by rcases hb with e | e <;> omega
    have hset : ∀ i, i < j + 1 -> (stL cur (j : Int) l[j])[i]? = l[i]? := fun i hi => by
      rw [q1]
      by_cases e : i = j
      · subst e
        rw [List.getElem?_set_self (by omega), List.getElem?_eq_getElem hjl]
      · rw [List.getElem?_set_ne (Ne.symm e)]
        exact hcur i (by omega)
    obtain ⟨rr, hrr⟩ : ∃ rr, r2 = [V.int .i64 sz, rr, V.int .i64 (ldS cur (j : Int) st)] := ⟨_, B2.1⟩
    obtain ⟨r0, hr0⟩ : ∃ rr, r = [V.int .i64 sz, rr, V.int .i64 st] := ⟨_, B.1⟩
    obtain ⟨h', b', r', st', e, A3, B3, F3, hb3, hb4, hb5⟩ := mem_loop n l lb hl (s2 := s2) d (j + 1) M h2 (stL cur (j : Int) l[j]) (ldS cur (j : Int) st) b2 r2 s0 h0 (by omega) (by omega) (by rw [stL_len, hc]) hset A2 B2 hn1 hn2
    refine ⟨h', b', r', st', ?_, A3, B3, (F1.trans (F2.mono (by simp))).trans F3, ?_, hb4, hb5⟩
    · rw [loopx_succ, <- e]
      generalize (loopx M (l13Mem_l17 (n + 2) (l.map cel) lb (.ptr m 0))) = nx
      unfold l13Mem_l17
      simp only [gv, List.getD_cons_zero, List.getD_cons_succ, lcs_agg]
      subst hr0 hrr
      rw [bop_i64_lss, bd_some, bv_bool, if_pos (by simp; omega), nv_nat, bdS_some, idxP_sl hx, bd_some, cellsP_iptr, bd3_some, if_pos (by decide), show (cel l[j])[0]? = some (.int .i64 l[j]) from rfl, bd_some, c1, cl_ret, one1_one, bdS_some, idxP_sl hx, bd_some, show (esP (V.iptr 1 (cel l[j]) 0))[0]? = some (.int .i64 l[j]) from rfl, bd_some, cut3, c2, clH_ret]
      simp only [List.getElem?_cons_zero, List.getElem?_cons_succ, bd_some, ca, setR3, cut3, List.length_cons, List.length_nil, Nat.zero_add, Nat.reduceAdd, if_true, Nat.le_refl]
      rw [bop_i64_add, bd_some, step64 (by omega)]
      rfl
    · rcases hb3 with e | e
      · rcases hb with e' | e'
        · exact .inl (e.trans e')
        · exact .inr (by have := F1.len; omega)
      · exact .inr (by have := F1.len; have := F2.len; omega)
  | d, j, 0, h, cur, st, b, r, s0 => by
    intro _ _ hM; omega
theorem mem_call (n : Nat) (l : List Int) (lb : Bool) (h1 : 0 < l.length /\ l.length <= 1000) (hn : l.length < n + 2) (h : Heap) :
    ∃ h' m rb b r st, call (n + 3) 32 [.sl 1 (l.map cel) lb] h = some (.ret [.ptr m 0, .agg r], h') /\ MemAt h' m rb l.length l st /\ RefAt h' b r l.length l st /\ Fr h h' [] /\ h.length <= m /\ h.length <= rb /\ h.length <= b := by
  have hll : (l.map cel).length = l.length := List.length_map ..
  have c1 := ce_new (n + 1) (l.length : Int) (by omega) h
  generalize hg : h ++ [HB.box 3 [.int .i64 (l.length : Int), .sl 0 [] true, .int .i64 0]] = g at c1
  have c2 := r2_new (n + 1) (l.length : Int) (by omega) g
  obtain ⟨h2, b, r, c3, B, F2, hb⟩ := r2_alloc n l.length h1 g
  have gl : g.length = h.length + 1 := by rw [<- hg]; simp
  have gm : g[h.length]? = some (.box 3 [.int .i64 (l.length : Int), .sl 0 [] true, .int .i64 0]) := by rw [<- hg, List.getElem?_concat_length]
  have gm2 := (F2.old h.length (by omega) (by simp)).trans gm
  obtain ⟨h3, a, e, c4, A, F3⟩ := ce_alloc (n + 1) l.length h1 gm2
  have hl2 := F2.len
  have B3 : RefAt h3 b r l.length (List.replicate l.length 0) 1 := B.keep (F3.old b B.lt (by simp; omega))
  obtain ⟨rr, hrr⟩ : ∃ rr, r = [V.int .i64 l.length, rr, V.int .i64 1] := ⟨_, B.1⟩
  obtain ⟨h', b', r', st', e5, A5, B5, F5, hb5, _, _⟩ := mem_loop n l lb h1.2 (s2 := r) l.length 0 (n + 2) h3 (List.replicate l.length 0) 1 b r [V.int .i64 0, V.sl 0 [] true, V.int .i64 0] rfl (by omega) hn (by simp) (fun i hi => by omega) A B3 (by omega) (by have := B.lt; omega)
  refine ⟨h', h.length, h2.length + 1, b', r', st', ?_, A5, B5, ⟨by have := F3.len; have := F5.len; omega, fun i q1 _ => ?_⟩, Nat.le_refl _, by omega, ?_⟩
  · rw [show n + 3 = (n + 2) + 1 from rfl, l13Mem_eq]
    unfold l13Mem
    subst hrr
    rw [hll, c1, cl_ret, one1_one, c2, cl_ret, one1_one]
    simp only [ca, setR3, cut3, List.length_cons, List.length_nil, Nat.zero_add, Nat.reduceAdd, if_true, Nat.le_refl]
    rw [c3, cl_ret]
    simp only [List.getElem?_cons_zero, List.getElem?_cons_succ, bd_some, ca, setR3, cut3, List.length_cons, List.length_nil, Nat.zero_add, Nat.reduceAdd, if_true, Nat.le_refl]
    rw [c4, cl_ret]
    exact e5
  · have hh : i ≠ h2.length + 1 := by omega
    rw [F5.old i (by have := F3.len; omega) (by simp; omega), F3.old i (by omega) (by simp; omega), F2.old i (by omega) (by simp), <- hg, List.getElem?_append_left q1]
  · have := F3.len
    rcases hb5 with e | e <;> omega
end Go.Proofs.Tryz
set_option linter.unusedVariables false
set_option linter.unusedSimpArgs false
namespace Go.Cm
open Go.L Go.Rp Go.Sk
theorem w64i_eq {x : Int} (h1 : -9223372036854775808 <= x) (h2 : x < 9223372036854775808) : w64i x = x := by
  unfold w64i
  rw [IntKind.wrap_i64]
  omega
def wdO (v : Int) : Int := 256 * (v + 2147483648) + 2
theorem wdO_pos {v : Int} (h : -2147483648 <= v /\ v < 2147483648) : 0 < wdO v := by unfold wdO; omega
theorem wdO_k {v : Int} (h : -2147483648 <= v /\ v < 2147483648) : ofK (wdO v) = 1 := by
  have h1 : okW (wdO v) = true := by unfold okW wdO; simp; omega
  unfold ofK
  rw [if_pos h1]
  unfold wdO
  rw [w64i_eq (by omega) (by omega), Int.tmod_eq_emod_of_nonneg (by omega), IntKind.wrap_u8]
  omega
def nxS (pp : Int) (m : Nat) (x : Ps × List Int) : Ps × List Int :=
  if x.1.T.pc = 36 then (pDo x.1 (stkRun m (x.1.xs.map opO) x.2).1, (stkRun m (x.1.xs.map opO) x.2).2) else (pStep pp x.1, x.2)
def agS (W : Int) (x : (Ps × List Int) × Int) : (Ps × List Int) × Int :=
  if ldV x.1.1.l 3 = 0 /\ x.2 < 9 then (({ x.1.1 with l := stL x.1.1.l 3 W, st := ldS x.1.1.l 3 (ldS x.1.1.l 3 x.1.1.st) }, x.1.2), x.2 + 1)
  else (({ x.1.1 with st := ldS x.1.1.l 3 x.1.1.st }, x.1.2), x.2)
def agN (pp : Int) (m : Nat) (W : Int) (x : (Ps × List Int) × Int) : (Ps × List Int) × Int := agS W (nxS pp m x.1, x.2)
inductive Goes (I : Ps × List Int -> Prop) {α : Type} (N : (Ps × List Int) × α -> (Ps × List Int) × α) : Nat -> (Ps × List Int) × α -> (Ps × List Int) × α -> Prop
  | nil (x) : Goes I N 0 x x
  | cons {j x y} : (20 <= x.1.1.T.pc /\ x.1.1.T.pc <= 39) -> I x.1 -> Goes I N j (N x) y -> Goes I N (j + 1) x y
theorem Goes.trans {I : Ps × List Int -> Prop} {α : Type} {N : (Ps × List Int) × α -> (Ps × List Int) × α} {i j : Nat} {x y z : (Ps × List Int) × α} (a : Goes I N i x y) (b : Goes I N j y z) : Goes I N (i + j) x z := by
  induction a with
  | nil => rwa [Nat.zero_add]
  | cons h1 h2 _ ih => rw [Nat.add_right_comm]; exact .cons h1 h2 (ih b)
def agT (pc lk cu pv nt mn ps p : Int) : Th := ⟨0, pc, 0, 0, 0, lk, cu, pv, nt, mn, ps, p⟩
def agI (x : Ps × List Int) : Prop := x.1.xs.length <= 1 /\ x.1.l.length = 8 /\ x.2.length <= 10
section
variable {pp W X p lk cu pv nt mn ps a t st k : Int} {xs : List It} {q : List Int}
theorem ag20 (hW : X ≠ 0) : ∃ st', agN pp 10 W ((⟨agT 20 lk cu pv nt mn ps p, xs, [1, 3, p, X, 1, a, 0, t], st⟩, q), k) = ((⟨agT 21 p cu pv nt mn ps p, xs, [1, 3, p, X, 1, a, 0, t], st'⟩, q), k) := by
  unfold agN agS
  rw [if_neg (by rintro ⟨h, _⟩; exact hW h)]
  exact ⟨_, rfl⟩
theorem ag21 (hW : X ≠ 0) (hp : 0 <= p /\ p < 100) : ∃ st', agN pp 10 W ((⟨agT 21 p cu pv nt mn ps p, xs, [1, 3, p, X, 1, a, 0, t], st⟩, q), k) = ((⟨agT 22 p cu pv nt mn (p + 1) (p + 1), xs, [1, 3, p + 1, X, 1, a, 0, t], st'⟩, q), k) := by
  have e : ∃ st', agN pp 10 W ((⟨agT 21 p cu pv nt mn ps p, xs, [1, 3, p, X, 1, a, 0, t], st⟩, q), k) = ((⟨agT 22 p cu pv nt mn (w64i (p + 1)) (w64i (p + 1)), xs, [1, 3, w64i (p + 1), X, 1, a, 0, t], st'⟩, q), k) := by
    unfold agN agS
    rw [if_neg (by rintro ⟨h, _⟩; exact hW h)]
    exact ⟨_, rfl⟩
  rwa [w64i_eq (x := p + 1) (by omega) (by omega)] at e
theorem mn8 : mnN [1, 3, p, X, 1, a, 0, t] = 1 := by unfold mnN; simp
theorem ag22 (hW : X ≠ 0) : ∃ st', agN pp 10 W ((⟨agT 22 lk cu pv nt mn ps p, xs, [1, 3, p, X, 1, a, 0, t], st⟩, q), k) = ((⟨agT 23 lk cu pv 0 1 ps p, [], [1, 3, p, X, 1, a, 0, t], st'⟩, q), k) := by
  have e : nxS pp 10 (⟨agT 22 lk cu pv nt mn ps p, xs, [1, 3, p, X, 1, a, 0, t], st⟩, q) = (⟨agT 23 lk cu pv 0 1 ps p, [], [1, 3, p, X, 1, a, 0, t], st⟩, q) := by
    show ((⟨agT (if 0 < mnN [1, 3, p, X, 1, a, 0, t] then 23 else 33) lk cu pv 0 (mnN [1, 3, p, X, 1, a, 0, t]) ps p, [], [1, 3, p, X, 1, a, 0, t], st⟩ : Ps), q) = _
    rw [mn8, if_pos (by decide)]
  unfold agN agS
  simp only [e]
  rw [if_neg (by rintro ⟨h, _⟩; exact hW h)]
  exact ⟨_, rfl⟩
theorem ag23 (hW : X ≠ 0) : ∃ st', agN pp 10 W ((⟨agT 23 lk cu pv 0 1 ps p, xs, [1, 3, p, X, 1, a, 0, t], st⟩, q), k) = ((⟨agT 33 1 3 pv 1 1 ps p, xs, [1, 3, p, X, 1, a, 0, t], st'⟩, q), k) := by
  unfold agN agS
  rw [if_neg (by rintro ⟨h, _⟩; exact hW h)]
  exact ⟨_, rfl⟩
theorem ag33 (hW : X ≠ 0) : ∃ st', agN pp 10 W ((⟨agT 33 lk cu pv nt mn ps p, xs, [1, 3, p, X, 1, a, 0, t], st⟩, q), k) = ((⟨agT 34 3 3 pv nt mn ps p, xs, [1, 3, p, X, 1, a, 0, t], st'⟩, q), k) := by
  unfold agN agS
  rw [if_neg (by rintro ⟨h, _⟩; exact hW h)]
  exact ⟨_, rfl⟩
theorem ag34 (hW : 0 < X) : ∃ st', agN pp 10 W ((⟨agT 34 lk 3 pv nt mn ps p, xs, [1, 3, p, X, 1, a, 0, t], st⟩, q), k) = ((⟨agT 35 X 3 pv nt mn ps p, xs ++ [⟨3, X, 0⟩], [1, 3, p, X, 1, a, 0, t], st'⟩, q), k) := by
  have e : ∃ st', nxS pp 10 (⟨agT 34 lk 3 pv nt mn ps p, xs, [1, 3, p, X, 1, a, 0, t], st⟩, q) = (⟨agT 35 X 3 pv nt mn ps p, xs ++ [⟨3, X, 0⟩], [1, 3, p, X, 1, a, 0, t], st'⟩, q) := by
    refine ⟨ldS [1, 3, p, X, 1, a, 0, t] (w64i (3 + 0)) st, ?_⟩
    show (pPick _, q) = _
    unfold pPick
    rw [if_pos (show (pick1 ⟨agT 34 lk 3 pv nt mn ps p, xs, [1, 3, p, X, 1, a, 0, t], st⟩).T.lk > 0 from hW)]
    rfl
  obtain ⟨st', e⟩ := e
  unfold agN agS
  simp only [e]
  rw [if_neg (by rintro ⟨h, _⟩; exact absurd (show X = 0 from h) (by omega))]
  exact ⟨_, rfl⟩
theorem ag35 (hW : X ≠ 0) {i : It} : ∃ st', agN pp 10 W ((⟨agT 35 lk 3 pv nt mn ps p, [i], [1, 3, p, X, 1, a, 0, t], st⟩, q), k) = ((⟨agT 36 0 3 pv nt mn ps p, [i], [1, 3, p, X, 1, a, 0, t], st'⟩, q), k) := by
  unfold agN agS
  rw [if_neg (by rintro ⟨h, _⟩; exact hW h)]
  exact ⟨_, rfl⟩
theorem ag36 (hW : X ≠ 0) (hk : ofK X = 1) (hq : q.length < 10) : ∃ st' y, agN pp 10 W ((⟨agT 36 lk cu pv nt mn ps p, [⟨3, X, 0⟩], [1, 3, p, X, 1, a, 0, t], st⟩, q), k) = ((⟨agT 37 lk cu pv 0 mn ps p, [⟨3, X, y⟩], [1, 3, p, X, 1, a, 0, t], st'⟩, q ++ [ofV X]), k) := by
  have e : ∃ y, nxS pp 10 (⟨agT 36 lk cu pv nt mn ps p, [⟨3, X, 0⟩], [1, 3, p, X, 1, a, 0, t], st⟩, q) = (⟨agT 37 lk cu pv 0 mn ps p, [⟨3, X, y⟩], [1, 3, p, X, 1, a, 0, t], st⟩, q ++ [ofV X]) := by
    have e1 : stkStep ((10 : Nat) : Int) (ofK X) (ofV X) q = ((1, 0), q ++ [ofV X]) := by
      unfold stkStep
      rw [if_pos hk, if_pos (by omega)]
    have e2 : stkRun ((10 : Nat) : Int) [⟨ofK X, ofV X⟩] q = ([stkR ((10 : Nat) : Int) ⟨ofK X, ofV X⟩ q], q ++ [ofV X]) := by
      show (_ :: (stkRun _ [] (stkStep ((10 : Nat) : Int) (ofK X) (ofV X) q).2).1, (stkRun _ [] (stkStep ((10 : Nat) : Int) (ofK X) (ofV X) q).2).2) = _
      rw [e1]
      rfl
    refine ⟨pkW (stkR ((10 : Nat) : Int) ⟨ofK X, ofV X⟩ q).c (stkR ((10 : Nat) : Int) ⟨ofK X, ofV X⟩ q).v, ?_⟩
    show (pDo _ (stkRun ((10 : Nat) : Int) [⟨ofK X, ofV X⟩] q).1, (stkRun ((10 : Nat) : Int) [⟨ofK X, ofV X⟩] q).2) = _
    rw [e2]
    rfl
  obtain ⟨y, e⟩ := e
  unfold agN agS
  simp only [e]
  rw [if_neg (by rintro ⟨h, _⟩; exact hW h)]
  exact ⟨_, y, rfl⟩
theorem ag37 (hW : X ≠ 0) {y : Int} : ∃ st', agN pp 10 W ((⟨agT 37 lk cu pv 0 mn ps p, [⟨3, X, y⟩], [1, 3, p, X, 1, a, 0, t], st⟩, q), k) = ((⟨agT 38 lk cu pv 0 mn ps p, [⟨3, X, y⟩], [1, 3, p, X, 1, a, 0, y], st'⟩, q), k) := by
  unfold agN agS
  rw [if_neg (by rintro ⟨h, _⟩; exact hW h)]
  exact ⟨_, rfl⟩
theorem ag38 (hW : X ≠ 0) {y : Int} : ∃ st', agN pp 10 W ((⟨agT 38 lk cu pv 0 mn ps p, [⟨3, X, y⟩], [1, 3, p, X, 1, a, 0, t], st⟩, q), k) = ((⟨agT 39 lk cu pv 0 mn ps p, [⟨3, X, y⟩], [1, 3, p, X, 1, ps, 0, t], st'⟩, q), k) := by
  unfold agN agS
  rw [if_neg (by rintro ⟨h, _⟩; exact hW h)]
  exact ⟨_, rfl⟩
theorem ag39 (hk : k < 9) {y : Int} : ∃ st', agN pp 10 W ((⟨agT 39 lk cu pv 0 mn ps p, [⟨3, X, y⟩], [1, 3, p, X, 1, a, 0, t], st⟩, q), k) = ((⟨agT (if p < pp then 20 else 40) lk cu pv 1 mn ps p, [⟨3, X, y⟩], [1, 3, p, W, 1, a, 0, t], st'⟩, q), k + 1) := by
  unfold agN agS
  rw [if_pos ⟨rfl, hk⟩]
  exact ⟨_, rfl⟩
end
theorem ag_pass {pp W X p lk cu pv nt mn ps a t st k : Int} {xs : List It} {q : List Int} (hX : 0 < X) (hK : ofK X = 1) (hp : 0 <= p /\ p < 100) (hq : q.length < 10) (hk : k < 9) (hx : xs.length <= 1) :
    ∃ st' y xs', xs'.length <= 1 /\ Goes agI (agN pp 10 W) 11 ((⟨agT 20 lk cu pv nt mn ps p, xs, [1, 3, p, X, 1, a, 0, t], st⟩, q), k) ((⟨agT (if p + 1 < pp then 20 else 40) 0 3 pv 1 1 (p + 1) (p + 1), xs', [1, 3, p + 1, W, 1, p + 1, 0, y], st'⟩, q ++ [ofV X]), k + 1) := by
  have hX0 : X ≠ 0 := by omega
  obtain ⟨s1, e1⟩ := ag20 (pp := pp) (W := W) (p := p) (lk := lk) (cu := cu) (pv := pv) (nt := nt) (mn := mn) (ps := ps) (a := a) (t := t) (st := st) (k := k) (xs := xs) (q := q) hX0
  obtain ⟨s2, e2⟩ := ag21 (pp := pp) (W := W) (p := p) (cu := cu) (pv := pv) (nt := nt) (mn := mn) (ps := ps) (a := a) (t := t) (st := s1) (k := k) (xs := xs) (q := q) hX0 hp
  obtain ⟨s3, e3⟩ := ag22 (pp := pp) (W := W) (p := p + 1) (lk := p) (cu := cu) (pv := pv) (nt := nt) (mn := mn) (ps := p + 1) (a := a) (t := t) (st := s2) (k := k) (xs := xs) (q := q) hX0
  obtain ⟨s4, e4⟩ := ag23 (pp := pp) (W := W) (p := p + 1) (lk := p) (cu := cu) (pv := pv) (ps := p + 1) (a := a) (t := t) (st := s3) (k := k) (xs := []) (q := q) hX0
  obtain ⟨s5, e5⟩ := ag33 (pp := pp) (W := W) (p := p + 1) (lk := 1) (cu := 3) (pv := pv) (nt := 1) (mn := 1) (ps := p + 1) (a := a) (t := t) (st := s4) (k := k) (xs := []) (q := q) hX0
  obtain ⟨s6, e6⟩ := ag34 (pp := pp) (W := W) (p := p + 1) (lk := 3) (pv := pv) (nt := 1) (mn := 1) (ps := p + 1) (a := a) (t := t) (st := s5) (k := k) (xs := []) (q := q) hX
  obtain ⟨s7, e7⟩ := ag35 (pp := pp) (W := W) (p := p + 1) (lk := X) (pv := pv) (nt := 1) (mn := 1) (ps := p + 1) (a := a) (t := t) (st := s6) (k := k) (q := q) (i := ⟨3, X, 0⟩) hX0
  obtain ⟨s8, y, e8⟩ := ag36 (pp := pp) (W := W) (p := p + 1) (lk := 0) (cu := 3) (pv := pv) (nt := 1) (mn := 1) (ps := p + 1) (a := a) (t := t) (st := s7) (k := k) (q := q) hX0 hK hq
  obtain ⟨s9, e9⟩ := ag37 (pp := pp) (W := W) (p := p + 1) (lk := 0) (cu := 3) (pv := pv) (mn := 1) (ps := p + 1) (a := a) (t := t) (st := s8) (k := k) (q := q ++ [ofV X]) (y := y) hX0
  obtain ⟨s10, e10⟩ := ag38 (pp := pp) (W := W) (p := p + 1) (lk := 0) (cu := 3) (pv := pv) (mn := 1) (ps := p + 1) (a := a) (t := y) (st := s9) (k := k) (q := q ++ [ofV X]) (y := y) hX0
  obtain ⟨s11, e11⟩ := ag39 (pp := pp) (W := W) (X := X) (p := p + 1) (lk := 0) (cu := 3) (pv := pv) (mn := 1) (ps := p + 1) (a := p + 1) (t := y) (st := s10) (k := k) (q := q ++ [ofV X]) (y := y) hk
  refine ⟨s11, y, [⟨3, X, y⟩], by simp, ?_⟩
  have hq1 : q.length <= 10 := by omega
  have hq2 : (q ++ [ofV X]).length <= 10 := by simp; omega
  refine .cons (by simp [agT]) ⟨hx, rfl, hq1⟩ ?_
  rw [e1]
  refine .cons (by simp [agT]) ⟨hx, rfl, hq1⟩ ?_
  rw [e2]
  refine .cons (by simp [agT]) ⟨hx, rfl, hq1⟩ ?_
  rw [e3]
  refine .cons (by simp [agT]) ⟨by simp, rfl, hq1⟩ ?_
  rw [e4]
  refine .cons (by simp [agT]) ⟨by simp, rfl, hq1⟩ ?_
  rw [e5]
  refine .cons (by simp [agT]) ⟨by simp, rfl, hq1⟩ ?_
  rw [e6]
  refine .cons (by simp [agT]) ⟨by simp, rfl, hq1⟩ ?_
  rw [List.nil_append, e7]
  refine .cons (by simp [agT]) ⟨by simp, rfl, hq1⟩ ?_
  rw [e8]
  refine .cons (by simp [agT]) ⟨by simp, rfl, hq2⟩ ?_
  rw [e9]
  refine .cons (by simp [agT]) ⟨by simp, rfl, hq2⟩ ?_
  rw [e10]
  refine .cons (by simp [agT]) ⟨by simp, rfl, hq2⟩ ?_
  rw [e11]
  exact .nil _
theorem ag_all {n : Nat} {W : Int} (hn : n <= 5) (hW : 0 < W) (hK : ofK W = 1) : ∀ (d p : Nat), p + d = n -> 0 < d -> ∀ (X lk cu pv nt mn ps a t st : Int) (xs : List It) (q : List Int), 0 < X -> ofK X = 1 -> q.length = p -> xs.length <= 1 →
    ∃ lk' cu' pv' nt' mn' ps' a' t' st' q' xs', q'.length = n /\ Goes agI (agN n 10 W) (11 * d) ((⟨agT 20 lk cu pv nt mn ps p, xs, [1, 3, p, X, 1, a, 0, t], st⟩, q), (p : Int)) ((⟨agT 40 lk' cu' pv' nt' mn' ps' n, xs', [1, 3, n, W, 1, a', 0, t'], st'⟩, q'), (n : Int))
  | 0, _, _, h0 => absurd h0 (by decide)
  | d + 1, p, hd, _ => by
    intro X lk cu pv nt mn ps a t st xs q hX hXK hq hx
    obtain ⟨st', y, xs', hx', g⟩ := ag_pass (pp := n) (W := W) (X := X) (p := (p : Int)) (lk := lk) (cu := cu) (pv := pv) (nt := nt) (mn := mn) (ps := ps) (a := a) (t := t) (st := st) (k := (p : Int)) (xs := xs) (q := q) hX hXK (by omega) (by omega) (by omega) hx
    cases d with
    | zero =>
      obtain rfl : n = p + 1 := by omega
      rw [if_neg (by omega)] at g
      exact ⟨_, _, _, _, _, _, _, _, _, q ++ [ofV X], xs', by simp [hq], g⟩
    | succ d =>
      rw [if_pos (by omega)] at g
      obtain ⟨lk', cu', pv', nt', mn', ps', a', t', st2, q', xs2, hq', g2⟩ := ag_all (n := n) (W := W) hn hW hK (d + 1) (p + 1) (by omega) (by omega) (X := W) (lk := 0) (cu := 3) (pv := pv) (nt := 1) (mn := 1) (ps := (p : Int) + 1) (a := (p : Int) + 1) (t := y) (st := st') (xs := xs') (q := q ++ [ofV X]) hW hK (by simp [hq]) hx'
      refine ⟨lk', cu', pv', nt', mn', ps', a', t', st2, q', xs2, hq', ?_⟩
      have := g.trans g2
      rwa [show 11 + 11 * (d + 1) = 11 * (d + 1 + 1) by omega] at this
end Go.Cm
namespace Go.Proofs.Tryz
open Go.L
set_option maxRecDepth 100000
theorem known16_n (n : Nat) (h : Heap) : call (n + 100) 35 [] h = some (.ret [.bool true], h) := by kernel_rfl
end Go.Proofs.Tryz
set_option linter.unusedVariables false
set_option linter.unusedSimpArgs false
namespace Go.Proofs.Tryz
open Go.L Go.Rp Go.Sk Go.Cm
set_option maxRecDepth 100000
def soC (o s c m : Nat) : ObjC (List Int) o where
  P h X q := ∃ qb, X = soB o s qb /\ StO h o s c qb m q
  run os q := stkRun m os q
  K := 0
  rl os q := stkRun_len m os q
  lt := by rintro h X q ⟨qb, rfl, A⟩; exact A.lt
  keep := by rintro h h' X q ⟨qb, rfl, A⟩ hk; exact ⟨qb, rfl, A.keep hk⟩
  dof := by
    rintro n h X q os ⟨qb, rfl, A⟩ _ hos hn
    obtain ⟨h', qb', T, c1, R, A', t1, t2, F⟩ := so_do n A os false hos (by omega)
    exact ⟨h', _, T, c1, R, ⟨qb', rfl, A'⟩, t1, t2, F⟩
structure SvR (h : Heap) (m rb o s c cap : Nat) (sz : Int) (x : Ps × List Int) (bat : V) (qb : Option Nat) : Prop where
  mem : MemAt h m rb sz x.1.l x.1.st
  bt : BtR h m rb bat x.1.xs
  obj : StO h o s c qb cap x.2
  nm : m ∉ soB o s qb
  nr : rb ∉ soB o s qb
def dnV (cap : Nat) (x : Ps × List Int) : V := if x.1.T.pc = 36 then .sl 3 ((tellK x.1.xs (stkRun cap (x.1.xs.map opO) x.2).1 x.1.xs.length).map It.c) false else .sl 0 [] true
theorem sv_step (n : Nat) {h : Heap} {m rb o s c cap : Nat} {sz pp : Int} {x : Ps × List Int} {bat : V} {qb : Option Nat} (A : SvR h m rb o s c cap sz x bat qb) (hS : 20 <= x.1.T.pc /\ x.1.T.pc <= 39) (hx : x.1.xs.length <= 100) (hl : x.1.l.length < lim) (hn : 200 <= n) :
    ∃ h' bat' qb', call (n + 10) 38 [.ptr m 0, .ptr o 0, .int .i64 pp, .agg (x.1.T.v bat)] h = some (.ret [.agg ((nxS pp cap x).1.T.v bat'), dnV cap x], h') /\ SvR h' m rb o s c cap sz (nxS pp cap x) bat' qb' /\ h.length <= h'.length /\ ∀ i, i < h.length -> i ≠ m -> i ≠ rb -> i ∉ soB o s qb -> h'[i]? = h[i]? := by
  obtain ⟨⟨T, xs, l, st⟩, q⟩ := x
  obtain ⟨M, B, O, nm, nr⟩ := A
  simp only at hS hx hl M B O
  have hml := M.lt
  have hlim : 1000 < lim := by unfold lim; omega
  by_cases h36 : T.pc = 36
  · obtain ⟨h', bat', X', c1, R, ⟨qb', rfl, O'⟩, hX⟩ := step_do n (pp := pp) h36 B (by omega) (soC o s c cap) (so := q) ⟨qb, rfl, O⟩ nm nr M (by show 2 * xs.length + 0 <= n; omega)
    refine ⟨h', bat', qb', ?_, ⟨?_, ?_, ?_, fun e => ?_, fun e => ?_⟩, R.fr.len, fun i h1 h2 h3 h4 => R.fr.old i h1 (by simp [h2, h3, h4])⟩
    · rw [c1]
      unfold nxS dnV
      simp only
      rw [if_pos h36, if_pos h36]
      rfl
    · unfold nxS
      simp only
      rw [if_pos h36]
      exact R.mem
    · unfold nxS
      simp only
      rw [if_pos h36]
      exact R.bt
    · unfold nxS
      simp only
      rw [if_pos h36]
      exact O'
    · rcases hX _ e with e1 | e1
      · exact nm e1
      · omega
    · rcases hX _ e with e1 | e1
      · exact nr e1
      · omega
  · obtain ⟨h', bat', c1, R⟩ := step_any (n + 4) (o := o) (pp := pp) hS h36 B (by omega) hl M
    have e : nxS pp cap (⟨T, xs, l, st⟩, q) = (pStep pp ⟨T, xs, l, st⟩, q) := by
      unfold nxS
      simp only
      rw [if_neg h36]
    rw [e]
    refine ⟨h', bat', qb, ?_, ⟨R.mem, R.bt, O.keep fun x hx => R.fr.old x (O.lt x hx) ?_, nm, nr⟩, R.fr.len, fun i h1 h2 h3 _ => R.fr.old i h1 (by simp [h2, h3])⟩
    · rw [show n + 10 = n + 4 + 6 from rfl, c1]
      unfold dnV
      simp only
      rw [if_neg h36]
    · simp only [List.mem_cons, List.not_mem_nil, or_false]
      rintro (rfl | rfl)
      · exact nm hx
      · exact nr hx
theorem ref_op (n : Nat) (v : Int) (h0 : -2147483648 <= v /\ v < 2147483648) (h : Heap) : call (n + 1) 37 [.agg [.int .u8 1, .int .i32 v]] h = some (.ret [.int .i64 (wdO v)], h) := by
  rw [r1Op_eq]
  unfold r1Op
  have e : IntKind.i64.wrap ((IntKind.i64.wrap ((IntKind.i64.wrap (256 * (IntKind.i64.wrap ((IntKind.i64.wrap v) + 2147483648)))) + (IntKind.i64.wrap 1))) + 1) = wdO v := by
    unfold wdO
    rw [w64 (n := v) (by omega) (by omega), w64 (n := v + 2147483648) (by omega) (by omega), w64 (n := 256 * (v + 2147483648)) (by omega) (by omega), show IntKind.i64.wrap 1 = 1 from rfl, w64 (n := 256 * (v + 2147483648) + 1) (by omega) (by omega), w64 (by omega) (by omega)]
    omega
  rw [e]
theorem cut13 (T : Th) (bv : V) : ((T.v bv).drop 0 |>.take 13) = T.v bv := rfl
theorem set13 (T : Th) (bv : V) (l : List V) (hl : l.length = 13) : setR l 0 (T.v bv) = T.v bv := by
  match l, hl with
  | [_, _, _, _, _, _, _, _, _, _, _, _, _], _ => rfl
theorem len13 (T : Th) (bv : V) : (T.v bv).length = 13 := rfl
theorem ag_round (n : Nat) {x0 x2 pp : Int} (hpp : IntKind.i64.wrap (1 + (IntKind.i64.wrap (Int.tmod x0 5))) = pp) (hx2 : -2147483648 <= x2 /\ x2 < 2147483648) {h : Heap} {m rb o s c : Nat} {sz : Int} {x : Ps × List Int} {bat b4 : V} {r0 : List V} {qb : Option Nat} {a k : Nat} (A : SvR h m rb o s c 10 sz x bat qb) (hS : 20 <= x.1.T.pc /\ x.1.T.pc <= 39) (hI : agI x) (hk : k < 400) (ha : a < 100000) (hn : 200 <= n) :
    ∃ (h' : Heap) (bat' : V) (qb' : Option Nat) (a' : Nat), (agN pp 10 (wdO x2) (x, (a : Int))).2 = (a' : Int) /\ SvR h' m rb o s c 10 sz (agN pp 10 (wdO x2) (x, (a : Int))).1 bat' qb' /\ h.length <= h'.length ∧
      ∀ next, lawAg_l18 (n + 10) x0 x2 (.ptr m 0) (.ptr o 0) [.agg r0, .agg (x.1.T.v bat), .int .i64 (a : Int), .int .i64 (k : Int), b4] h next = next [.agg r0, .agg ((agN pp 10 (wdO x2) (x, (a : Int))).1.1.T.v bat'), .int .i64 (a' : Int), .int .i64 ((k + 1 : Nat) : Int), .bool false] h' := by
  have hlim : 1000 < lim := by unfold lim; omega
  have hl8 := hI.2.1
  obtain ⟨h1, bat1, qb1, c1, A1, L1, F1⟩ := sv_step n (pp := pp) A hS (by have := hI.1; omega) (by omega) hn
  obtain ⟨h2, e2, c2, M2, F2⟩ := ce_load (n + 8) A1.mem 3
  generalize hy : nxS pp 10 x = y at c1 A1 c2 M2
  have hml := A1.mem.lt
  have O2 : StO h2 o s c qb1 10 y.2 := A1.obj.keep fun i hi => F2.old i (A1.obj.lt i hi) (by simp; rintro rfl; exact A1.nm hi)
  have B2 : BtR h2 m rb bat1 y.1.xs := A1.bt.fr (F2.mono (by simp))
  have cs := serves_call (n + 9) x.1.T bat h
  rw [show decide (20 <= x.1.T.pc /\ x.1.T.pc <= 39) = true from decide_eq_true hS] at cs
  have hN : agN pp 10 (wdO x2) (x, (a : Int)) = agS (wdO x2) (y, (a : Int)) := by unfold agN; rw [hy]
  rw [hN]
  by_cases hz : ldV y.1.l 3 = 0 /\ a < 9
  · obtain ⟨hz, h9⟩ := hz
    have e3 : agS (wdO x2) (y, (a : Int)) = (({ y.1 with l := stL y.1.l 3 (wdO x2), st := ldS y.1.l 3 (ldS y.1.l 3 y.1.st) }, y.2), (a : Int) + 1) := by
      unfold agS
      rw [if_pos ⟨hz, by show (a : Int) < 9; omega⟩]
    have c3 := ref_op (n + 9) x2 hx2 h2
    obtain ⟨h4, e4, c4, M4, F4⟩ := ce_store (n + 8) M2 3 (wdO x2)
    rw [e3]
    refine ⟨h4, bat1, qb1, a + 1, by simp, ⟨M4, B2.fr F4, O2.keep fun i hi => F4.old i (O2.lt i hi) ?_, A1.nm, A1.nr⟩, by have := F2.len; have := F4.len; omega, fun next => ?_⟩
    · simp only [List.mem_cons, List.not_mem_nil, or_false]
      rintro (rfl | rfl)
      · exact A1.nm hi
      · exact A1.nr hi
    · unfold lawAg_l18
      simp only [gv, List.getD_cons_zero, List.getD_cons_succ, lcs_agg]
      rw [bop_i64_lss, bd_some, bv_bool, if_pos (by simp; omega), cut13, cs, cl_ret, one1_one, bv_bool, if_pos rfl, hpp, c1, cl_ret]
      simp only [List.getElem?_cons_zero, List.getElem?_cons_succ, bd_some]
      rw [ca, set13 _ _ _ (by rfl), cut13, set13 _ _ _ (len13 _ _), if_pos (len13 _ _), if_pos (Nat.le_of_eq (len13 _ _)), if_pos (len13 _ _), if_pos (Nat.le_of_eq (len13 _ _)), c2, cl_ret]
      simp only [List.getElem?_cons_zero, List.getElem?_cons_succ, bd_some]
      rw [bop_c64_eql, bd_some, bv_bool, if_pos (by simpa using hz), bop_i64_lss, bd_some, bv_bool, if_pos (by simp; omega), c3, cl_ret, one1_one, c4, cl_ret, one1_one, bop_i64_add, bd_some, bop_i64_add, bd_some, step64 (by omega), step64 (by omega)]
  · have e3 : agS (wdO x2) (y, (a : Int)) = (({ y.1 with st := ldS y.1.l 3 y.1.st }, y.2), (a : Int)) := by
      unfold agS
      rw [if_neg fun e => hz ⟨e.1, by have : (a : Int) < 9 := e.2; omega⟩]
    rw [e3]
    refine ⟨h2, bat1, qb1, a, by simp, ⟨M2, B2, O2, A1.nm, A1.nr⟩, by have := F2.len; omega, fun next => ?_⟩
    unfold lawAg_l18
    simp only [gv, List.getD_cons_zero, List.getD_cons_succ, lcs_agg]
    rw [bop_i64_lss, bd_some, bv_bool, if_pos (by simp; omega), cut13, cs, cl_ret, one1_one, bv_bool, if_pos rfl, hpp, c1, cl_ret]
    simp only [List.getElem?_cons_zero, List.getElem?_cons_succ, bd_some]
    rw [ca, set13 _ _ _ (by rfl), cut13, set13 _ _ _ (len13 _ _), if_pos (len13 _ _), if_pos (Nat.le_of_eq (len13 _ _)), if_pos (len13 _ _), if_pos (Nat.le_of_eq (len13 _ _)), c2, cl_ret]
    simp only [List.getElem?_cons_zero, List.getElem?_cons_succ, bd_some]
    rw [bop_c64_eql, bd_some, bv_bool]
    by_cases h0 : ldV y.1.l 3 = 0
    · rw [if_pos (by simpa using h0), bop_i64_lss, bd_some, bv_bool, if_neg (by simp; omega), bop_i64_add, bd_some, step64 (by omega)]
    · rw [if_neg (by simpa using h0), bop_i64_add, bd_some, step64 (by omega)]
theorem agN_k {pp : Int} {m : Nat} {W : Int} (x : (Ps × List Int) × Int) : (agN pp m W x).2 = x.2 \/ (agN pp m W x).2 = x.2 + 1 := by
  unfold agN agS
  split
  · exact .inr rfl
  · exact .inl rfl
theorem ag_loop (n : Nat) {x0 x2 pp : Int} (hpp : IntKind.i64.wrap (1 + (IntKind.i64.wrap (Int.tmod x0 5))) = pp) (hx2 : -2147483648 <= x2 /\ x2 < 2147483648) {m rb o s c : Nat} {sz : Int} {r0 : List V} (hn : 200 <= n) {j : Nat} {x y : (Ps × List Int) × Int} (g : Goes agI (agN pp 10 (wdO x2)) j x y) :
    ∀ (M k : Nat) (h : Heap) (bat b4 : V) (qb : Option Nat) (a : Nat), x.2 = (a : Int) -> a + j < 100000 -> k + j <= 400 -> SvR h m rb o s c 10 sz x.1 bat qb →
      ∃ h' bat' qb' b4', SvR h' m rb o s c 10 sz y.1 bat' qb' /\ loopx (M + j) (lawAg_l18 (n + 10) x0 x2 (.ptr m 0) (.ptr o 0)) [.agg r0, .agg (x.1.1.T.v bat), .int .i64 x.2, .int .i64 (k : Int), b4] h = loopx M (lawAg_l18 (n + 10) x0 x2 (.ptr m 0) (.ptr o 0)) [.agg r0, .agg (y.1.1.T.v bat'), .int .i64 y.2, .int .i64 ((k + j : Nat) : Int), b4'] h' := by
  induction g with
  | nil x => intro M k h bat b4 qb a ha _ _ A; exact ⟨h, bat, qb, b4, A, rfl⟩
  | @cons j x y hS hI _ ih =>
    intro M k h bat b4 qb a ha haj hk A
    obtain ⟨x, xa⟩ := x
    simp only at ha hS hI A
    subst ha
    obtain ⟨h1, bat1, qb1, a1, e1, A1, L1, c1⟩ := ag_round n hpp hx2 (r0 := r0) (b4 := b4) A hS hI (k := k) (a := a) (by omega) (by omega) hn
    have ha1 : a1 = a \/ a1 = a + 1 := by
      rcases agN_k (pp := pp) (m := 10) (W := wdO x2) (x, (a : Int)) with e | e <;> rw [e1] at e <;> simp only at e <;> omega
    obtain ⟨h', bat', qb', b4', A', e⟩ := ih M (k + 1) h1 bat1 (.bool false) qb1 a1 e1 (by omega) (by omega) A1
    refine ⟨h', bat', qb', b4', A', ?_⟩
    rw [show M + (j + 1) = (M + j) + 1 from rfl, loopx_succ, c1, <- e1, e, show k + 1 + j = k + (j + 1) by omega]
theorem again_law16 (x0 x1 x2 : Int) (h0 : 0 <= x0 /\ x0 < 256) (h1 : -2147483648 <= x1 /\ x1 < 2147483648) (h2 : -2147483648 <= x2 /\ x2 < 2147483648) :
    call 1001 12 [.int .u8 x0, .int .i32 x1, .int .i32 x2] [] = some (.ret [.bool true], []) := by
  refine (lawAg_eq 1000 x0 x1 x2 []).trans ?_
  have key : ∃ H, lawAg 1000 x0 x1 x2 = some (.ret [.bool true], H) := by
    obtain ⟨p, hp⟩ : ∃ p : Nat, (p : Int) = 1 + x0 % 5 := ⟨(1 + x0 % 5).toNat, by omega⟩
    have hpp : IntKind.i64.wrap (1 + (IntKind.i64.wrap (Int.tmod x0 5))) = (p : Int) := by
      rw [Int.tmod_eq_emod_of_nonneg h0.1, w64 (n := x0 % 5) (by omega) (by omega), w64 (by omega) (by omega), hp]
    have c1 := ref_op 999 x1 h1 []
    obtain ⟨g1, m, rb, b, r, st, c2, M1, B1, F1, hm, hrb, hb⟩ := mem_call 997 [1, 3, 0, wdO x1, 1, 0, 0, 0] false (by simp) (by simp) []
    obtain ⟨g2, o, s, c, c3, O2, L2, F2, ho, hs⟩ := so_new 997 g1 10
    have M2 : MemAt g2 m rb 8 [1, 3, 0, wdO x1, 1, 0, 0, 0] st := M1.keep (F2 m M1.lt.1) (F2 rb M1.lt.2)
    have A0 : SvR g2 m rb o s c 10 8 (⟨agT 20 0 0 0 0 0 0 0, [], [1, 3, 0, wdO x1, 1, 0, 0, 0], st⟩, []) (.sl 0 [] true) none :=
      ⟨M2, ⟨none, rfl, rfl⟩, O2, by have := M1.lt; simp [soB]; omega, by have := M1.lt; simp [soB]; omega⟩
    obtain ⟨lk, cu, pv, nt, mn, ps, a, t, st', q', xs', hq, g⟩ := ag_all (n := p) (W := wdO x2) (by omega) (wdO_pos h2) (wdO_k h2) p 0 (by omega) (by omega) (wdO x1) 0 0 0 0 0 0 0 0 st [] [] (wdO_pos h1) (wdO_k h1) rfl (by simp)
    obtain ⟨h3, bat, qb, b4, A3, e3⟩ := ag_loop 990 hpp h2 (m := m) (rb := rb) (o := o) (s := s) (c := c) (sz := 8) (r0 := r) (by decide) g (1000 - 11 * p) 0 g2 (.sl 0 [] true) (.bool false) none 0 rfl (by omega) (by omega) A0
    obtain ⟨h4, e4, c4, M4, F4⟩ := ce_load 998 A3.mem 2
    have O4 : StO h4 o s c qb 10 q' := A3.obj.keep fun i hi => F4.old i (A3.obj.lt i hi) (by simp; rintro rfl; exact A3.nm hi)
    obtain ⟨h5, rr, c5, R5, L5, F5⟩ := so_items 996 O4
    have c6 := known16_n 900 h4
    have cs := serves_call 999 (agT 40 lk cu pv nt mn ps p) bat h3
    rw [show decide (20 <= (agT 40 lk cu pv nt mn ps p).pc /\ (agT 40 lk cu pv nt mn ps p).pc <= 39) = false from rfl] at cs
    refine ⟨h5, ?_⟩
    obtain ⟨r1, r2, r3, hr⟩ : ∃ a b c, r = [a, b, c] := ⟨_, _, _, B1.1⟩
    subst hr
    unfold lawAg
    rw [c1, cl_ret, one1_one, show bslV prog 54 8 [(0, (V.int .i64 1)), (1, (V.int .i64 3)), (2, (V.int .i64 0)), (3, (V.int .i64 (wdO x1))), (4, (V.int .i64 1)), (5, (V.int .i64 0)), (6, (V.int .i64 0)), (7, (V.int .i64 0))] = some (1, [1, 3, 0, wdO x1, 1, 0, 0, 0].map cel) by kernel_rfl, bd_some]
    simp only
    rw [c2, cl_ret]
    simp only [List.getElem?_cons_zero, List.getElem?_cons_succ, bd_some]
    rw [ca, setR3, if_pos (by rfl), if_pos (by exact Nat.le_refl 3), c3, cl_ret, one1_one, bop_mem_nil, bd_some, bv_bool, if_neg (by decide), bop_obj_nil, bd_some, bv_bool, if_neg (by decide)]
    rw [show 1000 - 11 * p + 11 * p = 1000 by omega] at e3
    refine e3.trans ?_
    rw [show 1000 - 11 * p = (999 - 11 * p) + 1 by omega, loopx_succ]
    generalize (loopx (999 - 11 * p) (lawAg_l18 (990 + 10) x0 x2 (.ptr m 0) (.ptr o 0))) = nx
    unfold lawAg_l18
    simp only [gv, List.getD_cons_zero, List.getD_cons_succ, lcs_agg]
    rw [bop_i64_lss, bd_some, bv_bool, if_pos (by simp; omega), cut13, cs, cl_ret, one1_one, bv_bool, if_neg (by decide), c4, cl_ret]
    simp only [List.getElem?_cons_zero, List.getElem?_cons_succ, bd_some]
    rw [c6, cl_ret, one1_one, bv_bool, if_pos rfl, show ((agT 40 lk cu pv nt mn ps p).v bat)[1]? = some (.int .i64 40) from rfl, bd_some, bop_i64_eql, bd_some, bv_bool, if_pos (by decide), c5, cl_ret, one1_one]
    obtain ⟨sz5, e5⟩ := R5.len
    rw [e5, bd_some]
    simp only [List.length_map]
    rw [hpp, hq, if_pos (by simp), show ldV [1, 3, (p : Int), wdO x2, 1, a, 0, t] 2 = (p : Int) from rfl, bop_c64_eql, bd_some, bv_bool, if_pos (by simp), show ((agT 40 lk cu pv nt mn ps p).v bat)[11]? = some (.int .i64 p) from rfl, bd_some, bop_i64_eql, bd_some]
    simp
  obtain ⟨H, key⟩ := key
  rw [key]
  exact gcw_ret (by rfl) (by rfl)
end Go.Proofs.Tryz
