import Derived.Test.YtodgpfffnnlbhaaLset
import Derived.Test.YtodgpfffnnlbhaaLwd
/-! coin, skip: PRINTED BY A PROGRAM OF MINE (lift6.lean) -/
set_option linter.unusedVariables false
namespace Go.Proofs.Try
open Go.L
set_option maxRecDepth 100000
noncomputable def coinNew (n : Nat) (h : Heap) : Option (Res × Heap) :=
 some (Res.ret [(V.ptr (h).length 0)], (h ++ [(HB.box 1 [(V.sl 0 [] true)])]))
theorem coinNew_eq (n : Nat) (h : Heap) : call (n + 1) 16 [] h = coinNew n h := by kernel_rfl
noncomputable def coinLeft (n : Nat) (c : Nat) (h : Heap) : Option (Res × Heap) :=
 (bd (bopH prog h .eql 28 (V.ptr c 0) (V.val (.pointer none))) fun v0 =>
 (bv v0 fun b1 => if b1 then
 some (Res.ret [(V.int .i64 0)], h)
 else
 (bd3 (cellsP h (V.ptr c 0)) fun cs3 m2 o4 => if (o4 + 1 ≤ m2 ∧ 0 < 1) then
 (bd (cs3)[o4]? fun v5 =>
 (bd (slcH h v5) fun p6 =>
 some (Res.ret [(V.int .i64 ((p6.2).length : Int))], h))) else none)))
theorem coinLeft_eq (n : Nat) (c : Nat) (h : Heap) : call (n + 1) 20 [(V.ptr c 0)] h = coinLeft n c h := by kernel_rfl
noncomputable def coinToss (n : Nat) (c : Nat) (h : Heap) : Option (Res × Heap) :=
 (cl (call n 20 [(V.ptr c 0)] h) (fun r0 h1 =>
 (one1 r0 fun v3 =>
 (bd (bop prog .eql 3 v3 (V.int .i64 0)) fun v4 =>
 (bv v4 fun b5 => if b5 then
 some (Res.ret [(V.bool false)], h1)
 else
 (bd3 (cellsP h1 (V.ptr c 0)) fun cs7 m6 o8 => if (o8 + 1 ≤ m6 ∧ 0 < 1) then
 (bd (cs7)[o8]? fun v9 =>
 (bd (idxP 1 0 v9) fun p10 =>
 (bd3 (cellsP h1 p10) fun cs12 m11 o13 => if (o13 + 1 ≤ m11 ∧ 0 < 1) then
 (bd (cs12)[o13]? fun v14 =>
 (bd3 (cellsP h1 (V.ptr c 0)) fun cs16 m15 o17 => if (o17 + 1 ≤ m15 ∧ 0 < 1) then
 (bd (cs16)[o17]? fun v18 =>
 (bd (lenP v18) fun n19 =>
 (bd (sliceP 1 1 n19 (none : Option Nat) true v18) fun v20 =>
 (if ((V.cells v20)).length = 1 then
 (bd2 (writeB h1 (V.cells v20) (V.ptr c 0)) fun b21 x22 =>
 some (Res.ret [v14], ((h1).set b21 x22))) else none)))) else none)) else none))) else none))))) (fun z2 h1 => some (Res.pan z2, h1)))
theorem coinToss_eq (n : Nat) (c : Nat) (h : Heap) : call (n + 1) 39 [(V.ptr c 0)] h = coinToss n c h := by kernel_rfl
noncomputable def coinHeight_l0 (n : Nat) (c : Nat) (st1 : List V) (hh2 : Heap) (next3 : List V → Heap → Option (Res × Heap)) : Option (Res × Heap) :=
 (bd (bop prog .eql 3 (gv st1 0) (V.int .i64 8)) fun v4 =>
 (bv v4 fun b5 => if b5 then
 some (Res.ret [(gv st1 0)], hh2)
 else
 (cl (call n 39 [(V.ptr c 0)] hh2) (fun r6 h7 =>
 (one1 r6 fun v9 =>
 (bd (uop .not v9) fun v10 =>
 (bv v10 fun b11 => if b11 then
 some (Res.ret [(gv st1 0)], h7)
 else
 (bd (bop prog .add 3 (gv st1 0) (V.int .i64 1)) fun v12 =>
 (next3 [v12] h7)))))) (fun z8 h7 => some (Res.pan z8, h7)))))
noncomputable def coinHeight (n : Nat) (c : Nat) (h : Heap) : Option (Res × Heap) :=
 (loopx n (coinHeight_l0 n c) [(V.int .i64 1)] h)
theorem coinHeight_eq (n : Nat) (c : Nat) (h : Heap) : call (n + 1) 19 [(V.ptr c 0)] h = coinHeight n c h := by kernel_rfl
noncomputable def coinFeed_l15 (n : Nat) (c : Nat) (st4 : List V) (next6 : List V → Heap → Option (Res × Heap)) (v14 : V) (st16 : List V) (hh17 : Heap) (next18 : List V → Heap → Option (Res × Heap)) : Option (Res × Heap) :=
 (bd (bop prog .lss 3 (gv st16 0) (V.int .i64 8)) fun v19 =>
 (bv v19 fun b20 => if b20 then
 (bd3 (cellsP hh17 (V.ptr c 0)) fun cs22 m21 o23 => if (o23 + 1 ≤ m21 ∧ 0 < 1) then
 (bd (cs22)[o23]? fun v24 =>
 (bd (slcH hh17 v24) fun p25 =>
 (if (((p25.2).length : Int) == 20000) then
 some (Res.ret [], hh17)
 else
 (bd3 (cellsP hh17 (V.ptr c 0)) fun cs27 m26 o28 => if (o28 + 1 ≤ m26 ∧ 0 < 1) then
 (bd (cs27)[o28]? fun v29 =>
 (bd (bop prog .shr 5 v14 (gv st16 0)) fun v30 =>
 (bd (bop prog .and 5 v30 (V.int .u8 1)) fun v31 =>
 (bd (bop prog .eql 5 v31 (V.int .u8 1)) fun v32 =>
 (bd (bslV prog 74 1 [(0, v32)]) fun p33 =>
 (bd2 (appP 4 1 hh17 p33.2 v29) fun v34 h35 =>
 (if ((V.cells v34)).length = 1 then
 (bd2 (writeB h35 (V.cells v34) (V.ptr c 0)) fun b36 x37 =>
 (bd (bop prog .add 3 (gv st16 0) (V.int .i64 1)) fun v38 =>
 (next18 [v38] ((h35).set b36 x37)))) else none))))))) else none)))) else none)
 else
 (bd (bop prog .add 3 (gv st4 0) (V.int .i64 1)) fun v39 =>
 (next6 [v39] hh17))))
noncomputable def coinFeed_l3 (n : Nat) (c : Nat) (l : V) (p2 : Nat × List (List V)) (st4 : List V) (hh5 : Heap) (next6 : List V → Heap → Option (Res × Heap)) : Option (Res × Heap) :=
 (bd (bop prog .lss 3 (gv st4 0) (V.int .i64 ((p2.2).length : Int))) fun v7 =>
 (bv v7 fun b8 => if b8 then
 (bdS (nv (gv st4 0)) fun n9 =>
 (bd (idxP 1 n9 l) fun p10 =>
 (bd3 (cellsP hh5 p10) fun cs12 m11 o13 => if (o13 + 1 ≤ m11 ∧ 0 < 1) then
 (bd (cs12)[o13]? fun v14 =>
 (loopx n (coinFeed_l15 n c st4 next6 v14) [(V.int .i64 0)] hh5)) else none)))
 else
 some (Res.ret [], hh5)))
noncomputable def coinFeed (n : Nat) (c : Nat) (l : V) (h : Heap) : Option (Res × Heap) :=
 (bd (bopH prog h .eql 28 (V.ptr c 0) (V.val (.pointer none))) fun v0 =>
 (bv v0 fun b1 => if b1 then
 some (Res.ret [], h)
 else
 (bd (slcH h l) fun p2 =>
 (loopx n (coinFeed_l3 n c l p2) [(V.int .i64 0)] h))))
theorem coinFeed_eq (n : Nat) (c : Nat) (l : V) (h : Heap) : call (n + 1) 17 [(V.ptr c 0), l] h = coinFeed n c l h := by kernel_rfl
noncomputable def skipNew (n : Nat) (x0 : Int) (h : Heap) : Option (Res × Heap) :=
 some (Res.ret [(V.ptr (h).length 0)], (h ++ [(HB.box 12 [(V.int .i32 0), (V.int .i64 0), (V.val (.pointer none)), (V.val (.pointer none)), (V.val (.pointer none)), (V.val (.pointer none)), (V.val (.pointer none)), (V.val (.pointer none)), (V.val (.pointer none)), (V.val (.pointer none)), (V.int .i64 0), (V.int .i64 (if 0 < (if 1000 < x0 then 1000 else x0) then (if 1000 < x0 then 1000 else x0) else 0))])]))
theorem skipNew_eq (n : Nat) (x0 : Int) (h : Heap) : call (n + 1) 15 [(V.int .i64 x0)] h = skipNew n x0 h := by kernel_rfl
noncomputable def skipMost (n : Nat) (s : Nat) (h : Heap) : Option (Res × Heap) :=
 (bd (bopH prog h .eql 26 (V.ptr s 0) (V.val (.pointer none))) fun v0 =>
 (bv v0 fun b1 => if b1 then
 some (Res.ret [(V.int .i64 0)], h)
 else
 (bd3 (cellsP h (V.ptr s 11)) fun cs3 m2 o4 => if (o4 + 1 ≤ m2 ∧ 0 < 1) then
 (bd (cs3)[o4]? fun v5 =>
 some (Res.ret [v5], h)) else none)))
theorem skipMost_eq (n : Nat) (s : Nat) (h : Heap) : call (n + 1) 35 [(V.ptr s 0)] h = skipMost n s h := by kernel_rfl
noncomputable def skipLen (n : Nat) (s : Nat) (h : Heap) : Option (Res × Heap) :=
 (bd (bopH prog h .eql 26 (V.ptr s 0) (V.val (.pointer none))) fun v0 =>
 (bv v0 fun b1 => if b1 then
 some (Res.ret [(V.int .i64 0)], h)
 else
 (bd3 (cellsP h (V.ptr s 10)) fun cs3 m2 o4 => if (o4 + 1 ≤ m2 ∧ 0 < 1) then
 (bd (cs3)[o4]? fun v5 =>
 some (Res.ret [v5], h)) else none)))
theorem skipLen_eq (n : Nat) (s : Nat) (h : Heap) : call (n + 1) 36 [(V.ptr s 0)] h = skipLen n s h := by kernel_rfl
noncomputable def skipBegin_l0 (n : Nat) (s : Nat) (st1 : List V) (hh2 : Heap) (next3 : List V → Heap → Option (Res × Heap)) : Option (Res × Heap) :=
 (bd (bop prog .lss 3 (gv st1 2) (V.int .i64 8)) fun v4 =>
 (bv v4 fun b5 => if b5 then
 (bd (nv (gv st1 2)) fun n6 =>
 (if (n6 < 8) then
 (if (0 = 0 ∧ (n6 * 1) + 1 ≤ 8) then
 (bd (bop prog .add 3 (gv st1 2) (V.int .i64 1)) fun v7 =>
 (next3 [(V.agg (lcs (gv st1 0))), (V.agg (setR (lcs (gv st1 1)) (n6 * 1) [(V.ptr s 0)])), v7] hh2)) else none) else none))
 else
 (if ((((lcs (gv st1 1))).drop 0 |>.take 8)).length = 8 then
 (if (((((lcs (gv st1 1))).drop 0 |>.take 8)).length ≤ 8) then
 some (Res.ret [(V.agg (((setR (lcs (gv st1 0)) 0 (((lcs (gv st1 1))).drop 0 |>.take 8))).drop 0 |>.take 8))], hh2) else none) else none)))
noncomputable def skipBegin (n : Nat) (s : Nat) (h : Heap) : Option (Res × Heap) :=
 (loopx n (skipBegin_l0 n s) [(V.agg [(V.val (.pointer none)), (V.val (.pointer none)), (V.val (.pointer none)), (V.val (.pointer none)), (V.val (.pointer none)), (V.val (.pointer none)), (V.val (.pointer none)), (V.val (.pointer none))]), (V.agg [(V.val (.pointer none)), (V.val (.pointer none)), (V.val (.pointer none)), (V.val (.pointer none)), (V.val (.pointer none)), (V.val (.pointer none)), (V.val (.pointer none)), (V.val (.pointer none))]), (V.int .i64 0)] h)
theorem skipBegin_eq (n : Nat) (s : Nat) (h : Heap) : call (n + 1) 41 [(V.ptr s 0)] h = skipBegin n s h := by kernel_rfl
noncomputable def further (n : Nat) (t : Nat) (o : Nat) (h : Heap) : Option (Res × Heap) :=
 (bd (bopH prog h .eql 68 (V.ptr t 0) (V.ptr o 0)) fun v0 =>
 (bv v0 fun b1 => if b1 then
 some (Res.ret [(V.bool false)], h)
 else
 (bd3 (cellsP h (V.ptr t 1)) fun cs3 m2 o4 => if (o4 + 1 ≤ m2 ∧ 0 < 1) then
 (bd (cs3)[o4]? fun v5 =>
 (bd (bop prog .eql 3 v5 (V.int .i64 0)) fun v6 =>
 (bv v6 fun b7 => if b7 then
 some (Res.ret [(V.bool false)], h)
 else
 (bd3 (cellsP h (V.ptr o 1)) fun cs9 m8 o10 => if (o10 + 1 ≤ m8 ∧ 0 < 1) then
 (bd (cs9)[o10]? fun v11 =>
 (bd (bop prog .eql 3 v11 (V.int .i64 0)) fun v12 =>
 (bv v12 fun b13 => if b13 then
 some (Res.ret [(V.bool true)], h)
 else
 (bd3 (cellsP h (V.ptr t 0)) fun cs15 m14 o16 => if (o16 + 1 ≤ m14 ∧ 0 < 1) then
 (bd (cs15)[o16]? fun v17 =>
 (bd3 (cellsP h (V.ptr o 0)) fun cs19 m18 o20 => if (o20 + 1 ≤ m18 ∧ 0 < 1) then
 (bd (cs19)[o20]? fun v21 =>
 (bd (bop prog .geq 21 v17 v21) fun v22 =>
 some (Res.ret [v22], h))) else none)) else none)))) else none)))) else none)))
theorem further_eq (n : Nat) (t : Nat) (o : Nat) (h : Heap) : call (n + 1) 65 [(V.ptr t 0), (V.ptr o 0)] h = further n t o h := by kernel_rfl
noncomputable def tall (n : Nat) (x0 : Int) (x1 : Int) (h : Heap) : Option (Res × Heap) :=
 some (Res.ret [(V.ptr (h).length 0)], (h ++ [(HB.box 10 [(V.int .i32 x0), (V.int .i64 (if 1 < (if 8 < x1 then 8 else x1) then (if 8 < x1 then 8 else x1) else 1)), (V.val (.pointer none)), (V.val (.pointer none)), (V.val (.pointer none)), (V.val (.pointer none)), (V.val (.pointer none)), (V.val (.pointer none)), (V.val (.pointer none)), (V.val (.pointer none))])]))
theorem tall_eq (n : Nat) (x0 : Int) (x1 : Int) (h : Heap) : call (n + 1) 44 [(V.int .i32 x0), (V.int .i64 x1)] h = tall n x0 x1 h := by kernel_rfl
noncomputable def pathOn_l18 (n : Nat) (v : Int) (st1 : List V) (next3 : List V → Heap → Option (Res × Heap)) (st19 : List V) (hh20 : Heap) (next21 : List V → Heap → Option (Res × Heap)) : Option (Res × Heap) :=
 (bd (bopH prog hh20 .neq 68 (gv st19 3) (V.val (.pointer none))) fun v22 =>
 (bv v22 fun b23 => if b23 then
 (bd (addP 0 (gv st19 3)) fun p24 =>
 (bd (addP 0 p24) fun p25 =>
 (bd3 (cellsP hh20 p25) fun cs27 m26 o28 => if (o28 + 1 ≤ m26 ∧ 0 < 1) then
 (bd (cs27)[o28]? fun v29 =>
 (bd (bop prog .leq 21 v29 (V.int .i32 v)) fun v30 =>
 (bv v30 fun b31 => if b31 then
 (bd (addP 0 (gv st19 3)) fun p32 =>
 (bd (addP 2 p32) fun p33 =>
 (bd (nv (gv st1 3)) fun n34 =>
 (if (n34 < 8) then
 (bd (addP (n34 * 1) p33) fun p35 =>
 (bd3 (cellsP hh20 p35) fun cs37 m36 o38 => if (o38 + 1 ≤ m36 ∧ 0 < 1) then
 (bd (cs37)[o38]? fun v39 =>
 (next21 [(V.agg (lcs (gv st19 0))), (V.agg (lcs (gv st19 1))), (gv st19 3), v39] hh20)) else none)) else none))))
 else
 (bd (nv (gv st1 3)) fun n40 =>
 (if (n40 < 8) then
 (if ((V.cells (gv st19 2))).length = 1 then
 (if (0 = 0 ∧ (n40 * 1) + ((V.cells (gv st19 2))).length ≤ 8) then
 (bd (bop prog .sub 3 (gv st1 3) (V.int .i64 1)) fun v41 =>
 (next3 [(V.agg (setR (lcs (gv st19 0)) (n40 * 1) (V.cells (gv st19 2)))), (V.agg (lcs (gv st19 1))), (gv st19 2), v41] hh20)) else none) else none) else none))))) else none)))
 else
 (bd (nv (gv st1 3)) fun n42 =>
 (if (n42 < 8) then
 (if ((V.cells (gv st19 2))).length = 1 then
 (if (0 = 0 ∧ (n42 * 1) + ((V.cells (gv st19 2))).length ≤ 8) then
 (bd (bop prog .sub 3 (gv st1 3) (V.int .i64 1)) fun v43 =>
 (next3 [(V.agg (setR (lcs (gv st19 0)) (n42 * 1) (V.cells (gv st19 2)))), (V.agg (lcs (gv st19 1))), (gv st19 2), v43] hh20)) else none) else none) else none))))
noncomputable def pathOn_l61 (n : Nat) (v : Int) (st1 : List V) (next3 : List V → Heap → Option (Res × Heap)) (st62 : List V) (hh63 : Heap) (next64 : List V → Heap → Option (Res × Heap)) : Option (Res × Heap) :=
 (bd (bopH prog hh63 .neq 68 (gv st62 3) (V.val (.pointer none))) fun v65 =>
 (bv v65 fun b66 => if b66 then
 (bd (addP 0 (gv st62 3)) fun p67 =>
 (bd (addP 0 p67) fun p68 =>
 (bd3 (cellsP hh63 p68) fun cs70 m69 o71 => if (o71 + 1 ≤ m69 ∧ 0 < 1) then
 (bd (cs70)[o71]? fun v72 =>
 (bd (bop prog .leq 21 v72 (V.int .i32 v)) fun v73 =>
 (bv v73 fun b74 => if b74 then
 (bd (addP 0 (gv st62 3)) fun p75 =>
 (bd (addP 2 p75) fun p76 =>
 (bd (nv (gv st1 3)) fun n77 =>
 (if (n77 < 8) then
 (bd (addP (n77 * 1) p76) fun p78 =>
 (bd3 (cellsP hh63 p78) fun cs80 m79 o81 => if (o81 + 1 ≤ m79 ∧ 0 < 1) then
 (bd (cs80)[o81]? fun v82 =>
 (next64 [(V.agg (lcs (gv st62 0))), (V.agg (lcs (gv st62 1))), (gv st62 3), v82] hh63)) else none)) else none))))
 else
 (bd (nv (gv st1 3)) fun n83 =>
 (if (n83 < 8) then
 (if ((V.cells (gv st62 2))).length = 1 then
 (if (0 = 0 ∧ (n83 * 1) + ((V.cells (gv st62 2))).length ≤ 8) then
 (bd (bop prog .sub 3 (gv st1 3) (V.int .i64 1)) fun v84 =>
 (next3 [(V.agg (setR (lcs (gv st62 0)) (n83 * 1) (V.cells (gv st62 2)))), (V.agg (lcs (gv st62 1))), (gv st62 2), v84] hh63)) else none) else none) else none))))) else none)))
 else
 (bd (nv (gv st1 3)) fun n85 =>
 (if (n85 < 8) then
 (if ((V.cells (gv st62 2))).length = 1 then
 (if (0 = 0 ∧ (n85 * 1) + ((V.cells (gv st62 2))).length ≤ 8) then
 (bd (bop prog .sub 3 (gv st1 3) (V.int .i64 1)) fun v86 =>
 (next3 [(V.agg (setR (lcs (gv st62 0)) (n85 * 1) (V.cells (gv st62 2)))), (V.agg (lcs (gv st62 1))), (gv st62 2), v86] hh63)) else none) else none) else none))))
noncomputable def pathOn_l95 (n : Nat) (v : Int) (st1 : List V) (next3 : List V → Heap → Option (Res × Heap)) (st96 : List V) (hh97 : Heap) (next98 : List V → Heap → Option (Res × Heap)) : Option (Res × Heap) :=
 (bd (bopH prog hh97 .neq 68 (gv st96 3) (V.val (.pointer none))) fun v99 =>
 (bv v99 fun b100 => if b100 then
 (bd (addP 0 (gv st96 3)) fun p101 =>
 (bd (addP 0 p101) fun p102 =>
 (bd3 (cellsP hh97 p102) fun cs104 m103 o105 => if (o105 + 1 ≤ m103 ∧ 0 < 1) then
 (bd (cs104)[o105]? fun v106 =>
 (bd (bop prog .leq 21 v106 (V.int .i32 v)) fun v107 =>
 (bv v107 fun b108 => if b108 then
 (bd (addP 0 (gv st96 3)) fun p109 =>
 (bd (addP 2 p109) fun p110 =>
 (bd (nv (gv st1 3)) fun n111 =>
 (if (n111 < 8) then
 (bd (addP (n111 * 1) p110) fun p112 =>
 (bd3 (cellsP hh97 p112) fun cs114 m113 o115 => if (o115 + 1 ≤ m113 ∧ 0 < 1) then
 (bd (cs114)[o115]? fun v116 =>
 (next98 [(V.agg (lcs (gv st96 0))), (V.agg (lcs (gv st96 1))), (gv st96 3), v116] hh97)) else none)) else none))))
 else
 (bd (nv (gv st1 3)) fun n117 =>
 (if (n117 < 8) then
 (if ((V.cells (gv st96 2))).length = 1 then
 (if (0 = 0 ∧ (n117 * 1) + ((V.cells (gv st96 2))).length ≤ 8) then
 (bd (bop prog .sub 3 (gv st1 3) (V.int .i64 1)) fun v118 =>
 (next3 [(V.agg (setR (lcs (gv st96 0)) (n117 * 1) (V.cells (gv st96 2)))), (V.agg (lcs (gv st96 1))), (gv st96 2), v118] hh97)) else none) else none) else none))))) else none)))
 else
 (bd (nv (gv st1 3)) fun n119 =>
 (if (n119 < 8) then
 (if ((V.cells (gv st96 2))).length = 1 then
 (if (0 = 0 ∧ (n119 * 1) + ((V.cells (gv st96 2))).length ≤ 8) then
 (bd (bop prog .sub 3 (gv st1 3) (V.int .i64 1)) fun v120 =>
 (next3 [(V.agg (setR (lcs (gv st96 0)) (n119 * 1) (V.cells (gv st96 2)))), (V.agg (lcs (gv st96 1))), (gv st96 2), v120] hh97)) else none) else none) else none))))
noncomputable def pathOn_l0 (n : Nat) (v : Int) (st1 : List V) (hh2 : Heap) (next3 : List V → Heap → Option (Res × Heap)) : Option (Res × Heap) :=
 (bd (bop prog .geq 3 (gv st1 3) (V.int .i64 0)) fun v4 =>
 (bv v4 fun b5 => if b5 then
 (bd (bopH prog hh2 .eql 68 (gv st1 2) (V.val (.pointer none))) fun v6 =>
 (bv v6 fun b7 => if b7 then
 (bd (nv (gv st1 3)) fun n8 =>
 (if (n8 < 8) then
 (if ((n8 * 1) + 1 ≤ 8 ∧ 0 < 1) then
 (bd ((lcs (gv st1 0)))[(n8 * 1)]? fun v9 =>
 (bd (addP 0 v9) fun p10 =>
 (bd (addP 2 p10) fun p11 =>
 (bd (nv (gv st1 3)) fun n12 =>
 (if (n12 < 8) then
 (bd (addP (n12 * 1) p11) fun p13 =>
 (bd3 (cellsP hh2 p13) fun cs15 m14 o16 => if (o16 + 1 ≤ m14 ∧ 0 < 1) then
 (bd (cs15)[o16]? fun v17 =>
 (loopx n (pathOn_l18 n v st1 next3) [(V.agg (lcs (gv st1 0))), (V.agg (lcs (gv st1 1))), v9, v17] hh2)) else none)) else none))))) else none) else none))
 else
 (bd (nv (gv st1 3)) fun n44 =>
 (if (n44 < 8) then
 (if ((n44 * 1) + 1 ≤ 8 ∧ 0 < 1) then
 (bd ((lcs (gv st1 0)))[(n44 * 1)]? fun v45 =>
 (cl (call n 65 [v45, (gv st1 2)] hh2) (fun r46 h47 =>
 (one1 r46 fun v49 =>
 (bv v49 fun b50 => if b50 then
 (bd (nv (gv st1 3)) fun n51 =>
 (if (n51 < 8) then
 (if ((n51 * 1) + 1 ≤ 8 ∧ 0 < 1) then
 (bd ((lcs (gv st1 0)))[(n51 * 1)]? fun v52 =>
 (bd (addP 0 v52) fun p53 =>
 (bd (addP 2 p53) fun p54 =>
 (bd (nv (gv st1 3)) fun n55 =>
 (if (n55 < 8) then
 (bd (addP (n55 * 1) p54) fun p56 =>
 (bd3 (cellsP h47 p56) fun cs58 m57 o59 => if (o59 + 1 ≤ m57 ∧ 0 < 1) then
 (bd (cs58)[o59]? fun v60 =>
 (loopx n (pathOn_l61 n v st1 next3) [(V.agg (lcs (gv st1 0))), (V.agg (lcs (gv st1 1))), v52, v60] h47)) else none)) else none))))) else none) else none))
 else
 (bd (addP 0 (gv st1 2)) fun p87 =>
 (bd (addP 2 p87) fun p88 =>
 (bd (nv (gv st1 3)) fun n89 =>
 (if (n89 < 8) then
 (bd (addP (n89 * 1) p88) fun p90 =>
 (bd3 (cellsP h47 p90) fun cs92 m91 o93 => if (o93 + 1 ≤ m91 ∧ 0 < 1) then
 (bd (cs92)[o93]? fun v94 =>
 (loopx n (pathOn_l95 n v st1 next3) [(V.agg (lcs (gv st1 0))), (V.agg (lcs (gv st1 1))), (gv st1 2), v94] h47)) else none)) else none))))))) (fun z48 h47 => some (Res.pan z48, h47)))) else none) else none))))
 else
 (if ((((lcs (gv st1 0))).drop 0 |>.take 8)).length = 8 then
 (if (((((lcs (gv st1 0))).drop 0 |>.take 8)).length ≤ 8) then
 some (Res.ret [(V.agg (((setR (lcs (gv st1 1)) 0 (((lcs (gv st1 0))).drop 0 |>.take 8))).drop 0 |>.take 8))], hh2) else none) else none)))
noncomputable def pathOn (n : Nat) (p : List V) (v : Int) (h : Heap) : Option (Res × Heap) :=
 (if (p).length = 8 then
 (loopx n (pathOn_l0 n v) [(V.agg p), (V.agg [(V.val (.pointer none)), (V.val (.pointer none)), (V.val (.pointer none)), (V.val (.pointer none)), (V.val (.pointer none)), (V.val (.pointer none)), (V.val (.pointer none)), (V.val (.pointer none))]), (V.val (.pointer none)), (V.int .i64 7)] h) else none)
theorem pathOn_eq (n : Nat) (p : List V) (v : Int) (h : Heap) : call (n + 1) 42 [(V.agg p), (V.int .i32 v)] h = pathOn n p v h := by kernel_rfl
noncomputable def pathPut_l4 (n : Nat) (t : Nat) (v3 : V) (st5 : List V) (hh6 : Heap) (next7 : List V → Heap → Option (Res × Heap)) : Option (Res × Heap) :=
 (bd (bop prog .lss 3 (gv st5 2) v3) fun v8 =>
 (bv v8 fun b9 => if b9 then
 (bd (nv (gv st5 2)) fun n10 =>
 (if (n10 < 8) then
 (if ((n10 * 1) + 1 ≤ 8 ∧ 0 < 1) then
 (bd ((lcs (gv st5 0)))[(n10 * 1)]? fun v11 =>
 (bd (addP 0 v11) fun p12 =>
 (bd (addP 2 p12) fun p13 =>
 (bd (nv (gv st5 2)) fun n14 =>
 (if (n14 < 8) then
 (bd (addP (n14 * 1) p13) fun p15 =>
 (bd3 (cellsP hh6 p15) fun cs17 m16 o18 => if (o18 + 1 ≤ m16 ∧ 0 < 1) then
 (bd (cs17)[o18]? fun v19 =>
 (bd (nv (gv st5 2)) fun n20 =>
 (if (n20 < 8) then
 (if ((V.cells v19)).length = 1 then
 (bd2 (writeB hh6 (V.cells v19) (V.ptr t (2 + (n20 * 1)))) fun b21 x22 =>
 (bd (nv (gv st5 2)) fun n23 =>
 (if (n23 < 8) then
 (if ((n23 * 1) + 1 ≤ 8 ∧ 0 < 1) then
 (bd ((lcs (gv st5 0)))[(n23 * 1)]? fun v24 =>
 (bd (addP 0 v24) fun p25 =>
 (bd (addP 2 p25) fun p26 =>
 (bd (nv (gv st5 2)) fun n27 =>
 (if (n27 < 8) then
 (bd (addP (n27 * 1) p26) fun p28 =>
 (bd2 (writeB ((hh6).set b21 x22) [(V.ptr t 0)] p28) fun b29 x30 =>
 (bd (nv (gv st5 2)) fun n31 =>
 (if (n31 < 8) then
 (if (0 = 0 ∧ (n31 * 1) + 1 ≤ 8) then
 (bd (bop prog .add 3 (gv st5 2) (V.int .i64 1)) fun v32 =>
 (next7 [(V.agg (setR (lcs (gv st5 0)) (n31 * 1) [(V.ptr t 0)])), (V.agg (lcs (gv st5 1))), v32] ((((hh6).set b21 x22)).set b29 x30))) else none) else none)))) else none))))) else none) else none))) else none) else none))) else none)) else none))))) else none) else none))
 else
 (if ((((lcs (gv st5 0))).drop 0 |>.take 8)).length = 8 then
 (if (((((lcs (gv st5 0))).drop 0 |>.take 8)).length ≤ 8) then
 some (Res.ret [(V.agg (((setR (lcs (gv st5 1)) 0 (((lcs (gv st5 0))).drop 0 |>.take 8))).drop 0 |>.take 8))], hh6) else none) else none)))
noncomputable def pathPut (n : Nat) (p : List V) (t : Nat) (h : Heap) : Option (Res × Heap) :=
 (if (p).length = 8 then
 (bd3 (cellsP h (V.ptr t 1)) fun cs1 m0 o2 => if (o2 + 1 ≤ m0 ∧ 0 < 1) then
 (bd (cs1)[o2]? fun v3 =>
 (loopx n (pathPut_l4 n t v3) [(V.agg p), (V.agg [(V.val (.pointer none)), (V.val (.pointer none)), (V.val (.pointer none)), (V.val (.pointer none)), (V.val (.pointer none)), (V.val (.pointer none)), (V.val (.pointer none)), (V.val (.pointer none))]), (V.int .i64 0)] h)) else none) else none)
theorem pathPut_eq (n : Nat) (p : List V) (t : Nat) (h : Heap) : call (n + 1) 43 [(V.agg p), (V.ptr t 0)] h = pathPut n p t h := by kernel_rfl
noncomputable def skipInsert (n : Nat) (s : Nat) (v : Int) (k : Int) (h : Heap) : Option (Res × Heap) :=
 (bd (bopH prog h .eql 26 (V.ptr s 0) (V.val (.pointer none))) fun v0 =>
 (bv v0 fun b1 => if b1 then
 some (Res.ret [(V.bool false)], h)
 else
 (bd3 (cellsP h (V.ptr s 10)) fun cs3 m2 o4 => if (o4 + 1 ≤ m2 ∧ 0 < 1) then
 (bd (cs3)[o4]? fun v5 =>
 (bd3 (cellsP h (V.ptr s 11)) fun cs7 m6 o8 => if (o8 + 1 ≤ m6 ∧ 0 < 1) then
 (bd (cs7)[o8]? fun v9 =>
 (bd (bop prog .geq 3 v5 v9) fun v10 =>
 (bv v10 fun b11 => if b11 then
 some (Res.ret [(V.bool false)], h)
 else
 (cl (call n 41 [(V.ptr s 0)] h) (fun r12 h13 =>
 (one1 r12 fun v15 =>
 (cl (call n 42 [v15, (V.int .i32 v)] h13) (fun r16 h17 =>
 (one1 r16 fun v19 =>
 (cl (call n 44 [(V.int .i32 v), (V.int .i64 k)] h17) (fun r20 h21 =>
 (one1 r20 fun v23 =>
 (cl (call n 43 [v19, v23] h21) (fun r24 h25 =>
 (one1 r24 fun v27 =>
 (bd3 (cellsP h25 (V.ptr s 10)) fun cs29 m28 o30 => if (o30 + 1 ≤ m28 ∧ 0 < 1) then
 (bd (cs29)[o30]? fun v31 =>
 (bd (bop prog .add 3 v31 (V.int .i64 1)) fun v32 =>
 (if ((V.cells v32)).length = 1 then
 (bd2 (writeB h25 (V.cells v32) (V.ptr s 10)) fun b33 x34 =>
 some (Res.ret [(V.bool true)], ((h25).set b33 x34))) else none))) else none))) (fun z26 h25 => some (Res.pan z26, h25))))) (fun z22 h21 => some (Res.pan z22, h21))))) (fun z18 h17 => some (Res.pan z18, h17))))) (fun z14 h13 => some (Res.pan z14, h13)))))) else none)) else none)))
theorem skipInsert_eq (n : Nat) (s : Nat) (v : Int) (k : Int) (h : Heap) : call (n + 1) 22 [(V.ptr s 0), (V.int .i32 v), (V.int .i64 k)] h = skipInsert n s v k h := by kernel_rfl
noncomputable def skipBatch_l16 (n : Nat) (s : Nat) (l : V) (m : V) (p15 : Nat × List (List V)) (st17 : List V) (hh18 : Heap) (next19 : List V → Heap → Option (Res × Heap)) : Option (Res × Heap) :=
 (bd (bop prog .lss 3 (gv st17 4) (V.int .i64 ((p15.2).length : Int))) fun v20 =>
 (bv v20 fun b21 => if b21 then
 (bdS (nv (gv st17 4)) fun n22 =>
 (bd (idxP 1 n22 l) fun p23 =>
 (bd3 (cellsP hh18 p23) fun cs25 m24 o26 => if (o26 + 1 ≤ m24 ∧ 0 < 1) then
 (bd (cs25)[o26]? fun v27 =>
 (bd3 (cellsP hh18 (V.ptr s 10)) fun cs29 m28 o30 => if (o30 + 1 ≤ m28 ∧ 0 < 1) then
 (bd (cs29)[o30]? fun v31 =>
 (bd3 (cellsP hh18 (V.ptr s 11)) fun cs33 m32 o34 => if (o34 + 1 ≤ m32 ∧ 0 < 1) then
 (bd (cs33)[o34]? fun v35 =>
 (bd (bop prog .geq 3 v31 v35) fun v36 =>
 (bv v36 fun b37 => if b37 then
 some (Res.ret [(V.sl 1 (lsl (gv st17 1)) false)], hh18)
 else
 (bd (slcH hh18 m) fun p38 =>
 (bd (bop prog .lss 3 (gv st17 4) (V.int .i64 ((p38.2).length : Int))) fun v39 =>
 (bv v39 fun b40 => if b40 then
 (bdS (nv (gv st17 4)) fun n41 =>
 (bd (idxP 1 n41 m) fun p42 =>
 (bd3 (cellsP hh18 p42) fun cs44 m43 o45 => if (o45 + 1 ≤ m43 ∧ 0 < 1) then
 (bd (cs44)[o45]? fun v46 =>
 (cl (call n 42 [(V.agg (((lcs (gv st17 2))).drop 0 |>.take 8)), v27] hh18) (fun r47 h48 =>
 (one1 r47 fun v50 =>
 (cl (call n 44 [v27, v46] h48) (fun r51 h52 =>
 (one1 r51 fun v54 =>
 (cl (call n 43 [v50, v54] h52) (fun r55 h56 =>
 (one1 r55 fun v58 =>
 (if ((V.cells v58)).length = 8 then
 (if (((V.cells v58)).length ≤ 8) then
 (bd3 (cellsP h56 (V.ptr s 10)) fun cs60 m59 o61 => if (o61 + 1 ≤ m59 ∧ 0 < 1) then
 (bd (cs60)[o61]? fun v62 =>
 (bd (bop prog .add 3 v62 (V.int .i64 1)) fun v63 =>
 (if ((V.cells v63)).length = 1 then
 (bd2 (writeB h56 (V.cells v63) (V.ptr s 10)) fun b64 x65 =>
 (bdS (nv (gv st17 4)) fun n66 =>
 (if (1 = 1 ∧ n66 < ((lsl (gv st17 1))).length ∧ (some 65 : Option Nat) ≠ some 7) then
 (bd ((lsl (gv st17 1)))[n66]? fun es67 =>
 (bd (bop prog .add 3 (gv st17 4) (V.int .i64 1)) fun v68 =>
 (next19 [(V.sl 1 (lsl (gv st17 0)) false), (V.sl 1 (((lsl (gv st17 1))).set n66 (setR es67 0 [(V.bool true)])) false), (V.agg (setR (lcs (gv st17 2)) 0 (V.cells v58))), (V.bool false), v68] ((h56).set b64 x65)))) else none))) else none))) else none) else none) else none))) (fun z57 h56 => some (Res.pan z57, h56))))) (fun z53 h52 => some (Res.pan z53, h52))))) (fun z49 h48 => some (Res.pan z49, h48)))) else none)))
 else
 (cl (call n 42 [(V.agg (((lcs (gv st17 2))).drop 0 |>.take 8)), v27] hh18) (fun r69 h70 =>
 (one1 r69 fun v72 =>
 (cl (call n 44 [v27, (V.int .i64 1)] h70) (fun r73 h74 =>
 (one1 r73 fun v76 =>
 (cl (call n 43 [v72, v76] h74) (fun r77 h78 =>
 (one1 r77 fun v80 =>
 (if ((V.cells v80)).length = 8 then
 (if (((V.cells v80)).length ≤ 8) then
 (bd3 (cellsP h78 (V.ptr s 10)) fun cs82 m81 o83 => if (o83 + 1 ≤ m81 ∧ 0 < 1) then
 (bd (cs82)[o83]? fun v84 =>
 (bd (bop prog .add 3 v84 (V.int .i64 1)) fun v85 =>
 (if ((V.cells v85)).length = 1 then
 (bd2 (writeB h78 (V.cells v85) (V.ptr s 10)) fun b86 x87 =>
 (bdS (nv (gv st17 4)) fun n88 =>
 (if (1 = 1 ∧ n88 < ((lsl (gv st17 1))).length ∧ (some 65 : Option Nat) ≠ some 7) then
 (bd ((lsl (gv st17 1)))[n88]? fun es89 =>
 (bd (bop prog .add 3 (gv st17 4) (V.int .i64 1)) fun v90 =>
 (next19 [(V.sl 1 (lsl (gv st17 0)) false), (V.sl 1 (((lsl (gv st17 1))).set n88 (setR es89 0 [(V.bool true)])) false), (V.agg (setR (lcs (gv st17 2)) 0 (V.cells v80))), (V.bool false), v90] ((h78).set b86 x87)))) else none))) else none))) else none) else none) else none))) (fun z79 h78 => some (Res.pan z79, h78))))) (fun z75 h74 => some (Res.pan z75, h74))))) (fun z71 h70 => some (Res.pan z71, h70))))))))) else none)) else none)) else none)))
 else
 some (Res.ret [(V.sl 1 (lsl (gv st17 1)) false)], hh18)))
noncomputable def skipBatch (n : Nat) (s : Nat) (l : V) (m : V) (h : Heap) : Option (Res × Heap) :=
 (bd (slcH h l) fun p0 =>
 (bdS (nv (V.int .i64 ((p0.2).length : Int))) fun n1 =>
 (bdS (nv (V.int .i64 ((p0.2).length : Int))) fun n2 =>
 (if (n1 = n2 ∧ n1 < lim ∧ 1 = 1) then
 (bd (bopH prog h .eql 26 (V.ptr s 0) (V.val (.pointer none))) fun v3 =>
 (bv v3 fun b4 => if b4 then
 some (Res.ret [(V.sl 1 (List.replicate n1 [(V.bool false)]) false)], h)
 else
 (cl (call n 62 [l] h) (fun r5 h6 =>
 (one1 r5 fun v8 =>
 (bd (uop .not v8) fun v9 =>
 (bv v9 fun b10 => if b10 then
 some (Res.ret [(V.sl 1 (List.replicate n1 [(V.bool false)]) false)], h6)
 else
 (cl (call n 41 [(V.ptr s 0)] h6) (fun r11 h12 =>
 (one1 r11 fun v14 =>
 (if ((V.cells v14)).length = 8 then
 (if (((V.cells v14)).length ≤ 8) then
 (bd (slcH h12 l) fun p15 =>
 (loopx n (skipBatch_l16 n s l m p15) [(V.sl 1 [] false), (V.sl 1 (List.replicate n1 [(V.bool false)]) false), (V.agg (setR [(V.val (.pointer none)), (V.val (.pointer none)), (V.val (.pointer none)), (V.val (.pointer none)), (V.val (.pointer none)), (V.val (.pointer none)), (V.val (.pointer none)), (V.val (.pointer none))] 0 (V.cells v14))), (V.bool false), (V.int .i64 0)] h12)) else none) else none))) (fun z13 h12 => some (Res.pan z13, h12))))))) (fun z7 h6 => some (Res.pan z7, h6))))) else none))))
theorem skipBatch_eq (n : Nat) (s : Nat) (l : V) (m : V) (h : Heap) : call (n + 1) 37 [(V.ptr s 0), l, m] h = skipBatch n s l m h := by kernel_rfl
noncomputable def skipMin_l16 (n : Nat) (s : Nat) (v9 : V) (v15 : V) (st17 : List V) (hh18 : Heap) (next19 : List V → Heap → Option (Res × Heap)) : Option (Res × Heap) :=
 (bd (bop prog .lss 3 (gv st17 0) v15) fun v20 =>
 (bv v20 fun b21 => if b21 then
 (bd (addP 0 v9) fun p22 =>
 (bd (addP 2 p22) fun p23 =>
 (bd (nv (gv st17 0)) fun n24 =>
 (if (n24 < 8) then
 (bd (addP (n24 * 1) p23) fun p25 =>
 (bd3 (cellsP hh18 p25) fun cs27 m26 o28 => if (o28 + 1 ≤ m26 ∧ 0 < 1) then
 (bd (cs27)[o28]? fun v29 =>
 (bd (nv (gv st17 0)) fun n30 =>
 (if (n30 < 8) then
 (if ((V.cells v29)).length = 1 then
 (bd2 (writeB hh18 (V.cells v29) (V.ptr s (2 + (n30 * 1)))) fun b31 x32 =>
 (bd (bop prog .add 3 (gv st17 0) (V.int .i64 1)) fun v33 =>
 (next19 [v33] ((hh18).set b31 x32)))) else none) else none))) else none)) else none))))
 else
 (bd3 (cellsP hh18 (V.ptr s 10)) fun cs35 m34 o36 => if (o36 + 1 ≤ m34 ∧ 0 < 1) then
 (bd (cs35)[o36]? fun v37 =>
 (bd (bop prog .sub 3 v37 (V.int .i64 1)) fun v38 =>
 (if ((V.cells v38)).length = 1 then
 (bd2 (writeB hh18 (V.cells v38) (V.ptr s 10)) fun b39 x40 =>
 (bd (addP 0 v9) fun p41 =>
 (bd (addP 0 p41) fun p42 =>
 (bd3 (cellsP ((hh18).set b39 x40) p42) fun cs44 m43 o45 => if (o45 + 1 ≤ m43 ∧ 0 < 1) then
 (bd (cs44)[o45]? fun v46 =>
 some (Res.ret [v46, (V.bool true)], ((hh18).set b39 x40))) else none)))) else none))) else none)))
noncomputable def skipMin (n : Nat) (s : Nat) (h : Heap) : Option (Res × Heap) :=
 (cl (call n 36 [(V.ptr s 0)] h) (fun r0 h1 =>
 (one1 r0 fun v3 =>
 (bd (bop prog .eql 3 v3 (V.int .i64 0)) fun v4 =>
 (bv v4 fun b5 => if b5 then
 some (Res.ret [(V.int .i32 0), (V.bool false)], h1)
 else
 (bd3 (cellsP h1 (V.ptr s 2)) fun cs7 m6 o8 => if (o8 + 1 ≤ m6 ∧ 0 < 1) then
 (bd (cs7)[o8]? fun v9 =>
 (bd (addP 0 v9) fun p10 =>
 (bd (addP 1 p10) fun p11 =>
 (bd3 (cellsP h1 p11) fun cs13 m12 o14 => if (o14 + 1 ≤ m12 ∧ 0 < 1) then
 (bd (cs13)[o14]? fun v15 =>
 (loopx n (skipMin_l16 n s v9 v15) [(V.int .i64 0)] h1)) else none)))) else none))))) (fun z2 h1 => some (Res.pan z2, h1)))
theorem skipMin_eq (n : Nat) (s : Nat) (h : Heap) : call (n + 1) 63 [(V.ptr s 0)] h = skipMin n s h := by kernel_rfl
noncomputable def skipLv (n : Nat) (s : Nat) (k : Int) (h : Heap) : Option (Res × Heap) :=
 some (Res.ret [(V.fn 84 [(V.ptr (h).length 0), (V.ptr ((h ++ [(HB.box 1 [(V.ptr s 0)])])).length 0)])], ((h ++ [(HB.box 1 [(V.ptr s 0)])]) ++ [(HB.box 1 [(V.int .i64 k)])]))
theorem skipLv_eq (n : Nat) (s : Nat) (k : Int) (h : Heap) : call (n + 1) 64 [(V.ptr s 0), (V.int .i64 k)] h = skipLv n s k h := by kernel_rfl
noncomputable def skipLvI_l18 (n : Nat) (b : Nat) (k : Nat) (st19 : List V) (hh20 : Heap) (next21 : List V → Heap → Option (Res × Heap)) : Option (Res × Heap) :=
 (bd (bopH prog hh20 .neq 68 (gv st19 0) (V.val (.pointer none))) fun v22 =>
 (bv v22 fun b23 => if b23 then
 (bd2 (rnd n b [(gv st19 0)] hh20) fun t24 h25 =>
 (if t24 then
 (bd3 (cellsP h25 (V.ptr k 0)) fun cs27 m26 o28 => if (o28 + 1 ≤ m26 ∧ 0 < 1) then
 (bd (cs27)[o28]? fun v29 =>
 (bd (bop prog .sub 3 v29 (V.int .i64 1)) fun v30 =>
 (bd (addP 0 (gv st19 0)) fun p31 =>
 (bd (addP 2 p31) fun p32 =>
 (bd (nv v30) fun n33 =>
 (if (n33 < 8) then
 (bd (addP (n33 * 1) p32) fun p34 =>
 (bd3 (cellsP h25 p34) fun cs36 m35 o37 => if (o37 + 1 ≤ m35 ∧ 0 < 1) then
 (bd (cs36)[o37]? fun v38 =>
 (next21 [v38] h25)) else none)) else none)))))) else none)
 else
 some (Res.ret [], h25)))
 else
 some (Res.ret [], hh20)))
noncomputable def skipLvI (n : Nat) (b : Nat) (s : Nat) (k : Nat) (h : Heap) : Option (Res × Heap) :=
 (bd3 (cellsP h (V.ptr s 0)) fun cs1 m0 o2 => if (o2 + 1 ≤ m0 ∧ 0 < 1) then
 (bd (cs1)[o2]? fun v3 =>
 (bd3 (cellsP h (V.ptr k 0)) fun cs5 m4 o6 => if (o6 + 1 ≤ m4 ∧ 0 < 1) then
 (bd (cs5)[o6]? fun v7 =>
 (bd (bop prog .sub 3 v7 (V.int .i64 1)) fun v8 =>
 (bd (addP 0 v3) fun p9 =>
 (bd (addP 0 p9) fun p10 =>
 (bd (addP 2 p10) fun p11 =>
 (bd (nv v8) fun n12 =>
 (if (n12 < 8) then
 (bd (addP (n12 * 1) p11) fun p13 =>
 (bd3 (cellsP h p13) fun cs15 m14 o16 => if (o16 + 1 ≤ m14 ∧ 0 < 1) then
 (bd (cs15)[o16]? fun v17 =>
 (loopx n (skipLvI_l18 n b k) [v17] h)) else none)) else none))))))) else none)) else none)
theorem skipLvI_eq (n : Nat) (b : Nat) (s : Nat) (k : Nat) (h : Heap) : call (n + 1) 84 [(V.yld b), (V.ptr s 0), (V.ptr k 0)] h = skipLvI n b s k h := by kernel_rfl
noncomputable def skipLevel_r (n : Nat) (x5 : Nat) (b : Nat) (z20 : V) (h : Heap) : Option (Bool × Heap) :=
 (lpR ((h)[b]?) fun cD cV cF cP cA cB =>
 (bd3 (cellsP ((h).set b (HB.loop cD cV cF cP cA cB .busy)) (V.ptr x5 0)) fun cs15 m14 o16 => if (o16 + 1 ≤ m14 ∧ 0 < 1) then
 (bd (cs15)[o16]? fun v17 =>
 (bd (addP 0 z20) fun p18 =>
 (bd (addP 0 p18) fun p19 =>
 (bd3 (cellsP ((h).set b (HB.loop cD cV cF cP cA cB .busy)) p19) fun cs21 m20 o22 => if (o22 + 1 ≤ m20 ∧ 0 < 1) then
 (bd (cs21)[o22]? fun v23 =>
 (bd (bslV prog 39 1 [(0, v23)]) fun p24 =>
 (bd2 (appP 21 1 ((h).set b (HB.loop cD cV cF cP cA cB .busy)) p24.2 v17) fun v25 h26 =>
 (if ((V.cells v25)).length = 1 then
 (bd2 (writeB h26 (V.cells v25) (V.ptr x5 0)) fun b27 x28 =>
 (lpB ((((h26).set b27 x28))[b]?) fun eD eV eF eP eA eB => some (true, (((h26).set b27 x28)).set b (HB.loop eD eV eF eP eA eB .ready)))) else none)))) else none)))) else none))
theorem skipLevel_r_eq (n : Nat) (y0 : Option V) (y1 : Option V) (y4 : Option V) (x5 : Nat) (y7 : Option V) (y8 : Option V) (y9 : Option V) (y10 : Option V) (y11 : Option V) (y12 : Option V) (y13 : Option V) (y14 : Option V) (y15 : Option V) (y16 : Option V) (y17 : Option V) (y18 : Option V) (y19 : Option V) (b : Nat) (z20 : V) (h : Heap) : roundE prog (call n) keepS pureS n (L.textDraws prog) true [y0, y1, none, none, y4, some (V.ptr x5 0), none, y7, y8, y9, y10, y11, y12, y13, y14, y15, y16, y17, y18, y19, none, none, none, none, none, none, none, none, none] [20] (rfAs (bodyF f40)) (rfBd (bodyF f40)) b [z20] h = skipLevel_r n x5 b z20 h := by kernel_rfl
noncomputable def skipLevel (n : Nat) (s : Nat) (k : Int) (h : Heap) : Option (Res × Heap) :=
 (bd (bopH prog h .eql 26 (V.ptr s 0) (V.val (.pointer none))) fun v0 =>
 (bv v0 fun b1 => if b1 then
 some (Res.ret [(V.row (h).length 1 0 0)], (h ++ [(HB.row 21 1 [] true)]))
 else
 (if (decide (k < 1)) then
 some (Res.ret [(V.row (h).length 1 0 0)], (h ++ [(HB.row 21 1 [] true)]))
 else
 (if (decide (k > 8)) then
 some (Res.ret [(V.row (h).length 1 0 0)], (h ++ [(HB.row 21 1 [] true)]))
 else
 (cl (call n 64 [(V.ptr s 0), (V.int .i64 k)] h) (fun r2 h3 =>
 (one1 r2 fun v5 =>
 (fnK v5 fun f6 c7 => if ((mutF prog f6).isNone && (noDfC (rfAs (bodyF f40)) && noDfC (rfBd (bodyF f40)))) = true then
 (clN (call n f6 ((V.yld ((((h3 ++ [(HB.box 1 [(V.sl 0 [] true)])]) ++ [(HB.row 21 1 [] true)])).length + 1)) :: c7) (((h3 ++ [(HB.box 1 [(V.sl 0 [] true)])]) ++ [(HB.row 21 1 [] true)]) ++ [HB.defb, HB.loop (((h3 ++ [(HB.box 1 [(V.sl 0 [] true)])]) ++ [(HB.row 21 1 [] true)])).length true [some (V.ptr s 0), some (V.int .i64 k), none, none, some (V.row ((h3 ++ [(HB.box 1 [(V.sl 0 [] true)])])).length 1 0 0), some (V.ptr (h3).length 0), none, some (V.ptr s 0), some v0, some (V.bool false), some (V.int .i64 k), some (V.bool (decide (k < 1))), some (V.bool (decide (k < 1))), some (V.bool false), some (V.int .i64 k), some (V.bool (decide (k > 8))), some (V.bool false), some (V.ptr s 0), some (V.int .i64 k), some v5, none, none, none, none, none, none, none, none, none] [20] (rfAs (bodyF f40)) (rfBd (bodyF f40)) .ready])) fun h9 => lpE ((h9)[((((h3 ++ [(HB.box 1 [(V.sl 0 [] true)])]) ++ [(HB.row 21 1 [] true)])).length + 1)]?) (
 (bd3 (cellsP ((h9).set ((((h3 ++ [(HB.box 1 [(V.sl 0 [] true)])]) ++ [(HB.row 21 1 [] true)])).length + 1) HB.dead) (V.ptr (h3).length 0)) fun cs11 m10 o12 => if (o12 + 1 ≤ m10 ∧ 0 < 1) then
 (bd (cs11)[o12]? fun v13 =>
 (dfB ((((h9).set ((((h3 ++ [(HB.box 1 [(V.sl 0 [] true)])]) ++ [(HB.row 21 1 [] true)])).length + 1) HB.dead))[(((h3 ++ [(HB.box 1 [(V.sl 0 [] true)])]) ++ [(HB.row 21 1 [] true)])).length]?) (
 some (Res.ret [v13], ((((h9).set ((((h3 ++ [(HB.box 1 [(V.sl 0 [] true)])]) ++ [(HB.row 21 1 [] true)])).length + 1) HB.dead)).set (((h3 ++ [(HB.box 1 [(V.sl 0 [] true)])]) ++ [(HB.row 21 1 [] true)])).length HB.dead))))) else none)) (
 (dfB ((((h9).set ((((h3 ++ [(HB.box 1 [(V.sl 0 [] true)])]) ++ [(HB.row 21 1 [] true)])).length + 1) HB.dead))[(((h3 ++ [(HB.box 1 [(V.sl 0 [] true)])]) ++ [(HB.row 21 1 [] true)])).length]?) (
 some (Res.ret [(V.row ((h3 ++ [(HB.box 1 [(V.sl 0 [] true)])])).length 1 0 0)], ((((h9).set ((((h3 ++ [(HB.box 1 [(V.sl 0 [] true)])]) ++ [(HB.row 21 1 [] true)])).length + 1) HB.dead)).set (((h3 ++ [(HB.box 1 [(V.sl 0 [] true)])]) ++ [(HB.row 21 1 [] true)])).length HB.dead)))))) else none))) (fun z4 h3 => some (Res.pan z4, h3)))))))
theorem skipLevel_eq (n : Nat) (s : Nat) (k : Int) (h : Heap) : call (n + 1) 40 [(V.ptr s 0), (V.int .i64 k)] h = skipLevel n s k h := by kernel_rfl
noncomputable def skipItems (n : Nat) (s : Nat) (h : Heap) : Option (Res × Heap) :=
 (cl (call n 40 [(V.ptr s 0), (V.int .i64 1)] h) (fun r0 h1 =>
 (one1 r0 fun v3 =>
 some (Res.ret [v3], h1))) (fun z2 h1 => some (Res.pan z2, h1)))
theorem skipItems_eq (n : Nat) (s : Nat) (h : Heap) : call (n + 1) 21 [(V.ptr s 0)] h = skipItems n s h := by kernel_rfl
noncomputable def isSorted_l1 (n : Nat) (l : V) (st2 : List V) (hh3 : Heap) (next4 : List V → Heap → Option (Res × Heap)) : Option (Res × Heap) :=
 (bd (bop prog .gtr 3 (gv st2 1) (V.int .i64 0)) fun v5 =>
 (bv v5 fun b6 => if b6 then
 (bdS (nv (gv st2 1)) fun n7 =>
 (bd (idxP 1 n7 l) fun p8 =>
 (bd3 (cellsP hh3 p8) fun cs10 m9 o11 => if (o11 + 1 ≤ m9 ∧ 0 < 1) then
 (bd (cs10)[o11]? fun v12 =>
 (bd (bop prog .sub 3 (gv st2 1) (V.int .i64 1)) fun v13 =>
 (bdS (nv v13) fun n14 =>
 (bd (idxP 1 n14 l) fun p15 =>
 (bd3 (cellsP hh3 p15) fun cs17 m16 o18 => if (o18 + 1 ≤ m16 ∧ 0 < 1) then
 (bd (cs17)[o18]? fun v19 =>
 (cl (call n 83 [v12, v19] hh3) (fun r20 h21 =>
 (one1 r20 fun v23 =>
 (bv v23 fun b24 => if b24 then
 some (Res.ret [(V.bool false)], h21)
 else
 (bd (bop prog .sub 3 (gv st2 1) (V.int .i64 1)) fun v25 =>
 (next4 [(gv st2 0), v25] h21))))) (fun z22 h21 => none))) else none))))) else none)))
 else
 some (Res.ret [(V.bool true)], hh3)))
noncomputable def isSorted (n : Nat) (l : V) (h : Heap) : Option (Res × Heap) :=
 (bd (slcH h l) fun p0 =>
 (loopx n (isSorted_l1 n l) [(V.bool false), (V.int .i64 (IntKind.i64.wrap (((p0.2).length : Int) - 1)))] h))
theorem isSorted_eq (n : Nat) (l : V) (h : Heap) : call (n + 1) 62 [l] h = isSorted n l h := by kernel_rfl
noncomputable def isNaN (n : Nat) (x0 : Int) (h : Heap) : Option (Res × Heap) :=
 some (Res.ret [(V.bool (x0 != x0))], h)
theorem isNaN_eq (n : Nat) (x0 : Int) (h : Heap) : call (n + 1) 89 [(V.int .i32 x0)] h = isNaN n x0 h := by kernel_rfl
noncomputable def cmpLess (n : Nat) (x0 : Int) (x1 : Int) (h : Heap) : Option (Res × Heap) :=
 (cl (call n 89 [(V.int .i32 x0)] h) (fun r0 h1 =>
 (one1 r0 fun v3 =>
 (bv v3 fun b4 => if b4 then
 (cl (call n 89 [(V.int .i32 x1)] h1) (fun r5 h6 =>
 (one1 r5 fun v8 =>
 (bd (uop .not v8) fun v9 =>
 (bv v9 fun b10 => if b10 then
 some (Res.ret [(V.bool true)], h6)
 else
 some (Res.ret [(V.bool (decide (x0 < x1)))], h6))))) (fun z7 h6 => some (Res.pan z7, h6)))
 else
 some (Res.ret [(V.bool (decide (x0 < x1)))], h1)))) (fun z2 h1 => some (Res.pan z2, h1)))
theorem cmpLess_eq (n : Nat) (x0 : Int) (x1 : Int) (h : Heap) : call (n + 1) 83 [(V.int .i32 x0), (V.int .i32 x1)] h = cmpLess n x0 x1 h := by kernel_rfl
noncomputable def cmpCompare (n : Nat) (x0 : Int) (x1 : Int) (h : Heap) : Option (Res × Heap) :=
 (cl (call n 89 [(V.int .i32 x0)] h) (fun r0 h1 =>
 (one1 r0 fun v3 =>
 (cl (call n 89 [(V.int .i32 x1)] h1) (fun r4 h5 =>
 (one1 r4 fun v7 =>
 (bv v3 fun b8 => if b8 then
 (bv v7 fun b9 => if b9 then
 some (Res.ret [(V.int .i64 0)], h5)
 else
 some (Res.ret [(V.int .i64 (-1))], h5))
 else
 (bv v7 fun b10 => if b10 then
 some (Res.ret [(V.int .i64 1)], h5)
 else
 (if (decide (x0 < x1)) then
 some (Res.ret [(V.int .i64 (-1))], h5)
 else
 (if (decide (x0 > x1)) then
 some (Res.ret [(V.int .i64 1)], h5)
 else
 some (Res.ret [(V.int .i64 0)], h5))))))) (fun z6 h5 => some (Res.pan z6, h5))))) (fun z2 h1 => some (Res.pan z2, h1)))
theorem cmpCompare_eq (n : Nat) (x0 : Int) (x1 : Int) (h : Heap) : call (n + 1) 82 [(V.int .i32 x0), (V.int .i32 x1)] h = cmpCompare n x0 x1 h := by kernel_rfl
end Go.Proofs.Try
