import Derived.Test.YtjnjofillhdffaaLwd
import Derived.Test.YtjnjofillhdffaaLcut
/-! the law SpecFull: PRINTED BY A PROGRAM OF MINE (lift3.lean): its front, and its rest for each object and kind -/
set_option linter.unusedVariables false
namespace Go.Proofs.Try
open Go.L
set_option maxRecDepth 100000
/-- the rest of the function, from a frame -/
noncomputable def lawFull_T (n : Nat) (F : List S) (h : Heap) : Option (Res × Heap) := tailT prog keepS pureS (L.textDraws prog) (call n) n f8 (seqR 4 (bodyF f8)) F h
noncomputable def lawFull_F (k0 : Int) (k1 : Int) (x0 : Int) (x1 : List (List V)) (x1b : Bool) (x2_0 : Int) (x2_1 : Int) (x3 : Int) : List S :=
  [.v (V.int .u8 x0), .v (V.sl 1 x1 x1b), .v (V.agg [(V.int .u8 x2_0), (V.int .i32 x2_1)]), .v (V.int .u8 x3), .un, .un, .bx 2 [(V.int .u8 k1), (V.int .i32 x2_1)], .un, .v (V.bool false), .v (V.int .u8 k0), .un, .un, .un, .un, .un, .un, .v (V.sl 1 x1 x1b), .v (V.int .i64 ((x1).length : Int)), .v (V.bool false), .un, .v (V.int .u8 x0), .v (V.int .u8 (Int.tmod x0 3)), .v (V.int .u8 k0), .fp 6 0 0 0, .v (V.int .u8 x2_0), .v (V.int .u8 (Int.tmod x2_0 4)), .v (V.int .u8 k1), .fp 6 0 0 0, .un, .un, .un, .un, .un, .un, .un, .un, .un, .un, .un, .un, .un, .un, .un, .un, .un, .un, .un, .un, .un, .un, .un, .un, .un, .un, .un, .un, .un, .un, .un, .un, .un, .un, .un, .un, .un, .un, .un, .un, .un, .un, .un, .un, .un, .un, .un, .un, .un, .un, .un, .un, .un, .un, .un, .un, .un, .un, .un, .un, .un, .un, .un, .un, .un, .un, .un, .un, .un, .un, .un, .un, .un, .un, .un, .un, .un, .un, .un, .un, .un, .un, .un, .un, .un, .un, .un, .un, .un, .un, .un, .un, .un, .un, .un, .un, .un, .un, .un, .un, .un, .un, .un, .un, .un, .un, .un, .un, .un, .un, .un, .un, .un, .un, .un, .un]
noncomputable def lawFull (n : Nat) (t : Code) (x0 : Int) (x1 : List (List V)) (x1b : Bool) (x2_0 : Int) (x2_1 : Int) (x3 : Int) : Option (Res × Heap) :=
 (if (decide (((x1).length : Int) > 100)) then
 (cl (call n 24 [] []) (fun r0 h1 =>
 (one1 r0 fun v3 =>
 some (Res.ret [v3], h1))) (fun z2 h1 => some (Res.pan z2, h1)))
 else
 (tailT prog keepS pureS (L.textDraws prog) (call n) n f8 t (lawFull_F (IntKind.u8.wrap (1 + (Int.tmod x0 3))) (IntKind.u8.wrap (1 + (Int.tmod x2_0 4))) x0 x1 x1b x2_0 x2_1 x3) []))
theorem lawFull_front (n : Nat) (t : Code) (x0 : Int) (x1 : List (List V)) (x1b : Bool) (x2_0 : Int) (x2_1 : Int) (x3 : Int) : exec prog (call n) keepS pureS (loopx n) (L.textDraws prog) (replR 4 (bodyF f8) t) (([(V.int .u8 x0), (V.sl 1 x1 x1b), (V.agg [(V.int .u8 x2_0), (V.int .i32 x2_1)]), (V.int .u8 x3)]).map S.v ++ List.replicate (f8.ntmps - ([(V.int .u8 x0), (V.sl 1 x1 x1b), (V.agg [(V.int .u8 x2_0), (V.int .i32 x2_1)]), (V.int .u8 x3)]).length) S.un) [] (endX prog f8) = lawFull n t x0 x1 x1b x2_0 x2_1 x3 := by kernel_rfl
theorem lawFull_eq (n : Nat) (x0 : Int) (x1 : List (List V)) (x1b : Bool) (x2_0 : Int) (x2_1 : Int) (x3 : Int) (h : Heap) : call (n + 1) 8 [(V.int .u8 x0), (V.sl 1 x1 x1b), (V.agg [(V.int .u8 x2_0), (V.int .i32 x2_1)]), (V.int .u8 x3)] h = gcw [(V.int .u8 x0), (V.sl 1 x1 x1b), (V.agg [(V.int .u8 x2_0), (V.int .i32 x2_1)]), (V.int .u8 x3)] (lawFull n (seqR 4 (bodyF f8)) x0 x1 x1b x2_0 x2_1 x3) h :=
  (callF_cut 4 rfl func8 (by kernel_rfl) (of_decide_eq_true (by kernel_rfl)) (by kernel_rfl) (by kernel_rfl)).trans (congrArg (fun r => gcw _ r h) (lawFull_front n _ x0 x1 x1b x2_0 x2_1 x3))
noncomputable def lawFull_11 (n : Nat) (x1 : List (List V)) (x1b : Bool) (x2_1 : Int) (x3 : Int) : Option (Res × Heap) :=
 (cl (call n 26 [(V.int .u8 1), (V.int .i64 (if 0 < (IntKind.i64.wrap (((x1).length : Int) - (IntKind.i64.wrap (Int.tmod x3 3)))) then (IntKind.i64.wrap (((x1).length : Int) - (IntKind.i64.wrap (Int.tmod x3 3)))) else 0)), (V.sl 1 x1 x1b), (V.agg [(V.int .u8 1), (V.int .i32 x2_1)])] []) (fun r0 h1 =>
 (bd (r0)[0]? fun v3 =>
 (bd (r0)[1]? fun v4 =>
 (if ((V.cells v4)).length = 2 then
 (if (((V.cells v4)).length ≤ 2) then
 (cl (call n 26 [(V.int .u8 1), (V.int .i64 5), (V.sl 0 [] false), (V.agg [(V.int .u8 1), (V.int .i32 x2_1)])] h1) (fun r5 h6 =>
 (bd (r5)[0]? fun v8 =>
 (bd (r5)[1]? fun v9 =>
 (if ((V.cells v9)).length = 2 then
 (if (((V.cells v9)).length ≤ 2) then
 (cl (call n 24 [] h6) (fun r10 h11 =>
 (one1 r10 fun v13 =>
 (bv v13 fun b14 => if b14 then
 (bd (bop prog .eql 34 (V.agg (((setR [(V.int .u8 0), (V.int .i32 0)] 0 (V.cells v4))).drop 0 |>.take 2)) (V.agg [(V.int .u8 3), (V.int .i32 0)])) fun v15 =>
 (bv v15 fun b16 => if b16 then
 (cl (call n 23 [v3, (V.sl 1 x1 x1b)] h11) (fun r17 h18 =>
 (one1 r17 fun v20 =>
 (bv v20 fun b21 => if b21 then
 (bd ((setR [(V.int .u8 0), (V.int .i32 0)] 0 (V.cells v9)))[0]? fun v22 =>
 (bd (bop prog .eql 5 v22 (V.int .u8 1)) fun v23 =>
 (bv v23 fun b24 => if b24 then
 (bd (slc v8) fun p25 =>
 some (Res.ret [(V.bool (((p25.2).length : Int) == 1))], h18))
 else
 some (Res.ret [(V.bool false)], h18))))
 else
 some (Res.ret [(V.bool false)], h18)))) (fun z19 h18 => some (Res.pan z19, h18)))
 else
 some (Res.ret [(V.bool false)], h11)))
 else
 some (Res.ret [(V.bool false)], h11)))) (fun z12 h11 => some (Res.pan z12, h11))) else none) else none)))) (fun z7 h6 => some (Res.pan z7, h6))) else none) else none)))) (fun z2 h1 => some (Res.pan z2, h1)))
theorem lawFull_11_eq (n : Nat) (x0 : Int) (x1 : List (List V)) (x1b : Bool) (x2_0 : Int) (x2_1 : Int) (x3 : Int) : lawFull_T n (lawFull_F 1 1 x0 x1 x1b x2_0 x2_1 x3) [] = lawFull_11 n x1 x1b x2_1 x3 := by kernel_rfl
noncomputable def lawFull_12 (n : Nat) (x1 : List (List V)) (x1b : Bool) (x2_1 : Int) (x3 : Int) : Option (Res × Heap) :=
 (cl (call n 26 [(V.int .u8 1), (V.int .i64 (if 0 < (IntKind.i64.wrap (((x1).length : Int) - (IntKind.i64.wrap (Int.tmod x3 3)))) then (IntKind.i64.wrap (((x1).length : Int) - (IntKind.i64.wrap (Int.tmod x3 3)))) else 0)), (V.sl 1 x1 x1b), (V.agg [(V.int .u8 2), (V.int .i32 x2_1)])] []) (fun r0 h1 =>
 (bd (r0)[0]? fun v3 =>
 (bd (r0)[1]? fun v4 =>
 (if ((V.cells v4)).length = 2 then
 (if (((V.cells v4)).length ≤ 2) then
 (cl (call n 26 [(V.int .u8 1), (V.int .i64 5), (V.sl 0 [] false), (V.agg [(V.int .u8 2), (V.int .i32 x2_1)])] h1) (fun r5 h6 =>
 (bd (r5)[0]? fun v8 =>
 (bd (r5)[1]? fun v9 =>
 (if ((V.cells v9)).length = 2 then
 (if (((V.cells v9)).length ≤ 2) then
 (cl (call n 24 [] h6) (fun r10 h11 =>
 (one1 r10 fun v13 =>
 (bv v13 fun b14 => if b14 then
 (bd (bop prog .eql 34 (V.agg (((setR [(V.int .u8 0), (V.int .i32 0)] 0 (V.cells v9))).drop 0 |>.take 2)) (V.agg [(V.int .u8 4), (V.int .i32 0)])) fun v15 =>
 (bv v15 fun b16 => if b16 then
 (bd (slc v8) fun p17 =>
 (if (((p17.2).length : Int) == 0) then
 (if (((x1).length : Int) == 0) then
 some (Res.ret [(V.bool true)], h11)
 else
 (bd ((setR [(V.int .u8 0), (V.int .i32 0)] 0 (V.cells v4)))[0]? fun v18 =>
 (bd (bop prog .eql 5 v18 (V.int .u8 2)) fun v19 =>
 (bv v19 fun b20 => if b20 then
 (bd (slc v3) fun p21 =>
 some (Res.ret [(V.bool (((p21.2).length : Int) == (IntKind.i64.wrap (((x1).length : Int) - 1))))], h11))
 else
 some (Res.ret [(V.bool false)], h11)))))
 else
 some (Res.ret [(V.bool false)], h11)))
 else
 some (Res.ret [(V.bool false)], h11)))
 else
 some (Res.ret [(V.bool false)], h11)))) (fun z12 h11 => some (Res.pan z12, h11))) else none) else none)))) (fun z7 h6 => some (Res.pan z7, h6))) else none) else none)))) (fun z2 h1 => some (Res.pan z2, h1)))
theorem lawFull_12_eq (n : Nat) (x0 : Int) (x1 : List (List V)) (x1b : Bool) (x2_0 : Int) (x2_1 : Int) (x3 : Int) : lawFull_T n (lawFull_F 1 2 x0 x1 x1b x2_0 x2_1 x3) [] = lawFull_12 n x1 x1b x2_1 x3 := by kernel_rfl
noncomputable def lawFull_13 (n : Nat) (x1 : List (List V)) (x1b : Bool) (x2_1 : Int) (x3 : Int) : Option (Res × Heap) :=
 (cl (call n 26 [(V.int .u8 1), (V.int .i64 (if 0 < (IntKind.i64.wrap (((x1).length : Int) - (IntKind.i64.wrap (Int.tmod x3 3)))) then (IntKind.i64.wrap (((x1).length : Int) - (IntKind.i64.wrap (Int.tmod x3 3)))) else 0)), (V.sl 1 x1 x1b), (V.agg [(V.int .u8 3), (V.int .i32 x2_1)])] []) (fun r0 h1 =>
 (bd (r0)[0]? fun v3 =>
 (bd (r0)[1]? fun v4 =>
 (if ((V.cells v4)).length = 2 then
 (if (((V.cells v4)).length ≤ 2) then
 (cl (call n 26 [(V.int .u8 1), (V.int .i64 5), (V.sl 0 [] false), (V.agg [(V.int .u8 3), (V.int .i32 x2_1)])] h1) (fun r5 h6 =>
 (bd (r5)[0]? fun v8 =>
 (bd (r5)[1]? fun v9 =>
 (if ((V.cells v9)).length = 2 then
 (if (((V.cells v9)).length ≤ 2) then
 (cl (call n 24 [] h6) (fun r10 h11 =>
 (one1 r10 fun v13 =>
 (bv v13 fun b14 => if b14 then
 (bd ((setR [(V.int .u8 0), (V.int .i32 0)] 0 (V.cells v4)))[0]? fun v15 =>
 (bd (bop prog .eql 5 v15 (V.int .u8 5)) fun v16 =>
 (bv v16 fun b17 => if b17 then
 (bd ((setR [(V.int .u8 0), (V.int .i32 0)] 0 (V.cells v9)))[0]? fun v18 =>
 (bd (bop prog .eql 5 v18 (V.int .u8 5)) fun v19 =>
 (bv v19 fun b20 => if b20 then
 (cl (call n 23 [v3, (V.sl 1 x1 x1b)] h11) (fun r21 h22 =>
 (one1 r21 fun v24 =>
 some (Res.ret [v24], h22))) (fun z23 h22 => some (Res.pan z23, h22)))
 else
 some (Res.ret [(V.bool false)], h11))))
 else
 some (Res.ret [(V.bool false)], h11))))
 else
 some (Res.ret [(V.bool false)], h11)))) (fun z12 h11 => some (Res.pan z12, h11))) else none) else none)))) (fun z7 h6 => some (Res.pan z7, h6))) else none) else none)))) (fun z2 h1 => some (Res.pan z2, h1)))
theorem lawFull_13_eq (n : Nat) (x0 : Int) (x1 : List (List V)) (x1b : Bool) (x2_0 : Int) (x2_1 : Int) (x3 : Int) : lawFull_T n (lawFull_F 1 3 x0 x1 x1b x2_0 x2_1 x3) [] = lawFull_13 n x1 x1b x2_1 x3 := by kernel_rfl
noncomputable def lawFull_14 (n : Nat) (x1 : List (List V)) (x1b : Bool) (x2_1 : Int) (x3 : Int) : Option (Res × Heap) :=
 (cl (call n 26 [(V.int .u8 1), (V.int .i64 (if 0 < (IntKind.i64.wrap (((x1).length : Int) - (IntKind.i64.wrap (Int.tmod x3 3)))) then (IntKind.i64.wrap (((x1).length : Int) - (IntKind.i64.wrap (Int.tmod x3 3)))) else 0)), (V.sl 1 x1 x1b), (V.agg [(V.int .u8 4), (V.int .i32 x2_1)])] []) (fun r0 h1 =>
 (bd (r0)[0]? fun v3 =>
 (bd (r0)[1]? fun v4 =>
 (if ((V.cells v4)).length = 2 then
 (if (((V.cells v4)).length ≤ 2) then
 (cl (call n 26 [(V.int .u8 1), (V.int .i64 5), (V.sl 0 [] false), (V.agg [(V.int .u8 4), (V.int .i32 x2_1)])] h1) (fun r5 h6 =>
 (bd (r5)[0]? fun v8 =>
 (bd (r5)[1]? fun v9 =>
 (if ((V.cells v9)).length = 2 then
 (if (((V.cells v9)).length ≤ 2) then
 (cl (call n 24 [] h6) (fun r10 h11 =>
 (one1 r10 fun v13 =>
 (bv v13 fun b14 => if b14 then
 (bd ((setR [(V.int .u8 0), (V.int .i32 0)] 0 (V.cells v4)))[0]? fun v15 =>
 (bd (bop prog .eql 5 v15 (V.int .u8 5)) fun v16 =>
 (bv v16 fun b17 => if b17 then
 (bd ((setR [(V.int .u8 0), (V.int .i32 0)] 0 (V.cells v9)))[0]? fun v18 =>
 (bd (bop prog .eql 5 v18 (V.int .u8 5)) fun v19 =>
 (bv v19 fun b20 => if b20 then
 (cl (call n 23 [v3, (V.sl 1 x1 x1b)] h11) (fun r21 h22 =>
 (one1 r21 fun v24 =>
 some (Res.ret [v24], h22))) (fun z23 h22 => some (Res.pan z23, h22)))
 else
 some (Res.ret [(V.bool false)], h11))))
 else
 some (Res.ret [(V.bool false)], h11))))
 else
 some (Res.ret [(V.bool false)], h11)))) (fun z12 h11 => some (Res.pan z12, h11))) else none) else none)))) (fun z7 h6 => some (Res.pan z7, h6))) else none) else none)))) (fun z2 h1 => some (Res.pan z2, h1)))
theorem lawFull_14_eq (n : Nat) (x0 : Int) (x1 : List (List V)) (x1b : Bool) (x2_0 : Int) (x2_1 : Int) (x3 : Int) : lawFull_T n (lawFull_F 1 4 x0 x1 x1b x2_0 x2_1 x3) [] = lawFull_14 n x1 x1b x2_1 x3 := by kernel_rfl
noncomputable def lawFull_21 (n : Nat) (x1 : List (List V)) (x1b : Bool) (x2_1 : Int) (x3 : Int) : Option (Res × Heap) :=
 (cl (call n 26 [(V.int .u8 2), (V.int .i64 (if 0 < (IntKind.i64.wrap (((x1).length : Int) - (IntKind.i64.wrap (Int.tmod x3 3)))) then (IntKind.i64.wrap (((x1).length : Int) - (IntKind.i64.wrap (Int.tmod x3 3)))) else 0)), (V.sl 1 x1 x1b), (V.agg [(V.int .u8 1), (V.int .i32 x2_1)])] []) (fun r0 h1 =>
 (bd (r0)[0]? fun v3 =>
 (bd (r0)[1]? fun v4 =>
 (if ((V.cells v4)).length = 2 then
 (if (((V.cells v4)).length ≤ 2) then
 (cl (call n 26 [(V.int .u8 2), (V.int .i64 5), (V.sl 0 [] false), (V.agg [(V.int .u8 1), (V.int .i32 x2_1)])] h1) (fun r5 h6 =>
 (bd (r5)[0]? fun v8 =>
 (bd (r5)[1]? fun v9 =>
 (if ((V.cells v9)).length = 2 then
 (if (((V.cells v9)).length ≤ 2) then
 (cl (call n 24 [] h6) (fun r10 h11 =>
 (one1 r10 fun v13 =>
 (bv v13 fun b14 => if b14 then
 (bd (bop prog .eql 34 (V.agg (((setR [(V.int .u8 0), (V.int .i32 0)] 0 (V.cells v4))).drop 0 |>.take 2)) (V.agg [(V.int .u8 3), (V.int .i32 0)])) fun v15 =>
 (bv v15 fun b16 => if b16 then
 (cl (call n 23 [v3, (V.sl 1 x1 x1b)] h11) (fun r17 h18 =>
 (one1 r17 fun v20 =>
 (bv v20 fun b21 => if b21 then
 (bd ((setR [(V.int .u8 0), (V.int .i32 0)] 0 (V.cells v9)))[0]? fun v22 =>
 (bd (bop prog .eql 5 v22 (V.int .u8 1)) fun v23 =>
 (bv v23 fun b24 => if b24 then
 (bd (slc v8) fun p25 =>
 some (Res.ret [(V.bool (((p25.2).length : Int) == 1))], h18))
 else
 some (Res.ret [(V.bool false)], h18))))
 else
 some (Res.ret [(V.bool false)], h18)))) (fun z19 h18 => some (Res.pan z19, h18)))
 else
 some (Res.ret [(V.bool false)], h11)))
 else
 some (Res.ret [(V.bool false)], h11)))) (fun z12 h11 => some (Res.pan z12, h11))) else none) else none)))) (fun z7 h6 => some (Res.pan z7, h6))) else none) else none)))) (fun z2 h1 => some (Res.pan z2, h1)))
theorem lawFull_21_eq (n : Nat) (x0 : Int) (x1 : List (List V)) (x1b : Bool) (x2_0 : Int) (x2_1 : Int) (x3 : Int) : lawFull_T n (lawFull_F 2 1 x0 x1 x1b x2_0 x2_1 x3) [] = lawFull_21 n x1 x1b x2_1 x3 := by kernel_rfl
noncomputable def lawFull_22 (n : Nat) (x1 : List (List V)) (x1b : Bool) (x2_1 : Int) (x3 : Int) : Option (Res × Heap) :=
 (cl (call n 26 [(V.int .u8 2), (V.int .i64 (if 0 < (IntKind.i64.wrap (((x1).length : Int) - (IntKind.i64.wrap (Int.tmod x3 3)))) then (IntKind.i64.wrap (((x1).length : Int) - (IntKind.i64.wrap (Int.tmod x3 3)))) else 0)), (V.sl 1 x1 x1b), (V.agg [(V.int .u8 2), (V.int .i32 x2_1)])] []) (fun r0 h1 =>
 (bd (r0)[0]? fun v3 =>
 (bd (r0)[1]? fun v4 =>
 (if ((V.cells v4)).length = 2 then
 (if (((V.cells v4)).length ≤ 2) then
 (cl (call n 26 [(V.int .u8 2), (V.int .i64 5), (V.sl 0 [] false), (V.agg [(V.int .u8 2), (V.int .i32 x2_1)])] h1) (fun r5 h6 =>
 (bd (r5)[0]? fun v8 =>
 (bd (r5)[1]? fun v9 =>
 (if ((V.cells v9)).length = 2 then
 (if (((V.cells v9)).length ≤ 2) then
 (cl (call n 24 [] h6) (fun r10 h11 =>
 (one1 r10 fun v13 =>
 (bv v13 fun b14 => if b14 then
 (bd (bop prog .eql 34 (V.agg (((setR [(V.int .u8 0), (V.int .i32 0)] 0 (V.cells v4))).drop 0 |>.take 2)) (V.agg [(V.int .u8 3), (V.int .i32 0)])) fun v15 =>
 (bv v15 fun b16 => if b16 then
 (cl (call n 23 [v3, (V.sl 1 x1 x1b)] h11) (fun r17 h18 =>
 (one1 r17 fun v20 =>
 (bv v20 fun b21 => if b21 then
 (bd ((setR [(V.int .u8 0), (V.int .i32 0)] 0 (V.cells v9)))[0]? fun v22 =>
 (bd (bop prog .eql 5 v22 (V.int .u8 1)) fun v23 =>
 (bv v23 fun b24 => if b24 then
 (bd (slc v8) fun p25 =>
 some (Res.ret [(V.bool (((p25.2).length : Int) == 1))], h18))
 else
 some (Res.ret [(V.bool false)], h18))))
 else
 some (Res.ret [(V.bool false)], h18)))) (fun z19 h18 => some (Res.pan z19, h18)))
 else
 some (Res.ret [(V.bool false)], h11)))
 else
 some (Res.ret [(V.bool false)], h11)))) (fun z12 h11 => some (Res.pan z12, h11))) else none) else none)))) (fun z7 h6 => some (Res.pan z7, h6))) else none) else none)))) (fun z2 h1 => some (Res.pan z2, h1)))
theorem lawFull_22_eq (n : Nat) (x0 : Int) (x1 : List (List V)) (x1b : Bool) (x2_0 : Int) (x2_1 : Int) (x3 : Int) : lawFull_T n (lawFull_F 2 2 x0 x1 x1b x2_0 x2_1 x3) [] = lawFull_22 n x1 x1b x2_1 x3 := by kernel_rfl
noncomputable def lawFull_23 (n : Nat) (x1 : List (List V)) (x1b : Bool) (x2_1 : Int) (x3 : Int) : Option (Res × Heap) :=
 (cl (call n 26 [(V.int .u8 2), (V.int .i64 (if 0 < (IntKind.i64.wrap (((x1).length : Int) - (IntKind.i64.wrap (Int.tmod x3 3)))) then (IntKind.i64.wrap (((x1).length : Int) - (IntKind.i64.wrap (Int.tmod x3 3)))) else 0)), (V.sl 1 x1 x1b), (V.agg [(V.int .u8 3), (V.int .i32 x2_1)])] []) (fun r0 h1 =>
 (bd (r0)[0]? fun v3 =>
 (bd (r0)[1]? fun v4 =>
 (if ((V.cells v4)).length = 2 then
 (if (((V.cells v4)).length ≤ 2) then
 (cl (call n 26 [(V.int .u8 2), (V.int .i64 5), (V.sl 0 [] false), (V.agg [(V.int .u8 3), (V.int .i32 x2_1)])] h1) (fun r5 h6 =>
 (bd (r5)[0]? fun v8 =>
 (bd (r5)[1]? fun v9 =>
 (if ((V.cells v9)).length = 2 then
 (if (((V.cells v9)).length ≤ 2) then
 (cl (call n 24 [] h6) (fun r10 h11 =>
 (one1 r10 fun v13 =>
 (bv v13 fun b14 => if b14 then
 (bd (bop prog .eql 34 (V.agg (((setR [(V.int .u8 0), (V.int .i32 0)] 0 (V.cells v9))).drop 0 |>.take 2)) (V.agg [(V.int .u8 4), (V.int .i32 0)])) fun v15 =>
 (bv v15 fun b16 => if b16 then
 (bd (slc v8) fun p17 =>
 (if (((p17.2).length : Int) == 0) then
 (if (((x1).length : Int) == 0) then
 some (Res.ret [(V.bool true)], h11)
 else
 (bd ((setR [(V.int .u8 0), (V.int .i32 0)] 0 (V.cells v4)))[0]? fun v18 =>
 (bd (bop prog .eql 5 v18 (V.int .u8 2)) fun v19 =>
 (bv v19 fun b20 => if b20 then
 (bd (slc v3) fun p21 =>
 some (Res.ret [(V.bool (((p21.2).length : Int) == (IntKind.i64.wrap (((x1).length : Int) - 1))))], h11))
 else
 some (Res.ret [(V.bool false)], h11)))))
 else
 some (Res.ret [(V.bool false)], h11)))
 else
 some (Res.ret [(V.bool false)], h11)))
 else
 some (Res.ret [(V.bool false)], h11)))) (fun z12 h11 => some (Res.pan z12, h11))) else none) else none)))) (fun z7 h6 => some (Res.pan z7, h6))) else none) else none)))) (fun z2 h1 => some (Res.pan z2, h1)))
theorem lawFull_23_eq (n : Nat) (x0 : Int) (x1 : List (List V)) (x1b : Bool) (x2_0 : Int) (x2_1 : Int) (x3 : Int) : lawFull_T n (lawFull_F 2 3 x0 x1 x1b x2_0 x2_1 x3) [] = lawFull_23 n x1 x1b x2_1 x3 := by kernel_rfl
noncomputable def lawFull_24 (n : Nat) (x1 : List (List V)) (x1b : Bool) (x2_1 : Int) (x3 : Int) : Option (Res × Heap) :=
 (cl (call n 26 [(V.int .u8 2), (V.int .i64 (if 0 < (IntKind.i64.wrap (((x1).length : Int) - (IntKind.i64.wrap (Int.tmod x3 3)))) then (IntKind.i64.wrap (((x1).length : Int) - (IntKind.i64.wrap (Int.tmod x3 3)))) else 0)), (V.sl 1 x1 x1b), (V.agg [(V.int .u8 4), (V.int .i32 x2_1)])] []) (fun r0 h1 =>
 (bd (r0)[0]? fun v3 =>
 (bd (r0)[1]? fun v4 =>
 (if ((V.cells v4)).length = 2 then
 (if (((V.cells v4)).length ≤ 2) then
 (cl (call n 26 [(V.int .u8 2), (V.int .i64 5), (V.sl 0 [] false), (V.agg [(V.int .u8 4), (V.int .i32 x2_1)])] h1) (fun r5 h6 =>
 (bd (r5)[0]? fun v8 =>
 (bd (r5)[1]? fun v9 =>
 (if ((V.cells v9)).length = 2 then
 (if (((V.cells v9)).length ≤ 2) then
 (cl (call n 24 [] h6) (fun r10 h11 =>
 (one1 r10 fun v13 =>
 (bv v13 fun b14 => if b14 then
 (bd (bop prog .eql 34 (V.agg (((setR [(V.int .u8 0), (V.int .i32 0)] 0 (V.cells v9))).drop 0 |>.take 2)) (V.agg [(V.int .u8 4), (V.int .i32 0)])) fun v15 =>
 (bv v15 fun b16 => if b16 then
 (bd (slc v8) fun p17 =>
 (if (((p17.2).length : Int) == 0) then
 (if (((x1).length : Int) == 0) then
 some (Res.ret [(V.bool true)], h11)
 else
 (bd ((setR [(V.int .u8 0), (V.int .i32 0)] 0 (V.cells v4)))[0]? fun v18 =>
 (bd (bop prog .eql 5 v18 (V.int .u8 2)) fun v19 =>
 (bv v19 fun b20 => if b20 then
 (bd (slc v3) fun p21 =>
 some (Res.ret [(V.bool (((p21.2).length : Int) == (IntKind.i64.wrap (((x1).length : Int) - 1))))], h11))
 else
 some (Res.ret [(V.bool false)], h11)))))
 else
 some (Res.ret [(V.bool false)], h11)))
 else
 some (Res.ret [(V.bool false)], h11)))
 else
 some (Res.ret [(V.bool false)], h11)))) (fun z12 h11 => some (Res.pan z12, h11))) else none) else none)))) (fun z7 h6 => some (Res.pan z7, h6))) else none) else none)))) (fun z2 h1 => some (Res.pan z2, h1)))
theorem lawFull_24_eq (n : Nat) (x0 : Int) (x1 : List (List V)) (x1b : Bool) (x2_0 : Int) (x2_1 : Int) (x3 : Int) : lawFull_T n (lawFull_F 2 4 x0 x1 x1b x2_0 x2_1 x3) [] = lawFull_24 n x1 x1b x2_1 x3 := by kernel_rfl
noncomputable def lawFull_31 (n : Nat) (x1 : List (List V)) (x1b : Bool) (x2_1 : Int) (x3 : Int) : Option (Res × Heap) :=
 (cl (call n 26 [(V.int .u8 3), (V.int .i64 (if 0 < (IntKind.i64.wrap (((x1).length : Int) - (IntKind.i64.wrap (Int.tmod x3 3)))) then (IntKind.i64.wrap (((x1).length : Int) - (IntKind.i64.wrap (Int.tmod x3 3)))) else 0)), (V.sl 1 x1 x1b), (V.agg [(V.int .u8 1), (V.int .i32 x2_1)])] []) (fun r0 h1 =>
 (bd (r0)[0]? fun v3 =>
 (bd (r0)[1]? fun v4 =>
 (if ((V.cells v4)).length = 2 then
 (if (((V.cells v4)).length ≤ 2) then
 (cl (call n 26 [(V.int .u8 3), (V.int .i64 5), (V.sl 0 [] false), (V.agg [(V.int .u8 1), (V.int .i32 x2_1)])] h1) (fun r5 h6 =>
 (bd (r5)[0]? fun v8 =>
 (bd (r5)[1]? fun v9 =>
 (if ((V.cells v9)).length = 2 then
 (if (((V.cells v9)).length ≤ 2) then
 (cl (call n 24 [] h6) (fun r10 h11 =>
 (one1 r10 fun v13 =>
 (bv v13 fun b14 => if b14 then
 (bd (bop prog .eql 34 (V.agg (((setR [(V.int .u8 0), (V.int .i32 0)] 0 (V.cells v4))).drop 0 |>.take 2)) (V.agg [(V.int .u8 3), (V.int .i32 0)])) fun v15 =>
 (bv v15 fun b16 => if b16 then
 (cl (call n 23 [v3, (V.sl 1 x1 x1b)] h11) (fun r17 h18 =>
 (one1 r17 fun v20 =>
 (bv v20 fun b21 => if b21 then
 (bd ((setR [(V.int .u8 0), (V.int .i32 0)] 0 (V.cells v9)))[0]? fun v22 =>
 (bd (bop prog .eql 5 v22 (V.int .u8 1)) fun v23 =>
 (bv v23 fun b24 => if b24 then
 (bd (slc v8) fun p25 =>
 some (Res.ret [(V.bool (((p25.2).length : Int) == 1))], h18))
 else
 some (Res.ret [(V.bool false)], h18))))
 else
 some (Res.ret [(V.bool false)], h18)))) (fun z19 h18 => some (Res.pan z19, h18)))
 else
 some (Res.ret [(V.bool false)], h11)))
 else
 some (Res.ret [(V.bool false)], h11)))) (fun z12 h11 => some (Res.pan z12, h11))) else none) else none)))) (fun z7 h6 => some (Res.pan z7, h6))) else none) else none)))) (fun z2 h1 => some (Res.pan z2, h1)))
theorem lawFull_31_eq (n : Nat) (x0 : Int) (x1 : List (List V)) (x1b : Bool) (x2_0 : Int) (x2_1 : Int) (x3 : Int) : lawFull_T n (lawFull_F 3 1 x0 x1 x1b x2_0 x2_1 x3) [] = lawFull_31 n x1 x1b x2_1 x3 := by kernel_rfl
noncomputable def lawFull_32 (n : Nat) (x1 : List (List V)) (x1b : Bool) (x2_1 : Int) (x3 : Int) : Option (Res × Heap) :=
 (cl (call n 26 [(V.int .u8 3), (V.int .i64 (if 0 < (IntKind.i64.wrap (((x1).length : Int) - (IntKind.i64.wrap (Int.tmod x3 3)))) then (IntKind.i64.wrap (((x1).length : Int) - (IntKind.i64.wrap (Int.tmod x3 3)))) else 0)), (V.sl 1 x1 x1b), (V.agg [(V.int .u8 2), (V.int .i32 x2_1)])] []) (fun r0 h1 =>
 (bd (r0)[0]? fun v3 =>
 (bd (r0)[1]? fun v4 =>
 (if ((V.cells v4)).length = 2 then
 (if (((V.cells v4)).length ≤ 2) then
 (cl (call n 26 [(V.int .u8 3), (V.int .i64 5), (V.sl 0 [] false), (V.agg [(V.int .u8 2), (V.int .i32 x2_1)])] h1) (fun r5 h6 =>
 (bd (r5)[0]? fun v8 =>
 (bd (r5)[1]? fun v9 =>
 (if ((V.cells v9)).length = 2 then
 (if (((V.cells v9)).length ≤ 2) then
 (cl (call n 24 [] h6) (fun r10 h11 =>
 (one1 r10 fun v13 =>
 (bv v13 fun b14 => if b14 then
 (bd (bop prog .eql 34 (V.agg (((setR [(V.int .u8 0), (V.int .i32 0)] 0 (V.cells v9))).drop 0 |>.take 2)) (V.agg [(V.int .u8 4), (V.int .i32 0)])) fun v15 =>
 (bv v15 fun b16 => if b16 then
 (bd (slc v8) fun p17 =>
 (if (((p17.2).length : Int) == 0) then
 (if (((x1).length : Int) == 0) then
 some (Res.ret [(V.bool true)], h11)
 else
 (bd ((setR [(V.int .u8 0), (V.int .i32 0)] 0 (V.cells v4)))[0]? fun v18 =>
 (bd (bop prog .eql 5 v18 (V.int .u8 2)) fun v19 =>
 (bv v19 fun b20 => if b20 then
 (bd (slc v3) fun p21 =>
 some (Res.ret [(V.bool (((p21.2).length : Int) == (IntKind.i64.wrap (((x1).length : Int) - 1))))], h11))
 else
 some (Res.ret [(V.bool false)], h11)))))
 else
 some (Res.ret [(V.bool false)], h11)))
 else
 some (Res.ret [(V.bool false)], h11)))
 else
 some (Res.ret [(V.bool false)], h11)))) (fun z12 h11 => some (Res.pan z12, h11))) else none) else none)))) (fun z7 h6 => some (Res.pan z7, h6))) else none) else none)))) (fun z2 h1 => some (Res.pan z2, h1)))
theorem lawFull_32_eq (n : Nat) (x0 : Int) (x1 : List (List V)) (x1b : Bool) (x2_0 : Int) (x2_1 : Int) (x3 : Int) : lawFull_T n (lawFull_F 3 2 x0 x1 x1b x2_0 x2_1 x3) [] = lawFull_32 n x1 x1b x2_1 x3 := by kernel_rfl
noncomputable def lawFull_33 (n : Nat) (x1 : List (List V)) (x1b : Bool) (x2_1 : Int) (x3 : Int) : Option (Res × Heap) :=
 (cl (call n 26 [(V.int .u8 3), (V.int .i64 (if 0 < (IntKind.i64.wrap (((x1).length : Int) - (IntKind.i64.wrap (Int.tmod x3 3)))) then (IntKind.i64.wrap (((x1).length : Int) - (IntKind.i64.wrap (Int.tmod x3 3)))) else 0)), (V.sl 1 x1 x1b), (V.agg [(V.int .u8 3), (V.int .i32 x2_1)])] []) (fun r0 h1 =>
 (bd (r0)[0]? fun v3 =>
 (bd (r0)[1]? fun v4 =>
 (if ((V.cells v4)).length = 2 then
 (if (((V.cells v4)).length ≤ 2) then
 (cl (call n 26 [(V.int .u8 3), (V.int .i64 5), (V.sl 0 [] false), (V.agg [(V.int .u8 3), (V.int .i32 x2_1)])] h1) (fun r5 h6 =>
 (bd (r5)[0]? fun v8 =>
 (bd (r5)[1]? fun v9 =>
 (if ((V.cells v9)).length = 2 then
 (if (((V.cells v9)).length ≤ 2) then
 (cl (call n 24 [] h6) (fun r10 h11 =>
 (one1 r10 fun v13 =>
 (bv v13 fun b14 => if b14 then
 (bd ((setR [(V.int .u8 0), (V.int .i32 0)] 0 (V.cells v4)))[0]? fun v15 =>
 (bd (bop prog .eql 5 v15 (V.int .u8 5)) fun v16 =>
 (bv v16 fun b17 => if b17 then
 (bd ((setR [(V.int .u8 0), (V.int .i32 0)] 0 (V.cells v9)))[0]? fun v18 =>
 (bd (bop prog .eql 5 v18 (V.int .u8 5)) fun v19 =>
 (bv v19 fun b20 => if b20 then
 (cl (call n 23 [v3, (V.sl 1 x1 x1b)] h11) (fun r21 h22 =>
 (one1 r21 fun v24 =>
 some (Res.ret [v24], h22))) (fun z23 h22 => some (Res.pan z23, h22)))
 else
 some (Res.ret [(V.bool false)], h11))))
 else
 some (Res.ret [(V.bool false)], h11))))
 else
 some (Res.ret [(V.bool false)], h11)))) (fun z12 h11 => some (Res.pan z12, h11))) else none) else none)))) (fun z7 h6 => some (Res.pan z7, h6))) else none) else none)))) (fun z2 h1 => some (Res.pan z2, h1)))
theorem lawFull_33_eq (n : Nat) (x0 : Int) (x1 : List (List V)) (x1b : Bool) (x2_0 : Int) (x2_1 : Int) (x3 : Int) : lawFull_T n (lawFull_F 3 3 x0 x1 x1b x2_0 x2_1 x3) [] = lawFull_33 n x1 x1b x2_1 x3 := by kernel_rfl
noncomputable def lawFull_34 (n : Nat) (x1 : List (List V)) (x1b : Bool) (x2_1 : Int) (x3 : Int) : Option (Res × Heap) :=
 (cl (call n 26 [(V.int .u8 3), (V.int .i64 (if 0 < (IntKind.i64.wrap (((x1).length : Int) - (IntKind.i64.wrap (Int.tmod x3 3)))) then (IntKind.i64.wrap (((x1).length : Int) - (IntKind.i64.wrap (Int.tmod x3 3)))) else 0)), (V.sl 1 x1 x1b), (V.agg [(V.int .u8 4), (V.int .i32 x2_1)])] []) (fun r0 h1 =>
 (bd (r0)[0]? fun v3 =>
 (bd (r0)[1]? fun v4 =>
 (if ((V.cells v4)).length = 2 then
 (if (((V.cells v4)).length ≤ 2) then
 (cl (call n 26 [(V.int .u8 3), (V.int .i64 5), (V.sl 0 [] false), (V.agg [(V.int .u8 4), (V.int .i32 x2_1)])] h1) (fun r5 h6 =>
 (bd (r5)[0]? fun v8 =>
 (bd (r5)[1]? fun v9 =>
 (if ((V.cells v9)).length = 2 then
 (if (((V.cells v9)).length ≤ 2) then
 (cl (call n 24 [] h6) (fun r10 h11 =>
 (one1 r10 fun v13 =>
 (bv v13 fun b14 => if b14 then
 (bd ((setR [(V.int .u8 0), (V.int .i32 0)] 0 (V.cells v4)))[0]? fun v15 =>
 (bd (bop prog .eql 5 v15 (V.int .u8 5)) fun v16 =>
 (bv v16 fun b17 => if b17 then
 (bd ((setR [(V.int .u8 0), (V.int .i32 0)] 0 (V.cells v9)))[0]? fun v18 =>
 (bd (bop prog .eql 5 v18 (V.int .u8 5)) fun v19 =>
 (bv v19 fun b20 => if b20 then
 (cl (call n 23 [v3, (V.sl 1 x1 x1b)] h11) (fun r21 h22 =>
 (one1 r21 fun v24 =>
 some (Res.ret [v24], h22))) (fun z23 h22 => some (Res.pan z23, h22)))
 else
 some (Res.ret [(V.bool false)], h11))))
 else
 some (Res.ret [(V.bool false)], h11))))
 else
 some (Res.ret [(V.bool false)], h11)))) (fun z12 h11 => some (Res.pan z12, h11))) else none) else none)))) (fun z7 h6 => some (Res.pan z7, h6))) else none) else none)))) (fun z2 h1 => some (Res.pan z2, h1)))
theorem lawFull_34_eq (n : Nat) (x0 : Int) (x1 : List (List V)) (x1b : Bool) (x2_0 : Int) (x2_1 : Int) (x3 : Int) : lawFull_T n (lawFull_F 3 4 x0 x1 x1b x2_0 x2_1 x3) [] = lawFull_34 n x1 x1b x2_1 x3 := by kernel_rfl
end Go.Proofs.Try
