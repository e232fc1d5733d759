import Derived.Test.YtodgpfffnnlbhaaLset
import Derived.Test.YtodgpfffnnlbhaaLwd
/-! reaperlaw19.Spans and the laws of history, printed -/
set_option linter.unusedVariables false
namespace Go.Proofs.Try
open Go.L
set_option maxRecDepth 100000
noncomputable def lwFront_l9 (n : Nat) (x0 : Int) (x1 : Int) (v4 : V) (v6 : V) (st10 : List V) (hh11 : Heap) (next12 : List V → Heap → Option (Res × Heap)) : Option (Res × Heap) :=
 (bd (bop prog .lss 3 (gv st10 1) (V.int .i64 (((lsl (gv st10 0))).length : Int))) fun v13 =>
 (bv v13 fun b14 => if b14 then
 (bdS (nv (gv st10 1)) fun n15 =>
 (if (8 = 8 ∧ n15 < ((lsl (gv st10 0))).length ∧ (some 44 : Option Nat) ≠ some 12) then
 (bd ((lsl (gv st10 0)))[n15]? fun es16 =>
 (bdS (nv (gv st10 1)) fun n17 =>
 (if (8 = 8 ∧ n17 < ((((lsl (gv st10 0))).set n15 (setR es16 7 [(V.int .i64 (-1))]))).length ∧ (some 49 : Option Nat) ≠ some 12) then
 (bd ((((lsl (gv st10 0))).set n15 (setR es16 7 [(V.int .i64 (-1))])))[n17]? fun es18 =>
 (bd (bop prog .add 3 (gv st10 1) (V.int .i64 1)) fun v19 =>
 (next12 [(V.sl 8 (((((lsl (gv st10 0))).set n15 (setR es16 7 [(V.int .i64 (-1))]))).set n17 (setR es18 4 [(V.int .u8 0), (V.int .i32 0)])) false), v19, (V.bool false)] hh11))) else none))) else none))
 else
 (cl (call n 26 [] hh11) (fun r20 h21 =>
 (one1 r20 fun v23 =>
 (bv v23 fun b24 => if b24 then
 (bd (lenP v4) fun n25 =>
 (bdS (nv v6) fun n26 =>
 (bd (sliceP 7 0 n26 (none : Option Nat) true v4) fun v27 =>
 (bd (evBsL [(some (V.int .u8 (IntKind.u8.wrap (1 + (Int.tmod x0 3))))), (some (V.int .i64 (IntKind.i64.wrap (1 + (IntKind.i64.wrap (Int.tmod x1 5)))))), (some (V.sl 8 (lsl (gv st10 0)) false)), (valB h21 v27)]) fun a48 => cl (call n 28 (a48 ++ []) h21) (fun r28 h29 => if V.simple.simpleL r28 then
 (one1 r28 fun v31 =>
 (bd (bop prog .eql 56 v31 (V.int .u16 0)) fun v32 =>
 (bv v32 fun b33 => if b33 then
 (bd (evBsL [(some (V.int .u8 (IntKind.u8.wrap (1 + (Int.tmod x0 3))))), (some (V.int .i64 (IntKind.i64.wrap (1 + (IntKind.i64.wrap (Int.tmod x1 5)))))), (some (V.sl 8 (lsl (gv st10 0)) false)), (valB h29 v4)]) fun a47 => cl (call n 28 (a47 ++ []) h29) (fun r34 h35 => if V.simple.simpleL r34 then
 (one1 r34 fun v37 =>
 (bd (bop prog .eql 56 v37 (V.int .u16 0)) fun v38 =>
 (bv v38 fun b39 => if b39 then
 (cl (call n 30 [(V.sl 8 (lsl (gv st10 0)) false)] h35) (fun r40 h41 =>
 (one1 r40 fun v43 =>
 (bd (slcH h41 v4) fun p44 =>
 (bd (bop prog .sub 3 (V.int .i64 ((p44.2).length : Int)) v6) fun v45 =>
 (bd (bop prog .eql 3 v43 v45) fun v46 =>
 some (Res.ret [v46], h41)))))) (fun z42 h41 => some (Res.pan z42, h41)))
 else
 some (Res.ret [(V.bool false)], h35)))) else none) (fun z36 h35 => if z36.simple then some (Res.pan z36, h35) else none))
 else
 some (Res.ret [(V.bool false)], h29)))) else none) (fun z30 h29 => if z30.simple then some (Res.pan z30, h29) else none)))))
 else
 some (Res.ret [(V.bool false)], h21)))) (fun z22 h21 => some (Res.pan z22, h21)))))
noncomputable def lwFront (n : Nat) (x0 : Int) (x1 : Int) (x2 : List (List V)) (x2b : Bool) (x3 : Int) : Option (Res × Heap) :=
 (cl (call n 27 [(V.int .u8 (IntKind.u8.wrap (1 + (Int.tmod x0 3)))), (V.int .i64 (IntKind.i64.wrap (1 + (IntKind.i64.wrap (Int.tmod x1 5))))), (V.sl 1 x2 x2b), (V.sl 0 [] true)] []) (fun r0 h1 =>
 (bd (r0)[0]? fun v3 =>
 (bd (r0)[1]? fun v4 =>
 (bd (slcH h1 v4) fun p5 =>
 (bd (bop prog .rem 3 (V.int .i64 (IntKind.i64.wrap x3)) (V.int .i64 (IntKind.i64.wrap (((p5.2).length : Int) + 1)))) fun v6 =>
 (bdS (slcH h1 v3) fun p7 =>
 (if (49 = 49 ∧ (p7.1 = 8 ∨ (p7.2).isEmpty = true)) then
 (bd (app 54 8 (S.own 54 8 []) p7.2) fun l8 =>
 (loopx n (lwFront_l9 n x0 x1 v4 v6) [(V.sl 8 l8 false), v6, (V.bool false)] h1)) else none))))))) (fun z2 h1 => some (Res.pan z2, h1)))
theorem lwFront_eq (n : Nat) (x0 : Int) (x1 : Int) (x2 : List (List V)) (x2b : Bool) (x3 : Int) (h : Heap) : call (n + 1) 12 [(V.int .u8 x0), (V.int .u8 x1), (V.sl 1 x2 x2b), (V.int .u8 x3)] h = gcw [(V.int .u8 x0), (V.int .u8 x1), (V.sl 1 x2 x2b), (V.int .u8 x3)] (lwFront n x0 x1 x2 x2b x3) h := by kernel_rfl
noncomputable def lWrong (n : Nat) (x0 : Int) (x1 : Int) (x2 : List (List V)) (x2b : Bool) (x3 : Int) : Option (Res × Heap) :=
 (cl (call n 27 [(V.int .u8 (IntKind.u8.wrap (1 + (Int.tmod x0 3)))), (V.int .i64 (IntKind.i64.wrap (1 + (IntKind.i64.wrap (Int.tmod x1 5))))), (V.sl 1 x2 x2b), (V.sl 0 [] true)] []) (fun r0 h1 =>
 (bd (r0)[0]? fun v3 =>
 (bd (r0)[1]? fun v4 =>
 (bd (slcH h1 v4) fun p5 =>
 (if (decide (((p5.2).length : Int) < 2)) then
 (cl (call n 26 [] h1) (fun r6 h7 =>
 (one1 r6 fun v9 =>
 some (Res.ret [v9], h7))) (fun z8 h7 => some (Res.pan z8, h7)))
 else
 (bd (slcH h1 v4) fun p10 =>
 (bd (bop prog .rem 3 (V.int .i64 (IntKind.i64.wrap x3)) (V.int .i64 (IntKind.i64.wrap (((p10.2).length : Int) - 1)))) fun v11 =>
 (bd (lenP v4) fun n12 =>
 (bdS (nv v11) fun n13 =>
 (bd (sliceP 7 0 n13 (none : Option Nat) true v4) fun v14 =>
 (bdS (slcH h1 v14) fun p15 =>
 (if (50 = 50 ∧ (p15.1 = 7 ∨ (p15.2).isEmpty = true)) then
 (bd (app 60 7 (S.own 60 7 []) p15.2) fun l16 =>
 (bd (bop prog .add 3 v11 (V.int .i64 1)) fun v17 =>
 (bd (lenP v4) fun n18 =>
 (bdS (nv v17) fun n19 =>
 (bd (sliceP 7 n19 n18 (none : Option Nat) true v4) fun v20 =>
 (bdS (slcH h1 v20) fun p21 =>
 (if (50 = 50 ∧ (p21.1 = 7 ∨ (p21.2).isEmpty = true)) then
 (bd (app 60 7 (S.own 60 7 l16) p21.2) fun l22 =>
 (bdS (slcH h1 v4) fun p23 =>
 (if (50 = 50 ∧ (p23.1 = 7 ∨ (p23.2).isEmpty = true)) then
 (bd (app 60 7 (S.own 60 7 []) p23.2) fun l24 =>
 (bdS (nv v11) fun n25 =>
 (bd (idxP 7 n25 v4) fun p26 =>
 (bd3 (cellsP h1 p26) fun cs28 m27 o29 => if (o29 + 7 ≤ m27 ∧ 0 < 7) then
 (bd (bslV prog 50 1 [(0, (V.agg ((cs28).drop o29 |>.take 7)))]) fun p30 =>
 (bd (app 60 7 (S.own 60 7 l24) p30.2) fun l31 =>
 (bdS (slcH h1 v4) fun p32 =>
 (if (50 = 50 ∧ (p32.1 = 7 ∨ (p32.2).isEmpty = true)) then
 (bd (app 60 7 (S.own 60 7 []) p32.2) fun l33 =>
 (bd (bop prog .add 3 v11 (V.int .i64 1)) fun v34 =>
 (bdS (nv v34) fun n35 =>
 (bd (idxP 7 n35 v4) fun p36 =>
 (bd3 (cellsP h1 p36) fun cs38 m37 o39 => if (o39 + 7 ≤ m37 ∧ 0 < 7) then
 (bdS (nv v11) fun n40 =>
 (if (7 = 7 ∧ n40 < (l33).length ∧ (some 71 : Option Nat) ≠ some 14) then
 (if (((cs38).drop o39 |>.take 7)).length = 7 then
 (if (7 = 7 ∧ 0 < 7 ∧ 0 + (((cs38).drop o39 |>.take 7)).length ≤ 7) then
 (bd (l33)[n40]? fun es41 =>
 (bd (bop prog .add 3 v11 (V.int .i64 1)) fun v42 =>
 (bdS (nv v11) fun n43 =>
 (bd (idxP 7 n43 v4) fun p44 =>
 (bd3 (cellsP h1 p44) fun cs46 m45 o47 => if (o47 + 7 ≤ m45 ∧ 0 < 7) then
 (bdS (nv v42) fun n48 =>
 (if (7 = 7 ∧ n48 < (((l33).set n40 (setR es41 0 ((cs38).drop o39 |>.take 7)))).length ∧ (some 79 : Option Nat) ≠ some 14) then
 (if (((cs46).drop o47 |>.take 7)).length = 7 then
 (if (7 = 7 ∧ 0 < 7 ∧ 0 + (((cs46).drop o47 |>.take 7)).length ≤ 7) then
 (bd (((l33).set n40 (setR es41 0 ((cs38).drop o39 |>.take 7))))[n48]? fun es49 =>
 (bdS (slcH h1 v4) fun p50 =>
 (if (50 = 50 ∧ (p50.1 = 7 ∨ (p50.2).isEmpty = true)) then
 (bd (app 60 7 (S.own 60 7 []) p50.2) fun l51 =>
 (bdS (nv v11) fun n52 =>
 (if (7 = 7 ∧ n52 < (l51).length ∧ (some 85 : Option Nat) ≠ some 15) then
 (bd (l51)[n52]? fun es53 =>
 (bd (es53)[4]? fun v54 =>
 (bd (bop prog .add 5 v54 (V.int .u8 1)) fun v55 =>
 (bdS (nv v11) fun n56 =>
 (if (7 = 7 ∧ n56 < (l51).length ∧ (some 90 : Option Nat) ≠ some 15) then
 (if ((V.cells v55)).length = 1 then
 (if (7 = 7 ∧ 0 < 7 ∧ 4 + ((V.cells v55)).length ≤ 7) then
 (bd (l51)[n56]? fun es57 =>
 (cl (call n 26 [] h1) (fun r58 h59 =>
 (one1 r58 fun v61 =>
 (bv v61 fun b62 => if b62 then
 (bd (evBsL [(some (V.int .u8 (IntKind.u8.wrap (1 + (Int.tmod x0 3))))), (some (V.int .i64 (IntKind.i64.wrap (1 + (IntKind.i64.wrap (Int.tmod x1 5)))))), (valB h59 v3), (some (V.sl 7 l22 false))]) fun a96 => cl (call n 28 (a96 ++ []) h59) (fun r63 h64 => if V.simple.simpleL r63 then
 (one1 r63 fun v66 =>
 (bd (bop prog .eql 56 v66 (V.int .u16 21)) fun v67 =>
 (bv v67 fun b68 => if b68 then
 (bd (evBsL [(some (V.int .u8 (IntKind.u8.wrap (1 + (Int.tmod x0 3))))), (some (V.int .i64 (IntKind.i64.wrap (1 + (IntKind.i64.wrap (Int.tmod x1 5)))))), (valB h64 v3), (some (V.sl 7 l31 false))]) fun a95 => cl (call n 28 (a95 ++ []) h64) (fun r69 h70 => if V.simple.simpleL r69 then
 (one1 r69 fun v72 =>
 (bd (bop prog .eql 56 v72 (V.int .u16 20)) fun v73 =>
 (bv v73 fun b74 => if b74 then
 (bd (evBsL [(some (V.int .u8 (IntKind.u8.wrap (1 + (Int.tmod x0 3))))), (some (V.int .i64 (IntKind.i64.wrap (1 + (IntKind.i64.wrap (Int.tmod x1 5)))))), (valB h70 v3), (some (V.sl 7 ((((l33).set n40 (setR es41 0 ((cs38).drop o39 |>.take 7)))).set n48 (setR es49 0 ((cs46).drop o47 |>.take 7))) false))]) fun a94 => cl (call n 28 (a94 ++ []) h70) (fun r75 h76 => if V.simple.simpleL r75 then
 (one1 r75 fun v78 =>
 (bd (bop prog .eql 56 v78 (V.int .u16 22)) fun v79 =>
 (bv v79 fun b80 => if b80 then
 (bd (evBsL [(some (V.int .u8 (IntKind.u8.wrap (1 + (Int.tmod x0 3))))), (some (V.int .i64 (IntKind.i64.wrap (1 + (IntKind.i64.wrap (Int.tmod x1 5)))))), (valB h76 v3), (some (V.sl 7 ((l51).set n56 (setR es57 4 (V.cells v55))) false))]) fun a93 => cl (call n 28 (a93 ++ []) h76) (fun r81 h82 => if V.simple.simpleL r81 then
 (one1 r81 fun v84 =>
 (bd (bop prog .eql 56 v84 (V.int .u16 23)) fun v85 =>
 (bv v85 fun b86 => if b86 then
 (bd (evBsL [(some (V.int .u8 (IntKind.u8.wrap (1 + (Int.tmod x0 3))))), (some (V.int .i64 (IntKind.i64.wrap (1 + (IntKind.i64.wrap (Int.tmod x1 5)))))), (valB h82 v3), (valB h82 v4)]) fun a92 => cl (call n 28 (a92 ++ []) h82) (fun r87 h88 => if V.simple.simpleL r87 then
 (one1 r87 fun v90 =>
 (bd (bop prog .eql 56 v90 (V.int .u16 0)) fun v91 =>
 some (Res.ret [v91], h88))) else none) (fun z89 h88 => if z89.simple then some (Res.pan z89, h88) else none))
 else
 some (Res.ret [(V.bool false)], h82)))) else none) (fun z83 h82 => if z83.simple then some (Res.pan z83, h82) else none))
 else
 some (Res.ret [(V.bool false)], h76)))) else none) (fun z77 h76 => if z77.simple then some (Res.pan z77, h76) else none))
 else
 some (Res.ret [(V.bool false)], h70)))) else none) (fun z71 h70 => if z71.simple then some (Res.pan z71, h70) else none))
 else
 some (Res.ret [(V.bool false)], h64)))) else none) (fun z65 h64 => if z65.simple then some (Res.pan z65, h64) else none))
 else
 some (Res.ret [(V.bool false)], h59)))) (fun z60 h59 => some (Res.pan z60, h59)))) else none) else none) else none))))) else none))) else none))) else none) else none) else none)) else none))))) else none) else none) else none)) else none))))) else none)))) else none)))) else none))) else none))))))) else none)))))))))))) (fun z2 h1 => some (Res.pan z2, h1)))
theorem lWrong_eq (n : Nat) (x0 : Int) (x1 : Int) (x2 : List (List V)) (x2b : Bool) (x3 : Int) (h : Heap) : call (n + 1) 10 [(V.int .u8 x0), (V.int .u8 x1), (V.sl 1 x2 x2b), (V.int .u8 x3)] h = gcw [(V.int .u8 x0), (V.int .u8 x1), (V.sl 1 x2 x2b), (V.int .u8 x3)] (lWrong n x0 x1 x2 x2b x3) h := by kernel_rfl
noncomputable def lRight_l9 (n : Nat) (x0 : Int) (x1 : Int) (v7 : V) (v8 : V) (st10 : List V) (hh11 : Heap) (next12 : List V → Heap → Option (Res × Heap)) : Option (Res × Heap) :=
 (bd (slcH hh11 v7) fun p13 =>
 (bd (bop prog .lss 3 (gv st10 0) (V.int .i64 ((p13.2).length : Int))) fun v14 =>
 (bv v14 fun b15 => if b15 then
 (bdS (nv (gv st10 0)) fun n16 =>
 (bd (idxP 8 n16 v7) fun p17 =>
 (bd (addP 7 p17) fun p18 =>
 (bd3 (cellsP hh11 p18) fun cs20 m19 o21 => if (o21 + 1 ≤ m19 ∧ 0 < 1) then
 (bd (cs20)[o21]? fun v22 =>
 (bd (bop prog .geq 3 v22 (V.int .i64 0)) fun v23 =>
 (bv v23 fun b24 => if b24 then
 (bd (bop prog .add 3 (gv st10 0) (V.int .i64 1)) fun v25 =>
 (bd (slcH hh11 v7) fun p26 =>
 (bd (bop prog .lss 3 v25 (V.int .i64 ((p26.2).length : Int))) fun v27 =>
 (bv v27 fun b28 => if b28 then
 (bdS (nv (gv st10 0)) fun n29 =>
 (bd (idxP 8 n29 v7) fun p30 =>
 (bd (addP 7 p30) fun p31 =>
 (bd3 (cellsP hh11 p31) fun cs33 m32 o34 => if (o34 + 1 ≤ m32 ∧ 0 < 1) then
 (bd (cs33)[o34]? fun v35 =>
 (bd (bop prog .mul 3 (V.int .i64 4) (gv st10 0)) fun v36 =>
 (bd (bop prog .add 3 v36 (V.int .i64 4)) fun v37 =>
 (bd (bop prog .geq 3 v35 v37) fun v38 =>
 (bv v38 fun b39 => if b39 then
 (bd (bop prog .add 3 (gv st10 0) (V.int .i64 1)) fun v40 =>
 (bdS (nv v40) fun n41 =>
 (bd (idxP 8 n41 v7) fun p42 =>
 (bd (addP 6 p42) fun p43 =>
 (bd3 (cellsP hh11 p43) fun cs45 m44 o46 => if (o46 + 1 ≤ m44 ∧ 0 < 1) then
 (bd (cs45)[o46]? fun v47 =>
 (bd (bop prog .mul 3 (V.int .i64 4) (gv st10 0)) fun v48 =>
 (bd (bop prog .gtr 3 v47 v48) fun v49 =>
 (bv v49 fun b50 => if b50 then
 (bd (bop prog .mul 3 (V.int .i64 4) (gv st10 0)) fun v51 =>
 (bdS (nv (gv st10 0)) fun n52 =>
 (bd (idxP 8 n52 v7) fun p53 =>
 (bd (addP 7 p53) fun p54 =>
 (if ((V.cells v51)).length = 1 then
 (bd2 (writeB hh11 (V.cells v51) p54) fun b55 x56 =>
 (bd (bop prog .add 3 (gv st10 0) (V.int .i64 1)) fun v57 =>
 (next12 [v57] ((hh11).set b55 x56)))) else none)))))
 else
 (bd (bop prog .add 3 (gv st10 0) (V.int .i64 1)) fun v58 =>
 (next12 [v58] hh11)))))) else none)))))
 else
 (bd (bop prog .add 3 (gv st10 0) (V.int .i64 1)) fun v59 =>
 (next12 [v59] hh11))))))) else none))))
 else
 (bd (bop prog .add 3 (gv st10 0) (V.int .i64 1)) fun v60 =>
 (next12 [v60] hh11))))))
 else
 (bd (bop prog .add 3 (gv st10 0) (V.int .i64 1)) fun v61 =>
 (next12 [v61] hh11))))) else none))))
 else
 (bd (evBsL [(some (V.int .u8 (IntKind.u8.wrap (1 + (Int.tmod x0 3))))), (some (V.int .i64 (IntKind.i64.wrap (1 + (IntKind.i64.wrap (Int.tmod x1 5)))))), (valB hh11 v7), (valB hh11 v8)]) fun a104 => cl (call n 28 (a104 ++ []) hh11) (fun r62 h63 => if V.simple.simpleL r62 then
 (one1 r62 fun v65 =>
 (bd (slcH h63 v8) fun p66 =>
 (if (((p66.2).length : Int) == 0) then
 (cl (call n 26 [] h63) (fun r67 h68 =>
 (one1 r67 fun v70 =>
 (bv v70 fun b71 => if b71 then
 (bd (bop prog .eql 56 v65 (V.int .u16 0)) fun v72 =>
 some (Res.ret [v72], h68))
 else
 some (Res.ret [(V.bool false)], h68)))) (fun z69 h68 => some (Res.pan z69, h68)))
 else
 (bdS (nv (V.int .i64 (IntKind.i64.wrap (((p66.2).length : Int) - 1)))) fun n73 =>
 (bd (idxP 8 n73 v7) fun p74 =>
 (bd (addP 7 p74) fun p75 =>
 (bd3 (cellsP h63 p75) fun cs77 m76 o78 => if (o78 + 1 ≤ m76 ∧ 0 < 1) then
 (bd (cs77)[o78]? fun v79 =>
 (bd (bop prog .geq 3 v79 (V.int .i64 0)) fun v80 =>
 (bv v80 fun b81 => if b81 then
 (cl (call n 26 [] h63) (fun r82 h83 =>
 (one1 r82 fun v85 =>
 (bv v85 fun b86 => if b86 then
 (bd (bop prog .eql 56 v65 (V.int .u16 0)) fun v87 =>
 some (Res.ret [v87], h83))
 else
 some (Res.ret [(V.bool false)], h83)))) (fun z84 h83 => some (Res.pan z84, h83)))
 else
 (cl (call n 26 [] h63) (fun r88 h89 =>
 (one1 r88 fun v91 =>
 (bv v91 fun b92 => if b92 then
 (bd (bop prog .eql 56 v65 (V.int .u16 0)) fun v93 =>
 (bv v93 fun b94 => if b94 then
 (bd (lenP v8) fun n95 =>
 (bdS (nv (V.int .i64 (IntKind.i64.wrap (((p66.2).length : Int) - 1)))) fun n96 =>
 (bd (sliceP 7 0 n96 (none : Option Nat) true v8) fun v97 =>
 (bd (evBsL [(some (V.int .u8 (IntKind.u8.wrap (1 + (Int.tmod x0 3))))), (some (V.int .i64 (IntKind.i64.wrap (1 + (IntKind.i64.wrap (Int.tmod x1 5)))))), (valB h89 v7), (valB h89 v97)]) fun a103 => cl (call n 28 (a103 ++ []) h89) (fun r98 h99 => if V.simple.simpleL r98 then
 (one1 r98 fun v101 =>
 (bd (bop prog .eql 56 v101 (V.int .u16 0)) fun v102 =>
 some (Res.ret [v102], h99))) else none) (fun z100 h99 => if z100.simple then some (Res.pan z100, h99) else none)))))
 else
 some (Res.ret [(V.bool false)], h89)))
 else
 some (Res.ret [(V.bool false)], h89)))) (fun z90 h89 => some (Res.pan z90, h89)))))) else none))))))) else none) (fun z64 h63 => if z64.simple then some (Res.pan z64, h63) else none)))))
noncomputable def lRight (n : Nat) (x0 : Int) (x1 : Int) (x2 : List (List V)) (x2b : Bool) (x3 : List (List V)) (x3b : Bool) : Option (Res × Heap) :=
 (if (decide ((IntKind.i64.wrap (((x2).length : Int) + ((x3).length : Int))) > 200)) then
 (cl (call n 26 [] []) (fun r0 h1 =>
 (one1 r0 fun v3 =>
 some (Res.ret [v3], h1))) (fun z2 h1 => some (Res.pan z2, h1)))
 else
 (cl (call n 27 [(V.int .u8 (IntKind.u8.wrap (1 + (Int.tmod x0 3)))), (V.int .i64 (IntKind.i64.wrap (1 + (IntKind.i64.wrap (Int.tmod x1 5))))), (V.sl 1 x2 x2b), (V.sl 1 x3 x3b)] []) (fun r4 h5 =>
 (bd (r4)[0]? fun v7 =>
 (bd (r4)[1]? fun v8 =>
 (loopx n (lRight_l9 n x0 x1 v7 v8) [(V.int .i64 0)] h5)))) (fun z6 h5 => some (Res.pan z6, h5))))
theorem lRight_eq (n : Nat) (x0 : Int) (x1 : Int) (x2 : List (List V)) (x2b : Bool) (x3 : List (List V)) (x3b : Bool) (h : Heap) : call (n + 1) 9 [(V.int .u8 x0), (V.int .u8 x1), (V.sl 1 x2 x2b), (V.sl 1 x3 x3b)] h = gcw [(V.int .u8 x0), (V.int .u8 x1), (V.sl 1 x2 x2b), (V.sl 1 x3 x3b)] (lRight n x0 x1 x2 x2b x3 x3b) h := by kernel_rfl
end Go.Proofs.Try
