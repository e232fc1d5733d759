import Derived.Test.YtffncipacppjoaaLwd
/-! spec.Run, the laws of layer 8: PRINTED BY A PROGRAM OF MINE (lift2.lean): each function as a Lean definition, and that L reckons just that -/
set_option linter.unusedVariables false
namespace Go.Proofs.Try
open Go.L
set_option maxRecDepth 100000
noncomputable def lOps_l0 (n : Nat) (c : V) (kinds : Int) (st1 : List V) (hh2 : Heap) (next3 : List V → Heap → Option (Res × Heap)) : Option (Res × Heap) :=
 (bd (slc c) fun p4 =>
 (bd (bop prog .lss 3 (gv st1 2) (V.int .i64 ((p4.2).length : Int))) fun v5 =>
 (bv v5 fun b6 => if b6 then
 (bd (bop prog .lss 3 (gv st1 2) (V.int .i64 80)) fun v7 =>
 (bv v7 fun b8 => if b8 then
 (bdS (nv (gv st1 2)) fun n9 =>
 (slk c fun q10 l11 x12 => if (q10 = 1) then
 (bd (l11)[n9]? fun es13 =>
 (bd (es13)[0]? fun v14 =>
 (bd (bop prog .rem 5 v14 (V.int .u8 kinds)) fun v15 =>
 (bd (bop prog .add 5 (V.int .u8 1) v15) fun v16 =>
 (bdS (nv (gv st1 2)) fun n17 =>
 (slk c fun q18 l19 x20 => if (q18 = 1) then
 (bd (l19)[n17]? fun es21 =>
 (bd (es21)[0]? fun v22 =>
 (bd (bop prog .quo 5 v22 (V.int .u8 8)) fun v23 =>
 (bd (cvt prog 5 21 v23) fun v24 =>
 (bd (bop prog .sub 21 v24 (V.int .i32 9)) fun v25 =>
 (bd (bldV prog 34 [(0, v16), (1, v25)]) fun cs26 =>
 (bd (bslV prog 22 1 [(0, (V.agg cs26))]) fun p27 =>
 (bd (app 34 2 (S.own 34 2 (lsl (gv st1 1))) p27.2) fun l28 =>
 (bd (bop prog .add 3 (gv st1 2) (V.int .i64 1)) fun v29 =>
 (next3 [(V.sl 2 (lsl (gv st1 0)) false), (V.sl 2 l28 false), v29] hh2)))))))))) else none)))))) else none))
 else
 some (Res.ret [(V.sl 2 (lsl (gv st1 1)) false)], hh2)))
 else
 some (Res.ret [(V.sl 2 (lsl (gv st1 1)) false)], hh2))))
noncomputable def lOps (n : Nat) (c : V) (kinds : Int) (h : Heap) : Option (Res × Heap) :=
 (loopx n (lOps_l0 n c kinds) [(V.sl 2 [] false), (V.sl 2 [] false), (V.int .i64 0)] h)
theorem lOps_eq (n : Nat) (c : V) (kinds : Int) (h : Heap) : call (n + 1) 12 [c, (V.int .u8 kinds)] h = lOps n c kinds h := by kernel_rfl
noncomputable def lRun_l5 (n : Nat) (o : Int) (m : Int) (os : V) (p4 : Nat × List (List V)) (st6 : List V) (hh7 : Heap) (next8 : List V → Heap → Option (Res × Heap)) : Option (Res × Heap) :=
 (bd (bop prog .lss 3 (gv st6 6) (V.int .i64 ((p4.2).length : Int))) fun v9 =>
 (bv v9 fun b10 => if b10 then
 (bdS (nv (gv st6 6)) fun n11 =>
 (slk os fun q12 l13 x14 => if (q12 = 2) then
 (bd (l13)[n11]? fun es15 =>
 (if (((es15).drop 0 |>.take 2)).length = 2 then
 (if ((((es15).drop 0 |>.take 2)).length ≤ 2) then
 (cl (call n 13 [(V.int .u8 o), (V.int .i64 m), (gv st6 0), (V.agg (((setR [(V.int .u8 0), (V.int .i32 0)] 0 ((es15).drop 0 |>.take 2))).drop 0 |>.take 2))] hh7) (fun r16 h17 =>
 (bd (r16)[0]? fun v19 =>
 (bd (r16)[1]? fun v20 =>
 (bdS (nv (gv st6 6)) fun n21 =>
 (if (2 = 2 ∧ n21 < ((lsl (gv st6 3))).length ∧ (some 35 : Option Nat) ≠ some 10) then
 (if ((V.cells v20)).length = 2 then
 (if (2 = 2 ∧ 0 < 2 ∧ 0 + ((V.cells v20)).length ≤ 2) then
 (bd ((lsl (gv st6 3)))[n21]? fun es22 =>
 (bd (bop prog .add 3 (gv st6 6) (V.int .i64 1)) fun v23 =>
 (next8 [v19, (V.sl 1 (lsl (gv st6 1)) false), (V.sl 2 (lsl (gv st6 2)) false), (V.sl 2 (((lsl (gv st6 3))).set n21 (setR es22 0 (V.cells v20))) false), (V.bool false), (V.bool false), v23] h17))) else none) else none) else none))))) (fun z18 h17 => some (Res.pan z18, h17))) else none) else none)) else none))
 else
 some (Res.ret [(gv st6 0), (V.sl 2 (lsl (gv st6 3)) false)], hh7)))
noncomputable def lRun (n : Nat) (o : Int) (m : Int) (s : V) (os : V) (h : Heap) : Option (Res × Heap) :=
 (bd (slc s) fun p0 =>
 (if ((p0.1 = 1 ∨ (p0.2).isEmpty = true) ∧ (p0.2).length < lim) then
 (bd (slc os) fun p1 =>
 (bdS (nv (V.int .i64 ((p1.2).length : Int))) fun n2 =>
 (bdS (nv (V.int .i64 ((p1.2).length : Int))) fun n3 =>
 (if (n2 = n3 ∧ n2 < lim ∧ 2 = 2) then
 (bd (slc os) fun p4 =>
 (loopx n (lRun_l5 n o m os p4) [(V.sl 1 p0.2 false), (V.sl 1 [] false), (V.sl 2 [] false), (V.sl 2 (List.replicate n2 [(V.int .u8 0), (V.int .i32 0)]) false), (V.bool false), (V.bool false), (V.int .i64 0)] h)) else none)))) else none))
theorem lRun_eq (n : Nat) (o : Int) (m : Int) (s : V) (os : V) (h : Heap) : call (n + 1) 17 [(V.int .u8 o), (V.int .i64 m), s, os] h = lRun n o m s os h := by kernel_rfl
noncomputable def lSame_l2 (n : Nat) (a : V) (b : V) (st3 : List V) (hh4 : Heap) (next5 : List V → Heap → Option (Res × Heap)) : Option (Res × Heap) :=
 (bd (slc a) fun p6 =>
 (bd (bop prog .lss 3 (gv st3 1) (V.int .i64 ((p6.2).length : Int))) fun v7 =>
 (bv v7 fun b8 => if b8 then
 (bdS (nv (gv st3 1)) fun n9 =>
 (slk a fun q10 l11 x12 => if (q10 = 1) then
 (bd (l11)[n9]? fun es13 =>
 (bd (es13)[0]? fun v14 =>
 (bdS (nv (gv st3 1)) fun n15 =>
 (slk b fun q16 l17 x18 => if (q16 = 1) then
 (bd (l17)[n15]? fun es19 =>
 (bd (es19)[0]? fun v20 =>
 (bd (bop prog .neq 21 v14 v20) fun v21 =>
 (bv v21 fun b22 => if b22 then
 some (Res.ret [(V.bool false)], hh4)
 else
 (bd (bop prog .add 3 (gv st3 1) (V.int .i64 1)) fun v23 =>
 (next5 [(gv st3 0), v23] hh4)))))) else none)))) else none))
 else
 some (Res.ret [(V.bool true)], hh4))))
noncomputable def lSame (n : Nat) (a : V) (b : V) (h : Heap) : Option (Res × Heap) :=
 (bd (slc a) fun p0 =>
 (bd (slc b) fun p1 =>
 (if (((p0.2).length : Int) != ((p1.2).length : Int)) then
 some (Res.ret [(V.bool false)], h)
 else
 (loopx n (lSame_l2 n a b) [(V.bool false), (V.int .i64 0)] h))))
theorem lSame_eq (n : Nat) (a : V) (b : V) (h : Heap) : call (n + 1) 14 [a, b] h = lSame n a b h := by kernel_rfl
noncomputable def lTold_l2 (n : Nat) (a : V) (b : V) (st3 : List V) (hh4 : Heap) (next5 : List V → Heap → Option (Res × Heap)) : Option (Res × Heap) :=
 (bd (slc a) fun p6 =>
 (bd (bop prog .lss 3 (gv st3 1) (V.int .i64 ((p6.2).length : Int))) fun v7 =>
 (bv v7 fun b8 => if b8 then
 (bdS (nv (gv st3 1)) fun n9 =>
 (slk a fun q10 l11 x12 => if (q10 = 2) then
 (bd (l11)[n9]? fun es13 =>
 (bdS (nv (gv st3 1)) fun n14 =>
 (slk b fun q15 l16 x17 => if (q15 = 2) then
 (bd (l16)[n14]? fun es18 =>
 (bd (bop prog .neq 30 (V.agg ((es13).drop 0 |>.take 2)) (V.agg ((es18).drop 0 |>.take 2))) fun v19 =>
 (bv v19 fun b20 => if b20 then
 some (Res.ret [(V.bool false)], hh4)
 else
 (bd (bop prog .add 3 (gv st3 1) (V.int .i64 1)) fun v21 =>
 (next5 [(gv st3 0), v21] hh4))))) else none))) else none))
 else
 some (Res.ret [(V.bool true)], hh4))))
noncomputable def lTold (n : Nat) (a : V) (b : V) (h : Heap) : Option (Res × Heap) :=
 (bd (slc a) fun p0 =>
 (bd (slc b) fun p1 =>
 (if (((p0.2).length : Int) != ((p1.2).length : Int)) then
 some (Res.ret [(V.bool false)], h)
 else
 (loopx n (lTold_l2 n a b) [(V.bool false), (V.int .i64 0)] h))))
theorem lTold_eq (n : Nat) (a : V) (b : V) (h : Heap) : call (n + 1) 18 [a, b] h = lTold n a b h := by kernel_rfl
noncomputable def lawHeap_l33 (n : Nat) (st5 : List V) (next7 : List V → Heap → Option (Res × Heap)) (v19 : V) (st34 : List V) (hh35 : Heap) (next36 : List V → Heap → Option (Res × Heap)) : Option (Res × Heap) :=
 (bd (slc v19) fun p37 =>
 (bd (bop prog .lss 3 (gv st34 2) (V.int .i64 ((p37.2).length : Int))) fun v38 =>
 (bv v38 fun b39 => if b39 then
 (bd (bop prog .sub 3 (gv st34 2) (V.int .i64 1)) fun v40 =>
 (bdS (nv v40) fun n41 =>
 (slk v19 fun q42 l43 x44 => if (q42 = 1) then
 (bd (l43)[n41]? fun es45 =>
 (bd (es45)[0]? fun v46 =>
 (bdS (nv (gv st34 2)) fun n47 =>
 (slk v19 fun q48 l49 x50 => if (q48 = 1) then
 (bd (l49)[n47]? fun es51 =>
 (bd (es51)[0]? fun v52 =>
 (bd (bop prog .gtr 21 v46 v52) fun v53 =>
 (bv v53 fun b54 => if b54 then
 some (Res.ret [(V.bool false)], hh35)
 else
 (bd (bop prog .add 3 (gv st34 2) (V.int .i64 1)) fun v55 =>
 (next36 [(gv st34 0), (V.agg (lcs (gv st34 1))), v55] hh35)))))) else none)))) else none)))
 else
 (bd (bop prog .add 3 (gv st5 2) (V.int .i64 1)) fun v56 =>
 (next7 [(gv st34 0), v19, v56] hh35)))))
noncomputable def lawHeap_l57 (n : Nat) (st5 : List V) (next7 : List V → Heap → Option (Res × Heap)) (v19 : V) (st58 : List V) (hh59 : Heap) (next60 : List V → Heap → Option (Res × Heap)) : Option (Res × Heap) :=
 (bd (slc v19) fun p61 =>
 (bd (bop prog .lss 3 (gv st58 2) (V.int .i64 ((p61.2).length : Int))) fun v62 =>
 (bv v62 fun b63 => if b63 then
 (bd (bop prog .sub 3 (gv st58 2) (V.int .i64 1)) fun v64 =>
 (bdS (nv v64) fun n65 =>
 (slk v19 fun q66 l67 x68 => if (q66 = 1) then
 (bd (l67)[n65]? fun es69 =>
 (bd (es69)[0]? fun v70 =>
 (bdS (nv (gv st58 2)) fun n71 =>
 (slk v19 fun q72 l73 x74 => if (q72 = 1) then
 (bd (l73)[n71]? fun es75 =>
 (bd (es75)[0]? fun v76 =>
 (bd (bop prog .gtr 21 v70 v76) fun v77 =>
 (bv v77 fun b78 => if b78 then
 some (Res.ret [(V.bool false)], hh59)
 else
 (bd (bop prog .add 3 (gv st58 2) (V.int .i64 1)) fun v79 =>
 (next60 [(gv st58 0), (V.agg (lcs (gv st58 1))), v79] hh59)))))) else none)))) else none)))
 else
 (bd (bop prog .add 3 (gv st5 2) (V.int .i64 1)) fun v80 =>
 (next7 [(gv st58 0), v19, v80] hh59)))))
noncomputable def lawHeap_l4 (n : Nat) (x0 : Int) (v3 : V) (st5 : List V) (hh6 : Heap) (next7 : List V → Heap → Option (Res × Heap)) : Option (Res × Heap) :=
 (bd (slc v3) fun p8 =>
 (bd (bop prog .lss 3 (gv st5 2) (V.int .i64 ((p8.2).length : Int))) fun v9 =>
 (bv v9 fun b10 => if b10 then
 (bdS (nv (gv st5 2)) fun n11 =>
 (slk v3 fun q12 l13 x14 => if (q12 = 2) then
 (bd (l13)[n11]? fun es15 =>
 (cl (call n 13 [(V.int .u8 3), (V.int .i64 (IntKind.i64.wrap (Int.tmod x0 20))), (gv st5 1), (V.agg ((es15).drop 0 |>.take 2))] hh6) (fun r16 h17 =>
 (bd (r16)[0]? fun v19 =>
 (bd (r16)[1]? fun v20 =>
 (if ((V.cells v20)).length = 2 then
 (if (((V.cells v20)).length ≤ 2) then
 (bd ((setR [(V.int .u8 0), (V.int .i32 0)] 0 (V.cells v20)))[0]? fun v21 =>
 (bd (bop prog .eql 5 v21 (V.int .u8 2)) fun v22 =>
 (bv v22 fun b23 => if b23 then
 (bd (slc (gv st5 1)) fun p24 =>
 (if (((p24.2).length : Int) == 0) then
 some (Res.ret [(V.bool false)], h17)
 else
 (bd ((setR [(V.int .u8 0), (V.int .i32 0)] 0 (V.cells v20)))[1]? fun v25 =>
 (slk (gv st5 1) fun q26 l27 x28 => if (q26 = 1) then
 (bd (l27)[0]? fun es29 =>
 (bd (es29)[0]? fun v30 =>
 (bd (bop prog .neq 21 v25 v30) fun v31 =>
 (bv v31 fun b32 => if b32 then
 some (Res.ret [(V.bool false)], h17)
 else
 (loopx n (lawHeap_l33 n st5 next7 v19) [(gv st5 0), (V.agg (setR [(V.int .u8 0), (V.int .i32 0)] 0 (V.cells v20))), (V.int .i64 1)] h17))))) else none))))
 else
 (loopx n (lawHeap_l57 n st5 next7 v19) [(gv st5 0), (V.agg (setR [(V.int .u8 0), (V.int .i32 0)] 0 (V.cells v20))), (V.int .i64 1)] h17)))) else none) else none)))) (fun z18 h17 => some (Res.pan z18, h17)))) else none))
 else
 (cl (call n 10 [] hh6) (fun r81 h82 =>
 (one1 r81 fun v84 =>
 (bv v84 fun b85 => if b85 then
 (bd (slc (gv st5 1)) fun p86 =>
 some (Res.ret [(V.bool (decide (((p86.2).length : Int) ≤ (IntKind.i64.wrap (Int.tmod x0 20)))))], h82))
 else
 some (Res.ret [(V.bool false)], h82)))) (fun z83 h82 => some (Res.pan z83, h82))))))
noncomputable def lawHeap (n : Nat) (x0 : Int) (x1 : List (List V)) (x1b : Bool) : Option (Res × Heap) :=
 (cl (call n 12 [(V.sl 1 x1 x1b), (V.int .u8 2)] []) (fun r0 h1 =>
 (one1 r0 fun v3 =>
 (loopx n (lawHeap_l4 n x0 v3) [(V.bool false), (V.sl 1 [] false), (V.int .i64 0)] h1))) (fun z2 h1 => some (Res.pan z2, h1)))
theorem lawHeap_eq (n : Nat) (x0 : Int) (x1 : List (List V)) (x1b : Bool) (h : Heap) : call (n + 1) 4 [(V.int .u8 x0), (V.sl 1 x1 x1b)] h = gcw [(V.int .u8 x0), (V.sl 1 x1 x1b)] (lawHeap n x0 x1 x1b) h := by kernel_rfl
noncomputable def lawParts (n : Nat) (x0 : Int) (x1 : Int) (x2 : List (List V)) (x2b : Bool) (x3 : Int) : Option (Res × Heap) :=
 (if (decide (((x2).length : Int) > 100)) then
 (cl (call n 10 [] []) (fun r0 h1 =>
 (one1 r0 fun v3 =>
 some (Res.ret [v3], h1))) (fun z2 h1 => some (Res.pan z2, h1)))
 else
 (cl (call n 12 [(V.sl 1 x2 x2b), (V.int .u8 5)] []) (fun r4 h5 =>
 (one1 r4 fun v7 =>
 (bd (slc v7) fun p8 =>
 (bd (bop prog .rem 3 (V.int .i64 (IntKind.i64.wrap x3)) (V.int .i64 (IntKind.i64.wrap (((p8.2).length : Int) + 1)))) fun v9 =>
 (cl (call n 17 [(V.int .u8 (IntKind.u8.wrap (1 + (Int.tmod x0 3)))), (V.int .i64 x1), (V.sl 0 [] false), v7] h5) (fun r10 h11 =>
 (bd (r10)[0]? fun v13 =>
 (bd (r10)[1]? fun v14 =>
 (slk v7 fun q15 l16 x17 =>
 (bdS (nv v9) fun n18 =>
 (if (0 ≤ n18 ∧ n18 ≤ (l16).length ∧ (q15 = 2 ∨ (l16).isEmpty = true) ∧ ((none : Option Nat) = none ∨ (none : Option Nat) = some n18) ∧ true = true) then
 (cl (call n 17 [(V.int .u8 (IntKind.u8.wrap (1 + (Int.tmod x0 3)))), (V.int .i64 x1), (V.sl 0 [] false), (V.sl 2 (((l16).take n18).drop 0) false)] h11) (fun r19 h20 =>
 (bd (r19)[0]? fun v22 =>
 (bd (r19)[1]? fun v23 =>
 (slk v7 fun q24 l25 x26 =>
 (bdS (nv v9) fun n27 =>
 (if (n27 ≤ (l25).length ∧ (l25).length ≤ (l25).length ∧ (q24 = 2 ∨ (l25).isEmpty = true) ∧ ((none : Option Nat) = none ∨ (none : Option Nat) = some (l25).length) ∧ true = true) then
 (cl (call n 17 [(V.int .u8 (IntKind.u8.wrap (1 + (Int.tmod x0 3)))), (V.int .i64 x1), v22, (V.sl 2 (((l25).take (l25).length).drop n27) false)] h20) (fun r28 h29 =>
 (bd (r28)[0]? fun v31 =>
 (bd (r28)[1]? fun v32 =>
 (bdS (slc v23) fun p33 =>
 (if (40 = 40 ∧ (p33.1 = 2 ∨ (p33.2).isEmpty = true)) then
 (bd (app 30 2 (S.own 30 2 []) p33.2) fun l34 =>
 (bdS (slc v32) fun p35 =>
 (if (40 = 40 ∧ (p35.1 = 2 ∨ (p35.2).isEmpty = true)) then
 (bd (app 30 2 (S.own 30 2 l34) p35.2) fun l36 =>
 (cl (call n 10 [] h29) (fun r37 h38 =>
 (one1 r37 fun v40 =>
 (bv v40 fun b41 => if b41 then
 (cl (call n 14 [v13, v31] h38) (fun r42 h43 =>
 (one1 r42 fun v45 =>
 (bv v45 fun b46 => if b46 then
 (cl (call n 18 [v14, (V.sl 2 l36 false)] h43) (fun r47 h48 =>
 (one1 r47 fun v50 =>
 some (Res.ret [v50], h48))) (fun z49 h48 => some (Res.pan z49, h48)))
 else
 some (Res.ret [(V.bool false)], h43)))) (fun z44 h43 => some (Res.pan z44, h43)))
 else
 some (Res.ret [(V.bool false)], h38)))) (fun z39 h38 => some (Res.pan z39, h38)))) else none))) else none))))) (fun z30 h29 => some (Res.pan z30, h29))) else none)))))) (fun z21 h20 => some (Res.pan z21, h20))) else none)))))) (fun z12 h11 => some (Res.pan z12, h11))))))) (fun z6 h5 => some (Res.pan z6, h5))))
theorem lawParts_eq (n : Nat) (x0 : Int) (x1 : Int) (x2 : List (List V)) (x2b : Bool) (x3 : Int) (h : Heap) : call (n + 1) 8 [(V.int .u8 x0), (V.int .i64 x1), (V.sl 1 x2 x2b), (V.int .u8 x3)] h = gcw [(V.int .u8 x0), (V.int .i64 x1), (V.sl 1 x2 x2b), (V.int .u8 x3)] (lawParts n x0 x1 x2 x2b x3) h := by kernel_rfl
noncomputable def lawBack (n : Nat) (x0 : List (List V)) (x0b : Bool) (x1 : Int) (x2 : Bool) : Option (Res × Heap) :=
 (if (decide (((x0).length : Int) > 100)) then
 (cl (call n 10 [] []) (fun r0 h1 =>
 (one1 r0 fun v3 =>
 some (Res.ret [v3], h1))) (fun z2 h1 => some (Res.pan z2, h1)))
 else
 (if x2 then
 (cl (call n 17 [(V.int .u8 1), (V.int .i64 200), (V.sl 1 x0 x0b), (V.sl 2 [[(V.int .u8 1), (V.int .i32 x1)], [(V.int .u8 2), (V.int .i32 0)]] false)] []) (fun r4 h5 =>
 (bd (r4)[0]? fun v7 =>
 (bd (r4)[1]? fun v8 =>
 (cl (call n 17 [(V.int .u8 2), (V.int .i64 200), (V.sl 1 x0 x0b), (V.sl 2 [[(V.int .u8 2), (V.int .i32 x1)], [(V.int .u8 4), (V.int .i32 0)]] false)] h5) (fun r9 h10 =>
 (bd (r9)[0]? fun v12 =>
 (bd (r9)[1]? fun v13 =>
 (bd (slc v8) fun p14 =>
 (if (((p14.2).length : Int) != 2) then
 some (Res.ret [(V.bool false)], h10)
 else
 (bd (slc v13) fun p15 =>
 (if (((p15.2).length : Int) != 2) then
 some (Res.ret [(V.bool false)], h10)
 else
 (cl (call n 10 [] h10) (fun r16 h17 =>
 (one1 r16 fun v19 =>
 (bv v19 fun b20 => if b20 then
 (cl (call n 14 [v7, (V.sl 1 x0 x0b)] h17) (fun r21 h22 =>
 (one1 r21 fun v24 =>
 (bv v24 fun b25 => if b25 then
 (cl (call n 14 [v12, (V.sl 1 x0 x0b)] h22) (fun r26 h27 =>
 (one1 r26 fun v29 =>
 (bv v29 fun b30 => if b30 then
 (slk v8 fun q31 l32 x33 => if (q31 = 2) then
 (bd (l32)[1]? fun es34 =>
 (bd (bop prog .eql 30 (V.agg ((es34).drop 0 |>.take 2)) (V.agg [(V.int .u8 2), (V.int .i32 x1)])) fun v35 =>
 (bv v35 fun b36 => if b36 then
 (slk v13 fun q37 l38 x39 => if (q37 = 2) then
 (bd (l38)[1]? fun es40 =>
 (slk v8 fun q41 l42 x43 => if (q41 = 2) then
 (bd (l42)[1]? fun es44 =>
 (bd (bop prog .eql 30 (V.agg ((es40).drop 0 |>.take 2)) (V.agg ((es44).drop 0 |>.take 2))) fun v45 =>
 some (Res.ret [v45], h27))) else none)) else none)
 else
 some (Res.ret [(V.bool false)], h27)))) else none)
 else
 some (Res.ret [(V.bool false)], h27)))) (fun z28 h27 => none))
 else
 some (Res.ret [(V.bool false)], h22)))) (fun z23 h22 => none))
 else
 some (Res.ret [(V.bool false)], h17)))) (fun z18 h17 => none))))))))) (fun z11 h10 => some (Res.pan z11, h10)))))) (fun z6 h5 => some (Res.pan z6, h5)))
 else
 (cl (call n 17 [(V.int .u8 1), (V.int .i64 200), (V.sl 1 x0 x0b), (V.sl 2 [[(V.int .u8 1), (V.int .i32 x1)], [(V.int .u8 2), (V.int .i32 0)]] false)] []) (fun r46 h47 =>
 (bd (r46)[0]? fun v49 =>
 (bd (r46)[1]? fun v50 =>
 (cl (call n 17 [(V.int .u8 2), (V.int .i64 200), (V.sl 1 x0 x0b), (V.sl 2 [[(V.int .u8 1), (V.int .i32 x1)], [(V.int .u8 3), (V.int .i32 0)]] false)] h47) (fun r51 h52 =>
 (bd (r51)[0]? fun v54 =>
 (bd (r51)[1]? fun v55 =>
 (bd (slc v50) fun p56 =>
 (if (((p56.2).length : Int) != 2) then
 some (Res.ret [(V.bool false)], h52)
 else
 (bd (slc v55) fun p57 =>
 (if (((p57.2).length : Int) != 2) then
 some (Res.ret [(V.bool false)], h52)
 else
 (cl (call n 10 [] h52) (fun r58 h59 =>
 (one1 r58 fun v61 =>
 (bv v61 fun b62 => if b62 then
 (cl (call n 14 [v49, (V.sl 1 x0 x0b)] h59) (fun r63 h64 =>
 (one1 r63 fun v66 =>
 (bv v66 fun b67 => if b67 then
 (cl (call n 14 [v54, (V.sl 1 x0 x0b)] h64) (fun r68 h69 =>
 (one1 r68 fun v71 =>
 (bv v71 fun b72 => if b72 then
 (slk v50 fun q73 l74 x75 => if (q73 = 2) then
 (bd (l74)[1]? fun es76 =>
 (bd (bop prog .eql 30 (V.agg ((es76).drop 0 |>.take 2)) (V.agg [(V.int .u8 2), (V.int .i32 x1)])) fun v77 =>
 (bv v77 fun b78 => if b78 then
 (slk v55 fun q79 l80 x81 => if (q79 = 2) then
 (bd (l80)[1]? fun es82 =>
 (slk v50 fun q83 l84 x85 => if (q83 = 2) then
 (bd (l84)[1]? fun es86 =>
 (bd (bop prog .eql 30 (V.agg ((es82).drop 0 |>.take 2)) (V.agg ((es86).drop 0 |>.take 2))) fun v87 =>
 some (Res.ret [v87], h69))) else none)) else none)
 else
 some (Res.ret [(V.bool false)], h69)))) else none)
 else
 some (Res.ret [(V.bool false)], h69)))) (fun z70 h69 => none))
 else
 some (Res.ret [(V.bool false)], h64)))) (fun z65 h64 => none))
 else
 some (Res.ret [(V.bool false)], h59)))) (fun z60 h59 => none))))))))) (fun z53 h52 => some (Res.pan z53, h52)))))) (fun z48 h47 => some (Res.pan z48, h47)))))
theorem lawBack_eq (n : Nat) (x0 : List (List V)) (x0b : Bool) (x1 : Int) (x2 : Bool) (h : Heap) : call (n + 1) 9 [(V.sl 1 x0 x0b), (V.int .i32 x1), (V.bool x2)] h = gcw [(V.sl 1 x0 x0b), (V.int .i32 x1), (V.bool x2)] (lawBack n x0 x0b x1 x2) h := by kernel_rfl
end Go.Proofs.Try
