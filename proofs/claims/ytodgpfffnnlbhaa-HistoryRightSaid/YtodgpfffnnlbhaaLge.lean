import Derived.Test.YtodgpfffnnlbhaaLset
import Derived.Test.YtodgpfffnnlbhaaLwd
/-! reaperref08.Apply and what it calls: PRINTED BY A PROGRAM OF MINE (lift6.lean) -/
set_option linter.unusedVariables false
namespace Go.Proofs.Try
open Go.L
set_option maxRecDepth 100000
noncomputable def lMost (n : Nat) (x0 : Int) (h : Heap) : Option (Res × Heap) :=
 some (Res.ret [(V.int .i64 (if 0 < (if 1000 < x0 then 1000 else x0) then (if 1000 < x0 then 1000 else x0) else 0))], h)
theorem lMost_eq (n : Nat) (x0 : Int) (h : Heap) : call (n + 1) 66 [(V.int .i64 x0)] h = lMost n x0 h := by kernel_rfl
noncomputable def lDo4 (n : Nat) (m : Int) (s : V) (k : Int) (v : Int) (h : Heap) : Option (Res × Heap) :=
 (if (k == 1) then
 (bd (slcH h s) fun p0 =>
 (cl (call n 66 [(V.int .i64 m)] h) (fun r1 h2 =>
 (one1 r1 fun v4 =>
 (bd (bop prog .geq 3 (V.int .i64 ((p0.2).length : Int)) v4) fun v5 =>
 (bv v5 fun b6 => if b6 then
 some (Res.ret [s, (V.agg [(V.int .u8 3), (V.int .i32 0)])], h2)
 else
 (if (k == 1) then
 (bdS (slcH h2 s) fun p7 =>
 (if (39 = 39 ∧ (p7.1 = 1 ∨ (p7.2).isEmpty = true)) then
 (bd (app 21 1 (S.own 21 1 []) p7.2) fun l8 =>
 (bd (app 21 1 (S.own 21 1 l8) [[(V.int .i32 v)]]) fun l9 =>
 some (Res.ret [(V.sl 1 l9 false), (V.agg [(V.int .u8 1), (V.int .i32 0)])], h2))) else none))
 else
 (if (k == 2) then
 (bd (slcH h2 s) fun p10 =>
 (if (decide (((p10.2).length : Int) > 0)) then
 (bd (slcH h2 s) fun p11 =>
 (bd (lenP s) fun n12 =>
 (bdS (nv (V.int .i64 (IntKind.i64.wrap (((p11.2).length : Int) - 1)))) fun n13 =>
 (bd (sliceP 1 0 n13 (none : Option Nat) true s) fun v14 =>
 (bdS (slcH h2 v14) fun p15 =>
 (if (39 = 39 ∧ (p15.1 = 1 ∨ (p15.2).isEmpty = true)) then
 (bd (app 21 1 (S.own 21 1 []) p15.2) fun l16 =>
 (bd (slcH h2 s) fun p17 =>
 (bdS (nv (V.int .i64 (IntKind.i64.wrap (((p17.2).length : Int) - 1)))) fun n18 =>
 (bd (idxP 1 n18 s) fun p19 =>
 (bd3 (cellsP h2 p19) fun cs21 m20 o22 => if (o22 + 1 ≤ m20 ∧ 0 < 1) then
 (bd (cs21)[o22]? fun v23 =>
 (bd (bldV prog 34 [(0, (V.int .u8 2)), (1, v23)]) fun cs24 =>
 (if (cs24).length = 2 then
 (if ((cs24).length ≤ 2) then
 some (Res.ret [(V.sl 1 l16 false), (V.agg (((setR [(V.int .u8 0), (V.int .i32 0)] 0 cs24)).drop 0 |>.take 2))], h2) else none) else none))) else none))))) else none))))))
 else
 (if (k == 2) then
 some (Res.ret [s, (V.agg [(V.int .u8 4), (V.int .i32 0)])], h2)
 else
 some (Res.ret [s, (V.agg [(V.int .u8 5), (V.int .i32 0)])], h2))))
 else
 (if (k == 2) then
 some (Res.ret [s, (V.agg [(V.int .u8 4), (V.int .i32 0)])], h2)
 else
 some (Res.ret [s, (V.agg [(V.int .u8 5), (V.int .i32 0)])], h2)))))))) (fun z3 h2 => some (Res.pan z3, h2))))
 else
 (if (k == 1) then
 (bdS (slcH h s) fun p25 =>
 (if (39 = 39 ∧ (p25.1 = 1 ∨ (p25.2).isEmpty = true)) then
 (bd (app 21 1 (S.own 21 1 []) p25.2) fun l26 =>
 (bd (app 21 1 (S.own 21 1 l26) [[(V.int .i32 v)]]) fun l27 =>
 some (Res.ret [(V.sl 1 l27 false), (V.agg [(V.int .u8 1), (V.int .i32 0)])], h))) else none))
 else
 (if (k == 2) then
 (bd (slcH h s) fun p28 =>
 (if (decide (((p28.2).length : Int) > 0)) then
 (bd (slcH h s) fun p29 =>
 (bd (lenP s) fun n30 =>
 (bdS (nv (V.int .i64 (IntKind.i64.wrap (((p29.2).length : Int) - 1)))) fun n31 =>
 (bd (sliceP 1 0 n31 (none : Option Nat) true s) fun v32 =>
 (bdS (slcH h v32) fun p33 =>
 (if (39 = 39 ∧ (p33.1 = 1 ∨ (p33.2).isEmpty = true)) then
 (bd (app 21 1 (S.own 21 1 []) p33.2) fun l34 =>
 (bd (slcH h s) fun p35 =>
 (bdS (nv (V.int .i64 (IntKind.i64.wrap (((p35.2).length : Int) - 1)))) fun n36 =>
 (bd (idxP 1 n36 s) fun p37 =>
 (bd3 (cellsP h p37) fun cs39 m38 o40 => if (o40 + 1 ≤ m38 ∧ 0 < 1) then
 (bd (cs39)[o40]? fun v41 =>
 (bd (bldV prog 34 [(0, (V.int .u8 2)), (1, v41)]) fun cs42 =>
 (if (cs42).length = 2 then
 (if ((cs42).length ≤ 2) then
 some (Res.ret [(V.sl 1 l34 false), (V.agg (((setR [(V.int .u8 0), (V.int .i32 0)] 0 cs42)).drop 0 |>.take 2))], h) else none) else none))) else none))))) else none))))))
 else
 (if (k == 2) then
 some (Res.ret [s, (V.agg [(V.int .u8 4), (V.int .i32 0)])], h)
 else
 some (Res.ret [s, (V.agg [(V.int .u8 5), (V.int .i32 0)])], h))))
 else
 (if (k == 2) then
 some (Res.ret [s, (V.agg [(V.int .u8 4), (V.int .i32 0)])], h)
 else
 some (Res.ret [s, (V.agg [(V.int .u8 5), (V.int .i32 0)])], h)))))
theorem lDo4_eq (n : Nat) (m : Int) (s : V) (k : Int) (v : Int) (h : Heap) : call (n + 1) 72 [(V.int .i64 m), s, (V.agg [(V.int .u8 k), (V.int .i32 v)])] h = lDo4 n m s k v h := by kernel_rfl
noncomputable def lDo5 (n : Nat) (m : Int) (s : V) (k : Int) (v : Int) (h : Heap) : Option (Res × Heap) :=
 (bd (slcH h s) fun p0 =>
 (cl (call n 66 [(V.int .i64 m)] h) (fun r1 h2 =>
 (one1 r1 fun v4 =>
 (bd (bop prog .geq 3 (V.int .i64 ((p0.2).length : Int)) v4) fun v5 =>
 (if (decide (k < 1)) then
 some (Res.ret [s, (V.agg [(V.int .u8 5), (V.int .i32 0)])], h2)
 else
 (if (decide (k > 4)) then
 some (Res.ret [s, (V.agg [(V.int .u8 5), (V.int .i32 0)])], h2)
 else
 (if (decide (k ≤ 2)) then
 (bv v5 fun b6 => if b6 then
 some (Res.ret [s, (V.agg [(V.int .u8 3), (V.int .i32 0)])], h2)
 else
 (if (decide (k ≥ 3)) then
 (bd (slcH h2 s) fun p7 =>
 (if (((p7.2).length : Int) == 0) then
 some (Res.ret [s, (V.agg [(V.int .u8 4), (V.int .i32 0)])], h2)
 else
 (if (k == 1) then
 (bd (app 21 1 (S.own 21 1 []) [[(V.int .i32 v)]]) fun l8 =>
 (bdS (slcH h2 s) fun p9 =>
 (if (39 = 39 ∧ (p9.1 = 1 ∨ (p9.2).isEmpty = true)) then
 (bd (app 21 1 (S.own 21 1 l8) p9.2) fun l10 =>
 some (Res.ret [(V.sl 1 l10 false), (V.agg [(V.int .u8 1), (V.int .i32 0)])], h2)) else none)))
 else
 (if (k == 2) then
 (bdS (slcH h2 s) fun p11 =>
 (if (39 = 39 ∧ (p11.1 = 1 ∨ (p11.2).isEmpty = true)) then
 (bd (app 21 1 (S.own 21 1 []) p11.2) fun l12 =>
 (bd (app 21 1 (S.own 21 1 l12) [[(V.int .i32 v)]]) fun l13 =>
 some (Res.ret [(V.sl 1 l13 false), (V.agg [(V.int .u8 1), (V.int .i32 0)])], h2))) else none))
 else
 (if (k == 3) then
 (bd (lenP s) fun n14 =>
 (bd (sliceP 1 1 n14 (none : Option Nat) true s) fun v15 =>
 (bdS (slcH h2 v15) fun p16 =>
 (if (39 = 39 ∧ (p16.1 = 1 ∨ (p16.2).isEmpty = true)) then
 (bd (app 21 1 (S.own 21 1 []) p16.2) fun l17 =>
 (bd (idxP 1 0 s) fun p18 =>
 (bd3 (cellsP h2 p18) fun cs20 m19 o21 => if (o21 + 1 ≤ m19 ∧ 0 < 1) then
 (bd (cs20)[o21]? fun v22 =>
 (bd (bldV prog 34 [(0, (V.int .u8 2)), (1, v22)]) fun cs23 =>
 (if (cs23).length = 2 then
 (if ((cs23).length ≤ 2) then
 some (Res.ret [(V.sl 1 l17 false), (V.agg (((setR [(V.int .u8 0), (V.int .i32 0)] 0 cs23)).drop 0 |>.take 2))], h2) else none) else none))) else none))) else none))))
 else
 (bd (slcH h2 s) fun p24 =>
 (bd (lenP s) fun n25 =>
 (bdS (nv (V.int .i64 (IntKind.i64.wrap (((p24.2).length : Int) - 1)))) fun n26 =>
 (bd (sliceP 1 0 n26 (none : Option Nat) true s) fun v27 =>
 (bdS (slcH h2 v27) fun p28 =>
 (if (39 = 39 ∧ (p28.1 = 1 ∨ (p28.2).isEmpty = true)) then
 (bd (app 21 1 (S.own 21 1 []) p28.2) fun l29 =>
 (bd (slcH h2 s) fun p30 =>
 (bdS (nv (V.int .i64 (IntKind.i64.wrap (((p30.2).length : Int) - 1)))) fun n31 =>
 (bd (idxP 1 n31 s) fun p32 =>
 (bd3 (cellsP h2 p32) fun cs34 m33 o35 => if (o35 + 1 ≤ m33 ∧ 0 < 1) then
 (bd (cs34)[o35]? fun v36 =>
 (bd (bldV prog 34 [(0, (V.int .u8 2)), (1, v36)]) fun cs37 =>
 (if (cs37).length = 2 then
 (if ((cs37).length ≤ 2) then
 some (Res.ret [(V.sl 1 l29 false), (V.agg (((setR [(V.int .u8 0), (V.int .i32 0)] 0 cs37)).drop 0 |>.take 2))], h2) else none) else none))) else none))))) else none)))))))))))
 else
 (if (k == 1) then
 (bd (app 21 1 (S.own 21 1 []) [[(V.int .i32 v)]]) fun l38 =>
 (bdS (slcH h2 s) fun p39 =>
 (if (39 = 39 ∧ (p39.1 = 1 ∨ (p39.2).isEmpty = true)) then
 (bd (app 21 1 (S.own 21 1 l38) p39.2) fun l40 =>
 some (Res.ret [(V.sl 1 l40 false), (V.agg [(V.int .u8 1), (V.int .i32 0)])], h2)) else none)))
 else
 (if (k == 2) then
 (bdS (slcH h2 s) fun p41 =>
 (if (39 = 39 ∧ (p41.1 = 1 ∨ (p41.2).isEmpty = true)) then
 (bd (app 21 1 (S.own 21 1 []) p41.2) fun l42 =>
 (bd (app 21 1 (S.own 21 1 l42) [[(V.int .i32 v)]]) fun l43 =>
 some (Res.ret [(V.sl 1 l43 false), (V.agg [(V.int .u8 1), (V.int .i32 0)])], h2))) else none))
 else
 (if (k == 3) then
 (bd (lenP s) fun n44 =>
 (bd (sliceP 1 1 n44 (none : Option Nat) true s) fun v45 =>
 (bdS (slcH h2 v45) fun p46 =>
 (if (39 = 39 ∧ (p46.1 = 1 ∨ (p46.2).isEmpty = true)) then
 (bd (app 21 1 (S.own 21 1 []) p46.2) fun l47 =>
 (bd (idxP 1 0 s) fun p48 =>
 (bd3 (cellsP h2 p48) fun cs50 m49 o51 => if (o51 + 1 ≤ m49 ∧ 0 < 1) then
 (bd (cs50)[o51]? fun v52 =>
 (bd (bldV prog 34 [(0, (V.int .u8 2)), (1, v52)]) fun cs53 =>
 (if (cs53).length = 2 then
 (if ((cs53).length ≤ 2) then
 some (Res.ret [(V.sl 1 l47 false), (V.agg (((setR [(V.int .u8 0), (V.int .i32 0)] 0 cs53)).drop 0 |>.take 2))], h2) else none) else none))) else none))) else none))))
 else
 (bd (slcH h2 s) fun p54 =>
 (bd (lenP s) fun n55 =>
 (bdS (nv (V.int .i64 (IntKind.i64.wrap (((p54.2).length : Int) - 1)))) fun n56 =>
 (bd (sliceP 1 0 n56 (none : Option Nat) true s) fun v57 =>
 (bdS (slcH h2 v57) fun p58 =>
 (if (39 = 39 ∧ (p58.1 = 1 ∨ (p58.2).isEmpty = true)) then
 (bd (app 21 1 (S.own 21 1 []) p58.2) fun l59 =>
 (bd (slcH h2 s) fun p60 =>
 (bdS (nv (V.int .i64 (IntKind.i64.wrap (((p60.2).length : Int) - 1)))) fun n61 =>
 (bd (idxP 1 n61 s) fun p62 =>
 (bd3 (cellsP h2 p62) fun cs64 m63 o65 => if (o65 + 1 ≤ m63 ∧ 0 < 1) then
 (bd (cs64)[o65]? fun v66 =>
 (bd (bldV prog 34 [(0, (V.int .u8 2)), (1, v66)]) fun cs67 =>
 (if (cs67).length = 2 then
 (if ((cs67).length ≤ 2) then
 some (Res.ret [(V.sl 1 l59 false), (V.agg (((setR [(V.int .u8 0), (V.int .i32 0)] 0 cs67)).drop 0 |>.take 2))], h2) else none) else none))) else none))))) else none)))))))))))
 else
 (if (decide (k ≥ 3)) then
 (bd (slcH h2 s) fun p68 =>
 (if (((p68.2).length : Int) == 0) then
 some (Res.ret [s, (V.agg [(V.int .u8 4), (V.int .i32 0)])], h2)
 else
 (if (k == 1) then
 (bd (app 21 1 (S.own 21 1 []) [[(V.int .i32 v)]]) fun l69 =>
 (bdS (slcH h2 s) fun p70 =>
 (if (39 = 39 ∧ (p70.1 = 1 ∨ (p70.2).isEmpty = true)) then
 (bd (app 21 1 (S.own 21 1 l69) p70.2) fun l71 =>
 some (Res.ret [(V.sl 1 l71 false), (V.agg [(V.int .u8 1), (V.int .i32 0)])], h2)) else none)))
 else
 (if (k == 2) then
 (bdS (slcH h2 s) fun p72 =>
 (if (39 = 39 ∧ (p72.1 = 1 ∨ (p72.2).isEmpty = true)) then
 (bd (app 21 1 (S.own 21 1 []) p72.2) fun l73 =>
 (bd (app 21 1 (S.own 21 1 l73) [[(V.int .i32 v)]]) fun l74 =>
 some (Res.ret [(V.sl 1 l74 false), (V.agg [(V.int .u8 1), (V.int .i32 0)])], h2))) else none))
 else
 (if (k == 3) then
 (bd (lenP s) fun n75 =>
 (bd (sliceP 1 1 n75 (none : Option Nat) true s) fun v76 =>
 (bdS (slcH h2 v76) fun p77 =>
 (if (39 = 39 ∧ (p77.1 = 1 ∨ (p77.2).isEmpty = true)) then
 (bd (app 21 1 (S.own 21 1 []) p77.2) fun l78 =>
 (bd (idxP 1 0 s) fun p79 =>
 (bd3 (cellsP h2 p79) fun cs81 m80 o82 => if (o82 + 1 ≤ m80 ∧ 0 < 1) then
 (bd (cs81)[o82]? fun v83 =>
 (bd (bldV prog 34 [(0, (V.int .u8 2)), (1, v83)]) fun cs84 =>
 (if (cs84).length = 2 then
 (if ((cs84).length ≤ 2) then
 some (Res.ret [(V.sl 1 l78 false), (V.agg (((setR [(V.int .u8 0), (V.int .i32 0)] 0 cs84)).drop 0 |>.take 2))], h2) else none) else none))) else none))) else none))))
 else
 (bd (slcH h2 s) fun p85 =>
 (bd (lenP s) fun n86 =>
 (bdS (nv (V.int .i64 (IntKind.i64.wrap (((p85.2).length : Int) - 1)))) fun n87 =>
 (bd (sliceP 1 0 n87 (none : Option Nat) true s) fun v88 =>
 (bdS (slcH h2 v88) fun p89 =>
 (if (39 = 39 ∧ (p89.1 = 1 ∨ (p89.2).isEmpty = true)) then
 (bd (app 21 1 (S.own 21 1 []) p89.2) fun l90 =>
 (bd (slcH h2 s) fun p91 =>
 (bdS (nv (V.int .i64 (IntKind.i64.wrap (((p91.2).length : Int) - 1)))) fun n92 =>
 (bd (idxP 1 n92 s) fun p93 =>
 (bd3 (cellsP h2 p93) fun cs95 m94 o96 => if (o96 + 1 ≤ m94 ∧ 0 < 1) then
 (bd (cs95)[o96]? fun v97 =>
 (bd (bldV prog 34 [(0, (V.int .u8 2)), (1, v97)]) fun cs98 =>
 (if (cs98).length = 2 then
 (if ((cs98).length ≤ 2) then
 some (Res.ret [(V.sl 1 l90 false), (V.agg (((setR [(V.int .u8 0), (V.int .i32 0)] 0 cs98)).drop 0 |>.take 2))], h2) else none) else none))) else none))))) else none)))))))))))
 else
 (if (k == 1) then
 (bd (app 21 1 (S.own 21 1 []) [[(V.int .i32 v)]]) fun l99 =>
 (bdS (slcH h2 s) fun p100 =>
 (if (39 = 39 ∧ (p100.1 = 1 ∨ (p100.2).isEmpty = true)) then
 (bd (app 21 1 (S.own 21 1 l99) p100.2) fun l101 =>
 some (Res.ret [(V.sl 1 l101 false), (V.agg [(V.int .u8 1), (V.int .i32 0)])], h2)) else none)))
 else
 (if (k == 2) then
 (bdS (slcH h2 s) fun p102 =>
 (if (39 = 39 ∧ (p102.1 = 1 ∨ (p102.2).isEmpty = true)) then
 (bd (app 21 1 (S.own 21 1 []) p102.2) fun l103 =>
 (bd (app 21 1 (S.own 21 1 l103) [[(V.int .i32 v)]]) fun l104 =>
 some (Res.ret [(V.sl 1 l104 false), (V.agg [(V.int .u8 1), (V.int .i32 0)])], h2))) else none))
 else
 (if (k == 3) then
 (bd (lenP s) fun n105 =>
 (bd (sliceP 1 1 n105 (none : Option Nat) true s) fun v106 =>
 (bdS (slcH h2 v106) fun p107 =>
 (if (39 = 39 ∧ (p107.1 = 1 ∨ (p107.2).isEmpty = true)) then
 (bd (app 21 1 (S.own 21 1 []) p107.2) fun l108 =>
 (bd (idxP 1 0 s) fun p109 =>
 (bd3 (cellsP h2 p109) fun cs111 m110 o112 => if (o112 + 1 ≤ m110 ∧ 0 < 1) then
 (bd (cs111)[o112]? fun v113 =>
 (bd (bldV prog 34 [(0, (V.int .u8 2)), (1, v113)]) fun cs114 =>
 (if (cs114).length = 2 then
 (if ((cs114).length ≤ 2) then
 some (Res.ret [(V.sl 1 l108 false), (V.agg (((setR [(V.int .u8 0), (V.int .i32 0)] 0 cs114)).drop 0 |>.take 2))], h2) else none) else none))) else none))) else none))))
 else
 (bd (slcH h2 s) fun p115 =>
 (bd (lenP s) fun n116 =>
 (bdS (nv (V.int .i64 (IntKind.i64.wrap (((p115.2).length : Int) - 1)))) fun n117 =>
 (bd (sliceP 1 0 n117 (none : Option Nat) true s) fun v118 =>
 (bdS (slcH h2 v118) fun p119 =>
 (if (39 = 39 ∧ (p119.1 = 1 ∨ (p119.2).isEmpty = true)) then
 (bd (app 21 1 (S.own 21 1 []) p119.2) fun l120 =>
 (bd (slcH h2 s) fun p121 =>
 (bdS (nv (V.int .i64 (IntKind.i64.wrap (((p121.2).length : Int) - 1)))) fun n122 =>
 (bd (idxP 1 n122 s) fun p123 =>
 (bd3 (cellsP h2 p123) fun cs125 m124 o126 => if (o126 + 1 ≤ m124 ∧ 0 < 1) then
 (bd (cs125)[o126]? fun v127 =>
 (bd (bldV prog 34 [(0, (V.int .u8 2)), (1, v127)]) fun cs128 =>
 (if (cs128).length = 2 then
 (if ((cs128).length ≤ 2) then
 some (Res.ret [(V.sl 1 l120 false), (V.agg (((setR [(V.int .u8 0), (V.int .i32 0)] 0 cs128)).drop 0 |>.take 2))], h2) else none) else none))) else none))))) else none)))))))))))))))) (fun z3 h2 => some (Res.pan z3, h2))))
theorem lDo5_eq (n : Nat) (m : Int) (s : V) (k : Int) (v : Int) (h : Heap) : call (n + 1) 73 [(V.int .i64 m), s, (V.agg [(V.int .u8 k), (V.int .i32 v)])] h = lDo5 n m s k v h := by kernel_rfl
noncomputable def lHeap8_l7 (n : Nat) (s : V) (st8 : List V) (hh9 : Heap) (next10 : List V → Heap → Option (Res × Heap)) : Option (Res × Heap) :=
 (bd (slcH hh9 s) fun p11 =>
 (bd (bop prog .lss 3 (gv st8 3) (V.int .i64 ((p11.2).length : Int))) fun v12 =>
 (bv v12 fun b13 => if b13 then
 (bdS (nv (gv st8 3)) fun n14 =>
 (bd (idxP 1 n14 s) fun p15 =>
 (bd3 (cellsP hh9 p15) fun cs17 m16 o18 => if (o18 + 1 ≤ m16 ∧ 0 < 1) then
 (bd (cs17)[o18]? fun v19 =>
 (bd ((lcs (gv st8 0)))[1]? fun v20 =>
 (bd (bop prog .leq 21 v19 v20) fun v21 =>
 (bv v21 fun b22 => if b22 then
 (bd (bop prog .add 3 (gv st8 3) (V.int .i64 1)) fun v23 =>
 (next10 [(V.agg (lcs (gv st8 0))), (V.sl 1 (lsl (gv st8 1)) false), (V.agg (lcs (gv st8 2))), v23] hh9))
 else
 (bd (lenP s) fun n24 =>
 (bdS (nv (gv st8 3)) fun n25 =>
 (bd (sliceP 1 0 n25 (none : Option Nat) true s) fun v26 =>
 (bdS (slcH hh9 v26) fun p27 =>
 (if (39 = 39 ∧ (p27.1 = 1 ∨ (p27.2).isEmpty = true)) then
 (bd (app 21 1 (S.own 21 1 []) p27.2) fun l28 =>
 (bd ((lcs (gv st8 0)))[1]? fun v29 =>
 (bd (bslV prog 39 1 [(0, v29)]) fun p30 =>
 (bd (app 21 1 (S.own 21 1 l28) p30.2) fun l31 =>
 (bd (lenP s) fun n32 =>
 (bdS (nv (gv st8 3)) fun n33 =>
 (bd (sliceP 1 n33 n32 (none : Option Nat) true s) fun v34 =>
 (bdS (slcH hh9 v34) fun p35 =>
 (if (39 = 39 ∧ (p35.1 = 1 ∨ (p35.2).isEmpty = true)) then
 (bd (app 21 1 (S.own 21 1 l31) p35.2) fun l36 =>
 some (Res.ret [(V.sl 1 l36 false), (V.agg (((setR (lcs (gv st8 2)) 0 [(V.int .u8 1), (V.int .i32 0)])).drop 0 |>.take 2))], hh9)) else none))))))))) else none))))))))) else none)))
 else
 (bd (lenP s) fun n37 =>
 (bdS (nv (gv st8 3)) fun n38 =>
 (bd (sliceP 1 0 n38 (none : Option Nat) true s) fun v39 =>
 (bdS (slcH hh9 v39) fun p40 =>
 (if (39 = 39 ∧ (p40.1 = 1 ∨ (p40.2).isEmpty = true)) then
 (bd (app 21 1 (S.own 21 1 []) p40.2) fun l41 =>
 (bd ((lcs (gv st8 0)))[1]? fun v42 =>
 (bd (bslV prog 39 1 [(0, v42)]) fun p43 =>
 (bd (app 21 1 (S.own 21 1 l41) p43.2) fun l44 =>
 (bd (lenP s) fun n45 =>
 (bdS (nv (gv st8 3)) fun n46 =>
 (bd (sliceP 1 n46 n45 (none : Option Nat) true s) fun v47 =>
 (bdS (slcH hh9 v47) fun p48 =>
 (if (39 = 39 ∧ (p48.1 = 1 ∨ (p48.2).isEmpty = true)) then
 (bd (app 21 1 (S.own 21 1 l44) p48.2) fun l49 =>
 some (Res.ret [(V.sl 1 l49 false), (V.agg (((setR (lcs (gv st8 2)) 0 [(V.int .u8 1), (V.int .i32 0)])).drop 0 |>.take 2))], hh9)) else none))))))))) else none))))))))
noncomputable def lHeap8_l71 (n : Nat) (s : V) (st72 : List V) (hh73 : Heap) (next74 : List V → Heap → Option (Res × Heap)) : Option (Res × Heap) :=
 (bd (slcH hh73 s) fun p75 =>
 (bd (bop prog .lss 3 (gv st72 3) (V.int .i64 ((p75.2).length : Int))) fun v76 =>
 (bv v76 fun b77 => if b77 then
 (bdS (nv (gv st72 3)) fun n78 =>
 (bd (idxP 1 n78 s) fun p79 =>
 (bd3 (cellsP hh73 p79) fun cs81 m80 o82 => if (o82 + 1 ≤ m80 ∧ 0 < 1) then
 (bd (cs81)[o82]? fun v83 =>
 (bd ((lcs (gv st72 0)))[1]? fun v84 =>
 (bd (bop prog .leq 21 v83 v84) fun v85 =>
 (bv v85 fun b86 => if b86 then
 (bd (bop prog .add 3 (gv st72 3) (V.int .i64 1)) fun v87 =>
 (next74 [(V.agg (lcs (gv st72 0))), (V.sl 1 (lsl (gv st72 1)) false), (V.agg (lcs (gv st72 2))), v87] hh73))
 else
 (bd (lenP s) fun n88 =>
 (bdS (nv (gv st72 3)) fun n89 =>
 (bd (sliceP 1 0 n89 (none : Option Nat) true s) fun v90 =>
 (bdS (slcH hh73 v90) fun p91 =>
 (if (39 = 39 ∧ (p91.1 = 1 ∨ (p91.2).isEmpty = true)) then
 (bd (app 21 1 (S.own 21 1 []) p91.2) fun l92 =>
 (bd ((lcs (gv st72 0)))[1]? fun v93 =>
 (bd (bslV prog 39 1 [(0, v93)]) fun p94 =>
 (bd (app 21 1 (S.own 21 1 l92) p94.2) fun l95 =>
 (bd (lenP s) fun n96 =>
 (bdS (nv (gv st72 3)) fun n97 =>
 (bd (sliceP 1 n97 n96 (none : Option Nat) true s) fun v98 =>
 (bdS (slcH hh73 v98) fun p99 =>
 (if (39 = 39 ∧ (p99.1 = 1 ∨ (p99.2).isEmpty = true)) then
 (bd (app 21 1 (S.own 21 1 l95) p99.2) fun l100 =>
 some (Res.ret [(V.sl 1 l100 false), (V.agg (((setR (lcs (gv st72 2)) 0 [(V.int .u8 1), (V.int .i32 0)])).drop 0 |>.take 2))], hh73)) else none))))))))) else none))))))))) else none)))
 else
 (bd (lenP s) fun n101 =>
 (bdS (nv (gv st72 3)) fun n102 =>
 (bd (sliceP 1 0 n102 (none : Option Nat) true s) fun v103 =>
 (bdS (slcH hh73 v103) fun p104 =>
 (if (39 = 39 ∧ (p104.1 = 1 ∨ (p104.2).isEmpty = true)) then
 (bd (app 21 1 (S.own 21 1 []) p104.2) fun l105 =>
 (bd ((lcs (gv st72 0)))[1]? fun v106 =>
 (bd (bslV prog 39 1 [(0, v106)]) fun p107 =>
 (bd (app 21 1 (S.own 21 1 l105) p107.2) fun l108 =>
 (bd (lenP s) fun n109 =>
 (bdS (nv (gv st72 3)) fun n110 =>
 (bd (sliceP 1 n110 n109 (none : Option Nat) true s) fun v111 =>
 (bdS (slcH hh73 v111) fun p112 =>
 (if (39 = 39 ∧ (p112.1 = 1 ∨ (p112.2).isEmpty = true)) then
 (bd (app 21 1 (S.own 21 1 l108) p112.2) fun l113 =>
 some (Res.ret [(V.sl 1 l113 false), (V.agg (((setR (lcs (gv st72 2)) 0 [(V.int .u8 1), (V.int .i32 0)])).drop 0 |>.take 2))], hh73)) else none))))))))) else none))))))))
noncomputable def lHeap8 (n : Nat) (m : Int) (s : V) (k : Int) (v : Int) (h : Heap) : Option (Res × Heap) :=
 (if (k == 1) then
 (bd (slcH h s) fun p0 =>
 (cl (call n 66 [(V.int .i64 m)] h) (fun r1 h2 =>
 (one1 r1 fun v4 =>
 (bd (bop prog .geq 3 (V.int .i64 ((p0.2).length : Int)) v4) fun v5 =>
 (bv v5 fun b6 => if b6 then
 some (Res.ret [s, (V.agg [(V.int .u8 3), (V.int .i32 0)])], h2)
 else
 (if (k == 1) then
 (loopx n (lHeap8_l7 n s) [(V.agg [(V.int .u8 k), (V.int .i32 v)]), (V.sl 1 [] false), (V.agg [(V.int .u8 0), (V.int .i32 0)]), (V.int .i64 0)] h2)
 else
 (if (k == 2) then
 (bd (slcH h2 s) fun p50 =>
 (if (((p50.2).length : Int) == 0) then
 some (Res.ret [s, (V.agg [(V.int .u8 4), (V.int .i32 0)])], h2)
 else
 (if (k == 2) then
 (bd (lenP s) fun n51 =>
 (bd (sliceP 1 1 n51 (none : Option Nat) true s) fun v52 =>
 (bdS (slcH h2 v52) fun p53 =>
 (if (39 = 39 ∧ (p53.1 = 1 ∨ (p53.2).isEmpty = true)) then
 (bd (app 21 1 (S.own 21 1 []) p53.2) fun l54 =>
 (bd (idxP 1 0 s) fun p55 =>
 (bd3 (cellsP h2 p55) fun cs57 m56 o58 => if (o58 + 1 ≤ m56 ∧ 0 < 1) then
 (bd (cs57)[o58]? fun v59 =>
 (bd (bldV prog 34 [(0, (V.int .u8 2)), (1, v59)]) fun cs60 =>
 (if (cs60).length = 2 then
 (if ((cs60).length ≤ 2) then
 some (Res.ret [(V.sl 1 l54 false), (V.agg (((setR [(V.int .u8 0), (V.int .i32 0)] 0 cs60)).drop 0 |>.take 2))], h2) else none) else none))) else none))) else none))))
 else
 some (Res.ret [s, (V.agg [(V.int .u8 5), (V.int .i32 0)])], h2))))
 else
 (if (k == 2) then
 (bd (lenP s) fun n61 =>
 (bd (sliceP 1 1 n61 (none : Option Nat) true s) fun v62 =>
 (bdS (slcH h2 v62) fun p63 =>
 (if (39 = 39 ∧ (p63.1 = 1 ∨ (p63.2).isEmpty = true)) then
 (bd (app 21 1 (S.own 21 1 []) p63.2) fun l64 =>
 (bd (idxP 1 0 s) fun p65 =>
 (bd3 (cellsP h2 p65) fun cs67 m66 o68 => if (o68 + 1 ≤ m66 ∧ 0 < 1) then
 (bd (cs67)[o68]? fun v69 =>
 (bd (bldV prog 34 [(0, (V.int .u8 2)), (1, v69)]) fun cs70 =>
 (if (cs70).length = 2 then
 (if ((cs70).length ≤ 2) then
 some (Res.ret [(V.sl 1 l64 false), (V.agg (((setR [(V.int .u8 0), (V.int .i32 0)] 0 cs70)).drop 0 |>.take 2))], h2) else none) else none))) else none))) else none))))
 else
 some (Res.ret [s, (V.agg [(V.int .u8 5), (V.int .i32 0)])], h2)))))))) (fun z3 h2 => some (Res.pan z3, h2))))
 else
 (if (k == 1) then
 (loopx n (lHeap8_l71 n s) [(V.agg [(V.int .u8 k), (V.int .i32 v)]), (V.sl 1 [] false), (V.agg [(V.int .u8 0), (V.int .i32 0)]), (V.int .i64 0)] h)
 else
 (if (k == 2) then
 (bd (slcH h s) fun p114 =>
 (if (((p114.2).length : Int) == 0) then
 some (Res.ret [s, (V.agg [(V.int .u8 4), (V.int .i32 0)])], h)
 else
 (if (k == 2) then
 (bd (lenP s) fun n115 =>
 (bd (sliceP 1 1 n115 (none : Option Nat) true s) fun v116 =>
 (bdS (slcH h v116) fun p117 =>
 (if (39 = 39 ∧ (p117.1 = 1 ∨ (p117.2).isEmpty = true)) then
 (bd (app 21 1 (S.own 21 1 []) p117.2) fun l118 =>
 (bd (idxP 1 0 s) fun p119 =>
 (bd3 (cellsP h p119) fun cs121 m120 o122 => if (o122 + 1 ≤ m120 ∧ 0 < 1) then
 (bd (cs121)[o122]? fun v123 =>
 (bd (bldV prog 34 [(0, (V.int .u8 2)), (1, v123)]) fun cs124 =>
 (if (cs124).length = 2 then
 (if ((cs124).length ≤ 2) then
 some (Res.ret [(V.sl 1 l118 false), (V.agg (((setR [(V.int .u8 0), (V.int .i32 0)] 0 cs124)).drop 0 |>.take 2))], h) else none) else none))) else none))) else none))))
 else
 some (Res.ret [s, (V.agg [(V.int .u8 5), (V.int .i32 0)])], h))))
 else
 (if (k == 2) then
 (bd (lenP s) fun n125 =>
 (bd (sliceP 1 1 n125 (none : Option Nat) true s) fun v126 =>
 (bdS (slcH h v126) fun p127 =>
 (if (39 = 39 ∧ (p127.1 = 1 ∨ (p127.2).isEmpty = true)) then
 (bd (app 21 1 (S.own 21 1 []) p127.2) fun l128 =>
 (bd (idxP 1 0 s) fun p129 =>
 (bd3 (cellsP h p129) fun cs131 m130 o132 => if (o132 + 1 ≤ m130 ∧ 0 < 1) then
 (bd (cs131)[o132]? fun v133 =>
 (bd (bldV prog 34 [(0, (V.int .u8 2)), (1, v133)]) fun cs134 =>
 (if (cs134).length = 2 then
 (if ((cs134).length ≤ 2) then
 some (Res.ret [(V.sl 1 l128 false), (V.agg (((setR [(V.int .u8 0), (V.int .i32 0)] 0 cs134)).drop 0 |>.take 2))], h) else none) else none))) else none))) else none))))
 else
 some (Res.ret [s, (V.agg [(V.int .u8 5), (V.int .i32 0)])], h)))))
theorem lHeap8_eq (n : Nat) (m : Int) (s : V) (k : Int) (v : Int) (h : Heap) : call (n + 1) 74 [(V.int .i64 m), s, (V.agg [(V.int .u8 k), (V.int .i32 v)])] h = lHeap8 n m s k v h := by kernel_rfl
noncomputable def lApply8 (n : Nat) (o : Int) (m : Int) (s : V) (k : Int) (v : Int) : Option (Res × Heap) :=
 (if (o == 1) then
 (cl (call n 72 [(V.int .i64 m), s, (V.agg [(V.int .u8 k), (V.int .i32 v)])] []) (fun r0 h1 =>
 (bd (r0)[0]? fun v3 =>
 (bd (r0)[1]? fun v4 =>
 (if ((V.cells v4)).length = 2 then
 (if (((V.cells v4)).length ≤ 2) then
 (if ((((setR [(V.int .u8 5), (V.int .i32 0)] 0 (V.cells v4))).drop 0 |>.take 2)).length = 2 then
 (if (((((setR [(V.int .u8 5), (V.int .i32 0)] 0 (V.cells v4))).drop 0 |>.take 2)).length ≤ 2) then
 some (Res.ret [v3, (V.agg (((setR [(V.int .u8 0), (V.int .i32 0)] 0 (((setR [(V.int .u8 5), (V.int .i32 0)] 0 (V.cells v4))).drop 0 |>.take 2))).drop 0 |>.take 2))], h1) else none) else none) else none) else none)))) (fun z2 h1 => some (Res.pan z2, h1)))
 else
 (if (o == 2) then
 (cl (call n 73 [(V.int .i64 m), s, (V.agg [(V.int .u8 k), (V.int .i32 v)])] []) (fun r5 h6 =>
 (bd (r5)[0]? fun v8 =>
 (bd (r5)[1]? fun v9 =>
 (if ((V.cells v9)).length = 2 then
 (if (((V.cells v9)).length ≤ 2) then
 (if ((((setR [(V.int .u8 5), (V.int .i32 0)] 0 (V.cells v9))).drop 0 |>.take 2)).length = 2 then
 (if (((((setR [(V.int .u8 5), (V.int .i32 0)] 0 (V.cells v9))).drop 0 |>.take 2)).length ≤ 2) then
 some (Res.ret [v8, (V.agg (((setR [(V.int .u8 0), (V.int .i32 0)] 0 (((setR [(V.int .u8 5), (V.int .i32 0)] 0 (V.cells v9))).drop 0 |>.take 2))).drop 0 |>.take 2))], h6) else none) else none) else none) else none)))) (fun z7 h6 => some (Res.pan z7, h6)))
 else
 (if (o == 3) then
 (cl (call n 74 [(V.int .i64 m), s, (V.agg [(V.int .u8 k), (V.int .i32 v)])] []) (fun r10 h11 =>
 (bd (r10)[0]? fun v13 =>
 (bd (r10)[1]? fun v14 =>
 (if ((V.cells v14)).length = 2 then
 (if (((V.cells v14)).length ≤ 2) then
 (if ((((setR [(V.int .u8 5), (V.int .i32 0)] 0 (V.cells v14))).drop 0 |>.take 2)).length = 2 then
 (if (((((setR [(V.int .u8 5), (V.int .i32 0)] 0 (V.cells v14))).drop 0 |>.take 2)).length ≤ 2) then
 some (Res.ret [v13, (V.agg (((setR [(V.int .u8 0), (V.int .i32 0)] 0 (((setR [(V.int .u8 5), (V.int .i32 0)] 0 (V.cells v14))).drop 0 |>.take 2))).drop 0 |>.take 2))], h11) else none) else none) else none) else none)))) (fun z12 h11 => some (Res.pan z12, h11)))
 else
 some (Res.ret [s, (V.agg [(V.int .u8 5), (V.int .i32 0)])], []))))
theorem lApply8_eq (n : Nat) (o : Int) (m : Int) (s : V) (k : Int) (v : Int) (h : Heap) : call (n + 1) 52 [(V.int .u8 o), (V.int .i64 m), s, (V.agg [(V.int .u8 k), (V.int .i32 v)])] h = gcw [(V.int .u8 o), (V.int .i64 m), s, (V.agg [(V.int .u8 k), (V.int .i32 v)])] (lApply8 n o m s k v) h := by kernel_rfl
end Go.Proofs.Try
