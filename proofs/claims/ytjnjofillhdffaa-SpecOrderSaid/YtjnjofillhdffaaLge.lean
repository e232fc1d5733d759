import Derived.Test.YtjnjofillhdffaaLwd
/-! reaperref08.Apply: PRINTED BY A PROGRAM OF MINE (lift2.lean): each function as a Lean definition, and that L reckons just that -/
set_option linter.unusedVariables false
namespace Go.Proofs.Try
open Go.L
set_option maxRecDepth 100000
noncomputable def lMost (n : Nat) (x0 : Int) (h : Heap) : Option (Res × Heap) :=
 some (Res.ret [(V.int .i64 (if 0 < (if 1000 < x0 then 1000 else x0) then (if 1000 < x0 then 1000 else x0) else 0))], h)
theorem lMost_eq (n : Nat) (x0 : Int) (h : Heap) : call (n + 1) 80 [(V.int .i64 x0)] h = lMost n x0 h := by kernel_rfl
noncomputable def lDo4 (n : Nat) (m : Int) (s : V) (k : Int) (v : Int) (h : Heap) : Option (Res × Heap) :=
 (if (k == 1) then
 (bd (slc s) fun p0 =>
 (cl (call n 80 [(V.int .i64 m)] h) (fun r1 h2 =>
 (one1 r1 fun v4 =>
 (bd (bop prog .geq 3 (V.int .i64 ((p0.2).length : Int)) v4) fun v5 =>
 (bv v5 fun b6 => if b6 then
 some (Res.ret [s, (V.agg [(V.int .u8 3), (V.int .i32 0)])], h2)
 else
 (if (k == 1) then
 (bdS (slc s) fun p7 =>
 (if (39 = 39 ∧ (p7.1 = 1 ∨ (p7.2).isEmpty = true)) then
 (bd (app 21 1 (S.own 21 1 []) p7.2) fun l8 =>
 (bd (app 21 1 (S.own 21 1 l8) [[(V.int .i32 v)]]) fun l9 =>
 some (Res.ret [(V.sl 1 l9 false), (V.agg [(V.int .u8 1), (V.int .i32 0)])], h2))) else none))
 else
 (if (k == 2) then
 (bd (slc s) fun p10 =>
 (if (decide (((p10.2).length : Int) > 0)) then
 (bd (slc s) fun p11 =>
 (slk s fun q12 l13 x14 =>
 (bdS (nv (V.int .i64 (IntKind.i64.wrap (((p11.2).length : Int) - 1)))) fun n15 =>
 (if (0 ≤ n15 ∧ n15 ≤ (l13).length ∧ (q12 = 1 ∨ (l13).isEmpty = true) ∧ ((none : Option Nat) = none ∨ (none : Option Nat) = some n15) ∧ true = true) then
 (bd (app 21 1 (S.own 21 1 []) (((l13).take n15).drop 0)) fun l16 =>
 (bd (slc s) fun p17 =>
 (bdS (nv (V.int .i64 (IntKind.i64.wrap (((p17.2).length : Int) - 1)))) fun n18 =>
 (slk s fun q19 l20 x21 => if (q19 = 1) then
 (bd (l20)[n18]? fun es22 =>
 (bd (es22)[0]? fun v23 =>
 (bd (bldV prog 34 [(0, (V.int .u8 2)), (1, v23)]) fun cs24 =>
 (if (cs24).length = 2 then
 (if ((cs24).length ≤ 2) then
 some (Res.ret [(V.sl 1 l16 false), (V.agg (((setR [(V.int .u8 0), (V.int .i32 0)] 0 cs24)).drop 0 |>.take 2))], h2) else none) else none)))) else none)))) else none))))
 else
 (if (k == 2) then
 some (Res.ret [s, (V.agg [(V.int .u8 4), (V.int .i32 0)])], h2)
 else
 some (Res.ret [s, (V.agg [(V.int .u8 5), (V.int .i32 0)])], h2))))
 else
 (if (k == 2) then
 some (Res.ret [s, (V.agg [(V.int .u8 4), (V.int .i32 0)])], h2)
 else
 some (Res.ret [s, (V.agg [(V.int .u8 5), (V.int .i32 0)])], h2)))))))) (fun z3 h2 => some (Res.pan z3, h2))))
 else
 (if (k == 1) then
 (bdS (slc s) fun p25 =>
 (if (39 = 39 ∧ (p25.1 = 1 ∨ (p25.2).isEmpty = true)) then
 (bd (app 21 1 (S.own 21 1 []) p25.2) fun l26 =>
 (bd (app 21 1 (S.own 21 1 l26) [[(V.int .i32 v)]]) fun l27 =>
 some (Res.ret [(V.sl 1 l27 false), (V.agg [(V.int .u8 1), (V.int .i32 0)])], h))) else none))
 else
 (if (k == 2) then
 (bd (slc s) fun p28 =>
 (if (decide (((p28.2).length : Int) > 0)) then
 (bd (slc s) fun p29 =>
 (slk s fun q30 l31 x32 =>
 (bdS (nv (V.int .i64 (IntKind.i64.wrap (((p29.2).length : Int) - 1)))) fun n33 =>
 (if (0 ≤ n33 ∧ n33 ≤ (l31).length ∧ (q30 = 1 ∨ (l31).isEmpty = true) ∧ ((none : Option Nat) = none ∨ (none : Option Nat) = some n33) ∧ true = true) then
 (bd (app 21 1 (S.own 21 1 []) (((l31).take n33).drop 0)) fun l34 =>
 (bd (slc s) fun p35 =>
 (bdS (nv (V.int .i64 (IntKind.i64.wrap (((p35.2).length : Int) - 1)))) fun n36 =>
 (slk s fun q37 l38 x39 => if (q37 = 1) then
 (bd (l38)[n36]? fun es40 =>
 (bd (es40)[0]? fun v41 =>
 (bd (bldV prog 34 [(0, (V.int .u8 2)), (1, v41)]) fun cs42 =>
 (if (cs42).length = 2 then
 (if ((cs42).length ≤ 2) then
 some (Res.ret [(V.sl 1 l34 false), (V.agg (((setR [(V.int .u8 0), (V.int .i32 0)] 0 cs42)).drop 0 |>.take 2))], h) else none) else none)))) else none)))) else none))))
 else
 (if (k == 2) then
 some (Res.ret [s, (V.agg [(V.int .u8 4), (V.int .i32 0)])], h)
 else
 some (Res.ret [s, (V.agg [(V.int .u8 5), (V.int .i32 0)])], h))))
 else
 (if (k == 2) then
 some (Res.ret [s, (V.agg [(V.int .u8 4), (V.int .i32 0)])], h)
 else
 some (Res.ret [s, (V.agg [(V.int .u8 5), (V.int .i32 0)])], h)))))
theorem lDo4_eq (n : Nat) (m : Int) (s : V) (k : Int) (v : Int) (h : Heap) : call (n + 1) 76 [(V.int .i64 m), s, (V.agg [(V.int .u8 k), (V.int .i32 v)])] h = lDo4 n m s k v h := by kernel_rfl
noncomputable def lDo5 (n : Nat) (m : Int) (s : V) (k : Int) (v : Int) (h : Heap) : Option (Res × Heap) :=
 (bd (slc s) fun p0 =>
 (cl (call n 80 [(V.int .i64 m)] h) (fun r1 h2 =>
 (one1 r1 fun v4 =>
 (bd (bop prog .geq 3 (V.int .i64 ((p0.2).length : Int)) v4) fun v5 =>
 (if (decide (k < 1)) then
 some (Res.ret [s, (V.agg [(V.int .u8 5), (V.int .i32 0)])], h2)
 else
 (if (decide (k > 4)) then
 some (Res.ret [s, (V.agg [(V.int .u8 5), (V.int .i32 0)])], h2)
 else
 (if (decide (k ≤ 2)) then
 (bv v5 fun b6 => if b6 then
 some (Res.ret [s, (V.agg [(V.int .u8 3), (V.int .i32 0)])], h2)
 else
 (if (decide (k ≥ 3)) then
 (bd (slc s) fun p7 =>
 (if (((p7.2).length : Int) == 0) then
 some (Res.ret [s, (V.agg [(V.int .u8 4), (V.int .i32 0)])], h2)
 else
 (if (k == 1) then
 (bd (app 21 1 (S.own 21 1 []) [[(V.int .i32 v)]]) fun l8 =>
 (bdS (slc s) fun p9 =>
 (if (39 = 39 ∧ (p9.1 = 1 ∨ (p9.2).isEmpty = true)) then
 (bd (app 21 1 (S.own 21 1 l8) p9.2) fun l10 =>
 some (Res.ret [(V.sl 1 l10 false), (V.agg [(V.int .u8 1), (V.int .i32 0)])], h2)) else none)))
 else
 (if (k == 2) then
 (bdS (slc s) fun p11 =>
 (if (39 = 39 ∧ (p11.1 = 1 ∨ (p11.2).isEmpty = true)) then
 (bd (app 21 1 (S.own 21 1 []) p11.2) fun l12 =>
 (bd (app 21 1 (S.own 21 1 l12) [[(V.int .i32 v)]]) fun l13 =>
 some (Res.ret [(V.sl 1 l13 false), (V.agg [(V.int .u8 1), (V.int .i32 0)])], h2))) else none))
 else
 (if (k == 3) then
 (slk s fun q14 l15 x16 =>
 (if (1 ≤ (l15).length ∧ (l15).length ≤ (l15).length ∧ (q14 = 1 ∨ (l15).isEmpty = true) ∧ ((none : Option Nat) = none ∨ (none : Option Nat) = some (l15).length) ∧ true = true) then
 (bd (app 21 1 (S.own 21 1 []) (((l15).take (l15).length).drop 1)) fun l17 =>
 (slk s fun q18 l19 x20 => if (q18 = 1) then
 (bd (l19)[0]? fun es21 =>
 (bd (es21)[0]? fun v22 =>
 (bd (bldV prog 34 [(0, (V.int .u8 2)), (1, v22)]) fun cs23 =>
 (if (cs23).length = 2 then
 (if ((cs23).length ≤ 2) then
 some (Res.ret [(V.sl 1 l17 false), (V.agg (((setR [(V.int .u8 0), (V.int .i32 0)] 0 cs23)).drop 0 |>.take 2))], h2) else none) else none)))) else none)) else none))
 else
 (bd (slc s) fun p24 =>
 (slk s fun q25 l26 x27 =>
 (bdS (nv (V.int .i64 (IntKind.i64.wrap (((p24.2).length : Int) - 1)))) fun n28 =>
 (if (0 ≤ n28 ∧ n28 ≤ (l26).length ∧ (q25 = 1 ∨ (l26).isEmpty = true) ∧ ((none : Option Nat) = none ∨ (none : Option Nat) = some n28) ∧ true = true) then
 (bd (app 21 1 (S.own 21 1 []) (((l26).take n28).drop 0)) fun l29 =>
 (bd (slc s) fun p30 =>
 (bdS (nv (V.int .i64 (IntKind.i64.wrap (((p30.2).length : Int) - 1)))) fun n31 =>
 (slk s fun q32 l33 x34 => if (q32 = 1) then
 (bd (l33)[n31]? fun es35 =>
 (bd (es35)[0]? fun v36 =>
 (bd (bldV prog 34 [(0, (V.int .u8 2)), (1, v36)]) fun cs37 =>
 (if (cs37).length = 2 then
 (if ((cs37).length ≤ 2) then
 some (Res.ret [(V.sl 1 l29 false), (V.agg (((setR [(V.int .u8 0), (V.int .i32 0)] 0 cs37)).drop 0 |>.take 2))], h2) else none) else none)))) else none)))) else none)))))))))
 else
 (if (k == 1) then
 (bd (app 21 1 (S.own 21 1 []) [[(V.int .i32 v)]]) fun l38 =>
 (bdS (slc s) fun p39 =>
 (if (39 = 39 ∧ (p39.1 = 1 ∨ (p39.2).isEmpty = true)) then
 (bd (app 21 1 (S.own 21 1 l38) p39.2) fun l40 =>
 some (Res.ret [(V.sl 1 l40 false), (V.agg [(V.int .u8 1), (V.int .i32 0)])], h2)) else none)))
 else
 (if (k == 2) then
 (bdS (slc s) fun p41 =>
 (if (39 = 39 ∧ (p41.1 = 1 ∨ (p41.2).isEmpty = true)) then
 (bd (app 21 1 (S.own 21 1 []) p41.2) fun l42 =>
 (bd (app 21 1 (S.own 21 1 l42) [[(V.int .i32 v)]]) fun l43 =>
 some (Res.ret [(V.sl 1 l43 false), (V.agg [(V.int .u8 1), (V.int .i32 0)])], h2))) else none))
 else
 (if (k == 3) then
 (slk s fun q44 l45 x46 =>
 (if (1 ≤ (l45).length ∧ (l45).length ≤ (l45).length ∧ (q44 = 1 ∨ (l45).isEmpty = true) ∧ ((none : Option Nat) = none ∨ (none : Option Nat) = some (l45).length) ∧ true = true) then
 (bd (app 21 1 (S.own 21 1 []) (((l45).take (l45).length).drop 1)) fun l47 =>
 (slk s fun q48 l49 x50 => if (q48 = 1) then
 (bd (l49)[0]? fun es51 =>
 (bd (es51)[0]? fun v52 =>
 (bd (bldV prog 34 [(0, (V.int .u8 2)), (1, v52)]) fun cs53 =>
 (if (cs53).length = 2 then
 (if ((cs53).length ≤ 2) then
 some (Res.ret [(V.sl 1 l47 false), (V.agg (((setR [(V.int .u8 0), (V.int .i32 0)] 0 cs53)).drop 0 |>.take 2))], h2) else none) else none)))) else none)) else none))
 else
 (bd (slc s) fun p54 =>
 (slk s fun q55 l56 x57 =>
 (bdS (nv (V.int .i64 (IntKind.i64.wrap (((p54.2).length : Int) - 1)))) fun n58 =>
 (if (0 ≤ n58 ∧ n58 ≤ (l56).length ∧ (q55 = 1 ∨ (l56).isEmpty = true) ∧ ((none : Option Nat) = none ∨ (none : Option Nat) = some n58) ∧ true = true) then
 (bd (app 21 1 (S.own 21 1 []) (((l56).take n58).drop 0)) fun l59 =>
 (bd (slc s) fun p60 =>
 (bdS (nv (V.int .i64 (IntKind.i64.wrap (((p60.2).length : Int) - 1)))) fun n61 =>
 (slk s fun q62 l63 x64 => if (q62 = 1) then
 (bd (l63)[n61]? fun es65 =>
 (bd (es65)[0]? fun v66 =>
 (bd (bldV prog 34 [(0, (V.int .u8 2)), (1, v66)]) fun cs67 =>
 (if (cs67).length = 2 then
 (if ((cs67).length ≤ 2) then
 some (Res.ret [(V.sl 1 l59 false), (V.agg (((setR [(V.int .u8 0), (V.int .i32 0)] 0 cs67)).drop 0 |>.take 2))], h2) else none) else none)))) else none)))) else none)))))))))
 else
 (if (decide (k ≥ 3)) then
 (bd (slc s) fun p68 =>
 (if (((p68.2).length : Int) == 0) then
 some (Res.ret [s, (V.agg [(V.int .u8 4), (V.int .i32 0)])], h2)
 else
 (if (k == 1) then
 (bd (app 21 1 (S.own 21 1 []) [[(V.int .i32 v)]]) fun l69 =>
 (bdS (slc s) fun p70 =>
 (if (39 = 39 ∧ (p70.1 = 1 ∨ (p70.2).isEmpty = true)) then
 (bd (app 21 1 (S.own 21 1 l69) p70.2) fun l71 =>
 some (Res.ret [(V.sl 1 l71 false), (V.agg [(V.int .u8 1), (V.int .i32 0)])], h2)) else none)))
 else
 (if (k == 2) then
 (bdS (slc s) fun p72 =>
 (if (39 = 39 ∧ (p72.1 = 1 ∨ (p72.2).isEmpty = true)) then
 (bd (app 21 1 (S.own 21 1 []) p72.2) fun l73 =>
 (bd (app 21 1 (S.own 21 1 l73) [[(V.int .i32 v)]]) fun l74 =>
 some (Res.ret [(V.sl 1 l74 false), (V.agg [(V.int .u8 1), (V.int .i32 0)])], h2))) else none))
 else
 (if (k == 3) then
 (slk s fun q75 l76 x77 =>
 (if (1 ≤ (l76).length ∧ (l76).length ≤ (l76).length ∧ (q75 = 1 ∨ (l76).isEmpty = true) ∧ ((none : Option Nat) = none ∨ (none : Option Nat) = some (l76).length) ∧ true = true) then
 (bd (app 21 1 (S.own 21 1 []) (((l76).take (l76).length).drop 1)) fun l78 =>
 (slk s fun q79 l80 x81 => if (q79 = 1) then
 (bd (l80)[0]? fun es82 =>
 (bd (es82)[0]? fun v83 =>
 (bd (bldV prog 34 [(0, (V.int .u8 2)), (1, v83)]) fun cs84 =>
 (if (cs84).length = 2 then
 (if ((cs84).length ≤ 2) then
 some (Res.ret [(V.sl 1 l78 false), (V.agg (((setR [(V.int .u8 0), (V.int .i32 0)] 0 cs84)).drop 0 |>.take 2))], h2) else none) else none)))) else none)) else none))
 else
 (bd (slc s) fun p85 =>
 (slk s fun q86 l87 x88 =>
 (bdS (nv (V.int .i64 (IntKind.i64.wrap (((p85.2).length : Int) - 1)))) fun n89 =>
 (if (0 ≤ n89 ∧ n89 ≤ (l87).length ∧ (q86 = 1 ∨ (l87).isEmpty = true) ∧ ((none : Option Nat) = none ∨ (none : Option Nat) = some n89) ∧ true = true) then
 (bd (app 21 1 (S.own 21 1 []) (((l87).take n89).drop 0)) fun l90 =>
 (bd (slc s) fun p91 =>
 (bdS (nv (V.int .i64 (IntKind.i64.wrap (((p91.2).length : Int) - 1)))) fun n92 =>
 (slk s fun q93 l94 x95 => if (q93 = 1) then
 (bd (l94)[n92]? fun es96 =>
 (bd (es96)[0]? fun v97 =>
 (bd (bldV prog 34 [(0, (V.int .u8 2)), (1, v97)]) fun cs98 =>
 (if (cs98).length = 2 then
 (if ((cs98).length ≤ 2) then
 some (Res.ret [(V.sl 1 l90 false), (V.agg (((setR [(V.int .u8 0), (V.int .i32 0)] 0 cs98)).drop 0 |>.take 2))], h2) else none) else none)))) else none)))) else none)))))))))
 else
 (if (k == 1) then
 (bd (app 21 1 (S.own 21 1 []) [[(V.int .i32 v)]]) fun l99 =>
 (bdS (slc s) fun p100 =>
 (if (39 = 39 ∧ (p100.1 = 1 ∨ (p100.2).isEmpty = true)) then
 (bd (app 21 1 (S.own 21 1 l99) p100.2) fun l101 =>
 some (Res.ret [(V.sl 1 l101 false), (V.agg [(V.int .u8 1), (V.int .i32 0)])], h2)) else none)))
 else
 (if (k == 2) then
 (bdS (slc s) fun p102 =>
 (if (39 = 39 ∧ (p102.1 = 1 ∨ (p102.2).isEmpty = true)) then
 (bd (app 21 1 (S.own 21 1 []) p102.2) fun l103 =>
 (bd (app 21 1 (S.own 21 1 l103) [[(V.int .i32 v)]]) fun l104 =>
 some (Res.ret [(V.sl 1 l104 false), (V.agg [(V.int .u8 1), (V.int .i32 0)])], h2))) else none))
 else
 (if (k == 3) then
 (slk s fun q105 l106 x107 =>
 (if (1 ≤ (l106).length ∧ (l106).length ≤ (l106).length ∧ (q105 = 1 ∨ (l106).isEmpty = true) ∧ ((none : Option Nat) = none ∨ (none : Option Nat) = some (l106).length) ∧ true = true) then
 (bd (app 21 1 (S.own 21 1 []) (((l106).take (l106).length).drop 1)) fun l108 =>
 (slk s fun q109 l110 x111 => if (q109 = 1) then
 (bd (l110)[0]? fun es112 =>
 (bd (es112)[0]? fun v113 =>
 (bd (bldV prog 34 [(0, (V.int .u8 2)), (1, v113)]) fun cs114 =>
 (if (cs114).length = 2 then
 (if ((cs114).length ≤ 2) then
 some (Res.ret [(V.sl 1 l108 false), (V.agg (((setR [(V.int .u8 0), (V.int .i32 0)] 0 cs114)).drop 0 |>.take 2))], h2) else none) else none)))) else none)) else none))
 else
 (bd (slc s) fun p115 =>
 (slk s fun q116 l117 x118 =>
 (bdS (nv (V.int .i64 (IntKind.i64.wrap (((p115.2).length : Int) - 1)))) fun n119 =>
 (if (0 ≤ n119 ∧ n119 ≤ (l117).length ∧ (q116 = 1 ∨ (l117).isEmpty = true) ∧ ((none : Option Nat) = none ∨ (none : Option Nat) = some n119) ∧ true = true) then
 (bd (app 21 1 (S.own 21 1 []) (((l117).take n119).drop 0)) fun l120 =>
 (bd (slc s) fun p121 =>
 (bdS (nv (V.int .i64 (IntKind.i64.wrap (((p121.2).length : Int) - 1)))) fun n122 =>
 (slk s fun q123 l124 x125 => if (q123 = 1) then
 (bd (l124)[n122]? fun es126 =>
 (bd (es126)[0]? fun v127 =>
 (bd (bldV prog 34 [(0, (V.int .u8 2)), (1, v127)]) fun cs128 =>
 (if (cs128).length = 2 then
 (if ((cs128).length ≤ 2) then
 some (Res.ret [(V.sl 1 l120 false), (V.agg (((setR [(V.int .u8 0), (V.int .i32 0)] 0 cs128)).drop 0 |>.take 2))], h2) else none) else none)))) else none)))) else none)))))))))))))) (fun z3 h2 => some (Res.pan z3, h2))))
theorem lDo5_eq (n : Nat) (m : Int) (s : V) (k : Int) (v : Int) (h : Heap) : call (n + 1) 77 [(V.int .i64 m), s, (V.agg [(V.int .u8 k), (V.int .i32 v)])] h = lDo5 n m s k v h := by kernel_rfl
noncomputable def lHeap8_l7 (n : Nat) (s : V) (st8 : List V) (hh9 : Heap) (next10 : List V → Heap → Option (Res × Heap)) : Option (Res × Heap) :=
 (bd (slc s) fun p11 =>
 (bd (bop prog .lss 3 (gv st8 3) (V.int .i64 ((p11.2).length : Int))) fun v12 =>
 (bv v12 fun b13 => if b13 then
 (bdS (nv (gv st8 3)) fun n14 =>
 (slk s fun q15 l16 x17 => if (q15 = 1) then
 (bd (l16)[n14]? fun es18 =>
 (bd (es18)[0]? fun v19 =>
 (bd ((lcs (gv st8 0)))[1]? fun v20 =>
 (bd (bop prog .leq 21 v19 v20) fun v21 =>
 (bv v21 fun b22 => if b22 then
 (bd (bop prog .add 3 (gv st8 3) (V.int .i64 1)) fun v23 =>
 (next10 [(V.agg (lcs (gv st8 0))), (V.sl 1 (lsl (gv st8 1)) false), (V.agg (lcs (gv st8 2))), v23] hh9))
 else
 (slk s fun q24 l25 x26 =>
 (bdS (nv (gv st8 3)) fun n27 =>
 (if (0 ≤ n27 ∧ n27 ≤ (l25).length ∧ (q24 = 1 ∨ (l25).isEmpty = true) ∧ ((none : Option Nat) = none ∨ (none : Option Nat) = some n27) ∧ true = true) then
 (bd (app 21 1 (S.own 21 1 []) (((l25).take n27).drop 0)) fun l28 =>
 (bd ((lcs (gv st8 0)))[1]? fun v29 =>
 (bd (bslV prog 39 1 [(0, v29)]) fun p30 =>
 (bd (app 21 1 (S.own 21 1 l28) p30.2) fun l31 =>
 (slk s fun q32 l33 x34 =>
 (bdS (nv (gv st8 3)) fun n35 =>
 (if (n35 ≤ (l33).length ∧ (l33).length ≤ (l33).length ∧ (q32 = 1 ∨ (l33).isEmpty = true) ∧ ((none : Option Nat) = none ∨ (none : Option Nat) = some (l33).length) ∧ true = true) then
 (bd (app 21 1 (S.own 21 1 l31) (((l33).take (l33).length).drop n35)) fun l36 =>
 some (Res.ret [(V.sl 1 l36 false), (V.agg (((setR (lcs (gv st8 2)) 0 [(V.int .u8 1), (V.int .i32 0)])).drop 0 |>.take 2))], hh9)) else none))))))) else none)))))))) else none))
 else
 (slk s fun q37 l38 x39 =>
 (bdS (nv (gv st8 3)) fun n40 =>
 (if (0 ≤ n40 ∧ n40 ≤ (l38).length ∧ (q37 = 1 ∨ (l38).isEmpty = true) ∧ ((none : Option Nat) = none ∨ (none : Option Nat) = some n40) ∧ true = true) then
 (bd (app 21 1 (S.own 21 1 []) (((l38).take n40).drop 0)) fun l41 =>
 (bd ((lcs (gv st8 0)))[1]? fun v42 =>
 (bd (bslV prog 39 1 [(0, v42)]) fun p43 =>
 (bd (app 21 1 (S.own 21 1 l41) p43.2) fun l44 =>
 (slk s fun q45 l46 x47 =>
 (bdS (nv (gv st8 3)) fun n48 =>
 (if (n48 ≤ (l46).length ∧ (l46).length ≤ (l46).length ∧ (q45 = 1 ∨ (l46).isEmpty = true) ∧ ((none : Option Nat) = none ∨ (none : Option Nat) = some (l46).length) ∧ true = true) then
 (bd (app 21 1 (S.own 21 1 l44) (((l46).take (l46).length).drop n48)) fun l49 =>
 some (Res.ret [(V.sl 1 l49 false), (V.agg (((setR (lcs (gv st8 2)) 0 [(V.int .u8 1), (V.int .i32 0)])).drop 0 |>.take 2))], hh9)) else none))))))) else none))))))
noncomputable def lHeap8_l71 (n : Nat) (s : V) (st72 : List V) (hh73 : Heap) (next74 : List V → Heap → Option (Res × Heap)) : Option (Res × Heap) :=
 (bd (slc s) fun p75 =>
 (bd (bop prog .lss 3 (gv st72 3) (V.int .i64 ((p75.2).length : Int))) fun v76 =>
 (bv v76 fun b77 => if b77 then
 (bdS (nv (gv st72 3)) fun n78 =>
 (slk s fun q79 l80 x81 => if (q79 = 1) then
 (bd (l80)[n78]? fun es82 =>
 (bd (es82)[0]? fun v83 =>
 (bd ((lcs (gv st72 0)))[1]? fun v84 =>
 (bd (bop prog .leq 21 v83 v84) fun v85 =>
 (bv v85 fun b86 => if b86 then
 (bd (bop prog .add 3 (gv st72 3) (V.int .i64 1)) fun v87 =>
 (next74 [(V.agg (lcs (gv st72 0))), (V.sl 1 (lsl (gv st72 1)) false), (V.agg (lcs (gv st72 2))), v87] hh73))
 else
 (slk s fun q88 l89 x90 =>
 (bdS (nv (gv st72 3)) fun n91 =>
 (if (0 ≤ n91 ∧ n91 ≤ (l89).length ∧ (q88 = 1 ∨ (l89).isEmpty = true) ∧ ((none : Option Nat) = none ∨ (none : Option Nat) = some n91) ∧ true = true) then
 (bd (app 21 1 (S.own 21 1 []) (((l89).take n91).drop 0)) fun l92 =>
 (bd ((lcs (gv st72 0)))[1]? fun v93 =>
 (bd (bslV prog 39 1 [(0, v93)]) fun p94 =>
 (bd (app 21 1 (S.own 21 1 l92) p94.2) fun l95 =>
 (slk s fun q96 l97 x98 =>
 (bdS (nv (gv st72 3)) fun n99 =>
 (if (n99 ≤ (l97).length ∧ (l97).length ≤ (l97).length ∧ (q96 = 1 ∨ (l97).isEmpty = true) ∧ ((none : Option Nat) = none ∨ (none : Option Nat) = some (l97).length) ∧ true = true) then
 (bd (app 21 1 (S.own 21 1 l95) (((l97).take (l97).length).drop n99)) fun l100 =>
 some (Res.ret [(V.sl 1 l100 false), (V.agg (((setR (lcs (gv st72 2)) 0 [(V.int .u8 1), (V.int .i32 0)])).drop 0 |>.take 2))], hh73)) else none))))))) else none)))))))) else none))
 else
 (slk s fun q101 l102 x103 =>
 (bdS (nv (gv st72 3)) fun n104 =>
 (if (0 ≤ n104 ∧ n104 ≤ (l102).length ∧ (q101 = 1 ∨ (l102).isEmpty = true) ∧ ((none : Option Nat) = none ∨ (none : Option Nat) = some n104) ∧ true = true) then
 (bd (app 21 1 (S.own 21 1 []) (((l102).take n104).drop 0)) fun l105 =>
 (bd ((lcs (gv st72 0)))[1]? fun v106 =>
 (bd (bslV prog 39 1 [(0, v106)]) fun p107 =>
 (bd (app 21 1 (S.own 21 1 l105) p107.2) fun l108 =>
 (slk s fun q109 l110 x111 =>
 (bdS (nv (gv st72 3)) fun n112 =>
 (if (n112 ≤ (l110).length ∧ (l110).length ≤ (l110).length ∧ (q109 = 1 ∨ (l110).isEmpty = true) ∧ ((none : Option Nat) = none ∨ (none : Option Nat) = some (l110).length) ∧ true = true) then
 (bd (app 21 1 (S.own 21 1 l108) (((l110).take (l110).length).drop n112)) fun l113 =>
 some (Res.ret [(V.sl 1 l113 false), (V.agg (((setR (lcs (gv st72 2)) 0 [(V.int .u8 1), (V.int .i32 0)])).drop 0 |>.take 2))], hh73)) else none))))))) else none))))))
noncomputable def lHeap8 (n : Nat) (m : Int) (s : V) (k : Int) (v : Int) (h : Heap) : Option (Res × Heap) :=
 (if (k == 1) then
 (bd (slc s) fun p0 =>
 (cl (call n 80 [(V.int .i64 m)] h) (fun r1 h2 =>
 (one1 r1 fun v4 =>
 (bd (bop prog .geq 3 (V.int .i64 ((p0.2).length : Int)) v4) fun v5 =>
 (bv v5 fun b6 => if b6 then
 some (Res.ret [s, (V.agg [(V.int .u8 3), (V.int .i32 0)])], h2)
 else
 (if (k == 1) then
 (loopx n (lHeap8_l7 n s) [(V.agg [(V.int .u8 k), (V.int .i32 v)]), (V.sl 1 [] false), (V.agg [(V.int .u8 0), (V.int .i32 0)]), (V.int .i64 0)] h2)
 else
 (if (k == 2) then
 (bd (slc s) fun p50 =>
 (if (((p50.2).length : Int) == 0) then
 some (Res.ret [s, (V.agg [(V.int .u8 4), (V.int .i32 0)])], h2)
 else
 (if (k == 2) then
 (slk s fun q51 l52 x53 =>
 (if (1 ≤ (l52).length ∧ (l52).length ≤ (l52).length ∧ (q51 = 1 ∨ (l52).isEmpty = true) ∧ ((none : Option Nat) = none ∨ (none : Option Nat) = some (l52).length) ∧ true = true) then
 (bd (app 21 1 (S.own 21 1 []) (((l52).take (l52).length).drop 1)) fun l54 =>
 (slk s fun q55 l56 x57 => if (q55 = 1) then
 (bd (l56)[0]? fun es58 =>
 (bd (es58)[0]? fun v59 =>
 (bd (bldV prog 34 [(0, (V.int .u8 2)), (1, v59)]) fun cs60 =>
 (if (cs60).length = 2 then
 (if ((cs60).length ≤ 2) then
 some (Res.ret [(V.sl 1 l54 false), (V.agg (((setR [(V.int .u8 0), (V.int .i32 0)] 0 cs60)).drop 0 |>.take 2))], h2) else none) else none)))) else none)) else none))
 else
 some (Res.ret [s, (V.agg [(V.int .u8 5), (V.int .i32 0)])], h2))))
 else
 (if (k == 2) then
 (slk s fun q61 l62 x63 =>
 (if (1 ≤ (l62).length ∧ (l62).length ≤ (l62).length ∧ (q61 = 1 ∨ (l62).isEmpty = true) ∧ ((none : Option Nat) = none ∨ (none : Option Nat) = some (l62).length) ∧ true = true) then
 (bd (app 21 1 (S.own 21 1 []) (((l62).take (l62).length).drop 1)) fun l64 =>
 (slk s fun q65 l66 x67 => if (q65 = 1) then
 (bd (l66)[0]? fun es68 =>
 (bd (es68)[0]? fun v69 =>
 (bd (bldV prog 34 [(0, (V.int .u8 2)), (1, v69)]) fun cs70 =>
 (if (cs70).length = 2 then
 (if ((cs70).length ≤ 2) then
 some (Res.ret [(V.sl 1 l64 false), (V.agg (((setR [(V.int .u8 0), (V.int .i32 0)] 0 cs70)).drop 0 |>.take 2))], h2) else none) else none)))) else none)) else none))
 else
 some (Res.ret [s, (V.agg [(V.int .u8 5), (V.int .i32 0)])], h2)))))))) (fun z3 h2 => some (Res.pan z3, h2))))
 else
 (if (k == 1) then
 (loopx n (lHeap8_l71 n s) [(V.agg [(V.int .u8 k), (V.int .i32 v)]), (V.sl 1 [] false), (V.agg [(V.int .u8 0), (V.int .i32 0)]), (V.int .i64 0)] h)
 else
 (if (k == 2) then
 (bd (slc s) fun p114 =>
 (if (((p114.2).length : Int) == 0) then
 some (Res.ret [s, (V.agg [(V.int .u8 4), (V.int .i32 0)])], h)
 else
 (if (k == 2) then
 (slk s fun q115 l116 x117 =>
 (if (1 ≤ (l116).length ∧ (l116).length ≤ (l116).length ∧ (q115 = 1 ∨ (l116).isEmpty = true) ∧ ((none : Option Nat) = none ∨ (none : Option Nat) = some (l116).length) ∧ true = true) then
 (bd (app 21 1 (S.own 21 1 []) (((l116).take (l116).length).drop 1)) fun l118 =>
 (slk s fun q119 l120 x121 => if (q119 = 1) then
 (bd (l120)[0]? fun es122 =>
 (bd (es122)[0]? fun v123 =>
 (bd (bldV prog 34 [(0, (V.int .u8 2)), (1, v123)]) fun cs124 =>
 (if (cs124).length = 2 then
 (if ((cs124).length ≤ 2) then
 some (Res.ret [(V.sl 1 l118 false), (V.agg (((setR [(V.int .u8 0), (V.int .i32 0)] 0 cs124)).drop 0 |>.take 2))], h) else none) else none)))) else none)) else none))
 else
 some (Res.ret [s, (V.agg [(V.int .u8 5), (V.int .i32 0)])], h))))
 else
 (if (k == 2) then
 (slk s fun q125 l126 x127 =>
 (if (1 ≤ (l126).length ∧ (l126).length ≤ (l126).length ∧ (q125 = 1 ∨ (l126).isEmpty = true) ∧ ((none : Option Nat) = none ∨ (none : Option Nat) = some (l126).length) ∧ true = true) then
 (bd (app 21 1 (S.own 21 1 []) (((l126).take (l126).length).drop 1)) fun l128 =>
 (slk s fun q129 l130 x131 => if (q129 = 1) then
 (bd (l130)[0]? fun es132 =>
 (bd (es132)[0]? fun v133 =>
 (bd (bldV prog 34 [(0, (V.int .u8 2)), (1, v133)]) fun cs134 =>
 (if (cs134).length = 2 then
 (if ((cs134).length ≤ 2) then
 some (Res.ret [(V.sl 1 l128 false), (V.agg (((setR [(V.int .u8 0), (V.int .i32 0)] 0 cs134)).drop 0 |>.take 2))], h) else none) else none)))) else none)) else none))
 else
 some (Res.ret [s, (V.agg [(V.int .u8 5), (V.int .i32 0)])], h)))))
theorem lHeap8_eq (n : Nat) (m : Int) (s : V) (k : Int) (v : Int) (h : Heap) : call (n + 1) 78 [(V.int .i64 m), s, (V.agg [(V.int .u8 k), (V.int .i32 v)])] h = lHeap8 n m s k v h := by kernel_rfl
noncomputable def lApply8 (n : Nat) (o : Int) (m : Int) (s : V) (k : Int) (v : Int) : Option (Res × Heap) :=
 (if (o == 1) then
 (cl (call n 76 [(V.int .i64 m), s, (V.agg [(V.int .u8 k), (V.int .i32 v)])] []) (fun r0 h1 =>
 (bd (r0)[0]? fun v3 =>
 (bd (r0)[1]? fun v4 =>
 (if ((V.cells v4)).length = 2 then
 (if (((V.cells v4)).length ≤ 2) then
 (if ((((setR [(V.int .u8 5), (V.int .i32 0)] 0 (V.cells v4))).drop 0 |>.take 2)).length = 2 then
 (if (((((setR [(V.int .u8 5), (V.int .i32 0)] 0 (V.cells v4))).drop 0 |>.take 2)).length ≤ 2) then
 some (Res.ret [v3, (V.agg (((setR [(V.int .u8 0), (V.int .i32 0)] 0 (((setR [(V.int .u8 5), (V.int .i32 0)] 0 (V.cells v4))).drop 0 |>.take 2))).drop 0 |>.take 2))], h1) else none) else none) else none) else none)))) (fun z2 h1 => some (Res.pan z2, h1)))
 else
 (if (o == 2) then
 (cl (call n 77 [(V.int .i64 m), s, (V.agg [(V.int .u8 k), (V.int .i32 v)])] []) (fun r5 h6 =>
 (bd (r5)[0]? fun v8 =>
 (bd (r5)[1]? fun v9 =>
 (if ((V.cells v9)).length = 2 then
 (if (((V.cells v9)).length ≤ 2) then
 (if ((((setR [(V.int .u8 5), (V.int .i32 0)] 0 (V.cells v9))).drop 0 |>.take 2)).length = 2 then
 (if (((((setR [(V.int .u8 5), (V.int .i32 0)] 0 (V.cells v9))).drop 0 |>.take 2)).length ≤ 2) then
 some (Res.ret [v8, (V.agg (((setR [(V.int .u8 0), (V.int .i32 0)] 0 (((setR [(V.int .u8 5), (V.int .i32 0)] 0 (V.cells v9))).drop 0 |>.take 2))).drop 0 |>.take 2))], h6) else none) else none) else none) else none)))) (fun z7 h6 => some (Res.pan z7, h6)))
 else
 (if (o == 3) then
 (cl (call n 78 [(V.int .i64 m), s, (V.agg [(V.int .u8 k), (V.int .i32 v)])] []) (fun r10 h11 =>
 (bd (r10)[0]? fun v13 =>
 (bd (r10)[1]? fun v14 =>
 (if ((V.cells v14)).length = 2 then
 (if (((V.cells v14)).length ≤ 2) then
 (if ((((setR [(V.int .u8 5), (V.int .i32 0)] 0 (V.cells v14))).drop 0 |>.take 2)).length = 2 then
 (if (((((setR [(V.int .u8 5), (V.int .i32 0)] 0 (V.cells v14))).drop 0 |>.take 2)).length ≤ 2) then
 some (Res.ret [v13, (V.agg (((setR [(V.int .u8 0), (V.int .i32 0)] 0 (((setR [(V.int .u8 5), (V.int .i32 0)] 0 (V.cells v14))).drop 0 |>.take 2))).drop 0 |>.take 2))], h11) else none) else none) else none) else none)))) (fun z12 h11 => some (Res.pan z12, h11)))
 else
 some (Res.ret [s, (V.agg [(V.int .u8 5), (V.int .i32 0)])], []))))
theorem lApply8_eq (n : Nat) (o : Int) (m : Int) (s : V) (k : Int) (v : Int) (h : Heap) : call (n + 1) 54 [(V.int .u8 o), (V.int .i64 m), s, (V.agg [(V.int .u8 k), (V.int .i32 v)])] h = gcw [(V.int .u8 o), (V.int .i64 m), s, (V.agg [(V.int .u8 k), (V.int .i32 v)])] (lApply8 n o m s k v) h := by kernel_rfl
end Go.Proofs.Try
