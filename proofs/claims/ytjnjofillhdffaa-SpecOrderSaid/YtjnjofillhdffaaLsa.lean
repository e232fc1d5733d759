import Derived.Test.YtjnjofillhdffaaLwd
/-! spec.Run, the laws of layer 8: PRINTED BY A PROGRAM OF MINE (lift2.lean): each function as a Lean definition, and that L reckons just that -/
set_option linter.unusedVariables false
namespace Go.Proofs.Try
open Go.L
set_option maxRecDepth 100000
noncomputable def lOps_l0 (n : Nat) (c : V) (kinds : Int) (st1 : List V) (hh2 : Heap) (next3 : List V → Heap → Option (Res × Heap)) : Option (Res × Heap) :=
 (bd (slc c) fun p4 =>
 (bd (bop prog .lss 3 (gv st1 2) (V.int .i64 ((p4.2).length : Int))) fun v5 =>
 (bv v5 fun b6 => if b6 then
 (bd (bop prog .lss 3 (gv st1 2) (V.int .i64 80)) fun v7 =>
 (bv v7 fun b8 => if b8 then
 (bdS (nv (gv st1 2)) fun n9 =>
 (slk c fun q10 l11 x12 => if (q10 = 1) then
 (bd (l11)[n9]? fun es13 =>
 (bd (es13)[0]? fun v14 =>
 (bd (bop prog .rem 5 v14 (V.int .u8 kinds)) fun v15 =>
 (bd (bop prog .add 5 (V.int .u8 1) v15) fun v16 =>
 (bdS (nv (gv st1 2)) fun n17 =>
 (slk c fun q18 l19 x20 => if (q18 = 1) then
 (bd (l19)[n17]? fun es21 =>
 (bd (es21)[0]? fun v22 =>
 (bd (bop prog .quo 5 v22 (V.int .u8 8)) fun v23 =>
 (bd (cvt prog 5 21 v23) fun v24 =>
 (bd (bop prog .sub 21 v24 (V.int .i32 9)) fun v25 =>
 (bd (bldV prog 38 [(0, v16), (1, v25)]) fun cs26 =>
 (bd (bslV prog 24 1 [(0, (V.agg cs26))]) fun p27 =>
 (bd (app 38 2 (S.own 38 2 (lsl (gv st1 1))) p27.2) fun l28 =>
 (bd (bop prog .add 3 (gv st1 2) (V.int .i64 1)) fun v29 =>
 (next3 [(V.sl 2 (lsl (gv st1 0)) false), (V.sl 2 l28 false), v29] hh2)))))))))) else none)))))) else none))
 else
 some (Res.ret [(V.sl 2 (lsl (gv st1 1)) false)], hh2)))
 else
 some (Res.ret [(V.sl 2 (lsl (gv st1 1)) false)], hh2))))
noncomputable def lOps (n : Nat) (c : V) (kinds : Int) (h : Heap) : Option (Res × Heap) :=
 (loopx n (lOps_l0 n c kinds) [(V.sl 2 [] false), (V.sl 2 [] false), (V.int .i64 0)] h)
theorem lOps_eq (n : Nat) (c : V) (kinds : Int) (h : Heap) : call (n + 1) 14 [c, (V.int .u8 kinds)] h = lOps n c kinds h := by kernel_rfl
noncomputable def lRun_l5 (n : Nat) (o : Int) (m : Int) (os : V) (p4 : Nat × List (List V)) (st6 : List V) (hh7 : Heap) (next8 : List V → Heap → Option (Res × Heap)) : Option (Res × Heap) :=
 (bd (bop prog .lss 3 (gv st6 6) (V.int .i64 ((p4.2).length : Int))) fun v9 =>
 (bv v9 fun b10 => if b10 then
 (bdS (nv (gv st6 6)) fun n11 =>
 (slk os fun q12 l13 x14 => if (q12 = 2) then
 (bd (l13)[n11]? fun es15 =>
 (if (((es15).drop 0 |>.take 2)).length = 2 then
 (if ((((es15).drop 0 |>.take 2)).length ≤ 2) then
 (cl (call n 26 [(V.int .u8 o), (V.int .i64 m), (gv st6 0), (V.agg (((setR [(V.int .u8 0), (V.int .i32 0)] 0 ((es15).drop 0 |>.take 2))).drop 0 |>.take 2))] hh7) (fun r16 h17 =>
 (bd (r16)[0]? fun v19 =>
 (bd (r16)[1]? fun v20 =>
 (bdS (nv (gv st6 6)) fun n21 =>
 (if (2 = 2 ∧ n21 < ((lsl (gv st6 3))).length ∧ (some 35 : Option Nat) ≠ some 10) then
 (if ((V.cells v20)).length = 2 then
 (if (2 = 2 ∧ 0 < 2 ∧ 0 + ((V.cells v20)).length ≤ 2) then
 (bd ((lsl (gv st6 3)))[n21]? fun es22 =>
 (bd (bop prog .add 3 (gv st6 6) (V.int .i64 1)) fun v23 =>
 (next8 [v19, (V.sl 1 (lsl (gv st6 1)) false), (V.sl 2 (lsl (gv st6 2)) false), (V.sl 2 (((lsl (gv st6 3))).set n21 (setR es22 0 (V.cells v20))) false), (V.bool false), (V.bool false), v23] h17))) else none) else none) else none))))) (fun z18 h17 => some (Res.pan z18, h17))) else none) else none)) else none))
 else
 some (Res.ret [(gv st6 0), (V.sl 2 (lsl (gv st6 3)) false)], hh7)))
noncomputable def lRun (n : Nat) (o : Int) (m : Int) (s : V) (os : V) (h : Heap) : Option (Res × Heap) :=
 (bd (slc s) fun p0 =>
 (if ((p0.1 = 1 ∨ (p0.2).isEmpty = true) ∧ (p0.2).length < lim) then
 (bd (slc os) fun p1 =>
 (bdS (nv (V.int .i64 ((p1.2).length : Int))) fun n2 =>
 (bdS (nv (V.int .i64 ((p1.2).length : Int))) fun n3 =>
 (if (n2 = n3 ∧ n2 < lim ∧ 2 = 2) then
 (bd (slc os) fun p4 =>
 (loopx n (lRun_l5 n o m os p4) [(V.sl 1 p0.2 false), (V.sl 1 [] false), (V.sl 2 [] false), (V.sl 2 (List.replicate n2 [(V.int .u8 0), (V.int .i32 0)]) false), (V.bool false), (V.bool false), (V.int .i64 0)] h)) else none)))) else none))
theorem lRun_eq (n : Nat) (o : Int) (m : Int) (s : V) (os : V) (h : Heap) : call (n + 1) 51 [(V.int .u8 o), (V.int .i64 m), s, os] h = lRun n o m s os h := by kernel_rfl
noncomputable def lSame_l2 (n : Nat) (a : V) (b : V) (st3 : List V) (hh4 : Heap) (next5 : List V → Heap → Option (Res × Heap)) : Option (Res × Heap) :=
 (bd (slc a) fun p6 =>
 (bd (bop prog .lss 3 (gv st3 1) (V.int .i64 ((p6.2).length : Int))) fun v7 =>
 (bv v7 fun b8 => if b8 then
 (bdS (nv (gv st3 1)) fun n9 =>
 (slk a fun q10 l11 x12 => if (q10 = 1) then
 (bd (l11)[n9]? fun es13 =>
 (bd (es13)[0]? fun v14 =>
 (bdS (nv (gv st3 1)) fun n15 =>
 (slk b fun q16 l17 x18 => if (q16 = 1) then
 (bd (l17)[n15]? fun es19 =>
 (bd (es19)[0]? fun v20 =>
 (bd (bop prog .neq 21 v14 v20) fun v21 =>
 (bv v21 fun b22 => if b22 then
 some (Res.ret [(V.bool false)], hh4)
 else
 (bd (bop prog .add 3 (gv st3 1) (V.int .i64 1)) fun v23 =>
 (next5 [(gv st3 0), v23] hh4)))))) else none)))) else none))
 else
 some (Res.ret [(V.bool true)], hh4))))
noncomputable def lSame (n : Nat) (a : V) (b : V) (h : Heap) : Option (Res × Heap) :=
 (bd (slc a) fun p0 =>
 (bd (slc b) fun p1 =>
 (if (((p0.2).length : Int) != ((p1.2).length : Int)) then
 some (Res.ret [(V.bool false)], h)
 else
 (loopx n (lSame_l2 n a b) [(V.bool false), (V.int .i64 0)] h))))
theorem lSame_eq (n : Nat) (a : V) (b : V) (h : Heap) : call (n + 1) 23 [a, b] h = lSame n a b h := by kernel_rfl
noncomputable def lTold_l2 (n : Nat) (a : V) (b : V) (st3 : List V) (hh4 : Heap) (next5 : List V → Heap → Option (Res × Heap)) : Option (Res × Heap) :=
 (bd (slc a) fun p6 =>
 (bd (bop prog .lss 3 (gv st3 1) (V.int .i64 ((p6.2).length : Int))) fun v7 =>
 (bv v7 fun b8 => if b8 then
 (bdS (nv (gv st3 1)) fun n9 =>
 (slk a fun q10 l11 x12 => if (q10 = 2) then
 (bd (l11)[n9]? fun es13 =>
 (bdS (nv (gv st3 1)) fun n14 =>
 (slk b fun q15 l16 x17 => if (q15 = 2) then
 (bd (l16)[n14]? fun es18 =>
 (bd (bop prog .neq 34 (V.agg ((es13).drop 0 |>.take 2)) (V.agg ((es18).drop 0 |>.take 2))) fun v19 =>
 (bv v19 fun b20 => if b20 then
 some (Res.ret [(V.bool false)], hh4)
 else
 (bd (bop prog .add 3 (gv st3 1) (V.int .i64 1)) fun v21 =>
 (next5 [(gv st3 0), v21] hh4))))) else none))) else none))
 else
 some (Res.ret [(V.bool true)], hh4))))
noncomputable def lTold (n : Nat) (a : V) (b : V) (h : Heap) : Option (Res × Heap) :=
 (bd (slc a) fun p0 =>
 (bd (slc b) fun p1 =>
 (if (((p0.2).length : Int) != ((p1.2).length : Int)) then
 some (Res.ret [(V.bool false)], h)
 else
 (loopx n (lTold_l2 n a b) [(V.bool false), (V.int .i64 0)] h))))
theorem lTold_eq (n : Nat) (a : V) (b : V) (h : Heap) : call (n + 1) 31 [a, b] h = lTold n a b h := by kernel_rfl
end Go.Proofs.Try
