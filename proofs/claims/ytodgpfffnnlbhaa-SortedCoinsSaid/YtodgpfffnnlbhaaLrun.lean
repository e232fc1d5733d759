import Derived.Test.YtodgpfffnnlbhaaLset
import Derived.Test.YtodgpfffnnlbhaaLwd
/-! spec.Run: PRINTED BY A PROGRAM OF MINE (lift6.lean) -/
set_option linter.unusedVariables false
namespace Go.Proofs.Try
open Go.L
set_option maxRecDepth 100000
noncomputable def lRun_l5 (n : Nat) (o : Int) (m : Int) (os : V) (p4 : Nat × List (List V)) (st6 : List V) (hh7 : Heap) (next8 : List V → Heap → Option (Res × Heap)) : Option (Res × Heap) :=
 (bd (bop prog .lss 3 (gv st6 6) (V.int .i64 ((p4.2).length : Int))) fun v9 =>
 (bv v9 fun b10 => if b10 then
 (bdS (nv (gv st6 6)) fun n11 =>
 (bd (idxP 2 n11 os) fun p12 =>
 (bd3 (cellsP hh7 p12) fun cs14 m13 o15 => if (o15 + 2 ≤ m13 ∧ 0 < 2) then
 (if (((cs14).drop o15 |>.take 2)).length = 2 then
 (if ((((cs14).drop o15 |>.take 2)).length ≤ 2) then
 (cl (call n 87 [(V.int .u8 o), (V.int .i64 m), (gv st6 0), (V.agg (((setR [(V.int .u8 0), (V.int .i32 0)] 0 ((cs14).drop o15 |>.take 2))).drop 0 |>.take 2))] hh7) (fun r16 h17 =>
 (bd (r16)[0]? fun v19 =>
 (bd (r16)[1]? fun v20 =>
 (bdS (nv (gv st6 6)) fun n21 =>
 (if (2 = 2 ∧ n21 < ((lsl (gv st6 3))).length ∧ (some 35 : Option Nat) ≠ some 10) then
 (if ((V.cells v20)).length = 2 then
 (if (2 = 2 ∧ 0 < 2 ∧ 0 + ((V.cells v20)).length ≤ 2) then
 (bd ((lsl (gv st6 3)))[n21]? fun es22 =>
 (bd (bop prog .add 3 (gv st6 6) (V.int .i64 1)) fun v23 =>
 (next8 [v19, (V.sl 1 (lsl (gv st6 1)) false), (V.sl 2 (lsl (gv st6 2)) false), (V.sl 2 (((lsl (gv st6 3))).set n21 (setR es22 0 (V.cells v20))) false), (V.bool false), (V.bool false), v23] h17))) else none) else none) else none))))) (fun z18 h17 => some (Res.pan z18, h17))) else none) else none) else none)))
 else
 some (Res.ret [(gv st6 0), (V.sl 2 (lsl (gv st6 3)) false)], hh7)))
noncomputable def lRun (n : Nat) (o : Int) (m : Int) (s : V) (os : V) (h : Heap) : Option (Res × Heap) :=
 (bd (slcH h s) fun p0 =>
 (if ((p0.1 = 1 ∨ (p0.2).isEmpty = true) ∧ (p0.2).length < lim) then
 (bd (slcH h os) fun p1 =>
 (bdS (nv (V.int .i64 ((p1.2).length : Int))) fun n2 =>
 (bdS (nv (V.int .i64 ((p1.2).length : Int))) fun n3 =>
 (if (n2 = n3 ∧ n2 < lim ∧ 2 = 2) then
 (bd (slcH h os) fun p4 =>
 (loopx n (lRun_l5 n o m os p4) [(V.sl 1 p0.2 false), (V.sl 1 [] false), (V.sl 2 [] false), (V.sl 2 (List.replicate n2 [(V.int .u8 0), (V.int .i32 0)]) false), (V.bool false), (V.bool false), (V.int .i64 0)] h)) else none)))) else none))
theorem lRun_eq (n : Nat) (o : Int) (m : Int) (s : V) (os : V) (h : Heap) : call (n + 1) 79 [(V.int .u8 o), (V.int .i64 m), s, os] h = lRun n o m s os h := by kernel_rfl
end Go.Proofs.Try
