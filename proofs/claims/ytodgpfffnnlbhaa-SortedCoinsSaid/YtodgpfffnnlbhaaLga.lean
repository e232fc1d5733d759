import Derived.Test.YtodgpfffnnlbhaaLset
import Derived.Test.YtodgpfffnnlbhaaLwd
/-! spec.Apply and what it calls: PRINTED BY A PROGRAM OF MINE (lift6.lean) -/
set_option linter.unusedVariables false
namespace Go.Proofs.Try
open Go.L
set_option maxRecDepth 100000
noncomputable def lFront (n : Nat) (x0 : List (List V)) (x0b : Bool) (x1 : Int) : Option (Res × Heap) :=
 some (Res.ret [(V.int .i64 0)], [])
theorem lFront_eq (n : Nat) (x0 : List (List V)) (x0b : Bool) (x1 : Int) (h : Heap) : call (n + 1) 97 [(V.sl 1 x0 x0b), (V.int .i32 x1)] h = gcw [(V.sl 1 x0 x0b), (V.int .i32 x1)] (lFront n x0 x0b x1) h := by kernel_rfl
noncomputable def lBack (n : Nat) (x0 : List (List V)) (x0b : Bool) (x1 : Int) : Option (Res × Heap) :=
 some (Res.ret [(V.int .i64 ((x0).length : Int))], [])
theorem lBack_eq (n : Nat) (x0 : List (List V)) (x0b : Bool) (x1 : Int) (h : Heap) : call (n + 1) 95 [(V.sl 1 x0 x0b), (V.int .i32 x1)] h = gcw [(V.sl 1 x0 x0b), (V.int .i32 x1)] (lBack n x0 x0b x1) h := by kernel_rfl
noncomputable def lLast (n : Nat) (x0 : List (List V)) (x0b : Bool) (x1 : Int) : Option (Res × Heap) :=
 some (Res.ret [(V.int .i64 (IntKind.i64.wrap (((x0).length : Int) - 1)))], [])
theorem lLast_eq (n : Nat) (x0 : List (List V)) (x0b : Bool) (x1 : Int) (h : Heap) : call (n + 1) 96 [(V.sl 1 x0 x0b), (V.int .i32 x1)] h = gcw [(V.sl 1 x0 x0b), (V.int .i32 x1)] (lLast n x0 x0b x1) h := by kernel_rfl
noncomputable def lPlace (n : Nat) (x0 : List (List V)) (x0b : Bool) (x1 : Int) : Option (Res × Heap) :=
 (cl (call n 102 [(V.sl 1 x0 x0b), (V.fn 103 [(V.ptr 0 0)])] [(HB.box 1 [(V.int .i32 x1)])]) (fun r0 h1 =>
 (one1 r0 fun v3 =>
 (bd (bop prog .geq 3 v3 (V.int .i64 0)) fun v4 =>
 (bv v4 fun b5 => if b5 then
 some (Res.ret [v3], h1)
 else
 some (Res.ret [(V.int .i64 ((x0).length : Int))], h1))))) (fun z2 h1 => some (Res.pan z2, h1)))
theorem lPlace_eq (n : Nat) (x0 : List (List V)) (x0b : Bool) (x1 : Int) (h : Heap) : call (n + 1) 98 [(V.sl 1 x0 x0b), (V.int .i32 x1)] h = gcw [(V.sl 1 x0 x0b), (V.int .i32 x1)] (lPlace n x0 x0b x1) h := by kernel_rfl
noncomputable def lPlace1 (n : Nat) (x0 : Int) (x1 : Nat) (h : Heap) : Option (Res × Heap) :=
 (bd3 (cellsP h (V.ptr x1 0)) fun cs1 m0 o2 => if (o2 + 1 ≤ m0 ∧ 0 < 1) then
 (bd (cs1)[o2]? fun v3 =>
 (bd (bop prog .gtr 21 (V.int .i32 x0) v3) fun v4 =>
 some (Res.ret [v4], h))) else none)
theorem lPlace1_eq (n : Nat) (x0 : Int) (x1 : Nat) (h : Heap) : call (n + 1) 103 [(V.int .i32 x0), (V.ptr x1 0)] h = lPlace1 n x0 x1 h := by kernel_rfl
noncomputable def lIndex_l0 (n : Nat) (x0 : List (List V)) (x0b : Bool) (a : Nat) (st1 : List V) (hh2 : Heap) (next3 : List V → Heap → Option (Res × Heap)) : Option (Res × Heap) :=
 (bd (bop prog .lss 3 (gv st1 1) (V.int .i64 ((x0).length : Int))) fun v4 =>
 (bv v4 fun b5 => if b5 then
 (bdS (nv (gv st1 1)) fun n6 =>
 (bd (idxP 1 n6 (V.sl 1 x0 x0b)) fun p7 =>
 (bd3 (cellsP hh2 p7) fun cs9 m8 o10 => if (o10 + 1 ≤ m8 ∧ 0 < 1) then
 (bd (cs9)[o10]? fun v11 =>
 (cl (call n 103 [v11, (V.ptr a 0)] hh2) (fun r12 h13 =>
 (one1 r12 fun v15 =>
 (bv v15 fun b16 => if b16 then
 some (Res.ret [(gv st1 1)], h13)
 else
 (bd (bop prog .add 3 (gv st1 1) (V.int .i64 1)) fun v17 =>
 (next3 [(gv st1 0), v17] h13))))) (fun z14 h13 => some (Res.pan z14, h13)))) else none)))
 else
 some (Res.ret [(V.int .i64 (-1))], hh2)))
noncomputable def lIndex (n : Nat) (x0 : List (List V)) (x0b : Bool) (a : Nat) (h : Heap) : Option (Res × Heap) :=
 (loopx n (lIndex_l0 n x0 x0b a) [(V.int .i64 0), (V.int .i64 0)] h)
theorem lIndex_eq (n : Nat) (x0 : List (List V)) (x0b : Bool) (a : Nat) (h : Heap) : call (n + 1) 102 [(V.sl 1 x0 x0b), (V.fn 103 [(V.ptr a 0)])] h = lIndex n x0 x0b a h := by kernel_rfl
noncomputable def apSPush (n : Nat) (m : Int) (s : V) (v : Int) : Option (Res × Heap) :=
 (bd (slcH [] s) fun p0 =>
 (if ((p0.1 = 1 ∨ (p0.2).isEmpty = true) ∧ (p0.2).length < lim) then
 (if (decide (((p0.2).length : Int) ≥ (if 0 < (if 1000 < m then 1000 else m) then (if 1000 < m then 1000 else m) else 0))) then
 some (Res.ret [(V.sl 1 p0.2 false), (V.agg [(V.int .u8 3), (V.int .i32 0)])], [(HB.map [((V.int .u8 1), (V.map 1)), ((V.int .u8 2), (V.map 2)), ((V.int .u8 3), (V.map 3))]), (HB.map [((V.int .u8 1), (V.agg [(V.bool true), (V.fn 95 [])])), ((V.int .u8 2), (V.agg [(V.bool false), (V.fn 96 [])]))]), (HB.map [((V.int .u8 1), (V.agg [(V.bool true), (V.fn 97 [])])), ((V.int .u8 2), (V.agg [(V.bool true), (V.fn 95 [])])), ((V.int .u8 3), (V.agg [(V.bool false), (V.fn 97 [])])), ((V.int .u8 4), (V.agg [(V.bool false), (V.fn 96 [])]))]), (HB.map [((V.int .u8 1), (V.agg [(V.bool true), (V.fn 98 [])])), ((V.int .u8 2), (V.agg [(V.bool false), (V.fn 97 [])]))])])
 else
 (clS (call n 95 [(V.sl 1 p0.2 false), (V.int .i32 v)] []) fun r4 => if V.simple.simpleL r4 then
 (one1 r4 fun v7 =>
 (bdS (ni v7) fun n8 =>
 (if ((21 = 21 ∧ 1 = 1) ∧ (21 = 21 ∧ 1 = 1) ∧ 2 ≠ 55 ∧ n8 ≤ (p0.2).length ∧ (p0.2).length + 1 < lim) then
 some (Res.ret [(V.sl 1 ((p0.2).take n8 ++ [[(V.int .i32 v)]] ++ (p0.2).drop n8) false), (V.agg [(V.int .u8 1), (V.int .i32 0)])], [(HB.map [((V.int .u8 1), (V.map 1)), ((V.int .u8 2), (V.map 2)), ((V.int .u8 3), (V.map 3))]), (HB.map [((V.int .u8 1), (V.agg [(V.bool true), (V.fn 95 [])])), ((V.int .u8 2), (V.agg [(V.bool false), (V.fn 96 [])]))]), (HB.map [((V.int .u8 1), (V.agg [(V.bool true), (V.fn 97 [])])), ((V.int .u8 2), (V.agg [(V.bool true), (V.fn 95 [])])), ((V.int .u8 3), (V.agg [(V.bool false), (V.fn 97 [])])), ((V.int .u8 4), (V.agg [(V.bool false), (V.fn 96 [])]))]), (HB.map [((V.int .u8 1), (V.agg [(V.bool true), (V.fn 98 [])])), ((V.int .u8 2), (V.agg [(V.bool false), (V.fn 97 [])]))])]) else none))) else none)) else none))
theorem apSPush_eq (n : Nat) (m : Int) (s : V) (v : Int) (h : Heap) : call (n + 2) 87 [(V.int .u8 1), (V.int .i64 m), s, (V.agg [(V.int .u8 1), (V.int .i32 v)])] h = gcw [(V.int .u8 1), (V.int .i64 m), s, (V.agg [(V.int .u8 1), (V.int .i32 v)])] (apSPush (n + 1) m s v) h := by kernel_rfl
noncomputable def apSPop (n : Nat) (m : Int) (s : V) (v : Int) : Option (Res × Heap) :=
 (bd (slcH [] s) fun p0 =>
 (if ((p0.1 = 1 ∨ (p0.2).isEmpty = true) ∧ (p0.2).length < lim) then
 (if (((p0.2).length : Int) == 0) then
 some (Res.ret [(V.sl 1 p0.2 false), (V.agg [(V.int .u8 4), (V.int .i32 0)])], [(HB.map [((V.int .u8 1), (V.map 1)), ((V.int .u8 2), (V.map 2)), ((V.int .u8 3), (V.map 3))]), (HB.map [((V.int .u8 1), (V.agg [(V.bool true), (V.fn 95 [])])), ((V.int .u8 2), (V.agg [(V.bool false), (V.fn 96 [])]))]), (HB.map [((V.int .u8 1), (V.agg [(V.bool true), (V.fn 97 [])])), ((V.int .u8 2), (V.agg [(V.bool true), (V.fn 95 [])])), ((V.int .u8 3), (V.agg [(V.bool false), (V.fn 97 [])])), ((V.int .u8 4), (V.agg [(V.bool false), (V.fn 96 [])]))]), (HB.map [((V.int .u8 1), (V.agg [(V.bool true), (V.fn 98 [])])), ((V.int .u8 2), (V.agg [(V.bool false), (V.fn 97 [])]))])])
 else
 (cl (call n 96 [(V.sl 1 p0.2 false), (V.int .i32 v)] [(HB.map [((V.int .u8 1), (V.map 1)), ((V.int .u8 2), (V.map 2)), ((V.int .u8 3), (V.map 3))]), (HB.map [((V.int .u8 1), (V.agg [(V.bool true), (V.fn 95 [])])), ((V.int .u8 2), (V.agg [(V.bool false), (V.fn 96 [])]))]), (HB.map [((V.int .u8 1), (V.agg [(V.bool true), (V.fn 97 [])])), ((V.int .u8 2), (V.agg [(V.bool true), (V.fn 95 [])])), ((V.int .u8 3), (V.agg [(V.bool false), (V.fn 97 [])])), ((V.int .u8 4), (V.agg [(V.bool false), (V.fn 96 [])]))]), (HB.map [((V.int .u8 1), (V.agg [(V.bool true), (V.fn 98 [])])), ((V.int .u8 2), (V.agg [(V.bool false), (V.fn 97 [])]))])]) (fun r4 h5 => if V.simple.simpleL r4 then
 (one1 r4 fun v7 =>
 (bdS (nv v7) fun n8 =>
 (if (1 = 1 ∧ n8 < (p0.2).length ∧ (some 72 : Option Nat) ≠ some 2) then
 (bd (p0.2)[n8]? fun es9 =>
 (bd (es9)[0]? fun v10 =>
 (bd (bop prog .add 3 v7 (V.int .i64 1)) fun v11 =>
 (bdS (ni v7) fun n12 =>
 (bdS (ni v11) fun n13 =>
 (if ((21 = 21 ∧ 1 = 1) ∧ n12 < n13 ∧ n13 ≤ (p0.2).length ∧ (p0.2).length < lim) then
 (bd (bldV prog 34 [(0, (V.int .u8 2)), (1, v10)]) fun cs14 =>
 (if (cs14).length = 2 then
 (if ((cs14).length ≤ 2) then
 some (Res.ret [(V.sl 1 ((p0.2).take n12 ++ (p0.2).drop n13) false), (V.agg (((setR [(V.int .u8 0), (V.int .i32 0)] 0 cs14)).drop 0 |>.take 2))], h5) else none) else none)) else none)))))) else none))) else none) (fun z6 h5 => if z6.simple then some (Res.pan z6, h5) else none))) else none))
theorem apSPop_eq (n : Nat) (m : Int) (s : V) (v : Int) (h : Heap) : call (n + 2) 87 [(V.int .u8 1), (V.int .i64 m), s, (V.agg [(V.int .u8 2), (V.int .i32 v)])] h = gcw [(V.int .u8 1), (V.int .i64 m), s, (V.agg [(V.int .u8 2), (V.int .i32 v)])] (apSPop (n + 1) m s v) h := by kernel_rfl
noncomputable def apDPushL (n : Nat) (m : Int) (s : V) (v : Int) : Option (Res × Heap) :=
 (bd (slcH [] s) fun p0 =>
 (if ((p0.1 = 1 ∨ (p0.2).isEmpty = true) ∧ (p0.2).length < lim) then
 (if (decide (((p0.2).length : Int) ≥ (if 0 < (if 1000 < m then 1000 else m) then (if 1000 < m then 1000 else m) else 0))) then
 some (Res.ret [(V.sl 1 p0.2 false), (V.agg [(V.int .u8 3), (V.int .i32 0)])], [(HB.map [((V.int .u8 1), (V.map 1)), ((V.int .u8 2), (V.map 2)), ((V.int .u8 3), (V.map 3))]), (HB.map [((V.int .u8 1), (V.agg [(V.bool true), (V.fn 95 [])])), ((V.int .u8 2), (V.agg [(V.bool false), (V.fn 96 [])]))]), (HB.map [((V.int .u8 1), (V.agg [(V.bool true), (V.fn 97 [])])), ((V.int .u8 2), (V.agg [(V.bool true), (V.fn 95 [])])), ((V.int .u8 3), (V.agg [(V.bool false), (V.fn 97 [])])), ((V.int .u8 4), (V.agg [(V.bool false), (V.fn 96 [])]))]), (HB.map [((V.int .u8 1), (V.agg [(V.bool true), (V.fn 98 [])])), ((V.int .u8 2), (V.agg [(V.bool false), (V.fn 97 [])]))])])
 else
 (clS (call n 97 [(V.sl 1 p0.2 false), (V.int .i32 v)] []) fun r4 => if V.simple.simpleL r4 then
 (one1 r4 fun v7 =>
 (bdS (ni v7) fun n8 =>
 (if ((21 = 21 ∧ 1 = 1) ∧ (21 = 21 ∧ 1 = 1) ∧ 2 ≠ 55 ∧ n8 ≤ (p0.2).length ∧ (p0.2).length + 1 < lim) then
 some (Res.ret [(V.sl 1 ((p0.2).take n8 ++ [[(V.int .i32 v)]] ++ (p0.2).drop n8) false), (V.agg [(V.int .u8 1), (V.int .i32 0)])], [(HB.map [((V.int .u8 1), (V.map 1)), ((V.int .u8 2), (V.map 2)), ((V.int .u8 3), (V.map 3))]), (HB.map [((V.int .u8 1), (V.agg [(V.bool true), (V.fn 95 [])])), ((V.int .u8 2), (V.agg [(V.bool false), (V.fn 96 [])]))]), (HB.map [((V.int .u8 1), (V.agg [(V.bool true), (V.fn 97 [])])), ((V.int .u8 2), (V.agg [(V.bool true), (V.fn 95 [])])), ((V.int .u8 3), (V.agg [(V.bool false), (V.fn 97 [])])), ((V.int .u8 4), (V.agg [(V.bool false), (V.fn 96 [])]))]), (HB.map [((V.int .u8 1), (V.agg [(V.bool true), (V.fn 98 [])])), ((V.int .u8 2), (V.agg [(V.bool false), (V.fn 97 [])]))])]) else none))) else none)) else none))
theorem apDPushL_eq (n : Nat) (m : Int) (s : V) (v : Int) (h : Heap) : call (n + 2) 87 [(V.int .u8 2), (V.int .i64 m), s, (V.agg [(V.int .u8 1), (V.int .i32 v)])] h = gcw [(V.int .u8 2), (V.int .i64 m), s, (V.agg [(V.int .u8 1), (V.int .i32 v)])] (apDPushL (n + 1) m s v) h := by kernel_rfl
noncomputable def apDPushR (n : Nat) (m : Int) (s : V) (v : Int) : Option (Res × Heap) :=
 (bd (slcH [] s) fun p0 =>
 (if ((p0.1 = 1 ∨ (p0.2).isEmpty = true) ∧ (p0.2).length < lim) then
 (if (decide (((p0.2).length : Int) ≥ (if 0 < (if 1000 < m then 1000 else m) then (if 1000 < m then 1000 else m) else 0))) then
 some (Res.ret [(V.sl 1 p0.2 false), (V.agg [(V.int .u8 3), (V.int .i32 0)])], [(HB.map [((V.int .u8 1), (V.map 1)), ((V.int .u8 2), (V.map 2)), ((V.int .u8 3), (V.map 3))]), (HB.map [((V.int .u8 1), (V.agg [(V.bool true), (V.fn 95 [])])), ((V.int .u8 2), (V.agg [(V.bool false), (V.fn 96 [])]))]), (HB.map [((V.int .u8 1), (V.agg [(V.bool true), (V.fn 97 [])])), ((V.int .u8 2), (V.agg [(V.bool true), (V.fn 95 [])])), ((V.int .u8 3), (V.agg [(V.bool false), (V.fn 97 [])])), ((V.int .u8 4), (V.agg [(V.bool false), (V.fn 96 [])]))]), (HB.map [((V.int .u8 1), (V.agg [(V.bool true), (V.fn 98 [])])), ((V.int .u8 2), (V.agg [(V.bool false), (V.fn 97 [])]))])])
 else
 (clS (call n 95 [(V.sl 1 p0.2 false), (V.int .i32 v)] []) fun r4 => if V.simple.simpleL r4 then
 (one1 r4 fun v7 =>
 (bdS (ni v7) fun n8 =>
 (if ((21 = 21 ∧ 1 = 1) ∧ (21 = 21 ∧ 1 = 1) ∧ 2 ≠ 55 ∧ n8 ≤ (p0.2).length ∧ (p0.2).length + 1 < lim) then
 some (Res.ret [(V.sl 1 ((p0.2).take n8 ++ [[(V.int .i32 v)]] ++ (p0.2).drop n8) false), (V.agg [(V.int .u8 1), (V.int .i32 0)])], [(HB.map [((V.int .u8 1), (V.map 1)), ((V.int .u8 2), (V.map 2)), ((V.int .u8 3), (V.map 3))]), (HB.map [((V.int .u8 1), (V.agg [(V.bool true), (V.fn 95 [])])), ((V.int .u8 2), (V.agg [(V.bool false), (V.fn 96 [])]))]), (HB.map [((V.int .u8 1), (V.agg [(V.bool true), (V.fn 97 [])])), ((V.int .u8 2), (V.agg [(V.bool true), (V.fn 95 [])])), ((V.int .u8 3), (V.agg [(V.bool false), (V.fn 97 [])])), ((V.int .u8 4), (V.agg [(V.bool false), (V.fn 96 [])]))]), (HB.map [((V.int .u8 1), (V.agg [(V.bool true), (V.fn 98 [])])), ((V.int .u8 2), (V.agg [(V.bool false), (V.fn 97 [])]))])]) else none))) else none)) else none))
theorem apDPushR_eq (n : Nat) (m : Int) (s : V) (v : Int) (h : Heap) : call (n + 2) 87 [(V.int .u8 2), (V.int .i64 m), s, (V.agg [(V.int .u8 2), (V.int .i32 v)])] h = gcw [(V.int .u8 2), (V.int .i64 m), s, (V.agg [(V.int .u8 2), (V.int .i32 v)])] (apDPushR (n + 1) m s v) h := by kernel_rfl
noncomputable def apDPopL (n : Nat) (m : Int) (s : V) (v : Int) : Option (Res × Heap) :=
 (bd (slcH [] s) fun p0 =>
 (if ((p0.1 = 1 ∨ (p0.2).isEmpty = true) ∧ (p0.2).length < lim) then
 (if (((p0.2).length : Int) == 0) then
 some (Res.ret [(V.sl 1 p0.2 false), (V.agg [(V.int .u8 4), (V.int .i32 0)])], [(HB.map [((V.int .u8 1), (V.map 1)), ((V.int .u8 2), (V.map 2)), ((V.int .u8 3), (V.map 3))]), (HB.map [((V.int .u8 1), (V.agg [(V.bool true), (V.fn 95 [])])), ((V.int .u8 2), (V.agg [(V.bool false), (V.fn 96 [])]))]), (HB.map [((V.int .u8 1), (V.agg [(V.bool true), (V.fn 97 [])])), ((V.int .u8 2), (V.agg [(V.bool true), (V.fn 95 [])])), ((V.int .u8 3), (V.agg [(V.bool false), (V.fn 97 [])])), ((V.int .u8 4), (V.agg [(V.bool false), (V.fn 96 [])]))]), (HB.map [((V.int .u8 1), (V.agg [(V.bool true), (V.fn 98 [])])), ((V.int .u8 2), (V.agg [(V.bool false), (V.fn 97 [])]))])])
 else
 (cl (call n 97 [(V.sl 1 p0.2 false), (V.int .i32 v)] [(HB.map [((V.int .u8 1), (V.map 1)), ((V.int .u8 2), (V.map 2)), ((V.int .u8 3), (V.map 3))]), (HB.map [((V.int .u8 1), (V.agg [(V.bool true), (V.fn 95 [])])), ((V.int .u8 2), (V.agg [(V.bool false), (V.fn 96 [])]))]), (HB.map [((V.int .u8 1), (V.agg [(V.bool true), (V.fn 97 [])])), ((V.int .u8 2), (V.agg [(V.bool true), (V.fn 95 [])])), ((V.int .u8 3), (V.agg [(V.bool false), (V.fn 97 [])])), ((V.int .u8 4), (V.agg [(V.bool false), (V.fn 96 [])]))]), (HB.map [((V.int .u8 1), (V.agg [(V.bool true), (V.fn 98 [])])), ((V.int .u8 2), (V.agg [(V.bool false), (V.fn 97 [])]))])]) (fun r4 h5 => if V.simple.simpleL r4 then
 (one1 r4 fun v7 =>
 (bdS (nv v7) fun n8 =>
 (if (1 = 1 ∧ n8 < (p0.2).length ∧ (some 72 : Option Nat) ≠ some 2) then
 (bd (p0.2)[n8]? fun es9 =>
 (bd (es9)[0]? fun v10 =>
 (bd (bop prog .add 3 v7 (V.int .i64 1)) fun v11 =>
 (bdS (ni v7) fun n12 =>
 (bdS (ni v11) fun n13 =>
 (if ((21 = 21 ∧ 1 = 1) ∧ n12 < n13 ∧ n13 ≤ (p0.2).length ∧ (p0.2).length < lim) then
 (bd (bldV prog 34 [(0, (V.int .u8 2)), (1, v10)]) fun cs14 =>
 (if (cs14).length = 2 then
 (if ((cs14).length ≤ 2) then
 some (Res.ret [(V.sl 1 ((p0.2).take n12 ++ (p0.2).drop n13) false), (V.agg (((setR [(V.int .u8 0), (V.int .i32 0)] 0 cs14)).drop 0 |>.take 2))], h5) else none) else none)) else none)))))) else none))) else none) (fun z6 h5 => if z6.simple then some (Res.pan z6, h5) else none))) else none))
theorem apDPopL_eq (n : Nat) (m : Int) (s : V) (v : Int) (h : Heap) : call (n + 2) 87 [(V.int .u8 2), (V.int .i64 m), s, (V.agg [(V.int .u8 3), (V.int .i32 v)])] h = gcw [(V.int .u8 2), (V.int .i64 m), s, (V.agg [(V.int .u8 3), (V.int .i32 v)])] (apDPopL (n + 1) m s v) h := by kernel_rfl
noncomputable def apDPopR (n : Nat) (m : Int) (s : V) (v : Int) : Option (Res × Heap) :=
 (bd (slcH [] s) fun p0 =>
 (if ((p0.1 = 1 ∨ (p0.2).isEmpty = true) ∧ (p0.2).length < lim) then
 (if (((p0.2).length : Int) == 0) then
 some (Res.ret [(V.sl 1 p0.2 false), (V.agg [(V.int .u8 4), (V.int .i32 0)])], [(HB.map [((V.int .u8 1), (V.map 1)), ((V.int .u8 2), (V.map 2)), ((V.int .u8 3), (V.map 3))]), (HB.map [((V.int .u8 1), (V.agg [(V.bool true), (V.fn 95 [])])), ((V.int .u8 2), (V.agg [(V.bool false), (V.fn 96 [])]))]), (HB.map [((V.int .u8 1), (V.agg [(V.bool true), (V.fn 97 [])])), ((V.int .u8 2), (V.agg [(V.bool true), (V.fn 95 [])])), ((V.int .u8 3), (V.agg [(V.bool false), (V.fn 97 [])])), ((V.int .u8 4), (V.agg [(V.bool false), (V.fn 96 [])]))]), (HB.map [((V.int .u8 1), (V.agg [(V.bool true), (V.fn 98 [])])), ((V.int .u8 2), (V.agg [(V.bool false), (V.fn 97 [])]))])])
 else
 (cl (call n 96 [(V.sl 1 p0.2 false), (V.int .i32 v)] [(HB.map [((V.int .u8 1), (V.map 1)), ((V.int .u8 2), (V.map 2)), ((V.int .u8 3), (V.map 3))]), (HB.map [((V.int .u8 1), (V.agg [(V.bool true), (V.fn 95 [])])), ((V.int .u8 2), (V.agg [(V.bool false), (V.fn 96 [])]))]), (HB.map [((V.int .u8 1), (V.agg [(V.bool true), (V.fn 97 [])])), ((V.int .u8 2), (V.agg [(V.bool true), (V.fn 95 [])])), ((V.int .u8 3), (V.agg [(V.bool false), (V.fn 97 [])])), ((V.int .u8 4), (V.agg [(V.bool false), (V.fn 96 [])]))]), (HB.map [((V.int .u8 1), (V.agg [(V.bool true), (V.fn 98 [])])), ((V.int .u8 2), (V.agg [(V.bool false), (V.fn 97 [])]))])]) (fun r4 h5 => if V.simple.simpleL r4 then
 (one1 r4 fun v7 =>
 (bdS (nv v7) fun n8 =>
 (if (1 = 1 ∧ n8 < (p0.2).length ∧ (some 72 : Option Nat) ≠ some 2) then
 (bd (p0.2)[n8]? fun es9 =>
 (bd (es9)[0]? fun v10 =>
 (bd (bop prog .add 3 v7 (V.int .i64 1)) fun v11 =>
 (bdS (ni v7) fun n12 =>
 (bdS (ni v11) fun n13 =>
 (if ((21 = 21 ∧ 1 = 1) ∧ n12 < n13 ∧ n13 ≤ (p0.2).length ∧ (p0.2).length < lim) then
 (bd (bldV prog 34 [(0, (V.int .u8 2)), (1, v10)]) fun cs14 =>
 (if (cs14).length = 2 then
 (if ((cs14).length ≤ 2) then
 some (Res.ret [(V.sl 1 ((p0.2).take n12 ++ (p0.2).drop n13) false), (V.agg (((setR [(V.int .u8 0), (V.int .i32 0)] 0 cs14)).drop 0 |>.take 2))], h5) else none) else none)) else none)))))) else none))) else none) (fun z6 h5 => if z6.simple then some (Res.pan z6, h5) else none))) else none))
theorem apDPopR_eq (n : Nat) (m : Int) (s : V) (v : Int) (h : Heap) : call (n + 2) 87 [(V.int .u8 2), (V.int .i64 m), s, (V.agg [(V.int .u8 4), (V.int .i32 v)])] h = gcw [(V.int .u8 2), (V.int .i64 m), s, (V.agg [(V.int .u8 4), (V.int .i32 v)])] (apDPopR (n + 1) m s v) h := by kernel_rfl
noncomputable def apHAdd (n : Nat) (m : Int) (s : V) (v : Int) : Option (Res × Heap) :=
 (bd (slcH [] s) fun p0 =>
 (if ((p0.1 = 1 ∨ (p0.2).isEmpty = true) ∧ (p0.2).length < lim) then
 (if (decide (((p0.2).length : Int) ≥ (if 0 < (if 1000 < m then 1000 else m) then (if 1000 < m then 1000 else m) else 0))) then
 some (Res.ret [(V.sl 1 p0.2 false), (V.agg [(V.int .u8 3), (V.int .i32 0)])], [(HB.map [((V.int .u8 1), (V.map 1)), ((V.int .u8 2), (V.map 2)), ((V.int .u8 3), (V.map 3))]), (HB.map [((V.int .u8 1), (V.agg [(V.bool true), (V.fn 95 [])])), ((V.int .u8 2), (V.agg [(V.bool false), (V.fn 96 [])]))]), (HB.map [((V.int .u8 1), (V.agg [(V.bool true), (V.fn 97 [])])), ((V.int .u8 2), (V.agg [(V.bool true), (V.fn 95 [])])), ((V.int .u8 3), (V.agg [(V.bool false), (V.fn 97 [])])), ((V.int .u8 4), (V.agg [(V.bool false), (V.fn 96 [])]))]), (HB.map [((V.int .u8 1), (V.agg [(V.bool true), (V.fn 98 [])])), ((V.int .u8 2), (V.agg [(V.bool false), (V.fn 97 [])]))])])
 else
 (clS (call n 98 [(V.sl 1 p0.2 false), (V.int .i32 v)] []) fun r4 => if V.simple.simpleL r4 then
 (one1 r4 fun v7 =>
 (bdS (ni v7) fun n8 =>
 (if ((21 = 21 ∧ 1 = 1) ∧ (21 = 21 ∧ 1 = 1) ∧ 2 ≠ 55 ∧ n8 ≤ (p0.2).length ∧ (p0.2).length + 1 < lim) then
 some (Res.ret [(V.sl 1 ((p0.2).take n8 ++ [[(V.int .i32 v)]] ++ (p0.2).drop n8) false), (V.agg [(V.int .u8 1), (V.int .i32 0)])], [(HB.map [((V.int .u8 1), (V.map 1)), ((V.int .u8 2), (V.map 2)), ((V.int .u8 3), (V.map 3))]), (HB.map [((V.int .u8 1), (V.agg [(V.bool true), (V.fn 95 [])])), ((V.int .u8 2), (V.agg [(V.bool false), (V.fn 96 [])]))]), (HB.map [((V.int .u8 1), (V.agg [(V.bool true), (V.fn 97 [])])), ((V.int .u8 2), (V.agg [(V.bool true), (V.fn 95 [])])), ((V.int .u8 3), (V.agg [(V.bool false), (V.fn 97 [])])), ((V.int .u8 4), (V.agg [(V.bool false), (V.fn 96 [])]))]), (HB.map [((V.int .u8 1), (V.agg [(V.bool true), (V.fn 98 [])])), ((V.int .u8 2), (V.agg [(V.bool false), (V.fn 97 [])]))])]) else none))) else none)) else none))
theorem apHAdd_eq (n : Nat) (m : Int) (s : V) (v : Int) (h : Heap) : call (n + 2) 87 [(V.int .u8 3), (V.int .i64 m), s, (V.agg [(V.int .u8 1), (V.int .i32 v)])] h = gcw [(V.int .u8 3), (V.int .i64 m), s, (V.agg [(V.int .u8 1), (V.int .i32 v)])] (apHAdd (n + 1) m s v) h := by kernel_rfl
noncomputable def apHMin (n : Nat) (m : Int) (s : V) (v : Int) : Option (Res × Heap) :=
 (bd (slcH [] s) fun p0 =>
 (if ((p0.1 = 1 ∨ (p0.2).isEmpty = true) ∧ (p0.2).length < lim) then
 (if (((p0.2).length : Int) == 0) then
 some (Res.ret [(V.sl 1 p0.2 false), (V.agg [(V.int .u8 4), (V.int .i32 0)])], [(HB.map [((V.int .u8 1), (V.map 1)), ((V.int .u8 2), (V.map 2)), ((V.int .u8 3), (V.map 3))]), (HB.map [((V.int .u8 1), (V.agg [(V.bool true), (V.fn 95 [])])), ((V.int .u8 2), (V.agg [(V.bool false), (V.fn 96 [])]))]), (HB.map [((V.int .u8 1), (V.agg [(V.bool true), (V.fn 97 [])])), ((V.int .u8 2), (V.agg [(V.bool true), (V.fn 95 [])])), ((V.int .u8 3), (V.agg [(V.bool false), (V.fn 97 [])])), ((V.int .u8 4), (V.agg [(V.bool false), (V.fn 96 [])]))]), (HB.map [((V.int .u8 1), (V.agg [(V.bool true), (V.fn 98 [])])), ((V.int .u8 2), (V.agg [(V.bool false), (V.fn 97 [])]))])])
 else
 (cl (call n 97 [(V.sl 1 p0.2 false), (V.int .i32 v)] [(HB.map [((V.int .u8 1), (V.map 1)), ((V.int .u8 2), (V.map 2)), ((V.int .u8 3), (V.map 3))]), (HB.map [((V.int .u8 1), (V.agg [(V.bool true), (V.fn 95 [])])), ((V.int .u8 2), (V.agg [(V.bool false), (V.fn 96 [])]))]), (HB.map [((V.int .u8 1), (V.agg [(V.bool true), (V.fn 97 [])])), ((V.int .u8 2), (V.agg [(V.bool true), (V.fn 95 [])])), ((V.int .u8 3), (V.agg [(V.bool false), (V.fn 97 [])])), ((V.int .u8 4), (V.agg [(V.bool false), (V.fn 96 [])]))]), (HB.map [((V.int .u8 1), (V.agg [(V.bool true), (V.fn 98 [])])), ((V.int .u8 2), (V.agg [(V.bool false), (V.fn 97 [])]))])]) (fun r4 h5 => if V.simple.simpleL r4 then
 (one1 r4 fun v7 =>
 (bdS (nv v7) fun n8 =>
 (if (1 = 1 ∧ n8 < (p0.2).length ∧ (some 72 : Option Nat) ≠ some 2) then
 (bd (p0.2)[n8]? fun es9 =>
 (bd (es9)[0]? fun v10 =>
 (bd (bop prog .add 3 v7 (V.int .i64 1)) fun v11 =>
 (bdS (ni v7) fun n12 =>
 (bdS (ni v11) fun n13 =>
 (if ((21 = 21 ∧ 1 = 1) ∧ n12 < n13 ∧ n13 ≤ (p0.2).length ∧ (p0.2).length < lim) then
 (bd (bldV prog 34 [(0, (V.int .u8 2)), (1, v10)]) fun cs14 =>
 (if (cs14).length = 2 then
 (if ((cs14).length ≤ 2) then
 some (Res.ret [(V.sl 1 ((p0.2).take n12 ++ (p0.2).drop n13) false), (V.agg (((setR [(V.int .u8 0), (V.int .i32 0)] 0 cs14)).drop 0 |>.take 2))], h5) else none) else none)) else none)))))) else none))) else none) (fun z6 h5 => if z6.simple then some (Res.pan z6, h5) else none))) else none))
theorem apHMin_eq (n : Nat) (m : Int) (s : V) (v : Int) (h : Heap) : call (n + 2) 87 [(V.int .u8 3), (V.int .i64 m), s, (V.agg [(V.int .u8 2), (V.int .i32 v)])] h = gcw [(V.int .u8 3), (V.int .i64 m), s, (V.agg [(V.int .u8 2), (V.int .i32 v)])] (apHMin (n + 1) m s v) h := by kernel_rfl
noncomputable def apB0 (n : Nat) (m : Int) (s : V) (k : Int) (v : Int) : Option (Res × Heap) :=
 (bd (slcH [] s) fun p0 =>
 (if ((p0.1 = 1 ∨ (p0.2).isEmpty = true) ∧ (p0.2).length < lim) then
 some (Res.ret [(V.sl 1 p0.2 false), (V.agg [(V.int .u8 5), (V.int .i32 0)])], [(HB.map [((V.int .u8 1), (V.map 1)), ((V.int .u8 2), (V.map 2)), ((V.int .u8 3), (V.map 3))]), (HB.map [((V.int .u8 1), (V.agg [(V.bool true), (V.fn 95 [])])), ((V.int .u8 2), (V.agg [(V.bool false), (V.fn 96 [])]))]), (HB.map [((V.int .u8 1), (V.agg [(V.bool true), (V.fn 97 [])])), ((V.int .u8 2), (V.agg [(V.bool true), (V.fn 95 [])])), ((V.int .u8 3), (V.agg [(V.bool false), (V.fn 97 [])])), ((V.int .u8 4), (V.agg [(V.bool false), (V.fn 96 [])]))]), (HB.map [((V.int .u8 1), (V.agg [(V.bool true), (V.fn 98 [])])), ((V.int .u8 2), (V.agg [(V.bool false), (V.fn 97 [])]))])]) else none))
theorem apB0_eq (n : Nat) (m : Int) (s : V) (k : Int) (v : Int) (h : Heap) : call (n + 2) 87 [(V.int .u8 0), (V.int .i64 m), s, (V.agg [(V.int .u8 k), (V.int .i32 v)])] h = gcw [(V.int .u8 0), (V.int .i64 m), s, (V.agg [(V.int .u8 k), (V.int .i32 v)])] (apB0 (n + 1) m s k v) h := by kernel_rfl
noncomputable def apB4 (n : Nat) (m : Int) (s : V) (q : Nat) (k : Int) (v : Int) : Option (Res × Heap) :=
 (bd (slcH [] s) fun p0 =>
 (if ((p0.1 = 1 ∨ (p0.2).isEmpty = true) ∧ (p0.2).length < lim) then
 some (Res.ret [(V.sl 1 p0.2 false), (V.agg [(V.int .u8 5), (V.int .i32 0)])], [(HB.map [((V.int .u8 1), (V.map 1)), ((V.int .u8 2), (V.map 2)), ((V.int .u8 3), (V.map 3))]), (HB.map [((V.int .u8 1), (V.agg [(V.bool true), (V.fn 95 [])])), ((V.int .u8 2), (V.agg [(V.bool false), (V.fn 96 [])]))]), (HB.map [((V.int .u8 1), (V.agg [(V.bool true), (V.fn 97 [])])), ((V.int .u8 2), (V.agg [(V.bool true), (V.fn 95 [])])), ((V.int .u8 3), (V.agg [(V.bool false), (V.fn 97 [])])), ((V.int .u8 4), (V.agg [(V.bool false), (V.fn 96 [])]))]), (HB.map [((V.int .u8 1), (V.agg [(V.bool true), (V.fn 98 [])])), ((V.int .u8 2), (V.agg [(V.bool false), (V.fn 97 [])]))])]) else none))
theorem apB4_eq (n : Nat) (m : Int) (s : V) (q : Nat) (k : Int) (v : Int) (h : Heap) : call (n + 2) 87 [(V.int .u8 (Int.ofNat (q + 4))), (V.int .i64 m), s, (V.agg [(V.int .u8 k), (V.int .i32 v)])] h = gcw [(V.int .u8 (Int.ofNat (q + 4))), (V.int .i64 m), s, (V.agg [(V.int .u8 k), (V.int .i32 v)])] (apB4 (n + 1) m s q k v) h := by kernel_rfl
noncomputable def apS0 (n : Nat) (m : Int) (s : V) (v : Int) : Option (Res × Heap) :=
 (bd (slcH [] s) fun p0 =>
 (if ((p0.1 = 1 ∨ (p0.2).isEmpty = true) ∧ (p0.2).length < lim) then
 some (Res.ret [(V.sl 1 p0.2 false), (V.agg [(V.int .u8 5), (V.int .i32 0)])], [(HB.map [((V.int .u8 1), (V.map 1)), ((V.int .u8 2), (V.map 2)), ((V.int .u8 3), (V.map 3))]), (HB.map [((V.int .u8 1), (V.agg [(V.bool true), (V.fn 95 [])])), ((V.int .u8 2), (V.agg [(V.bool false), (V.fn 96 [])]))]), (HB.map [((V.int .u8 1), (V.agg [(V.bool true), (V.fn 97 [])])), ((V.int .u8 2), (V.agg [(V.bool true), (V.fn 95 [])])), ((V.int .u8 3), (V.agg [(V.bool false), (V.fn 97 [])])), ((V.int .u8 4), (V.agg [(V.bool false), (V.fn 96 [])]))]), (HB.map [((V.int .u8 1), (V.agg [(V.bool true), (V.fn 98 [])])), ((V.int .u8 2), (V.agg [(V.bool false), (V.fn 97 [])]))])]) else none))
theorem apS0_eq (n : Nat) (m : Int) (s : V) (v : Int) (h : Heap) : call (n + 2) 87 [(V.int .u8 1), (V.int .i64 m), s, (V.agg [(V.int .u8 0), (V.int .i32 v)])] h = gcw [(V.int .u8 1), (V.int .i64 m), s, (V.agg [(V.int .u8 0), (V.int .i32 v)])] (apS0 (n + 1) m s v) h := by kernel_rfl
noncomputable def apS3 (n : Nat) (m : Int) (s : V) (q : Nat) (v : Int) : Option (Res × Heap) :=
 (bd (slcH [] s) fun p0 =>
 (if ((p0.1 = 1 ∨ (p0.2).isEmpty = true) ∧ (p0.2).length < lim) then
 some (Res.ret [(V.sl 1 p0.2 false), (V.agg [(V.int .u8 5), (V.int .i32 0)])], [(HB.map [((V.int .u8 1), (V.map 1)), ((V.int .u8 2), (V.map 2)), ((V.int .u8 3), (V.map 3))]), (HB.map [((V.int .u8 1), (V.agg [(V.bool true), (V.fn 95 [])])), ((V.int .u8 2), (V.agg [(V.bool false), (V.fn 96 [])]))]), (HB.map [((V.int .u8 1), (V.agg [(V.bool true), (V.fn 97 [])])), ((V.int .u8 2), (V.agg [(V.bool true), (V.fn 95 [])])), ((V.int .u8 3), (V.agg [(V.bool false), (V.fn 97 [])])), ((V.int .u8 4), (V.agg [(V.bool false), (V.fn 96 [])]))]), (HB.map [((V.int .u8 1), (V.agg [(V.bool true), (V.fn 98 [])])), ((V.int .u8 2), (V.agg [(V.bool false), (V.fn 97 [])]))])]) else none))
theorem apS3_eq (n : Nat) (m : Int) (s : V) (q : Nat) (v : Int) (h : Heap) : call (n + 2) 87 [(V.int .u8 1), (V.int .i64 m), s, (V.agg [(V.int .u8 (Int.ofNat (q + 3))), (V.int .i32 v)])] h = gcw [(V.int .u8 1), (V.int .i64 m), s, (V.agg [(V.int .u8 (Int.ofNat (q + 3))), (V.int .i32 v)])] (apS3 (n + 1) m s q v) h := by kernel_rfl
noncomputable def apD0 (n : Nat) (m : Int) (s : V) (v : Int) : Option (Res × Heap) :=
 (bd (slcH [] s) fun p0 =>
 (if ((p0.1 = 1 ∨ (p0.2).isEmpty = true) ∧ (p0.2).length < lim) then
 some (Res.ret [(V.sl 1 p0.2 false), (V.agg [(V.int .u8 5), (V.int .i32 0)])], [(HB.map [((V.int .u8 1), (V.map 1)), ((V.int .u8 2), (V.map 2)), ((V.int .u8 3), (V.map 3))]), (HB.map [((V.int .u8 1), (V.agg [(V.bool true), (V.fn 95 [])])), ((V.int .u8 2), (V.agg [(V.bool false), (V.fn 96 [])]))]), (HB.map [((V.int .u8 1), (V.agg [(V.bool true), (V.fn 97 [])])), ((V.int .u8 2), (V.agg [(V.bool true), (V.fn 95 [])])), ((V.int .u8 3), (V.agg [(V.bool false), (V.fn 97 [])])), ((V.int .u8 4), (V.agg [(V.bool false), (V.fn 96 [])]))]), (HB.map [((V.int .u8 1), (V.agg [(V.bool true), (V.fn 98 [])])), ((V.int .u8 2), (V.agg [(V.bool false), (V.fn 97 [])]))])]) else none))
theorem apD0_eq (n : Nat) (m : Int) (s : V) (v : Int) (h : Heap) : call (n + 2) 87 [(V.int .u8 2), (V.int .i64 m), s, (V.agg [(V.int .u8 0), (V.int .i32 v)])] h = gcw [(V.int .u8 2), (V.int .i64 m), s, (V.agg [(V.int .u8 0), (V.int .i32 v)])] (apD0 (n + 1) m s v) h := by kernel_rfl
noncomputable def apD5 (n : Nat) (m : Int) (s : V) (q : Nat) (v : Int) : Option (Res × Heap) :=
 (bd (slcH [] s) fun p0 =>
 (if ((p0.1 = 1 ∨ (p0.2).isEmpty = true) ∧ (p0.2).length < lim) then
 some (Res.ret [(V.sl 1 p0.2 false), (V.agg [(V.int .u8 5), (V.int .i32 0)])], [(HB.map [((V.int .u8 1), (V.map 1)), ((V.int .u8 2), (V.map 2)), ((V.int .u8 3), (V.map 3))]), (HB.map [((V.int .u8 1), (V.agg [(V.bool true), (V.fn 95 [])])), ((V.int .u8 2), (V.agg [(V.bool false), (V.fn 96 [])]))]), (HB.map [((V.int .u8 1), (V.agg [(V.bool true), (V.fn 97 [])])), ((V.int .u8 2), (V.agg [(V.bool true), (V.fn 95 [])])), ((V.int .u8 3), (V.agg [(V.bool false), (V.fn 97 [])])), ((V.int .u8 4), (V.agg [(V.bool false), (V.fn 96 [])]))]), (HB.map [((V.int .u8 1), (V.agg [(V.bool true), (V.fn 98 [])])), ((V.int .u8 2), (V.agg [(V.bool false), (V.fn 97 [])]))])]) else none))
theorem apD5_eq (n : Nat) (m : Int) (s : V) (q : Nat) (v : Int) (h : Heap) : call (n + 2) 87 [(V.int .u8 2), (V.int .i64 m), s, (V.agg [(V.int .u8 (Int.ofNat (q + 5))), (V.int .i32 v)])] h = gcw [(V.int .u8 2), (V.int .i64 m), s, (V.agg [(V.int .u8 (Int.ofNat (q + 5))), (V.int .i32 v)])] (apD5 (n + 1) m s q v) h := by kernel_rfl
noncomputable def apH0 (n : Nat) (m : Int) (s : V) (v : Int) : Option (Res × Heap) :=
 (bd (slcH [] s) fun p0 =>
 (if ((p0.1 = 1 ∨ (p0.2).isEmpty = true) ∧ (p0.2).length < lim) then
 some (Res.ret [(V.sl 1 p0.2 false), (V.agg [(V.int .u8 5), (V.int .i32 0)])], [(HB.map [((V.int .u8 1), (V.map 1)), ((V.int .u8 2), (V.map 2)), ((V.int .u8 3), (V.map 3))]), (HB.map [((V.int .u8 1), (V.agg [(V.bool true), (V.fn 95 [])])), ((V.int .u8 2), (V.agg [(V.bool false), (V.fn 96 [])]))]), (HB.map [((V.int .u8 1), (V.agg [(V.bool true), (V.fn 97 [])])), ((V.int .u8 2), (V.agg [(V.bool true), (V.fn 95 [])])), ((V.int .u8 3), (V.agg [(V.bool false), (V.fn 97 [])])), ((V.int .u8 4), (V.agg [(V.bool false), (V.fn 96 [])]))]), (HB.map [((V.int .u8 1), (V.agg [(V.bool true), (V.fn 98 [])])), ((V.int .u8 2), (V.agg [(V.bool false), (V.fn 97 [])]))])]) else none))
theorem apH0_eq (n : Nat) (m : Int) (s : V) (v : Int) (h : Heap) : call (n + 2) 87 [(V.int .u8 3), (V.int .i64 m), s, (V.agg [(V.int .u8 0), (V.int .i32 v)])] h = gcw [(V.int .u8 3), (V.int .i64 m), s, (V.agg [(V.int .u8 0), (V.int .i32 v)])] (apH0 (n + 1) m s v) h := by kernel_rfl
noncomputable def apH3 (n : Nat) (m : Int) (s : V) (q : Nat) (v : Int) : Option (Res × Heap) :=
 (bd (slcH [] s) fun p0 =>
 (if ((p0.1 = 1 ∨ (p0.2).isEmpty = true) ∧ (p0.2).length < lim) then
 some (Res.ret [(V.sl 1 p0.2 false), (V.agg [(V.int .u8 5), (V.int .i32 0)])], [(HB.map [((V.int .u8 1), (V.map 1)), ((V.int .u8 2), (V.map 2)), ((V.int .u8 3), (V.map 3))]), (HB.map [((V.int .u8 1), (V.agg [(V.bool true), (V.fn 95 [])])), ((V.int .u8 2), (V.agg [(V.bool false), (V.fn 96 [])]))]), (HB.map [((V.int .u8 1), (V.agg [(V.bool true), (V.fn 97 [])])), ((V.int .u8 2), (V.agg [(V.bool true), (V.fn 95 [])])), ((V.int .u8 3), (V.agg [(V.bool false), (V.fn 97 [])])), ((V.int .u8 4), (V.agg [(V.bool false), (V.fn 96 [])]))]), (HB.map [((V.int .u8 1), (V.agg [(V.bool true), (V.fn 98 [])])), ((V.int .u8 2), (V.agg [(V.bool false), (V.fn 97 [])]))])]) else none))
theorem apH3_eq (n : Nat) (m : Int) (s : V) (q : Nat) (v : Int) (h : Heap) : call (n + 2) 87 [(V.int .u8 3), (V.int .i64 m), s, (V.agg [(V.int .u8 (Int.ofNat (q + 3))), (V.int .i32 v)])] h = gcw [(V.int .u8 3), (V.int .i64 m), s, (V.agg [(V.int .u8 (Int.ofNat (q + 3))), (V.int .i32 v)])] (apH3 (n + 1) m s q v) h := by kernel_rfl
end Go.Proofs.Try
