import Derived.Test.YtjnjofillhdffaaLwd
/-! spec.Apply and what it calls: PRINTED BY A PROGRAM OF MINE (lift2.lean): each function as a Lean definition, and that L reckons just that -/
set_option linter.unusedVariables false
namespace Go.Proofs.Try
open Go.L
set_option maxRecDepth 100000
noncomputable def lFront (n : Nat) (x0 : List (List V)) (x0b : Bool) (x1 : Int) : Option (Res × Heap) :=
 some (Res.ret [(V.int .i64 0)], [])
theorem lFront_eq (n : Nat) (x0 : List (List V)) (x0b : Bool) (x1 : Int) (h : Heap) : call (n + 1) 72 [(V.sl 1 x0 x0b), (V.int .i32 x1)] h = gcw [(V.sl 1 x0 x0b), (V.int .i32 x1)] (lFront n x0 x0b x1) h := by kernel_rfl
noncomputable def lBack (n : Nat) (x0 : List (List V)) (x0b : Bool) (x1 : Int) : Option (Res × Heap) :=
 some (Res.ret [(V.int .i64 ((x0).length : Int))], [])
theorem lBack_eq (n : Nat) (x0 : List (List V)) (x0b : Bool) (x1 : Int) (h : Heap) : call (n + 1) 70 [(V.sl 1 x0 x0b), (V.int .i32 x1)] h = gcw [(V.sl 1 x0 x0b), (V.int .i32 x1)] (lBack n x0 x0b x1) h := by kernel_rfl
noncomputable def lLast (n : Nat) (x0 : List (List V)) (x0b : Bool) (x1 : Int) : Option (Res × Heap) :=
 some (Res.ret [(V.int .i64 (IntKind.i64.wrap (((x0).length : Int) - 1)))], [])
theorem lLast_eq (n : Nat) (x0 : List (List V)) (x0b : Bool) (x1 : Int) (h : Heap) : call (n + 1) 71 [(V.sl 1 x0 x0b), (V.int .i32 x1)] h = gcw [(V.sl 1 x0 x0b), (V.int .i32 x1)] (lLast n x0 x0b x1) h := by kernel_rfl
noncomputable def lPlace (n : Nat) (x0 : List (List V)) (x0b : Bool) (x1 : Int) : Option (Res × Heap) :=
 (cl (call n 88 [(V.sl 1 x0 x0b), (V.fn 89 [(V.ptr 0 0)])] [(HB.box 1 [(V.int .i32 x1)])]) (fun r0 h1 =>
 (one1 r0 fun v3 =>
 (bd (bop prog .geq 3 v3 (V.int .i64 0)) fun v4 =>
 (bv v4 fun b5 => if b5 then
 some (Res.ret [v3], h1)
 else
 some (Res.ret [(V.int .i64 ((x0).length : Int))], h1))))) (fun z2 h1 => some (Res.pan z2, h1)))
theorem lPlace_eq (n : Nat) (x0 : List (List V)) (x0b : Bool) (x1 : Int) (h : Heap) : call (n + 1) 73 [(V.sl 1 x0 x0b), (V.int .i32 x1)] h = gcw [(V.sl 1 x0 x0b), (V.int .i32 x1)] (lPlace n x0 x0b x1) h := by kernel_rfl
noncomputable def lPlace1 (n : Nat) (x0 : Int) (x1 : Nat) (h : Heap) : Option (Res × Heap) :=
 (boxAt (h)[x1]? fun m0 cs1 => if (0 + 1 ≤ m0 ∧ 0 < 1) then
 (bd (cs1)[0]? fun v2 =>
 (bd (bop prog .gtr 21 (V.int .i32 x0) v2) fun v3 =>
 some (Res.ret [v3], h))) else none)
theorem lPlace1_eq (n : Nat) (x0 : Int) (x1 : Nat) (h : Heap) : call (n + 1) 89 [(V.int .i32 x0), (V.ptr x1 0)] h = lPlace1 n x0 x1 h := by kernel_rfl
noncomputable def lIndex_l0 (n : Nat) (x0 : List (List V)) (x1 : V) (st1 : List V) (hh2 : Heap) (next3 : List V → Heap → Option (Res × Heap)) : Option (Res × Heap) :=
 (bd (bop prog .lss 3 (gv st1 1) (V.int .i64 ((x0).length : Int))) fun v4 =>
 (bv v4 fun b5 => if b5 then
 (bdS (nv (gv st1 1)) fun n6 =>
 (bd (x0)[n6]? fun es7 =>
 (bd (es7)[0]? fun v8 =>
 (fnK x1 fun f9 c10 => if (okV prog 4 f9 = true) then (if keepS f9 then
 (cl (call n f9 ([v8] ++ c10) hh2) (fun r11 h12 =>
 (one1 r11 fun v14 =>
 (bv v14 fun b15 => if b15 then
 some (Res.ret [(gv st1 1)], h12)
 else
 (bd (bop prog .add 3 (gv st1 1) (V.int .i64 1)) fun v16 =>
 (next3 [(gv st1 0), v16] h12))))) (fun z13 h12 => some (Res.pan z13, h12)))
 else if pureS f9 then
 (cl (call n f9 ([v8] ++ c10) hh2) (fun r11 h12 => if V.simple.simpleL r11 then
 (one1 r11 fun v17 =>
 (bv v17 fun b18 => if b18 then
 some (Res.ret [(gv st1 1)], h12)
 else
 (bd (bop prog .add 3 (gv st1 1) (V.int .i64 1)) fun v19 =>
 (next3 [(gv st1 0), v19] h12)))) else none) (fun z13 h12 => if z13.simple then some (Res.pan z13, h12) else none))
 else none) else none))))
 else
 some (Res.ret [(V.int .i64 (-1))], hh2)))
noncomputable def lIndex (n : Nat) (x0 : List (List V)) (x0b : Bool) (x1 : V) (h : Heap) : Option (Res × Heap) :=
 (loopx n (lIndex_l0 n x0 x1) [(V.int .i64 0), (V.int .i64 0)] h)
theorem lIndex_eq (n : Nat) (x0 : List (List V)) (x0b : Bool) (x1 : V) (h : Heap) : call (n + 1) 88 [(V.sl 1 x0 x0b), x1] h = lIndex n x0 x0b x1 h := by kernel_rfl
noncomputable def apSPush (n : Nat) (m : Int) (s : V) (v : Int) : Option (Res × Heap) :=
 (bd (slc s) fun p0 =>
 (if ((p0.1 = 1 ∨ (p0.2).isEmpty = true) ∧ (p0.2).length < lim) then
 (if (decide (((p0.2).length : Int) ≥ (if 0 < (if 1000 < m then 1000 else m) then (if 1000 < m then 1000 else m) else 0))) then
 some (Res.ret [(V.sl 1 p0.2 false), (V.agg [(V.int .u8 3), (V.int .i32 0)])], [(HB.map [((V.int .u8 1), (V.map 1)), ((V.int .u8 2), (V.map 2)), ((V.int .u8 3), (V.map 3))]), (HB.map [((V.int .u8 1), (V.agg [(V.bool true), (V.fn 70 [])])), ((V.int .u8 2), (V.agg [(V.bool false), (V.fn 71 [])]))]), (HB.map [((V.int .u8 1), (V.agg [(V.bool true), (V.fn 72 [])])), ((V.int .u8 2), (V.agg [(V.bool true), (V.fn 70 [])])), ((V.int .u8 3), (V.agg [(V.bool false), (V.fn 72 [])])), ((V.int .u8 4), (V.agg [(V.bool false), (V.fn 71 [])]))]), (HB.map [((V.int .u8 1), (V.agg [(V.bool true), (V.fn 73 [])])), ((V.int .u8 2), (V.agg [(V.bool false), (V.fn 72 [])]))])])
 else
 (clS (call n 70 [(V.sl 1 p0.2 false), (V.int .i32 v)] []) fun r4 => if V.simple.simpleL r4 then
 (one1 r4 fun v7 =>
 (bdS (ni v7) fun n8 =>
 (if ((21 = 21 ∧ 1 = 1) ∧ (21 = 21 ∧ 1 = 1) ∧ 2 ≠ 55 ∧ n8 ≤ (p0.2).length ∧ (p0.2).length + 1 < lim) then
 some (Res.ret [(V.sl 1 ((p0.2).take n8 ++ [[(V.int .i32 v)]] ++ (p0.2).drop n8) false), (V.agg [(V.int .u8 1), (V.int .i32 0)])], [(HB.map [((V.int .u8 1), (V.map 1)), ((V.int .u8 2), (V.map 2)), ((V.int .u8 3), (V.map 3))]), (HB.map [((V.int .u8 1), (V.agg [(V.bool true), (V.fn 70 [])])), ((V.int .u8 2), (V.agg [(V.bool false), (V.fn 71 [])]))]), (HB.map [((V.int .u8 1), (V.agg [(V.bool true), (V.fn 72 [])])), ((V.int .u8 2), (V.agg [(V.bool true), (V.fn 70 [])])), ((V.int .u8 3), (V.agg [(V.bool false), (V.fn 72 [])])), ((V.int .u8 4), (V.agg [(V.bool false), (V.fn 71 [])]))]), (HB.map [((V.int .u8 1), (V.agg [(V.bool true), (V.fn 73 [])])), ((V.int .u8 2), (V.agg [(V.bool false), (V.fn 72 [])]))])]) else none))) else none)) else none))
theorem apSPush_eq (n : Nat) (m : Int) (s : V) (v : Int) (h : Heap) : call (n + 2) 26 [(V.int .u8 1), (V.int .i64 m), s, (V.agg [(V.int .u8 1), (V.int .i32 v)])] h = gcw [(V.int .u8 1), (V.int .i64 m), s, (V.agg [(V.int .u8 1), (V.int .i32 v)])] (apSPush (n + 1) m s v) h := by kernel_rfl
noncomputable def apSPop (n : Nat) (m : Int) (s : V) (v : Int) : Option (Res × Heap) :=
 (bd (slc s) fun p0 =>
 (if ((p0.1 = 1 ∨ (p0.2).isEmpty = true) ∧ (p0.2).length < lim) then
 (if (((p0.2).length : Int) == 0) then
 some (Res.ret [(V.sl 1 p0.2 false), (V.agg [(V.int .u8 4), (V.int .i32 0)])], [(HB.map [((V.int .u8 1), (V.map 1)), ((V.int .u8 2), (V.map 2)), ((V.int .u8 3), (V.map 3))]), (HB.map [((V.int .u8 1), (V.agg [(V.bool true), (V.fn 70 [])])), ((V.int .u8 2), (V.agg [(V.bool false), (V.fn 71 [])]))]), (HB.map [((V.int .u8 1), (V.agg [(V.bool true), (V.fn 72 [])])), ((V.int .u8 2), (V.agg [(V.bool true), (V.fn 70 [])])), ((V.int .u8 3), (V.agg [(V.bool false), (V.fn 72 [])])), ((V.int .u8 4), (V.agg [(V.bool false), (V.fn 71 [])]))]), (HB.map [((V.int .u8 1), (V.agg [(V.bool true), (V.fn 73 [])])), ((V.int .u8 2), (V.agg [(V.bool false), (V.fn 72 [])]))])])
 else
 (cl (call n 71 [(V.sl 1 p0.2 false), (V.int .i32 v)] [(HB.map [((V.int .u8 1), (V.map 1)), ((V.int .u8 2), (V.map 2)), ((V.int .u8 3), (V.map 3))]), (HB.map [((V.int .u8 1), (V.agg [(V.bool true), (V.fn 70 [])])), ((V.int .u8 2), (V.agg [(V.bool false), (V.fn 71 [])]))]), (HB.map [((V.int .u8 1), (V.agg [(V.bool true), (V.fn 72 [])])), ((V.int .u8 2), (V.agg [(V.bool true), (V.fn 70 [])])), ((V.int .u8 3), (V.agg [(V.bool false), (V.fn 72 [])])), ((V.int .u8 4), (V.agg [(V.bool false), (V.fn 71 [])]))]), (HB.map [((V.int .u8 1), (V.agg [(V.bool true), (V.fn 73 [])])), ((V.int .u8 2), (V.agg [(V.bool false), (V.fn 72 [])]))])]) (fun r4 h5 => if V.simple.simpleL r4 then
 (one1 r4 fun v7 =>
 (bdS (nv v7) fun n8 =>
 (if (1 = 1 ∧ n8 < (p0.2).length ∧ (some 72 : Option Nat) ≠ some 2) then
 (bd (p0.2)[n8]? fun es9 =>
 (bd (es9)[0]? fun v10 =>
 (bd (bop prog .add 3 v7 (V.int .i64 1)) fun v11 =>
 (bdS (ni v7) fun n12 =>
 (bdS (ni v11) fun n13 =>
 (if ((21 = 21 ∧ 1 = 1) ∧ n12 < n13 ∧ n13 ≤ (p0.2).length ∧ (p0.2).length < lim) then
 (bd (bldV prog 34 [(0, (V.int .u8 2)), (1, v10)]) fun cs14 =>
 (if (cs14).length = 2 then
 (if ((cs14).length ≤ 2) then
 some (Res.ret [(V.sl 1 ((p0.2).take n12 ++ (p0.2).drop n13) false), (V.agg (((setR [(V.int .u8 0), (V.int .i32 0)] 0 cs14)).drop 0 |>.take 2))], h5) else none) else none)) else none)))))) else none))) else none) (fun z6 h5 => if z6.simple then some (Res.pan z6, h5) else none))) else none))
theorem apSPop_eq (n : Nat) (m : Int) (s : V) (v : Int) (h : Heap) : call (n + 2) 26 [(V.int .u8 1), (V.int .i64 m), s, (V.agg [(V.int .u8 2), (V.int .i32 v)])] h = gcw [(V.int .u8 1), (V.int .i64 m), s, (V.agg [(V.int .u8 2), (V.int .i32 v)])] (apSPop (n + 1) m s v) h := by kernel_rfl
noncomputable def apDPushL (n : Nat) (m : Int) (s : V) (v : Int) : Option (Res × Heap) :=
 (bd (slc s) fun p0 =>
 (if ((p0.1 = 1 ∨ (p0.2).isEmpty = true) ∧ (p0.2).length < lim) then
 (if (decide (((p0.2).length : Int) ≥ (if 0 < (if 1000 < m then 1000 else m) then (if 1000 < m then 1000 else m) else 0))) then
 some (Res.ret [(V.sl 1 p0.2 false), (V.agg [(V.int .u8 3), (V.int .i32 0)])], [(HB.map [((V.int .u8 1), (V.map 1)), ((V.int .u8 2), (V.map 2)), ((V.int .u8 3), (V.map 3))]), (HB.map [((V.int .u8 1), (V.agg [(V.bool true), (V.fn 70 [])])), ((V.int .u8 2), (V.agg [(V.bool false), (V.fn 71 [])]))]), (HB.map [((V.int .u8 1), (V.agg [(V.bool true), (V.fn 72 [])])), ((V.int .u8 2), (V.agg [(V.bool true), (V.fn 70 [])])), ((V.int .u8 3), (V.agg [(V.bool false), (V.fn 72 [])])), ((V.int .u8 4), (V.agg [(V.bool false), (V.fn 71 [])]))]), (HB.map [((V.int .u8 1), (V.agg [(V.bool true), (V.fn 73 [])])), ((V.int .u8 2), (V.agg [(V.bool false), (V.fn 72 [])]))])])
 else
 (clS (call n 72 [(V.sl 1 p0.2 false), (V.int .i32 v)] []) fun r4 => if V.simple.simpleL r4 then
 (one1 r4 fun v7 =>
 (bdS (ni v7) fun n8 =>
 (if ((21 = 21 ∧ 1 = 1) ∧ (21 = 21 ∧ 1 = 1) ∧ 2 ≠ 55 ∧ n8 ≤ (p0.2).length ∧ (p0.2).length + 1 < lim) then
 some (Res.ret [(V.sl 1 ((p0.2).take n8 ++ [[(V.int .i32 v)]] ++ (p0.2).drop n8) false), (V.agg [(V.int .u8 1), (V.int .i32 0)])], [(HB.map [((V.int .u8 1), (V.map 1)), ((V.int .u8 2), (V.map 2)), ((V.int .u8 3), (V.map 3))]), (HB.map [((V.int .u8 1), (V.agg [(V.bool true), (V.fn 70 [])])), ((V.int .u8 2), (V.agg [(V.bool false), (V.fn 71 [])]))]), (HB.map [((V.int .u8 1), (V.agg [(V.bool true), (V.fn 72 [])])), ((V.int .u8 2), (V.agg [(V.bool true), (V.fn 70 [])])), ((V.int .u8 3), (V.agg [(V.bool false), (V.fn 72 [])])), ((V.int .u8 4), (V.agg [(V.bool false), (V.fn 71 [])]))]), (HB.map [((V.int .u8 1), (V.agg [(V.bool true), (V.fn 73 [])])), ((V.int .u8 2), (V.agg [(V.bool false), (V.fn 72 [])]))])]) else none))) else none)) else none))
theorem apDPushL_eq (n : Nat) (m : Int) (s : V) (v : Int) (h : Heap) : call (n + 2) 26 [(V.int .u8 2), (V.int .i64 m), s, (V.agg [(V.int .u8 1), (V.int .i32 v)])] h = gcw [(V.int .u8 2), (V.int .i64 m), s, (V.agg [(V.int .u8 1), (V.int .i32 v)])] (apDPushL (n + 1) m s v) h := by kernel_rfl
noncomputable def apDPushR (n : Nat) (m : Int) (s : V) (v : Int) : Option (Res × Heap) :=
 (bd (slc s) fun p0 =>
 (if ((p0.1 = 1 ∨ (p0.2).isEmpty = true) ∧ (p0.2).length < lim) then
 (if (decide (((p0.2).length : Int) ≥ (if 0 < (if 1000 < m then 1000 else m) then (if 1000 < m then 1000 else m) else 0))) then
 some (Res.ret [(V.sl 1 p0.2 false), (V.agg [(V.int .u8 3), (V.int .i32 0)])], [(HB.map [((V.int .u8 1), (V.map 1)), ((V.int .u8 2), (V.map 2)), ((V.int .u8 3), (V.map 3))]), (HB.map [((V.int .u8 1), (V.agg [(V.bool true), (V.fn 70 [])])), ((V.int .u8 2), (V.agg [(V.bool false), (V.fn 71 [])]))]), (HB.map [((V.int .u8 1), (V.agg [(V.bool true), (V.fn 72 [])])), ((V.int .u8 2), (V.agg [(V.bool true), (V.fn 70 [])])), ((V.int .u8 3), (V.agg [(V.bool false), (V.fn 72 [])])), ((V.int .u8 4), (V.agg [(V.bool false), (V.fn 71 [])]))]), (HB.map [((V.int .u8 1), (V.agg [(V.bool true), (V.fn 73 [])])), ((V.int .u8 2), (V.agg [(V.bool false), (V.fn 72 [])]))])])
 else
 (clS (call n 70 [(V.sl 1 p0.2 false), (V.int .i32 v)] []) fun r4 => if V.simple.simpleL r4 then
 (one1 r4 fun v7 =>
 (bdS (ni v7) fun n8 =>
 (if ((21 = 21 ∧ 1 = 1) ∧ (21 = 21 ∧ 1 = 1) ∧ 2 ≠ 55 ∧ n8 ≤ (p0.2).length ∧ (p0.2).length + 1 < lim) then
 some (Res.ret [(V.sl 1 ((p0.2).take n8 ++ [[(V.int .i32 v)]] ++ (p0.2).drop n8) false), (V.agg [(V.int .u8 1), (V.int .i32 0)])], [(HB.map [((V.int .u8 1), (V.map 1)), ((V.int .u8 2), (V.map 2)), ((V.int .u8 3), (V.map 3))]), (HB.map [((V.int .u8 1), (V.agg [(V.bool true), (V.fn 70 [])])), ((V.int .u8 2), (V.agg [(V.bool false), (V.fn 71 [])]))]), (HB.map [((V.int .u8 1), (V.agg [(V.bool true), (V.fn 72 [])])), ((V.int .u8 2), (V.agg [(V.bool true), (V.fn 70 [])])), ((V.int .u8 3), (V.agg [(V.bool false), (V.fn 72 [])])), ((V.int .u8 4), (V.agg [(V.bool false), (V.fn 71 [])]))]), (HB.map [((V.int .u8 1), (V.agg [(V.bool true), (V.fn 73 [])])), ((V.int .u8 2), (V.agg [(V.bool false), (V.fn 72 [])]))])]) else none))) else none)) else none))
theorem apDPushR_eq (n : Nat) (m : Int) (s : V) (v : Int) (h : Heap) : call (n + 2) 26 [(V.int .u8 2), (V.int .i64 m), s, (V.agg [(V.int .u8 2), (V.int .i32 v)])] h = gcw [(V.int .u8 2), (V.int .i64 m), s, (V.agg [(V.int .u8 2), (V.int .i32 v)])] (apDPushR (n + 1) m s v) h := by kernel_rfl
noncomputable def apDPopL (n : Nat) (m : Int) (s : V) (v : Int) : Option (Res × Heap) :=
 (bd (slc s) fun p0 =>
 (if ((p0.1 = 1 ∨ (p0.2).isEmpty = true) ∧ (p0.2).length < lim) then
 (if (((p0.2).length : Int) == 0) then
 some (Res.ret [(V.sl 1 p0.2 false), (V.agg [(V.int .u8 4), (V.int .i32 0)])], [(HB.map [((V.int .u8 1), (V.map 1)), ((V.int .u8 2), (V.map 2)), ((V.int .u8 3), (V.map 3))]), (HB.map [((V.int .u8 1), (V.agg [(V.bool true), (V.fn 70 [])])), ((V.int .u8 2), (V.agg [(V.bool false), (V.fn 71 [])]))]), (HB.map [((V.int .u8 1), (V.agg [(V.bool true), (V.fn 72 [])])), ((V.int .u8 2), (V.agg [(V.bool true), (V.fn 70 [])])), ((V.int .u8 3), (V.agg [(V.bool false), (V.fn 72 [])])), ((V.int .u8 4), (V.agg [(V.bool false), (V.fn 71 [])]))]), (HB.map [((V.int .u8 1), (V.agg [(V.bool true), (V.fn 73 [])])), ((V.int .u8 2), (V.agg [(V.bool false), (V.fn 72 [])]))])])
 else
 (cl (call n 72 [(V.sl 1 p0.2 false), (V.int .i32 v)] [(HB.map [((V.int .u8 1), (V.map 1)), ((V.int .u8 2), (V.map 2)), ((V.int .u8 3), (V.map 3))]), (HB.map [((V.int .u8 1), (V.agg [(V.bool true), (V.fn 70 [])])), ((V.int .u8 2), (V.agg [(V.bool false), (V.fn 71 [])]))]), (HB.map [((V.int .u8 1), (V.agg [(V.bool true), (V.fn 72 [])])), ((V.int .u8 2), (V.agg [(V.bool true), (V.fn 70 [])])), ((V.int .u8 3), (V.agg [(V.bool false), (V.fn 72 [])])), ((V.int .u8 4), (V.agg [(V.bool false), (V.fn 71 [])]))]), (HB.map [((V.int .u8 1), (V.agg [(V.bool true), (V.fn 73 [])])), ((V.int .u8 2), (V.agg [(V.bool false), (V.fn 72 [])]))])]) (fun r4 h5 => if V.simple.simpleL r4 then
 (one1 r4 fun v7 =>
 (bdS (nv v7) fun n8 =>
 (if (1 = 1 ∧ n8 < (p0.2).length ∧ (some 72 : Option Nat) ≠ some 2) then
 (bd (p0.2)[n8]? fun es9 =>
 (bd (es9)[0]? fun v10 =>
 (bd (bop prog .add 3 v7 (V.int .i64 1)) fun v11 =>
 (bdS (ni v7) fun n12 =>
 (bdS (ni v11) fun n13 =>
 (if ((21 = 21 ∧ 1 = 1) ∧ n12 < n13 ∧ n13 ≤ (p0.2).length ∧ (p0.2).length < lim) then
 (bd (bldV prog 34 [(0, (V.int .u8 2)), (1, v10)]) fun cs14 =>
 (if (cs14).length = 2 then
 (if ((cs14).length ≤ 2) then
 some (Res.ret [(V.sl 1 ((p0.2).take n12 ++ (p0.2).drop n13) false), (V.agg (((setR [(V.int .u8 0), (V.int .i32 0)] 0 cs14)).drop 0 |>.take 2))], h5) else none) else none)) else none)))))) else none))) else none) (fun z6 h5 => if z6.simple then some (Res.pan z6, h5) else none))) else none))
theorem apDPopL_eq (n : Nat) (m : Int) (s : V) (v : Int) (h : Heap) : call (n + 2) 26 [(V.int .u8 2), (V.int .i64 m), s, (V.agg [(V.int .u8 3), (V.int .i32 v)])] h = gcw [(V.int .u8 2), (V.int .i64 m), s, (V.agg [(V.int .u8 3), (V.int .i32 v)])] (apDPopL (n + 1) m s v) h := by kernel_rfl
noncomputable def apDPopR (n : Nat) (m : Int) (s : V) (v : Int) : Option (Res × Heap) :=
 (bd (slc s) fun p0 =>
 (if ((p0.1 = 1 ∨ (p0.2).isEmpty = true) ∧ (p0.2).length < lim) then
 (if (((p0.2).length : Int) == 0) then
 some (Res.ret [(V.sl 1 p0.2 false), (V.agg [(V.int .u8 4), (V.int .i32 0)])], [(HB.map [((V.int .u8 1), (V.map 1)), ((V.int .u8 2), (V.map 2)), ((V.int .u8 3), (V.map 3))]), (HB.map [((V.int .u8 1), (V.agg [(V.bool true), (V.fn 70 [])])), ((V.int .u8 2), (V.agg [(V.bool false), (V.fn 71 [])]))]), (HB.map [((V.int .u8 1), (V.agg [(V.bool true), (V.fn 72 [])])), ((V.int .u8 2), (V.agg [(V.bool true), (V.fn 70 [])])), ((V.int .u8 3), (V.agg [(V.bool false), (V.fn 72 [])])), ((V.int .u8 4), (V.agg [(V.bool false), (V.fn 71 [])]))]), (HB.map [((V.int .u8 1), (V.agg [(V.bool true), (V.fn 73 [])])), ((V.int .u8 2), (V.agg [(V.bool false), (V.fn 72 [])]))])])
 else
 (cl (call n 71 [(V.sl 1 p0.2 false), (V.int .i32 v)] [(HB.map [((V.int .u8 1), (V.map 1)), ((V.int .u8 2), (V.map 2)), ((V.int .u8 3), (V.map 3))]), (HB.map [((V.int .u8 1), (V.agg [(V.bool true), (V.fn 70 [])])), ((V.int .u8 2), (V.agg [(V.bool false), (V.fn 71 [])]))]), (HB.map [((V.int .u8 1), (V.agg [(V.bool true), (V.fn 72 [])])), ((V.int .u8 2), (V.agg [(V.bool true), (V.fn 70 [])])), ((V.int .u8 3), (V.agg [(V.bool false), (V.fn 72 [])])), ((V.int .u8 4), (V.agg [(V.bool false), (V.fn 71 [])]))]), (HB.map [((V.int .u8 1), (V.agg [(V.bool true), (V.fn 73 [])])), ((V.int .u8 2), (V.agg [(V.bool false), (V.fn 72 [])]))])]) (fun r4 h5 => if V.simple.simpleL r4 then
 (one1 r4 fun v7 =>
 (bdS (nv v7) fun n8 =>
 (if (1 = 1 ∧ n8 < (p0.2).length ∧ (some 72 : Option Nat) ≠ some 2) then
 (bd (p0.2)[n8]? fun es9 =>
 (bd (es9)[0]? fun v10 =>
 (bd (bop prog .add 3 v7 (V.int .i64 1)) fun v11 =>
 (bdS (ni v7) fun n12 =>
 (bdS (ni v11) fun n13 =>
 (if ((21 = 21 ∧ 1 = 1) ∧ n12 < n13 ∧ n13 ≤ (p0.2).length ∧ (p0.2).length < lim) then
 (bd (bldV prog 34 [(0, (V.int .u8 2)), (1, v10)]) fun cs14 =>
 (if (cs14).length = 2 then
 (if ((cs14).length ≤ 2) then
 some (Res.ret [(V.sl 1 ((p0.2).take n12 ++ (p0.2).drop n13) false), (V.agg (((setR [(V.int .u8 0), (V.int .i32 0)] 0 cs14)).drop 0 |>.take 2))], h5) else none) else none)) else none)))))) else none))) else none) (fun z6 h5 => if z6.simple then some (Res.pan z6, h5) else none))) else none))
theorem apDPopR_eq (n : Nat) (m : Int) (s : V) (v : Int) (h : Heap) : call (n + 2) 26 [(V.int .u8 2), (V.int .i64 m), s, (V.agg [(V.int .u8 4), (V.int .i32 v)])] h = gcw [(V.int .u8 2), (V.int .i64 m), s, (V.agg [(V.int .u8 4), (V.int .i32 v)])] (apDPopR (n + 1) m s v) h := by kernel_rfl
noncomputable def apHAdd (n : Nat) (m : Int) (s : V) (v : Int) : Option (Res × Heap) :=
 (bd (slc s) fun p0 =>
 (if ((p0.1 = 1 ∨ (p0.2).isEmpty = true) ∧ (p0.2).length < lim) then
 (if (decide (((p0.2).length : Int) ≥ (if 0 < (if 1000 < m then 1000 else m) then (if 1000 < m then 1000 else m) else 0))) then
 some (Res.ret [(V.sl 1 p0.2 false), (V.agg [(V.int .u8 3), (V.int .i32 0)])], [(HB.map [((V.int .u8 1), (V.map 1)), ((V.int .u8 2), (V.map 2)), ((V.int .u8 3), (V.map 3))]), (HB.map [((V.int .u8 1), (V.agg [(V.bool true), (V.fn 70 [])])), ((V.int .u8 2), (V.agg [(V.bool false), (V.fn 71 [])]))]), (HB.map [((V.int .u8 1), (V.agg [(V.bool true), (V.fn 72 [])])), ((V.int .u8 2), (V.agg [(V.bool true), (V.fn 70 [])])), ((V.int .u8 3), (V.agg [(V.bool false), (V.fn 72 [])])), ((V.int .u8 4), (V.agg [(V.bool false), (V.fn 71 [])]))]), (HB.map [((V.int .u8 1), (V.agg [(V.bool true), (V.fn 73 [])])), ((V.int .u8 2), (V.agg [(V.bool false), (V.fn 72 [])]))])])
 else
 (clS (call n 73 [(V.sl 1 p0.2 false), (V.int .i32 v)] []) fun r4 => if V.simple.simpleL r4 then
 (one1 r4 fun v7 =>
 (bdS (ni v7) fun n8 =>
 (if ((21 = 21 ∧ 1 = 1) ∧ (21 = 21 ∧ 1 = 1) ∧ 2 ≠ 55 ∧ n8 ≤ (p0.2).length ∧ (p0.2).length + 1 < lim) then
 some (Res.ret [(V.sl 1 ((p0.2).take n8 ++ [[(V.int .i32 v)]] ++ (p0.2).drop n8) false), (V.agg [(V.int .u8 1), (V.int .i32 0)])], [(HB.map [((V.int .u8 1), (V.map 1)), ((V.int .u8 2), (V.map 2)), ((V.int .u8 3), (V.map 3))]), (HB.map [((V.int .u8 1), (V.agg [(V.bool true), (V.fn 70 [])])), ((V.int .u8 2), (V.agg [(V.bool false), (V.fn 71 [])]))]), (HB.map [((V.int .u8 1), (V.agg [(V.bool true), (V.fn 72 [])])), ((V.int .u8 2), (V.agg [(V.bool true), (V.fn 70 [])])), ((V.int .u8 3), (V.agg [(V.bool false), (V.fn 72 [])])), ((V.int .u8 4), (V.agg [(V.bool false), (V.fn 71 [])]))]), (HB.map [((V.int .u8 1), (V.agg [(V.bool true), (V.fn 73 [])])), ((V.int .u8 2), (V.agg [(V.bool false), (V.fn 72 [])]))])]) else none))) else none)) else none))
theorem apHAdd_eq (n : Nat) (m : Int) (s : V) (v : Int) (h : Heap) : call (n + 2) 26 [(V.int .u8 3), (V.int .i64 m), s, (V.agg [(V.int .u8 1), (V.int .i32 v)])] h = gcw [(V.int .u8 3), (V.int .i64 m), s, (V.agg [(V.int .u8 1), (V.int .i32 v)])] (apHAdd (n + 1) m s v) h := by kernel_rfl
noncomputable def apHMin (n : Nat) (m : Int) (s : V) (v : Int) : Option (Res × Heap) :=
 (bd (slc s) fun p0 =>
 (if ((p0.1 = 1 ∨ (p0.2).isEmpty = true) ∧ (p0.2).length < lim) then
 (if (((p0.2).length : Int) == 0) then
 some (Res.ret [(V.sl 1 p0.2 false), (V.agg [(V.int .u8 4), (V.int .i32 0)])], [(HB.map [((V.int .u8 1), (V.map 1)), ((V.int .u8 2), (V.map 2)), ((V.int .u8 3), (V.map 3))]), (HB.map [((V.int .u8 1), (V.agg [(V.bool true), (V.fn 70 [])])), ((V.int .u8 2), (V.agg [(V.bool false), (V.fn 71 [])]))]), (HB.map [((V.int .u8 1), (V.agg [(V.bool true), (V.fn 72 [])])), ((V.int .u8 2), (V.agg [(V.bool true), (V.fn 70 [])])), ((V.int .u8 3), (V.agg [(V.bool false), (V.fn 72 [])])), ((V.int .u8 4), (V.agg [(V.bool false), (V.fn 71 [])]))]), (HB.map [((V.int .u8 1), (V.agg [(V.bool true), (V.fn 73 [])])), ((V.int .u8 2), (V.agg [(V.bool false), (V.fn 72 [])]))])])
 else
 (cl (call n 72 [(V.sl 1 p0.2 false), (V.int .i32 v)] [(HB.map [((V.int .u8 1), (V.map 1)), ((V.int .u8 2), (V.map 2)), ((V.int .u8 3), (V.map 3))]), (HB.map [((V.int .u8 1), (V.agg [(V.bool true), (V.fn 70 [])])), ((V.int .u8 2), (V.agg [(V.bool false), (V.fn 71 [])]))]), (HB.map [((V.int .u8 1), (V.agg [(V.bool true), (V.fn 72 [])])), ((V.int .u8 2), (V.agg [(V.bool true), (V.fn 70 [])])), ((V.int .u8 3), (V.agg [(V.bool false), (V.fn 72 [])])), ((V.int .u8 4), (V.agg [(V.bool false), (V.fn 71 [])]))]), (HB.map [((V.int .u8 1), (V.agg [(V.bool true), (V.fn 73 [])])), ((V.int .u8 2), (V.agg [(V.bool false), (V.fn 72 [])]))])]) (fun r4 h5 => if V.simple.simpleL r4 then
 (one1 r4 fun v7 =>
 (bdS (nv v7) fun n8 =>
 (if (1 = 1 ∧ n8 < (p0.2).length ∧ (some 72 : Option Nat) ≠ some 2) then
 (bd (p0.2)[n8]? fun es9 =>
 (bd (es9)[0]? fun v10 =>
 (bd (bop prog .add 3 v7 (V.int .i64 1)) fun v11 =>
 (bdS (ni v7) fun n12 =>
 (bdS (ni v11) fun n13 =>
 (if ((21 = 21 ∧ 1 = 1) ∧ n12 < n13 ∧ n13 ≤ (p0.2).length ∧ (p0.2).length < lim) then
 (bd (bldV prog 34 [(0, (V.int .u8 2)), (1, v10)]) fun cs14 =>
 (if (cs14).length = 2 then
 (if ((cs14).length ≤ 2) then
 some (Res.ret [(V.sl 1 ((p0.2).take n12 ++ (p0.2).drop n13) false), (V.agg (((setR [(V.int .u8 0), (V.int .i32 0)] 0 cs14)).drop 0 |>.take 2))], h5) else none) else none)) else none)))))) else none))) else none) (fun z6 h5 => if z6.simple then some (Res.pan z6, h5) else none))) else none))
theorem apHMin_eq (n : Nat) (m : Int) (s : V) (v : Int) (h : Heap) : call (n + 2) 26 [(V.int .u8 3), (V.int .i64 m), s, (V.agg [(V.int .u8 2), (V.int .i32 v)])] h = gcw [(V.int .u8 3), (V.int .i64 m), s, (V.agg [(V.int .u8 2), (V.int .i32 v)])] (apHMin (n + 1) m s v) h := by kernel_rfl
noncomputable def apB0 (n : Nat) (m : Int) (s : V) (k : Int) (v : Int) : Option (Res × Heap) :=
 (bd (slc s) fun p0 =>
 (if ((p0.1 = 1 ∨ (p0.2).isEmpty = true) ∧ (p0.2).length < lim) then
 some (Res.ret [(V.sl 1 p0.2 false), (V.agg [(V.int .u8 5), (V.int .i32 0)])], [(HB.map [((V.int .u8 1), (V.map 1)), ((V.int .u8 2), (V.map 2)), ((V.int .u8 3), (V.map 3))]), (HB.map [((V.int .u8 1), (V.agg [(V.bool true), (V.fn 70 [])])), ((V.int .u8 2), (V.agg [(V.bool false), (V.fn 71 [])]))]), (HB.map [((V.int .u8 1), (V.agg [(V.bool true), (V.fn 72 [])])), ((V.int .u8 2), (V.agg [(V.bool true), (V.fn 70 [])])), ((V.int .u8 3), (V.agg [(V.bool false), (V.fn 72 [])])), ((V.int .u8 4), (V.agg [(V.bool false), (V.fn 71 [])]))]), (HB.map [((V.int .u8 1), (V.agg [(V.bool true), (V.fn 73 [])])), ((V.int .u8 2), (V.agg [(V.bool false), (V.fn 72 [])]))])]) else none))
theorem apB0_eq (n : Nat) (m : Int) (s : V) (k : Int) (v : Int) (h : Heap) : call (n + 2) 26 [(V.int .u8 0), (V.int .i64 m), s, (V.agg [(V.int .u8 k), (V.int .i32 v)])] h = gcw [(V.int .u8 0), (V.int .i64 m), s, (V.agg [(V.int .u8 k), (V.int .i32 v)])] (apB0 (n + 1) m s k v) h := by kernel_rfl
noncomputable def apB4 (n : Nat) (m : Int) (s : V) (q : Nat) (k : Int) (v : Int) : Option (Res × Heap) :=
 (bd (slc s) fun p0 =>
 (if ((p0.1 = 1 ∨ (p0.2).isEmpty = true) ∧ (p0.2).length < lim) then
 some (Res.ret [(V.sl 1 p0.2 false), (V.agg [(V.int .u8 5), (V.int .i32 0)])], [(HB.map [((V.int .u8 1), (V.map 1)), ((V.int .u8 2), (V.map 2)), ((V.int .u8 3), (V.map 3))]), (HB.map [((V.int .u8 1), (V.agg [(V.bool true), (V.fn 70 [])])), ((V.int .u8 2), (V.agg [(V.bool false), (V.fn 71 [])]))]), (HB.map [((V.int .u8 1), (V.agg [(V.bool true), (V.fn 72 [])])), ((V.int .u8 2), (V.agg [(V.bool true), (V.fn 70 [])])), ((V.int .u8 3), (V.agg [(V.bool false), (V.fn 72 [])])), ((V.int .u8 4), (V.agg [(V.bool false), (V.fn 71 [])]))]), (HB.map [((V.int .u8 1), (V.agg [(V.bool true), (V.fn 73 [])])), ((V.int .u8 2), (V.agg [(V.bool false), (V.fn 72 [])]))])]) else none))
theorem apB4_eq (n : Nat) (m : Int) (s : V) (q : Nat) (k : Int) (v : Int) (h : Heap) : call (n + 2) 26 [(V.int .u8 (Int.ofNat (q + 4))), (V.int .i64 m), s, (V.agg [(V.int .u8 k), (V.int .i32 v)])] h = gcw [(V.int .u8 (Int.ofNat (q + 4))), (V.int .i64 m), s, (V.agg [(V.int .u8 k), (V.int .i32 v)])] (apB4 (n + 1) m s q k v) h := by kernel_rfl
noncomputable def apS0 (n : Nat) (m : Int) (s : V) (v : Int) : Option (Res × Heap) :=
 (bd (slc s) fun p0 =>
 (if ((p0.1 = 1 ∨ (p0.2).isEmpty = true) ∧ (p0.2).length < lim) then
 some (Res.ret [(V.sl 1 p0.2 false), (V.agg [(V.int .u8 5), (V.int .i32 0)])], [(HB.map [((V.int .u8 1), (V.map 1)), ((V.int .u8 2), (V.map 2)), ((V.int .u8 3), (V.map 3))]), (HB.map [((V.int .u8 1), (V.agg [(V.bool true), (V.fn 70 [])])), ((V.int .u8 2), (V.agg [(V.bool false), (V.fn 71 [])]))]), (HB.map [((V.int .u8 1), (V.agg [(V.bool true), (V.fn 72 [])])), ((V.int .u8 2), (V.agg [(V.bool true), (V.fn 70 [])])), ((V.int .u8 3), (V.agg [(V.bool false), (V.fn 72 [])])), ((V.int .u8 4), (V.agg [(V.bool false), (V.fn 71 [])]))]), (HB.map [((V.int .u8 1), (V.agg [(V.bool true), (V.fn 73 [])])), ((V.int .u8 2), (V.agg [(V.bool false), (V.fn 72 [])]))])]) else none))
theorem apS0_eq (n : Nat) (m : Int) (s : V) (v : Int) (h : Heap) : call (n + 2) 26 [(V.int .u8 1), (V.int .i64 m), s, (V.agg [(V.int .u8 0), (V.int .i32 v)])] h = gcw [(V.int .u8 1), (V.int .i64 m), s, (V.agg [(V.int .u8 0), (V.int .i32 v)])] (apS0 (n + 1) m s v) h := by kernel_rfl
noncomputable def apS3 (n : Nat) (m : Int) (s : V) (q : Nat) (v : Int) : Option (Res × Heap) :=
 (bd (slc s) fun p0 =>
 (if ((p0.1 = 1 ∨ (p0.2).isEmpty = true) ∧ (p0.2).length < lim) then
 some (Res.ret [(V.sl 1 p0.2 false), (V.agg [(V.int .u8 5), (V.int .i32 0)])], [(HB.map [((V.int .u8 1), (V.map 1)), ((V.int .u8 2), (V.map 2)), ((V.int .u8 3), (V.map 3))]), (HB.map [((V.int .u8 1), (V.agg [(V.bool true), (V.fn 70 [])])), ((V.int .u8 2), (V.agg [(V.bool false), (V.fn 71 [])]))]), (HB.map [((V.int .u8 1), (V.agg [(V.bool true), (V.fn 72 [])])), ((V.int .u8 2), (V.agg [(V.bool true), (V.fn 70 [])])), ((V.int .u8 3), (V.agg [(V.bool false), (V.fn 72 [])])), ((V.int .u8 4), (V.agg [(V.bool false), (V.fn 71 [])]))]), (HB.map [((V.int .u8 1), (V.agg [(V.bool true), (V.fn 73 [])])), ((V.int .u8 2), (V.agg [(V.bool false), (V.fn 72 [])]))])]) else none))
theorem apS3_eq (n : Nat) (m : Int) (s : V) (q : Nat) (v : Int) (h : Heap) : call (n + 2) 26 [(V.int .u8 1), (V.int .i64 m), s, (V.agg [(V.int .u8 (Int.ofNat (q + 3))), (V.int .i32 v)])] h = gcw [(V.int .u8 1), (V.int .i64 m), s, (V.agg [(V.int .u8 (Int.ofNat (q + 3))), (V.int .i32 v)])] (apS3 (n + 1) m s q v) h := by kernel_rfl
noncomputable def apD0 (n : Nat) (m : Int) (s : V) (v : Int) : Option (Res × Heap) :=
 (bd (slc s) fun p0 =>
 (if ((p0.1 = 1 ∨ (p0.2).isEmpty = true) ∧ (p0.2).length < lim) then
 some (Res.ret [(V.sl 1 p0.2 false), (V.agg [(V.int .u8 5), (V.int .i32 0)])], [(HB.map [((V.int .u8 1), (V.map 1)), ((V.int .u8 2), (V.map 2)), ((V.int .u8 3), (V.map 3))]), (HB.map [((V.int .u8 1), (V.agg [(V.bool true), (V.fn 70 [])])), ((V.int .u8 2), (V.agg [(V.bool false), (V.fn 71 [])]))]), (HB.map [((V.int .u8 1), (V.agg [(V.bool true), (V.fn 72 [])])), ((V.int .u8 2), (V.agg [(V.bool true), (V.fn 70 [])])), ((V.int .u8 3), (V.agg [(V.bool false), (V.fn 72 [])])), ((V.int .u8 4), (V.agg [(V.bool false), (V.fn 71 [])]))]), (HB.map [((V.int .u8 1), (V.agg [(V.bool true), (V.fn 73 [])])), ((V.int .u8 2), (V.agg [(V.bool false), (V.fn 72 [])]))])]) else none))
theorem apD0_eq (n : Nat) (m : Int) (s : V) (v : Int) (h : Heap) : call (n + 2) 26 [(V.int .u8 2), (V.int .i64 m), s, (V.agg [(V.int .u8 0), (V.int .i32 v)])] h = gcw [(V.int .u8 2), (V.int .i64 m), s, (V.agg [(V.int .u8 0), (V.int .i32 v)])] (apD0 (n + 1) m s v) h := by kernel_rfl
noncomputable def apD5 (n : Nat) (m : Int) (s : V) (q : Nat) (v : Int) : Option (Res × Heap) :=
 (bd (slc s) fun p0 =>
 (if ((p0.1 = 1 ∨ (p0.2).isEmpty = true) ∧ (p0.2).length < lim) then
 some (Res.ret [(V.sl 1 p0.2 false), (V.agg [(V.int .u8 5), (V.int .i32 0)])], [(HB.map [((V.int .u8 1), (V.map 1)), ((V.int .u8 2), (V.map 2)), ((V.int .u8 3), (V.map 3))]), (HB.map [((V.int .u8 1), (V.agg [(V.bool true), (V.fn 70 [])])), ((V.int .u8 2), (V.agg [(V.bool false), (V.fn 71 [])]))]), (HB.map [((V.int .u8 1), (V.agg [(V.bool true), (V.fn 72 [])])), ((V.int .u8 2), (V.agg [(V.bool true), (V.fn 70 [])])), ((V.int .u8 3), (V.agg [(V.bool false), (V.fn 72 [])])), ((V.int .u8 4), (V.agg [(V.bool false), (V.fn 71 [])]))]), (HB.map [((V.int .u8 1), (V.agg [(V.bool true), (V.fn 73 [])])), ((V.int .u8 2), (V.agg [(V.bool false), (V.fn 72 [])]))])]) else none))
theorem apD5_eq (n : Nat) (m : Int) (s : V) (q : Nat) (v : Int) (h : Heap) : call (n + 2) 26 [(V.int .u8 2), (V.int .i64 m), s, (V.agg [(V.int .u8 (Int.ofNat (q + 5))), (V.int .i32 v)])] h = gcw [(V.int .u8 2), (V.int .i64 m), s, (V.agg [(V.int .u8 (Int.ofNat (q + 5))), (V.int .i32 v)])] (apD5 (n + 1) m s q v) h := by kernel_rfl
noncomputable def apH0 (n : Nat) (m : Int) (s : V) (v : Int) : Option (Res × Heap) :=
 (bd (slc s) fun p0 =>
 (if ((p0.1 = 1 ∨ (p0.2).isEmpty = true) ∧ (p0.2).length < lim) then
 some (Res.ret [(V.sl 1 p0.2 false), (V.agg [(V.int .u8 5), (V.int .i32 0)])], [(HB.map [((V.int .u8 1), (V.map 1)), ((V.int .u8 2), (V.map 2)), ((V.int .u8 3), (V.map 3))]), (HB.map [((V.int .u8 1), (V.agg [(V.bool true), (V.fn 70 [])])), ((V.int .u8 2), (V.agg [(V.bool false), (V.fn 71 [])]))]), (HB.map [((V.int .u8 1), (V.agg [(V.bool true), (V.fn 72 [])])), ((V.int .u8 2), (V.agg [(V.bool true), (V.fn 70 [])])), ((V.int .u8 3), (V.agg [(V.bool false), (V.fn 72 [])])), ((V.int .u8 4), (V.agg [(V.bool false), (V.fn 71 [])]))]), (HB.map [((V.int .u8 1), (V.agg [(V.bool true), (V.fn 73 [])])), ((V.int .u8 2), (V.agg [(V.bool false), (V.fn 72 [])]))])]) else none))
theorem apH0_eq (n : Nat) (m : Int) (s : V) (v : Int) (h : Heap) : call (n + 2) 26 [(V.int .u8 3), (V.int .i64 m), s, (V.agg [(V.int .u8 0), (V.int .i32 v)])] h = gcw [(V.int .u8 3), (V.int .i64 m), s, (V.agg [(V.int .u8 0), (V.int .i32 v)])] (apH0 (n + 1) m s v) h := by kernel_rfl
noncomputable def apH3 (n : Nat) (m : Int) (s : V) (q : Nat) (v : Int) : Option (Res × Heap) :=
 (bd (slc s) fun p0 =>
 (if ((p0.1 = 1 ∨ (p0.2).isEmpty = true) ∧ (p0.2).length < lim) then
 some (Res.ret [(V.sl 1 p0.2 false), (V.agg [(V.int .u8 5), (V.int .i32 0)])], [(HB.map [((V.int .u8 1), (V.map 1)), ((V.int .u8 2), (V.map 2)), ((V.int .u8 3), (V.map 3))]), (HB.map [((V.int .u8 1), (V.agg [(V.bool true), (V.fn 70 [])])), ((V.int .u8 2), (V.agg [(V.bool false), (V.fn 71 [])]))]), (HB.map [((V.int .u8 1), (V.agg [(V.bool true), (V.fn 72 [])])), ((V.int .u8 2), (V.agg [(V.bool true), (V.fn 70 [])])), ((V.int .u8 3), (V.agg [(V.bool false), (V.fn 72 [])])), ((V.int .u8 4), (V.agg [(V.bool false), (V.fn 71 [])]))]), (HB.map [((V.int .u8 1), (V.agg [(V.bool true), (V.fn 73 [])])), ((V.int .u8 2), (V.agg [(V.bool false), (V.fn 72 [])]))])]) else none))
theorem apH3_eq (n : Nat) (m : Int) (s : V) (q : Nat) (v : Int) (h : Heap) : call (n + 2) 26 [(V.int .u8 3), (V.int .i64 m), s, (V.agg [(V.int .u8 (Int.ofNat (q + 3))), (V.int .i32 v)])] h = gcw [(V.int .u8 3), (V.int .i64 m), s, (V.agg [(V.int .u8 (Int.ofNat (q + 3))), (V.int .i32 v)])] (apH3 (n + 1) m s q v) h := by kernel_rfl
end Go.Proofs.Try
