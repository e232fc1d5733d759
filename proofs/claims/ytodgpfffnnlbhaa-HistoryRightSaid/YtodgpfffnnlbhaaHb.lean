import Derived.Test.YtodgpfffnnlbhaaLset
import Derived.Test.YtodgpfffnnlbhaaLwd
/-! history.Check and what it calls, printed -/
set_option linter.unusedVariables false
namespace Go.Proofs.Try
open Go.L
set_option maxRecDepth 100000
noncomputable def hMust (n : Nat) (x0 : Bool) (x1 : Int) (h : Heap) : Option (Res × Heap) :=
 (if (!x0) then
 some (Res.pan (V.iface 56 (V.int .u16 x1)), h)
 else
 some (Res.ret [], h))
theorem hMust_eq (n : Nat) (x0 : Bool) (x1 : Int) (h : Heap) : call (n + 1) 77 [(V.bool x0), (V.int .u16 x1)] h = hMust n x0 x1 h := by kernel_rfl
noncomputable def hOf (n : Nat) (x0_0 : Int) (x0_1 : Int) (x0_2 : Int) (x0_3 : Int) (x0_4 : Int) (x0_5 : Int) (x0_6 : Int) : Option (Res × Heap) :=
 some (Res.ret [(V.agg [(V.int .i64 x0_0), (V.int .i64 x0_1), (V.int .u8 x0_2), (V.int .i32 x0_3)])], [])
theorem hOf_eq (n : Nat) (x0_0 : Int) (x0_1 : Int) (x0_2 : Int) (x0_3 : Int) (x0_4 : Int) (x0_5 : Int) (x0_6 : Int) (h : Heap) : call (n + 1) 76 [(V.agg [(V.int .i64 x0_0), (V.int .i64 x0_1), (V.int .u8 x0_2), (V.int .i32 x0_3), (V.int .u8 x0_4), (V.int .i32 x0_5), (V.int .i64 x0_6)])] h = gcw [(V.agg [(V.int .i64 x0_0), (V.int .i64 x0_1), (V.int .u8 x0_2), (V.int .i32 x0_3), (V.int .u8 x0_4), (V.int .i32 x0_5), (V.int .i64 x0_6)])] (hOf n x0_0 x0_1 x0_2 x0_3 x0_4 x0_5 x0_6) h := by kernel_rfl
noncomputable def hOfSpan (n : Nat) (x0_0 : Int) (x0_1 : Int) (x0_2 : Int) (x0_3 : Int) (x0_4 : Int) (x0_5 : Int) (x0_6 : Int) (x0_7 : Int) : Option (Res × Heap) :=
 some (Res.ret [(V.agg [(V.int .i64 x0_0), (V.int .i64 x0_1), (V.int .u8 x0_2), (V.int .i32 x0_3)])], [])
theorem hOfSpan_eq (n : Nat) (x0_0 : Int) (x0_1 : Int) (x0_2 : Int) (x0_3 : Int) (x0_4 : Int) (x0_5 : Int) (x0_6 : Int) (x0_7 : Int) (h : Heap) : call (n + 1) 55 [(V.agg [(V.int .i64 x0_0), (V.int .i64 x0_1), (V.int .u8 x0_2), (V.int .i32 x0_3), (V.int .u8 x0_4), (V.int .i32 x0_5), (V.int .i64 x0_6), (V.int .i64 x0_7)])] h = gcw [(V.agg [(V.int .i64 x0_0), (V.int .i64 x0_1), (V.int .u8 x0_2), (V.int .i32 x0_3), (V.int .u8 x0_4), (V.int .i32 x0_5), (V.int .i64 x0_6), (V.int .i64 x0_7)])] (hOfSpan n x0_0 x0_1 x0_2 x0_3 x0_4 x0_5 x0_6 x0_7) h := by kernel_rfl
noncomputable def hSpan (n : Nat) (o : Nat) (x : List V) (h : Heap) : Option (Res × Heap) :=
 (if (x).length = 7 then
 (bd3 (cellsP h (V.ptr o 1)) fun cs1 m0 o2 => if (o2 + 1 ≤ m0 ∧ 0 < 1) then
 (bd (cs1)[o2]? fun v3 =>
 (bd3 (cellsP h (V.ptr o 2)) fun cs5 m4 o6 => if (o6 + 1 ≤ m4 ∧ 0 < 1) then
 (bd (cs5)[o6]? fun v7 =>
 (clS (call n 76 [(V.agg ((x).drop 0 |>.take 7))] []) fun r8 =>
 (one1 r8 fun v11 =>
 (bdS (mapOf h v7) fun es12 =>
 (bd (kds prog 12 112) fun ksr13 => bdS (findI ksr13 v11 es12 0) fun r13 => bd (entryV es12 (V.int .i64 0) r13) fun v14 => if ((v11).one = !true ∧ (v11).cells.length = ksr13.length ∧ false = false) then
 (bdS (nv v14) fun n15 =>
 (bd (idxP 8 n15 v3) fun p16 =>
 (bd3 (cellsP h p16) fun cs18 m17 o19 => if (o19 + 8 ≤ m17 ∧ 0 < 8) then
 (if (((cs18).drop o19 |>.take 8)).length = 8 then
 (if ((((cs18).drop o19 |>.take 8)).length ≤ 8) then
 some (Res.ret [(V.agg (((setR [(V.int .i64 0), (V.int .i64 0), (V.int .u8 0), (V.int .i32 0), (V.int .u8 0), (V.int .i32 0), (V.int .i64 0), (V.int .i64 0)] 0 ((cs18).drop o19 |>.take 8))).drop 0 |>.take 8))], h) else none) else none) else none))) else none))))) else none)) else none) else none)
theorem hSpan_eq (n : Nat) (o : Nat) (x : List V) (h : Heap) : call (n + 1) 78 [(V.ptr o 0), (V.agg x)] h = hSpan n o x h := by kernel_rfl
noncomputable def hOnce_l5 (n : Nat) (h : Heap) (v3 : V) (p4 : Nat × List (List V)) (st6 : List V) (hh7 : Heap) (next8 : List V → Heap → Option (Res × Heap)) : Option (Res × Heap) :=
 (bd (bop prog .lss 3 (gv st6 0) (V.int .i64 ((p4.2).length : Int))) fun v9 =>
 (bv v9 fun b10 => if b10 then
 (bdS (nv (gv st6 0)) fun n11 =>
 (bd (idxP 7 n11 v3) fun p12 =>
 (bd3 (cellsP hh7 p12) fun cs14 m13 o15 => if (o15 + 7 ≤ m13 ∧ 0 < 7) then
 (if (((cs14).drop o15 |>.take 7)).length = 7 then
 (if ((((cs14).drop o15 |>.take 7)).length ≤ 7) then
 (cl (call n 76 [(V.agg (((setR [(V.int .i64 0), (V.int .i64 0), (V.int .u8 0), (V.int .i32 0), (V.int .u8 0), (V.int .i32 0), (V.int .i64 0)] 0 ((cs14).drop o15 |>.take 7))).drop 0 |>.take 7))] hh7) (fun r16 h17 =>
 (one1 r16 fun v19 =>
 (aggK v19 fun cs20 => if (0 + 2 ≤ cs20.length) then
 (bdS (mapOf h17 (V.map (h).length)) fun es21 =>
 (bd (kds prog 12 110) fun ksr22 => bdS (findI ksr22 (V.agg ((cs20).drop 0 |>.take 2)) es21 0) fun r22 => bd (entryV es21 (V.agg []) r22) fun v23 => if (((V.agg ((cs20).drop 0 |>.take 2))).one = !true ∧ ((V.agg ((cs20).drop 0 |>.take 2))).cells.length = ksr22.length ∧ true = true) then
 (if ((V.cells v23)).length = 0 then
 (if (((V.cells v23)).length ≤ 0) then
 (cl (call n 77 [(V.bool (!r22.isSome)), (V.int .u16 20)] h17) (fun r24 h25 =>
 (cl (call n 76 [(V.agg (((setR [(V.int .i64 0), (V.int .i64 0), (V.int .u8 0), (V.int .i32 0), (V.int .u8 0), (V.int .i32 0), (V.int .i64 0)] 0 ((cs14).drop o15 |>.take 7))).drop 0 |>.take 7))] h25) (fun r27 h28 =>
 (one1 r27 fun v30 =>
 (aggK v30 fun cs31 => if (0 + 2 ≤ cs31.length) then
 (mapAt (h28)[(h).length]? fun es32 => (bd (kds prog 12 110) fun ksr33 => bd (findI ksr33 (V.agg ((cs31).drop 0 |>.take 2)) es32 0) fun r33 => if (((V.agg ((cs31).drop 0 |>.take 2))).one = !true ∧ ((V.agg ((cs31).drop 0 |>.take 2))).cells.length = ksr33.length) then
 (bd (bop prog .add 3 (gv st6 0) (V.int .i64 1)) fun v35 =>
 (next8 [v35] ((h28).set (h).length (HB.map (upd es32 (V.agg ((cs31).drop 0 |>.take 2)) (V.agg []) r33))))) else none)) else none))) (fun z29 h28 => some (Res.pan z29, h28)))) (fun z26 h25 => some (Res.pan z26, h25))) else none) else none) else none)) else none))) (fun z18 h17 => some (Res.pan z18, h17))) else none) else none) else none)))
 else
 some (Res.ret [], hh7)))
noncomputable def hOnce (n : Nat) (o : Nat) (h : Heap) : Option (Res × Heap) :=
 (bd3 (cellsP (h ++ [(HB.map [])]) (V.ptr o 0)) fun cs1 m0 o2 => if (o2 + 1 ≤ m0 ∧ 0 < 1) then
 (bd (cs1)[o2]? fun v3 =>
 (bd (slcH (h ++ [(HB.map [])]) v3) fun p4 =>
 (loopx n (hOnce_l5 n h v3 p4) [(V.int .i64 0)] (h ++ [(HB.map [])])))) else none)
theorem hOnce_eq (n : Nat) (o : Nat) (h : Heap) : call (n + 1) 56 [(V.ptr o 0)] h = hOnce n o h := by kernel_rfl
noncomputable def hWhole_l43 (n : Nat) (h : Heap) (v41 : V) (p42 : Nat × List (List V)) (st44 : List V) (hh45 : Heap) (next46 : List V → Heap → Option (Res × Heap)) : Option (Res × Heap) :=
 (bd (bop prog .lss 3 (gv st44 0) (V.int .i64 ((p42.2).length : Int))) fun v47 =>
 (bv v47 fun b48 => if b48 then
 (bdS (nv (gv st44 0)) fun n49 =>
 (bd (idxP 8 n49 v41) fun p50 =>
 (bd3 (cellsP hh45 p50) fun cs52 m51 o53 => if (o53 + 8 ≤ m51 ∧ 0 < 8) then
 (if (((cs52).drop o53 |>.take 8)).length = 8 then
 (if ((((cs52).drop o53 |>.take 8)).length ≤ 8) then
 (cl (call n 55 [(V.agg (((setR [(V.int .i64 0), (V.int .i64 0), (V.int .u8 0), (V.int .i32 0), (V.int .u8 0), (V.int .i32 0), (V.int .i64 0), (V.int .i64 0)] 0 ((cs52).drop o53 |>.take 8))).drop 0 |>.take 8))] hh45) (fun r54 h55 =>
 (one1 r54 fun v57 =>
 (bdS (mapOf h55 (V.map (h).length)) fun es58 =>
 (bd (kds prog 12 112) fun ksr59 => bdS (findI ksr59 v57 es58 0) fun r59 => bd (entryV es58 (V.agg []) r59) fun v60 => if ((v57).one = !true ∧ (v57).cells.length = ksr59.length ∧ true = true) then
 (if ((V.cells v60)).length = 0 then
 (if (((V.cells v60)).length ≤ 0) then
 (if r59.isSome then
 (cl (call n 77 [(V.bool true), (V.int .u16 21)] h55) (fun r61 h62 =>
 (bd (bop prog .add 3 (gv st44 0) (V.int .i64 1)) fun v64 =>
 (next46 [v64] h62))) (fun z63 h62 => some (Res.pan z63, h62)))
 else
 (bd ((setR [(V.int .i64 0), (V.int .i64 0), (V.int .u8 0), (V.int .i32 0), (V.int .u8 0), (V.int .i32 0), (V.int .i64 0), (V.int .i64 0)] 0 ((cs52).drop o53 |>.take 8)))[7]? fun v65 =>
 (bd (bop prog .lss 3 v65 (V.int .i64 0)) fun v66 =>
 (cl (call n 77 [v66, (V.int .u16 21)] h55) (fun r67 h68 =>
 (bd (bop prog .add 3 (gv st44 0) (V.int .i64 1)) fun v70 =>
 (next46 [v70] h68))) (fun z69 h68 => some (Res.pan z69, h68)))))) else none) else none) else none)))) (fun z56 h55 => some (Res.pan z56, h55))) else none) else none) else none)))
 else
 some (Res.ret [], hh45)))
noncomputable def hWhole_l5 (n : Nat) (o : Nat) (h : Heap) (v3 : V) (p4 : Nat × List (List V)) (st6 : List V) (hh7 : Heap) (next8 : List V → Heap → Option (Res × Heap)) : Option (Res × Heap) :=
 (bd (bop prog .lss 3 (gv st6 0) (V.int .i64 ((p4.2).length : Int))) fun v9 =>
 (bv v9 fun b10 => if b10 then
 (bdS (nv (gv st6 0)) fun n11 =>
 (bd (idxP 7 n11 v3) fun p12 =>
 (bd3 (cellsP hh7 p12) fun cs14 m13 o15 => if (o15 + 7 ≤ m13 ∧ 0 < 7) then
 (if (((cs14).drop o15 |>.take 7)).length = 7 then
 (if ((((cs14).drop o15 |>.take 7)).length ≤ 7) then
 (bd3 (cellsP hh7 (V.ptr o 2)) fun cs17 m16 o18 => if (o18 + 1 ≤ m16 ∧ 0 < 1) then
 (bd (cs17)[o18]? fun v19 =>
 (clS (call n 76 [(V.agg (((setR [(V.int .i64 0), (V.int .i64 0), (V.int .u8 0), (V.int .i32 0), (V.int .u8 0), (V.int .i32 0), (V.int .i64 0)] 0 ((cs14).drop o15 |>.take 7))).drop 0 |>.take 7))] []) fun r20 =>
 (one1 r20 fun v23 =>
 (bdS (mapOf hh7 v19) fun es24 =>
 (bd (kds prog 12 112) fun ksr25 => bdS (findI ksr25 v23 es24 0) fun r25 => bd (entryV es24 (V.int .i64 0) r25) fun v26 => if ((v23).one = !true ∧ (v23).cells.length = ksr25.length ∧ false = false) then
 (cl (call n 77 [(V.bool r25.isSome), (V.int .u16 21)] hh7) (fun r27 h28 =>
 (cl (call n 76 [(V.agg (((setR [(V.int .i64 0), (V.int .i64 0), (V.int .u8 0), (V.int .i32 0), (V.int .u8 0), (V.int .i32 0), (V.int .i64 0)] 0 ((cs14).drop o15 |>.take 7))).drop 0 |>.take 7))] h28) (fun r30 h31 =>
 (one1 r30 fun v33 =>
 (mapAt (h31)[(h).length]? fun es34 => (bd (kds prog 12 112) fun ksr35 => bd (findI ksr35 v33 es34 0) fun r35 => if ((v33).one = !true ∧ (v33).cells.length = ksr35.length) then
 (bd (bop prog .add 3 (gv st6 0) (V.int .i64 1)) fun v37 =>
 (next8 [v37] ((h31).set (h).length (HB.map (upd es34 v33 (V.agg []) r35))))) else none)))) (fun z32 h31 => some (Res.pan z32, h31)))) (fun z29 h28 => some (Res.pan z29, h28))) else none))))) else none) else none) else none) else none)))
 else
 (bd3 (cellsP hh7 (V.ptr o 1)) fun cs39 m38 o40 => if (o40 + 1 ≤ m38 ∧ 0 < 1) then
 (bd (cs39)[o40]? fun v41 =>
 (bd (slcH hh7 v41) fun p42 =>
 (loopx n (hWhole_l43 n h v41 p42) [(V.int .i64 0)] hh7))) else none)))
noncomputable def hWhole (n : Nat) (o : Nat) (h : Heap) : Option (Res × Heap) :=
 (bd3 (cellsP (h ++ [(HB.map [])]) (V.ptr o 0)) fun cs1 m0 o2 => if (o2 + 1 ≤ m0 ∧ 0 < 1) then
 (bd (cs1)[o2]? fun v3 =>
 (bd (slcH (h ++ [(HB.map [])]) v3) fun p4 =>
 (loopx n (hWhole_l5 n o h v3 p4) [(V.int .i64 0)] (h ++ [(HB.map [])])))) else none)
theorem hWhole_eq (n : Nat) (o : Nat) (h : Heap) : call (n + 1) 57 [(V.ptr o 0)] h = hWhole n o h := by kernel_rfl
noncomputable def hTimely_l24 (n : Nat) (o : Nat) (st6 : List V) (next8 : List V → Heap → Option (Res × Heap)) (v22 : V) (p23 : Nat × List (List V)) (st25 : List V) (hh26 : Heap) (next27 : List V → Heap → Option (Res × Heap)) : Option (Res × Heap) :=
 (bd (bop prog .lss 3 (gv st25 1) (V.int .i64 ((p23.2).length : Int))) fun v28 =>
 (bv v28 fun b29 => if b29 then
 (bdS (nv (gv st25 1)) fun n30 =>
 (bd (idxP 7 n30 v22) fun p31 =>
 (bd3 (cellsP hh26 p31) fun cs33 m32 o34 => if (o34 + 7 ≤ m32 ∧ 0 < 7) then
 (if (((cs33).drop o34 |>.take 7)).length = 7 then
 (if ((((cs33).drop o34 |>.take 7)).length ≤ 7) then
 (clH (call n 78 [(V.ptr o 0), (V.agg (((lcs (gv st25 0))).drop 0 |>.take 7))] hh26) fun r35 h36 =>
 (one1 r35 fun v38 =>
 (clH (call n 78 [(V.ptr o 0), (V.agg (((setR [(V.int .i64 0), (V.int .i64 0), (V.int .u8 0), (V.int .i32 0), (V.int .u8 0), (V.int .i32 0), (V.int .i64 0)] 0 ((cs33).drop o34 |>.take 7))).drop 0 |>.take 7))] h36) fun r39 h40 =>
 (one1 r39 fun v42 =>
 (clS (call n 29 [v38, v42] []) fun r43 =>
 (one1 r43 fun v46 =>
 (bd (uop .not v46) fun v47 =>
 (cl (call n 77 [v47, (V.int .u16 22)] h40) (fun r48 h49 =>
 (bd (bop prog .add 3 (gv st25 1) (V.int .i64 1)) fun v51 =>
 (next27 [(V.agg (lcs (gv st25 0))), v51] h49))) (fun z50 h49 => some (Res.pan z50, h49)))))))))) else none) else none) else none)))
 else
 (bd (bop prog .add 3 (gv st6 0) (V.int .i64 1)) fun v52 =>
 (next8 [v52] hh26))))
noncomputable def hTimely_l5 (n : Nat) (o : Nat) (v3 : V) (p4 : Nat × List (List V)) (st6 : List V) (hh7 : Heap) (next8 : List V → Heap → Option (Res × Heap)) : Option (Res × Heap) :=
 (bd (bop prog .lss 3 (gv st6 0) (V.int .i64 ((p4.2).length : Int))) fun v9 =>
 (bv v9 fun b10 => if b10 then
 (bdS (nv (gv st6 0)) fun n11 =>
 (bd (idxP 7 n11 v3) fun p12 =>
 (bd3 (cellsP hh7 p12) fun cs14 m13 o15 => if (o15 + 7 ≤ m13 ∧ 0 < 7) then
 (if (((cs14).drop o15 |>.take 7)).length = 7 then
 (if ((((cs14).drop o15 |>.take 7)).length ≤ 7) then
 (bd3 (cellsP hh7 (V.ptr o 0)) fun cs17 m16 o18 => if (o18 + 1 ≤ m16 ∧ 0 < 1) then
 (bd (cs17)[o18]? fun v19 =>
 (bd (lenP v19) fun n20 =>
 (bdS (nv (gv st6 0)) fun n21 =>
 (bd (sliceP 7 0 n21 (none : Option Nat) true v19) fun v22 =>
 (bd (slcH hh7 v22) fun p23 =>
 (loopx n (hTimely_l24 n o st6 next8 v22 p23) [(V.agg (setR [(V.int .i64 0), (V.int .i64 0), (V.int .u8 0), (V.int .i32 0), (V.int .u8 0), (V.int .i32 0), (V.int .i64 0)] 0 ((cs14).drop o15 |>.take 7))), (V.int .i64 0)] hh7)))))) else none) else none) else none) else none)))
 else
 some (Res.ret [], hh7)))
noncomputable def hTimely (n : Nat) (o : Nat) (h : Heap) : Option (Res × Heap) :=
 (bd3 (cellsP h (V.ptr o 0)) fun cs1 m0 o2 => if (o2 + 1 ≤ m0 ∧ 0 < 1) then
 (bd (cs1)[o2]? fun v3 =>
 (bd (slcH h v3) fun p4 =>
 (loopx n (hTimely_l5 n o v3 p4) [(V.int .i64 0)] h))) else none)
theorem hTimely_eq (n : Nat) (o : Nat) (h : Heap) : call (n + 1) 58 [(V.ptr o 0)] h = hTimely n o h := by kernel_rfl
noncomputable def hRight_l29 (n : Nat) (o : Nat) (v23 : V) (v27 : V) (p28 : Nat × List (List V)) (st30 : List V) (hh31 : Heap) (next32 : List V → Heap → Option (Res × Heap)) : Option (Res × Heap) :=
 (bd (bop prog .lss 3 (gv st30 0) (V.int .i64 ((p28.2).length : Int))) fun v33 =>
 (bv v33 fun b34 => if b34 then
 (bdS (nv (gv st30 0)) fun n35 =>
 (bd (idxP 7 n35 v27) fun p36 =>
 (bd3 (cellsP hh31 p36) fun cs38 m37 o39 => if (o39 + 7 ≤ m37 ∧ 0 < 7) then
 (if (((cs38).drop o39 |>.take 7)).length = 7 then
 (if ((((cs38).drop o39 |>.take 7)).length ≤ 7) then
 (cl (call n 78 [(V.ptr o 0), (V.agg (((setR [(V.int .i64 0), (V.int .i64 0), (V.int .u8 0), (V.int .i32 0), (V.int .u8 0), (V.int .i32 0), (V.int .i64 0)] 0 ((cs38).drop o39 |>.take 7))).drop 0 |>.take 7))] hh31) (fun r40 h41 =>
 (one1 r40 fun v43 =>
 (if ((V.cells v43)).length = 8 then
 (if (((V.cells v43)).length ≤ 8) then
 (bdS (nv (gv st30 0)) fun n44 =>
 (bd (idxP 2 n44 v23) fun p45 =>
 (bd3 (cellsP h41 p45) fun cs47 m46 o48 => if (o48 + 2 ≤ m46 ∧ 0 < 2) then
 (bd (bop prog .eql 34 (V.agg ((cs47).drop o48 |>.take 2)) (V.agg (((setR [(V.int .i64 0), (V.int .i64 0), (V.int .u8 0), (V.int .i32 0), (V.int .u8 0), (V.int .i32 0), (V.int .i64 0)] 0 ((cs38).drop o39 |>.take 7))).drop 4 |>.take 2))) fun v49 =>
 (bv v49 fun b50 => if b50 then
 (bd ((setR [(V.int .i64 0), (V.int .i64 0), (V.int .u8 0), (V.int .i32 0), (V.int .u8 0), (V.int .i32 0), (V.int .i64 0), (V.int .i64 0)] 0 (V.cells v43)))[7]? fun v51 =>
 (bd (bop prog .lss 3 v51 (V.int .i64 0)) fun v52 =>
 (bv v52 fun b53 => if b53 then
 (cl (call n 77 [(V.bool true), (V.int .u16 23)] h41) (fun r54 h55 =>
 (bd (bop prog .add 3 (gv st30 0) (V.int .i64 1)) fun v57 =>
 (next32 [v57] h55))) (fun z56 h55 => some (Res.pan z56, h55)))
 else
 (bdS (nv (gv st30 0)) fun n58 =>
 (bd (idxP 2 n58 v23) fun p59 =>
 (bd3 (cellsP h41 p59) fun cs61 m60 o62 => if (o62 + 2 ≤ m60 ∧ 0 < 2) then
 (bd (bop prog .eql 34 (V.agg (((setR [(V.int .i64 0), (V.int .i64 0), (V.int .u8 0), (V.int .i32 0), (V.int .u8 0), (V.int .i32 0), (V.int .i64 0), (V.int .i64 0)] 0 (V.cells v43))).drop 4 |>.take 2)) (V.agg ((cs61).drop o62 |>.take 2))) fun v63 =>
 (cl (call n 77 [v63, (V.int .u16 23)] h41) (fun r64 h65 =>
 (bd (bop prog .add 3 (gv st30 0) (V.int .i64 1)) fun v67 =>
 (next32 [v67] h65))) (fun z66 h65 => some (Res.pan z66, h65)))) else none))))))
 else
 (cl (call n 77 [(V.bool false), (V.int .u16 23)] h41) (fun r68 h69 =>
 (bd (bop prog .add 3 (gv st30 0) (V.int .i64 1)) fun v71 =>
 (next32 [v71] h69))) (fun z70 h69 => some (Res.pan z70, h69))))) else none))) else none) else none))) (fun z42 h41 => some (Res.pan z42, h41))) else none) else none) else none)))
 else
 some (Res.ret [], hh31)))
noncomputable def hRight_l5 (n : Nat) (o : Nat) (k : Int) (m : Int) (v3 : V) (p4 : Nat × List (List V)) (st6 : List V) (hh7 : Heap) (next8 : List V → Heap → Option (Res × Heap)) : Option (Res × Heap) :=
 (bd (bop prog .lss 3 (gv st6 1) (V.int .i64 ((p4.2).length : Int))) fun v9 =>
 (bv v9 fun b10 => if b10 then
 (bdS (nv (gv st6 1)) fun n11 =>
 (bd (idxP 7 n11 v3) fun p12 =>
 (bd3 (cellsP hh7 p12) fun cs14 m13 o15 => if (o15 + 7 ≤ m13 ∧ 0 < 7) then
 (if (((cs14).drop o15 |>.take 7)).length = 7 then
 (if ((((cs14).drop o15 |>.take 7)).length ≤ 7) then
 (bd (bslV prog 24 1 [(0, (V.agg (((setR [(V.int .i64 0), (V.int .i64 0), (V.int .u8 0), (V.int .i32 0), (V.int .u8 0), (V.int .i32 0), (V.int .i64 0)] 0 ((cs14).drop o15 |>.take 7))).drop 2 |>.take 2)))]) fun p16 =>
 (bd (app 38 2 (S.own 38 2 (lsl (gv st6 0))) p16.2) fun l17 =>
 (bd (bop prog .add 3 (gv st6 1) (V.int .i64 1)) fun v18 =>
 (next8 [(V.sl 2 l17 false), v18] hh7)))) else none) else none) else none)))
 else
 (cl (call n 79 [(V.int .u8 k), (V.int .i64 m), (V.sl 0 [] true), (V.sl 2 (lsl (gv st6 0)) false)] hh7) (fun r19 h20 =>
 (bd (r19)[0]? fun v22 =>
 (bd (r19)[1]? fun v23 =>
 (bd3 (cellsP h20 (V.ptr o 0)) fun cs25 m24 o26 => if (o26 + 1 ≤ m24 ∧ 0 < 1) then
 (bd (cs25)[o26]? fun v27 =>
 (bd (slcH h20 v27) fun p28 =>
 (loopx n (hRight_l29 n o v23 v27 p28) [(V.int .i64 0)] h20))) else none)))) (fun z21 h20 => some (Res.pan z21, h20)))))
noncomputable def hRight (n : Nat) (o : Nat) (k : Int) (m : Int) (h : Heap) : Option (Res × Heap) :=
 (bd3 (cellsP h (V.ptr o 0)) fun cs1 m0 o2 => if (o2 + 1 ≤ m0 ∧ 0 < 1) then
 (bd (cs1)[o2]? fun v3 =>
 (bd (slcH h v3) fun p4 =>
 (loopx n (hRight_l5 n o k m v3 p4) [(V.sl 2 [] false), (V.int .i64 0)] h))) else none)
theorem hRight_eq (n : Nat) (o : Nat) (k : Int) (m : Int) (h : Heap) : call (n + 1) 59 [(V.ptr o 0), (V.int .u8 k), (V.int .i64 m)] h = hRight n o k m h := by kernel_rfl
noncomputable def hBack (n : Nat) (x0 : List (List V)) (x0b : Bool) (h : Heap) : Option (Res × Heap) :=
 some (Res.ret [(V.fn 75 [(V.ptr (h).length 0)])], (h ++ [(HB.box 1 [(V.sl 8 x0 x0b)])]))
theorem hBack_eq (n : Nat) (x0 : List (List V)) (x0b : Bool) (h : Heap) : call (n + 1) 54 [(V.sl 8 x0 x0b)] h = hBack n x0 x0b h := by kernel_rfl
noncomputable def hBackI_l5 (n : Nat) (b : Nat) (x : Nat) (st6 : List V) (hh7 : Heap) (next8 : List V → Heap → Option (Res × Heap)) : Option (Res × Heap) :=
 (bd (bop prog .geq 3 (gv st6 0) (V.int .i64 0)) fun v9 =>
 (bv v9 fun b10 => if b10 then
 (bd3 (cellsP hh7 (V.ptr x 0)) fun cs12 m11 o13 => if (o13 + 1 ≤ m11 ∧ 0 < 1) then
 (bd (cs12)[o13]? fun v14 =>
 (bdS (nv (gv st6 0)) fun n15 =>
 (bd (idxP 8 n15 v14) fun p16 =>
 (bd3 (cellsP hh7 p16) fun cs18 m17 o19 => if (o19 + 8 ≤ m17 ∧ 0 < 8) then
 (bd2 (rnd n b [(gv st6 0), (V.agg ((cs18).drop o19 |>.take 8))] hh7) fun t20 h21 =>
 (if (!t20) then
 some (Res.ret [], h21)
 else
 (bd (bop prog .sub 3 (gv st6 0) (V.int .i64 1)) fun v22 =>
 (next8 [v22] h21)))) else none)))) else none)
 else
 some (Res.ret [], hh7)))
noncomputable def hBackI (n : Nat) (b : Nat) (x : Nat) (h : Heap) : Option (Res × Heap) :=
 (bd3 (cellsP h (V.ptr x 0)) fun cs1 m0 o2 => if (o2 + 1 ≤ m0 ∧ 0 < 1) then
 (bd (cs1)[o2]? fun v3 =>
 (bd (slcH h v3) fun p4 =>
 (loopx n (hBackI_l5 n b x) [(V.int .i64 (IntKind.i64.wrap (((p4.2).length : Int) - 1)))] h))) else none)
theorem hBackI_eq (n : Nat) (b : Nat) (x : Nat) (h : Heap) : call (n + 1) 75 [(V.yld b), (V.ptr x 0)] h = hBackI n b x h := by kernel_rfl
noncomputable def hRec (n : Nat) (e : Nat) (h : Heap) : Option (Heap × Bool) :=
 some (h, false)
theorem hRec_eq (n : Nat) (e : Nat) (h : Heap) : dcl n 53 [(V.ptr e 0)] h none = hRec n e h := by kernel_rfl
noncomputable def hRecP (n : Nat) (e : Nat) (x : Int) (h : Heap) : Option (Heap × Bool) :=
 (bd2 (writeB h [(V.int .u16 x)] (V.ptr e 0)) fun b0 x1 =>
 some (((h).set b0 x1), true))
theorem hRecP_eq (n : Nat) (e : Nat) (x : Int) (h : Heap) : dcl n 53 [(V.ptr e 0)] h (some (V.iface 56 (V.int .u16 x))) = hRecP n e x h := by kernel_rfl
noncomputable def hCheck_r (n : Nat) (x9 : Nat) (b : Nat) (z20 : V) (z21 : V) (h : Heap) : Option (Bool × Heap) :=
 (if ((V.cells z21)).length = 8 then
 (if (((V.cells z21)).length ≤ 8) then
 (lpR ((h)[b]?) fun cD cV cF cP cA cB =>
 (bd3 (cellsP ((h).set b (HB.loop cD cV cF cP cA cB .busy)) (V.ptr x9 0)) fun cs75 m74 o76 => if (o76 + 1 ≤ m74 ∧ 0 < 1) then
 (bd (cs75)[o76]? fun v77 =>
 (bd (addP 0 v77) fun p78 =>
 (bd (addP 2 p78) fun p79 =>
 (bd3 (cellsP ((h).set b (HB.loop cD cV cF cP cA cB .busy)) p79) fun cs81 m80 o82 => if (o82 + 1 ≤ m80 ∧ 0 < 1) then
 (bd (cs81)[o82]? fun v83 =>
 (clS (call n 55 [(V.agg (((setR [(V.int .i64 0), (V.int .i64 0), (V.int .u8 0), (V.int .i32 0), (V.int .u8 0), (V.int .i32 0), (V.int .i64 0), (V.int .i64 0)] 0 (V.cells z21))).drop 0 |>.take 8))] []) fun r84 =>
 (one1 r84 fun v87 =>
 (mpK v83 fun b90 => mapAt (((h).set b (HB.loop cD cV cF cP cA cB .busy)))[b90]? fun es88 => (bd (kds prog 12 112) fun ksr89 => bd (findI ksr89 v87 es88 0) fun r89 => if ((v87).one = !true ∧ (v87).cells.length = ksr89.length) then
 (lpB ((((((h).set b (HB.loop cD cV cF cP cA cB .busy))).set b90 (HB.map (upd es88 v87 z20 r89))))[b]?) fun eD eV eF eP eA eB => some (true, (((((h).set b (HB.loop cD cV cF cP cA cB .busy))).set b90 (HB.map (upd es88 v87 z20 r89)))).set b (HB.loop eD eV eF eP eA eB .ready))) else none))))) else none)))) else none)) else none) else none)
theorem hCheck_r_eq (n : Nat) (y0 : Option V) (y1 : Option V) (y2 : Option V) (y3 : Option V) (y8 : Option V) (x9 : Nat) (y12 : Option V) (y13 : Option V) (y14 : Option V) (y15 : Option V) (y16 : Option V) (y17 : Option V) (y18 : Option V) (y19 : Option V) (b : Nat) (z20 : V) (z21 : V) (h : Heap) : roundE prog (call n) keepS pureS n (L.textDraws prog) false [y0, y1, y2, y3, none, none, none, none, y8, some (V.ptr x9 0), none, none, y12, y13, y14, y15, y16, y17, y18, y19, none, none, none, none, none, none, none, none, none, none, none, none, none, none, none, none, none, none, none] [20, 21] (rfAs (bodyF f28)) (rfBd (bodyF f28)) b [z20, z21] h = hCheck_r n x9 b z20 z21 h := by kernel_rfl
noncomputable def hCheck (n : Nat) (x0 : Int) (x1 : Int) (x2 : List (List V)) (x2b : Bool) (x3 : List (List V)) (x3b : Bool) (h : Heap) : Option (Res × Heap) :=
 (cl (call n 54 [(V.sl 8 x2 x2b)] (((h ++ [(HB.box 1 [(V.int .u16 0)])]) ++ [(HB.map [])]) ++ [(HB.box 3 [(V.sl 7 x3 x3b), (V.sl 8 x2 x2b), (V.map ((h ++ [(HB.box 1 [(V.int .u16 0)])])).length)])])) (fun r0 h1 =>
 (one1 r0 fun v3 =>
 (fnK v3 fun f4 c5 => if ((mutF prog f4).isNone && (noDfC (rfAs (bodyF f28)) && noDfC (rfBd (bodyF f28)))) = true then
 (clN (call n f4 ((V.yld (((h1 ++ [(HB.box 1 [(V.ptr (((h ++ [(HB.box 1 [(V.int .u16 0)])]) ++ [(HB.map [])])).length 0)])])).length + 1)) :: c5) ((h1 ++ [(HB.box 1 [(V.ptr (((h ++ [(HB.box 1 [(V.int .u16 0)])]) ++ [(HB.map [])])).length 0)])]) ++ [HB.defb, HB.loop ((h1 ++ [(HB.box 1 [(V.ptr (((h ++ [(HB.box 1 [(V.int .u16 0)])]) ++ [(HB.map [])])).length 0)])])).length false [some (V.int .u8 x0), some (V.int .i64 x1), some (V.sl 8 x2 x2b), some (V.sl 7 x3 x3b), none, none, none, none, some (V.ptr (h).length 0), some (V.ptr (h1).length 0), none, none, some (V.fn 53 [(V.ptr (h).length 0)]), some (V.sl 7 x3 x3b), some (V.sl 8 x2 x2b), some (V.map ((h ++ [(HB.box 1 [(V.int .u16 0)])])).length), some (V.agg [(V.sl 7 x3 x3b), (V.sl 8 x2 x2b), (V.map ((h ++ [(HB.box 1 [(V.int .u16 0)])])).length)]), some (V.ptr (((h ++ [(HB.box 1 [(V.int .u16 0)])]) ++ [(HB.map [])])).length 0), some (V.sl 8 x2 x2b), some v3, none, none, none, none, none, none, none, none, none, none, none, none, none, none, none, none, none, none, none] [20, 21] (rfAs (bodyF f28)) (rfBd (bodyF f28)) .ready])) fun h7 => lpE ((h7)[(((h1 ++ [(HB.box 1 [(V.ptr (((h ++ [(HB.box 1 [(V.int .u16 0)])]) ++ [(HB.map [])])).length 0)])])).length + 1)]?) (
 (bd3 (cellsP ((h7).set (((h1 ++ [(HB.box 1 [(V.ptr (((h ++ [(HB.box 1 [(V.int .u16 0)])]) ++ [(HB.map [])])).length 0)])])).length + 1) HB.dead) (V.ptr (h1).length 0)) fun cs9 m8 o10 => if (o10 + 1 ≤ m8 ∧ 0 < 1) then
 (bd (cs9)[o10]? fun v11 =>
 (cl (call n 56 [v11] ((h7).set (((h1 ++ [(HB.box 1 [(V.ptr (((h ++ [(HB.box 1 [(V.int .u16 0)])]) ++ [(HB.map [])])).length 0)])])).length + 1) HB.dead)) (fun r12 h13 =>
 (bd3 (cellsP h13 (V.ptr (h1).length 0)) fun cs16 m15 o17 => if (o17 + 1 ≤ m15 ∧ 0 < 1) then
 (bd (cs16)[o17]? fun v18 =>
 (cl (call n 57 [v18] h13) (fun r19 h20 =>
 (bd3 (cellsP h20 (V.ptr (h1).length 0)) fun cs23 m22 o24 => if (o24 + 1 ≤ m22 ∧ 0 < 1) then
 (bd (cs23)[o24]? fun v25 =>
 (cl (call n 58 [v25] h20) (fun r26 h27 =>
 (bd3 (cellsP h27 (V.ptr (h1).length 0)) fun cs30 m29 o31 => if (o31 + 1 ≤ m29 ∧ 0 < 1) then
 (bd (cs30)[o31]? fun v32 =>
 (cl (call n 59 [v32, (V.int .u8 x0), (V.int .i64 x1)] h27) (fun r33 h34 =>
 (bd2 (writeB h34 [(V.int .u16 0)] (V.ptr (h).length 0)) fun b36 x37 =>
 (dfB ((((h34).set b36 x37))[((h1 ++ [(HB.box 1 [(V.ptr (((h ++ [(HB.box 1 [(V.int .u16 0)])]) ++ [(HB.map [])])).length 0)])])).length]?) (
 (bd2 (dcl n 53 [(V.ptr (h).length 0)] ((((h34).set b36 x37)).set ((h1 ++ [(HB.box 1 [(V.ptr (((h ++ [(HB.box 1 [(V.int .u16 0)])]) ++ [(HB.map [])])).length 0)])])).length HB.dead) none) fun h38 b39 =>
 (bd3 (cellsP h38 (V.ptr (h).length 0)) fun cs41 m40 o42 => if (o42 + 1 ≤ m40 ∧ 0 < 1) then
 (bd (cs41)[o42]? fun v43 =>
 some (Res.ret [v43], h38)) else none)))))) (fun z35 h34 => (dfB ((h34)[((h1 ++ [(HB.box 1 [(V.ptr (((h ++ [(HB.box 1 [(V.int .u16 0)])]) ++ [(HB.map [])])).length 0)])])).length]?) (
 (bd2 (dcl n 53 [(V.ptr (h).length 0)] ((h34).set ((h1 ++ [(HB.box 1 [(V.ptr (((h ++ [(HB.box 1 [(V.int .u16 0)])]) ++ [(HB.map [])])).length 0)])])).length HB.dead) (some z35)) fun h44 b45 => if b45 then
 (bd3 (cellsP h44 (V.ptr (h).length 0)) fun cs47 m46 o48 => if (o48 + 1 ≤ m46 ∧ 0 < 1) then
 (bd (cs47)[o48]? fun v49 =>
 some (Res.ret [v49], h44)) else none)
 else
 some (Res.pan z35, h44))))))) else none)) (fun z28 h27 => (dfB ((h27)[((h1 ++ [(HB.box 1 [(V.ptr (((h ++ [(HB.box 1 [(V.int .u16 0)])]) ++ [(HB.map [])])).length 0)])])).length]?) (
 (bd2 (dcl n 53 [(V.ptr (h).length 0)] ((h27).set ((h1 ++ [(HB.box 1 [(V.ptr (((h ++ [(HB.box 1 [(V.int .u16 0)])]) ++ [(HB.map [])])).length 0)])])).length HB.dead) (some z28)) fun h50 b51 => if b51 then
 (bd3 (cellsP h50 (V.ptr (h).length 0)) fun cs53 m52 o54 => if (o54 + 1 ≤ m52 ∧ 0 < 1) then
 (bd (cs53)[o54]? fun v55 =>
 some (Res.ret [v55], h50)) else none)
 else
 some (Res.pan z28, h50))))))) else none)) (fun z21 h20 => (dfB ((h20)[((h1 ++ [(HB.box 1 [(V.ptr (((h ++ [(HB.box 1 [(V.int .u16 0)])]) ++ [(HB.map [])])).length 0)])])).length]?) (
 (bd2 (dcl n 53 [(V.ptr (h).length 0)] ((h20).set ((h1 ++ [(HB.box 1 [(V.ptr (((h ++ [(HB.box 1 [(V.int .u16 0)])]) ++ [(HB.map [])])).length 0)])])).length HB.dead) (some z21)) fun h56 b57 => if b57 then
 (bd3 (cellsP h56 (V.ptr (h).length 0)) fun cs59 m58 o60 => if (o60 + 1 ≤ m58 ∧ 0 < 1) then
 (bd (cs59)[o60]? fun v61 =>
 some (Res.ret [v61], h56)) else none)
 else
 some (Res.pan z21, h56))))))) else none)) (fun z14 h13 => (dfB ((h13)[((h1 ++ [(HB.box 1 [(V.ptr (((h ++ [(HB.box 1 [(V.int .u16 0)])]) ++ [(HB.map [])])).length 0)])])).length]?) (
 (bd2 (dcl n 53 [(V.ptr (h).length 0)] ((h13).set ((h1 ++ [(HB.box 1 [(V.ptr (((h ++ [(HB.box 1 [(V.int .u16 0)])]) ++ [(HB.map [])])).length 0)])])).length HB.dead) (some z14)) fun h62 b63 => if b63 then
 (bd3 (cellsP h62 (V.ptr (h).length 0)) fun cs65 m64 o66 => if (o66 + 1 ≤ m64 ∧ 0 < 1) then
 (bd (cs65)[o66]? fun v67 =>
 some (Res.ret [v67], h62)) else none)
 else
 some (Res.pan z14, h62))))))) else none)) (
 (dfB ((((h7).set (((h1 ++ [(HB.box 1 [(V.ptr (((h ++ [(HB.box 1 [(V.int .u16 0)])]) ++ [(HB.map [])])).length 0)])])).length + 1) HB.dead))[((h1 ++ [(HB.box 1 [(V.ptr (((h ++ [(HB.box 1 [(V.int .u16 0)])]) ++ [(HB.map [])])).length 0)])])).length]?) (
 (bd2 (dcl n 53 [(V.ptr (h).length 0)] ((((h7).set (((h1 ++ [(HB.box 1 [(V.ptr (((h ++ [(HB.box 1 [(V.int .u16 0)])]) ++ [(HB.map [])])).length 0)])])).length + 1) HB.dead)).set ((h1 ++ [(HB.box 1 [(V.ptr (((h ++ [(HB.box 1 [(V.int .u16 0)])]) ++ [(HB.map [])])).length 0)])])).length HB.dead) none) fun h68 b69 =>
 (bd3 (cellsP h68 (V.ptr (h).length 0)) fun cs71 m70 o72 => if (o72 + 1 ≤ m70 ∧ 0 < 1) then
 (bd (cs71)[o72]? fun v73 =>
 some (Res.ret [v73], h68)) else none)))))) else none))) (fun z2 h1 => (bd2 (dcl n 53 [(V.ptr (h).length 0)] h1 (some z2)) fun h91 b92 => if b92 then
 (bd3 (cellsP h91 (V.ptr (h).length 0)) fun cs94 m93 o95 => if (o95 + 1 ≤ m93 ∧ 0 < 1) then
 (bd (cs94)[o95]? fun v96 =>
 some (Res.ret [v96], h91)) else none)
 else
 some (Res.pan z2, h91))))
theorem hCheck_eq (n : Nat) (x0 : Int) (x1 : Int) (x2 : List (List V)) (x2b : Bool) (x3 : List (List V)) (x3b : Bool) (h : Heap) : call (n + 1) 28 [(V.int .u8 x0), (V.int .i64 x1), (V.sl 8 x2 x2b), (V.sl 7 x3 x3b)] h = gcw [(V.int .u8 x0), (V.int .i64 x1), (V.sl 8 x2 x2b), (V.sl 7 x3 x3b)] (hCheck n x0 x1 x2 x2b x3 x3b []) h := by kernel_rfl
noncomputable def hPending_l0 (n : Nat) (x0 : List (List V)) (x0b : Bool) (st1 : List V) (hh2 : Heap) (next3 : List V → Heap → Option (Res × Heap)) : Option (Res × Heap) :=
 (bd (bop prog .lss 3 (gv st1 1) (V.int .i64 ((x0).length : Int))) fun v4 =>
 (bv v4 fun b5 => if b5 then
 (bdS (nv (gv st1 1)) fun n6 =>
 (bd (idxP 8 n6 (V.sl 8 x0 x0b)) fun p7 =>
 (bd3 (cellsP hh2 p7) fun cs9 m8 o10 => if (o10 + 8 ≤ m8 ∧ 0 < 8) then
 (if (((cs9).drop o10 |>.take 8)).length = 8 then
 (if ((((cs9).drop o10 |>.take 8)).length ≤ 8) then
 (bd ((setR [(V.int .i64 0), (V.int .i64 0), (V.int .u8 0), (V.int .i32 0), (V.int .u8 0), (V.int .i32 0), (V.int .i64 0), (V.int .i64 0)] 0 ((cs9).drop o10 |>.take 8)))[7]? fun v11 =>
 (bd (bop prog .lss 3 v11 (V.int .i64 0)) fun v12 =>
 (bv v12 fun b13 => if b13 then
 (bd (bop prog .add 3 (gv st1 0) (V.int .i64 1)) fun v14 =>
 (bd (bop prog .add 3 (gv st1 1) (V.int .i64 1)) fun v15 =>
 (next3 [v14, v15] hh2)))
 else
 (bd (bop prog .add 3 (gv st1 1) (V.int .i64 1)) fun v16 =>
 (next3 [(gv st1 0), v16] hh2))))) else none) else none) else none)))
 else
 some (Res.ret [(gv st1 0)], hh2)))
noncomputable def hPending (n : Nat) (x0 : List (List V)) (x0b : Bool) (h : Heap) : Option (Res × Heap) :=
 (loopx n (hPending_l0 n x0 x0b) [(V.int .i64 0), (V.int .i64 0)] h)
theorem hPending_eq (n : Nat) (x0 : List (List V)) (x0b : Bool) (h : Heap) : call (n + 1) 30 [(V.sl 8 x0 x0b)] h = hPending n x0 x0b h := by kernel_rfl
end Go.Proofs.Try
