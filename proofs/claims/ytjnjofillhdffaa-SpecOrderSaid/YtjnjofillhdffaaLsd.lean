import Derived.Test.YtjnjofillhdffaaLwd
/-! laws of layer 8: PRINTED BY A PROGRAM OF MINE (lift4.lean) -/
set_option linter.unusedVariables false
namespace Go.Proofs.Try
open Go.L
set_option maxRecDepth 100000
noncomputable def lawOrd0_l9 (n : Nat) (os : V) (v3 : V) (st10 : List V) (hh11 : Heap) (next12 : List V → Heap → Option (Res × Heap)) : Option (Res × Heap) :=
 (bd (slc v3) fun p13 =>
 (bd (bop prog .lss 3 (gv st10 2) (V.int .i64 ((p13.2).length : Int))) fun v14 =>
 (bv v14 fun b15 => if b15 then
 (bdS (nv (gv st10 2)) fun n16 =>
 (slk v3 fun q17 l18 x19 => if (q17 = 1) then
 (bd (l18)[n16]? fun es20 =>
 (bd (es20)[0]? fun v21 =>
 (bd (bop prog .lss 3 v21 (V.int .i64 0)) fun v22 =>
 (bv v22 fun b23 => if b23 then
 some (Res.ret [(V.bool false)], hh11)
 else
 (bdS (nv (gv st10 2)) fun n24 =>
 (slk v3 fun q25 l26 x27 => if (q25 = 1) then
 (bd (l26)[n24]? fun es28 =>
 (bd (es28)[0]? fun v29 =>
 (bd (slc os) fun p30 =>
 (bd (bop prog .geq 3 v29 (V.int .i64 ((p30.2).length : Int))) fun v31 =>
 (bv v31 fun b32 => if b32 then
 some (Res.ret [(V.bool false)], hh11)
 else
 (bdS (nv (gv st10 2)) fun n33 =>
 (slk v3 fun q34 l35 x36 => if (q34 = 1) then
 (bd (l35)[n33]? fun es37 =>
 (bd (es37)[0]? fun v38 =>
 (bdS (nv v38) fun n39 =>
 (if (1 = 1 ∧ n39 < ((lsl (gv st10 1))).length ∧ (some 50 : Option Nat) ≠ some 6) then
 (bd ((lsl (gv st10 1)))[n39]? fun es40 =>
 (bd (es40)[0]? fun v41 =>
 (bv v41 fun b42 => if b42 then
 some (Res.ret [(V.bool false)], hh11)
 else
 (bdS (nv (gv st10 2)) fun n43 =>
 (slk v3 fun q44 l45 x46 => if (q44 = 1) then
 (bd (l45)[n43]? fun es47 =>
 (bd (es47)[0]? fun v48 =>
 (bd (bop prog .neq 3 v48 (gv st10 2)) fun v49 =>
 (bv v49 fun b50 => if b50 then
 some (Res.ret [(V.bool false)], hh11)
 else
 (bdS (nv (gv st10 2)) fun n51 =>
 (slk v3 fun q52 l53 x54 => if (q52 = 1) then
 (bd (l53)[n51]? fun es55 =>
 (bd (es55)[0]? fun v56 =>
 (bdS (nv v56) fun n57 =>
 (if (1 = 1 ∧ n57 < ((lsl (gv st10 1))).length ∧ (some 70 : Option Nat) ≠ some 6) then
 (bd ((lsl (gv st10 1)))[n57]? fun es58 =>
 (bd (bop prog .add 3 (gv st10 2) (V.int .i64 1)) fun v59 =>
 (next12 [(gv st10 0), (V.sl 1 (((lsl (gv st10 1))).set n57 (setR es58 0 [(V.bool true)])) false), v59, (V.bool false)] hh11))) else none)))) else none)))))) else none))))) else none)))) else none))))))) else none)))))) else none))
 else
 some (Res.ret [(V.bool true)], hh11))))
noncomputable def lawOrd0 (n : Nat) (os : V) (h : Heap) : Option (Res × Heap) :=
 (cl (call n 46 [(V.int .u8 0), os] h) (fun r0 h1 =>
 (one1 r0 fun v3 =>
 (bd (slc os) fun p4 =>
 (bdS (nv (V.int .i64 ((p4.2).length : Int))) fun n5 =>
 (bdS (nv (V.int .i64 ((p4.2).length : Int))) fun n6 =>
 (if (n5 = n6 ∧ n5 < lim ∧ 1 = 1) then
 (bd (slc v3) fun p7 =>
 (bd (slc os) fun p8 =>
 (if (((p7.2).length : Int) != ((p8.2).length : Int)) then
 some (Res.ret [(V.bool false)], h1)
 else
 (loopx n (lawOrd0_l9 n os v3) [(V.bool false), (V.sl 1 (List.replicate n5 [(V.bool false)]) false), (V.int .i64 0), (V.bool false)] h1)))) else none)))))) (fun z2 h1 => some (Res.pan z2, h1)))
theorem lawOrd0_eq (n : Nat) (os : V) (h : Heap) : call (n + 1) 25 [(V.int .u8 0), os] h = lawOrd0 n os h := by kernel_rfl
noncomputable def lawOrd1_l9 (n : Nat) (os : V) (v3 : V) (st10 : List V) (hh11 : Heap) (next12 : List V → Heap → Option (Res × Heap)) : Option (Res × Heap) :=
 (bd (slc v3) fun p13 =>
 (bd (bop prog .lss 3 (gv st10 2) (V.int .i64 ((p13.2).length : Int))) fun v14 =>
 (bv v14 fun b15 => if b15 then
 (bdS (nv (gv st10 2)) fun n16 =>
 (slk v3 fun q17 l18 x19 => if (q17 = 1) then
 (bd (l18)[n16]? fun es20 =>
 (bd (es20)[0]? fun v21 =>
 (bd (bop prog .lss 3 v21 (V.int .i64 0)) fun v22 =>
 (bv v22 fun b23 => if b23 then
 some (Res.ret [(V.bool false)], hh11)
 else
 (bdS (nv (gv st10 2)) fun n24 =>
 (slk v3 fun q25 l26 x27 => if (q25 = 1) then
 (bd (l26)[n24]? fun es28 =>
 (bd (es28)[0]? fun v29 =>
 (bd (slc os) fun p30 =>
 (bd (bop prog .geq 3 v29 (V.int .i64 ((p30.2).length : Int))) fun v31 =>
 (bv v31 fun b32 => if b32 then
 some (Res.ret [(V.bool false)], hh11)
 else
 (bdS (nv (gv st10 2)) fun n33 =>
 (slk v3 fun q34 l35 x36 => if (q34 = 1) then
 (bd (l35)[n33]? fun es37 =>
 (bd (es37)[0]? fun v38 =>
 (bdS (nv v38) fun n39 =>
 (if (1 = 1 ∧ n39 < ((lsl (gv st10 1))).length ∧ (some 50 : Option Nat) ≠ some 6) then
 (bd ((lsl (gv st10 1)))[n39]? fun es40 =>
 (bd (es40)[0]? fun v41 =>
 (bv v41 fun b42 => if b42 then
 some (Res.ret [(V.bool false)], hh11)
 else
 (bdS (nv (gv st10 2)) fun n43 =>
 (slk v3 fun q44 l45 x46 => if (q44 = 1) then
 (bd (l45)[n43]? fun es47 =>
 (bd (es47)[0]? fun v48 =>
 (bd (bop prog .neq 3 v48 (gv st10 2)) fun v49 =>
 (bv v49 fun b50 => if b50 then
 some (Res.ret [(V.bool false)], hh11)
 else
 (bdS (nv (gv st10 2)) fun n51 =>
 (slk v3 fun q52 l53 x54 => if (q52 = 1) then
 (bd (l53)[n51]? fun es55 =>
 (bd (es55)[0]? fun v56 =>
 (bdS (nv v56) fun n57 =>
 (if (1 = 1 ∧ n57 < ((lsl (gv st10 1))).length ∧ (some 70 : Option Nat) ≠ some 6) then
 (bd ((lsl (gv st10 1)))[n57]? fun es58 =>
 (bd (bop prog .add 3 (gv st10 2) (V.int .i64 1)) fun v59 =>
 (next12 [(gv st10 0), (V.sl 1 (((lsl (gv st10 1))).set n57 (setR es58 0 [(V.bool true)])) false), v59, (V.bool false)] hh11))) else none)))) else none)))))) else none))))) else none)))) else none))))))) else none)))))) else none))
 else
 some (Res.ret [(V.bool true)], hh11))))
noncomputable def lawOrd1 (n : Nat) (os : V) (h : Heap) : Option (Res × Heap) :=
 (cl (call n 46 [(V.int .u8 1), os] h) (fun r0 h1 =>
 (one1 r0 fun v3 =>
 (bd (slc os) fun p4 =>
 (bdS (nv (V.int .i64 ((p4.2).length : Int))) fun n5 =>
 (bdS (nv (V.int .i64 ((p4.2).length : Int))) fun n6 =>
 (if (n5 = n6 ∧ n5 < lim ∧ 1 = 1) then
 (bd (slc v3) fun p7 =>
 (bd (slc os) fun p8 =>
 (if (((p7.2).length : Int) != ((p8.2).length : Int)) then
 some (Res.ret [(V.bool false)], h1)
 else
 (loopx n (lawOrd1_l9 n os v3) [(V.bool false), (V.sl 1 (List.replicate n5 [(V.bool false)]) false), (V.int .i64 0), (V.bool false)] h1)))) else none)))))) (fun z2 h1 => some (Res.pan z2, h1)))
theorem lawOrd1_eq (n : Nat) (os : V) (h : Heap) : call (n + 1) 25 [(V.int .u8 1), os] h = lawOrd1 n os h := by kernel_rfl
noncomputable def lawOrd2_l9 (n : Nat) (os : V) (v3 : V) (st10 : List V) (hh11 : Heap) (next12 : List V → Heap → Option (Res × Heap)) : Option (Res × Heap) :=
 (bd (slc v3) fun p13 =>
 (bd (bop prog .lss 3 (gv st10 2) (V.int .i64 ((p13.2).length : Int))) fun v14 =>
 (bv v14 fun b15 => if b15 then
 (bdS (nv (gv st10 2)) fun n16 =>
 (slk v3 fun q17 l18 x19 => if (q17 = 1) then
 (bd (l18)[n16]? fun es20 =>
 (bd (es20)[0]? fun v21 =>
 (bd (bop prog .lss 3 v21 (V.int .i64 0)) fun v22 =>
 (bv v22 fun b23 => if b23 then
 some (Res.ret [(V.bool false)], hh11)
 else
 (bdS (nv (gv st10 2)) fun n24 =>
 (slk v3 fun q25 l26 x27 => if (q25 = 1) then
 (bd (l26)[n24]? fun es28 =>
 (bd (es28)[0]? fun v29 =>
 (bd (slc os) fun p30 =>
 (bd (bop prog .geq 3 v29 (V.int .i64 ((p30.2).length : Int))) fun v31 =>
 (bv v31 fun b32 => if b32 then
 some (Res.ret [(V.bool false)], hh11)
 else
 (bdS (nv (gv st10 2)) fun n33 =>
 (slk v3 fun q34 l35 x36 => if (q34 = 1) then
 (bd (l35)[n33]? fun es37 =>
 (bd (es37)[0]? fun v38 =>
 (bdS (nv v38) fun n39 =>
 (if (1 = 1 ∧ n39 < ((lsl (gv st10 1))).length ∧ (some 50 : Option Nat) ≠ some 6) then
 (bd ((lsl (gv st10 1)))[n39]? fun es40 =>
 (bd (es40)[0]? fun v41 =>
 (bv v41 fun b42 => if b42 then
 some (Res.ret [(V.bool false)], hh11)
 else
 (bdS (nv (gv st10 2)) fun n43 =>
 (slk v3 fun q44 l45 x46 => if (q44 = 1) then
 (bd (l45)[n43]? fun es47 =>
 (bd (es47)[0]? fun v48 =>
 (bd (bop prog .neq 3 v48 (gv st10 2)) fun v49 =>
 (bv v49 fun b50 => if b50 then
 some (Res.ret [(V.bool false)], hh11)
 else
 (bdS (nv (gv st10 2)) fun n51 =>
 (slk v3 fun q52 l53 x54 => if (q52 = 1) then
 (bd (l53)[n51]? fun es55 =>
 (bd (es55)[0]? fun v56 =>
 (bdS (nv v56) fun n57 =>
 (if (1 = 1 ∧ n57 < ((lsl (gv st10 1))).length ∧ (some 70 : Option Nat) ≠ some 6) then
 (bd ((lsl (gv st10 1)))[n57]? fun es58 =>
 (bd (bop prog .add 3 (gv st10 2) (V.int .i64 1)) fun v59 =>
 (next12 [(gv st10 0), (V.sl 1 (((lsl (gv st10 1))).set n57 (setR es58 0 [(V.bool true)])) false), v59, (V.bool false)] hh11))) else none)))) else none)))))) else none))))) else none)))) else none))))))) else none)))))) else none))
 else
 some (Res.ret [(V.bool true)], hh11))))
noncomputable def lawOrd2 (n : Nat) (os : V) (h : Heap) : Option (Res × Heap) :=
 (cl (call n 46 [(V.int .u8 2), os] h) (fun r0 h1 =>
 (one1 r0 fun v3 =>
 (bd (slc os) fun p4 =>
 (bdS (nv (V.int .i64 ((p4.2).length : Int))) fun n5 =>
 (bdS (nv (V.int .i64 ((p4.2).length : Int))) fun n6 =>
 (if (n5 = n6 ∧ n5 < lim ∧ 1 = 1) then
 (bd (slc v3) fun p7 =>
 (bd (slc os) fun p8 =>
 (if (((p7.2).length : Int) != ((p8.2).length : Int)) then
 some (Res.ret [(V.bool false)], h1)
 else
 (loopx n (lawOrd2_l9 n os v3) [(V.bool false), (V.sl 1 (List.replicate n5 [(V.bool false)]) false), (V.int .i64 0), (V.bool false)] h1)))) else none)))))) (fun z2 h1 => some (Res.pan z2, h1)))
theorem lawOrd2_eq (n : Nat) (os : V) (h : Heap) : call (n + 1) 25 [(V.int .u8 2), os] h = lawOrd2 n os h := by kernel_rfl
noncomputable def lawOrd4_l9 (n : Nat) (os : V) (v3 : V) (st10 : List V) (hh11 : Heap) (next12 : List V → Heap → Option (Res × Heap)) : Option (Res × Heap) :=
 (bd (slc v3) fun p13 =>
 (bd (bop prog .lss 3 (gv st10 2) (V.int .i64 ((p13.2).length : Int))) fun v14 =>
 (bv v14 fun b15 => if b15 then
 (bdS (nv (gv st10 2)) fun n16 =>
 (slk v3 fun q17 l18 x19 => if (q17 = 1) then
 (bd (l18)[n16]? fun es20 =>
 (bd (es20)[0]? fun v21 =>
 (bd (bop prog .lss 3 v21 (V.int .i64 0)) fun v22 =>
 (bv v22 fun b23 => if b23 then
 some (Res.ret [(V.bool false)], hh11)
 else
 (bdS (nv (gv st10 2)) fun n24 =>
 (slk v3 fun q25 l26 x27 => if (q25 = 1) then
 (bd (l26)[n24]? fun es28 =>
 (bd (es28)[0]? fun v29 =>
 (bd (slc os) fun p30 =>
 (bd (bop prog .geq 3 v29 (V.int .i64 ((p30.2).length : Int))) fun v31 =>
 (bv v31 fun b32 => if b32 then
 some (Res.ret [(V.bool false)], hh11)
 else
 (bdS (nv (gv st10 2)) fun n33 =>
 (slk v3 fun q34 l35 x36 => if (q34 = 1) then
 (bd (l35)[n33]? fun es37 =>
 (bd (es37)[0]? fun v38 =>
 (bdS (nv v38) fun n39 =>
 (if (1 = 1 ∧ n39 < ((lsl (gv st10 1))).length ∧ (some 50 : Option Nat) ≠ some 6) then
 (bd ((lsl (gv st10 1)))[n39]? fun es40 =>
 (bd (es40)[0]? fun v41 =>
 (bv v41 fun b42 => if b42 then
 some (Res.ret [(V.bool false)], hh11)
 else
 (bdS (nv (gv st10 2)) fun n43 =>
 (slk v3 fun q44 l45 x46 => if (q44 = 1) then
 (bd (l45)[n43]? fun es47 =>
 (bd (es47)[0]? fun v48 =>
 (bd (bop prog .neq 3 v48 (gv st10 2)) fun v49 =>
 (bv v49 fun b50 => if b50 then
 some (Res.ret [(V.bool false)], hh11)
 else
 (bdS (nv (gv st10 2)) fun n51 =>
 (slk v3 fun q52 l53 x54 => if (q52 = 1) then
 (bd (l53)[n51]? fun es55 =>
 (bd (es55)[0]? fun v56 =>
 (bdS (nv v56) fun n57 =>
 (if (1 = 1 ∧ n57 < ((lsl (gv st10 1))).length ∧ (some 70 : Option Nat) ≠ some 6) then
 (bd ((lsl (gv st10 1)))[n57]? fun es58 =>
 (bd (bop prog .add 3 (gv st10 2) (V.int .i64 1)) fun v59 =>
 (next12 [(gv st10 0), (V.sl 1 (((lsl (gv st10 1))).set n57 (setR es58 0 [(V.bool true)])) false), v59, (V.bool false)] hh11))) else none)))) else none)))))) else none))))) else none)))) else none))))))) else none)))))) else none))
 else
 some (Res.ret [(V.bool true)], hh11))))
noncomputable def lawOrd4 (n : Nat) (q : Nat) (os : V) (h : Heap) : Option (Res × Heap) :=
 (cl (call n 46 [(V.int .u8 (Int.ofNat (q + 4))), os] h) (fun r0 h1 =>
 (one1 r0 fun v3 =>
 (bd (slc os) fun p4 =>
 (bdS (nv (V.int .i64 ((p4.2).length : Int))) fun n5 =>
 (bdS (nv (V.int .i64 ((p4.2).length : Int))) fun n6 =>
 (if (n5 = n6 ∧ n5 < lim ∧ 1 = 1) then
 (bd (slc v3) fun p7 =>
 (bd (slc os) fun p8 =>
 (if (((p7.2).length : Int) != ((p8.2).length : Int)) then
 some (Res.ret [(V.bool false)], h1)
 else
 (loopx n (lawOrd4_l9 n os v3) [(V.bool false), (V.sl 1 (List.replicate n5 [(V.bool false)]) false), (V.int .i64 0), (V.bool false)] h1)))) else none)))))) (fun z2 h1 => some (Res.pan z2, h1)))
theorem lawOrd4_eq (n : Nat) (q : Nat) (os : V) (h : Heap) : call (n + 1) 25 [(V.int .u8 (Int.ofNat (q + 4))), os] h = lawOrd4 n q os h := by kernel_rfl
noncomputable def lawAsk_l20 (n : Nat) (o : Int) (m : Int) (s : V) (os : V) (v3 : V) (v4 : V) (v8 : V) (v9 : V) (v13 : V) (v14 : V) (v18 : V) (v19 : V) (st21 : List V) (hh22 : Heap) (next23 : List V → Heap → Option (Res × Heap)) : Option (Res × Heap) :=
 (bd (slc os) fun p24 =>
 (bd (bop prog .lss 3 (gv st21 1) (V.int .i64 ((p24.2).length : Int))) fun v25 =>
 (bv v25 fun b26 => if b26 then
 (bd (bop prog .lss 3 (gv st21 1) (V.int .i64 5)) fun v27 =>
 (bv v27 fun b28 => if b28 then
 (bdS (nv (gv st21 1)) fun n29 =>
 (slk os fun q30 l31 x32 => if (q30 = 2) then
 (bd (l31)[n29]? fun es33 =>
 (cl (call n 26 [(V.int .u8 o), (V.int .i64 m), s, (V.agg ((es33).drop 0 |>.take 2))] hh22) (fun r34 h35 =>
 (bd (r34)[0]? fun v37 =>
 (bd (r34)[1]? fun v38 =>
 (if ((V.cells v38)).length = 2 then
 (if (((V.cells v38)).length ≤ 2) then
 (bdS (nv (gv st21 1)) fun n39 =>
 (slk os fun q40 l41 x42 => if (q40 = 2) then
 (bd (l41)[n39]? fun es43 =>
 (cl (call n 54 [(V.int .u8 o), (V.int .i64 m), s, (V.agg ((es43).drop 0 |>.take 2))] h35) (fun r44 h45 =>
 (bd (r44)[0]? fun v47 =>
 (bd (r44)[1]? fun v48 =>
 (if ((V.cells v48)).length = 2 then
 (if (((V.cells v48)).length ≤ 2) then
 (bd (bop prog .neq 34 (V.agg (((setR [(V.int .u8 0), (V.int .i32 0)] 0 (V.cells v38))).drop 0 |>.take 2)) (V.agg (((setR [(V.int .u8 0), (V.int .i32 0)] 0 (V.cells v48))).drop 0 |>.take 2))) fun v49 =>
 (bv v49 fun b50 => if b50 then
 some (Res.ret [(V.bool false)], h45)
 else
 (cl (call n 23 [v37, v47] h45) (fun r51 h52 =>
 (one1 r51 fun v54 =>
 (bd (uop .not v54) fun v55 =>
 (bv v55 fun b56 => if b56 then
 some (Res.ret [(V.bool false)], h52)
 else
 (bd (bop prog .add 3 (gv st21 1) (V.int .i64 1)) fun v57 =>
 (next23 [(gv st21 0), v57] h52)))))) (fun z53 h52 => some (Res.pan z53, h52))))) else none) else none)))) (fun z46 h45 => some (Res.pan z46, h45)))) else none)) else none) else none)))) (fun z36 h35 => some (Res.pan z36, h35)))) else none))
 else
 (cl (call n 23 [v3, v8] hh22) (fun r58 h59 =>
 (one1 r58 fun v61 =>
 (bv v61 fun b62 => if b62 then
 (cl (call n 31 [v4, v9] h59) (fun r63 h64 =>
 (one1 r63 fun v66 =>
 (bv v66 fun b67 => if b67 then
 (cl (call n 23 [v13, v18] h64) (fun r68 h69 =>
 (one1 r68 fun v71 =>
 (bv v71 fun b72 => if b72 then
 (cl (call n 31 [v14, v19] h69) (fun r73 h74 =>
 (one1 r73 fun v76 =>
 (bv v76 fun b77 => if b77 then
 (cl (call n 46 [(V.int .u8 o), os] h74) (fun r78 h79 =>
 (one1 r78 fun v81 =>
 (cl (call n 55 [(V.int .u8 o), os] h79) (fun r82 h83 =>
 (one1 r82 fun v85 =>
 (cl (call n 32 [v81, v85] h83) (fun r86 h87 =>
 (one1 r86 fun v89 =>
 some (Res.ret [v89], h87))) (fun z88 h87 => some (Res.pan z88, h87))))) (fun z84 h83 => some (Res.pan z84, h83))))) (fun z80 h79 => some (Res.pan z80, h79)))
 else
 some (Res.ret [(V.bool false)], h74)))) (fun z75 h74 => some (Res.pan z75, h74)))
 else
 some (Res.ret [(V.bool false)], h69)))) (fun z70 h69 => some (Res.pan z70, h69)))
 else
 some (Res.ret [(V.bool false)], h64)))) (fun z65 h64 => some (Res.pan z65, h64)))
 else
 some (Res.ret [(V.bool false)], h59)))) (fun z60 h59 => some (Res.pan z60, h59)))))
 else
 (cl (call n 23 [v3, v8] hh22) (fun r90 h91 =>
 (one1 r90 fun v93 =>
 (bv v93 fun b94 => if b94 then
 (cl (call n 31 [v4, v9] h91) (fun r95 h96 =>
 (one1 r95 fun v98 =>
 (bv v98 fun b99 => if b99 then
 (cl (call n 23 [v13, v18] h96) (fun r100 h101 =>
 (one1 r100 fun v103 =>
 (bv v103 fun b104 => if b104 then
 (cl (call n 31 [v14, v19] h101) (fun r105 h106 =>
 (one1 r105 fun v108 =>
 (bv v108 fun b109 => if b109 then
 (cl (call n 46 [(V.int .u8 o), os] h106) (fun r110 h111 =>
 (one1 r110 fun v113 =>
 (cl (call n 55 [(V.int .u8 o), os] h111) (fun r114 h115 =>
 (one1 r114 fun v117 =>
 (cl (call n 32 [v113, v117] h115) (fun r118 h119 =>
 (one1 r118 fun v121 =>
 some (Res.ret [v121], h119))) (fun z120 h119 => some (Res.pan z120, h119))))) (fun z116 h115 => some (Res.pan z116, h115))))) (fun z112 h111 => some (Res.pan z112, h111)))
 else
 some (Res.ret [(V.bool false)], h106)))) (fun z107 h106 => some (Res.pan z107, h106)))
 else
 some (Res.ret [(V.bool false)], h101)))) (fun z102 h101 => some (Res.pan z102, h101)))
 else
 some (Res.ret [(V.bool false)], h96)))) (fun z97 h96 => some (Res.pan z97, h96)))
 else
 some (Res.ret [(V.bool false)], h91)))) (fun z92 h91 => some (Res.pan z92, h91))))))
noncomputable def lawAsk (n : Nat) (o : Int) (m : Int) (s : V) (os : V) (h : Heap) : Option (Res × Heap) :=
 (cl (call n 51 [(V.int .u8 o), (V.int .i64 m), s, os] h) (fun r0 h1 =>
 (bd (r0)[0]? fun v3 =>
 (bd (r0)[1]? fun v4 =>
 (cl (call n 52 [(V.int .u8 o), (V.int .i64 m), s, os] h1) (fun r5 h6 =>
 (bd (r5)[0]? fun v8 =>
 (bd (r5)[1]? fun v9 =>
 (cl (call n 45 [(V.int .u8 o), (V.int .i64 m), s, os] h6) (fun r10 h11 =>
 (bd (r10)[0]? fun v13 =>
 (bd (r10)[1]? fun v14 =>
 (cl (call n 53 [(V.int .u8 o), (V.int .i64 m), s, os] h11) (fun r15 h16 =>
 (bd (r15)[0]? fun v18 =>
 (bd (r15)[1]? fun v19 =>
 (loopx n (lawAsk_l20 n o m s os v3 v4 v8 v9 v13 v14 v18 v19) [(V.bool false), (V.int .i64 0)] h16)))) (fun z17 h16 => some (Res.pan z17, h16)))))) (fun z12 h11 => some (Res.pan z12, h11)))))) (fun z7 h6 => some (Res.pan z7, h6)))))) (fun z2 h1 => some (Res.pan z2, h1)))
theorem lawAsk_eq (n : Nat) (o : Int) (m : Int) (s : V) (os : V) (h : Heap) : call (n + 1) 27 [(V.int .u8 o), (V.int .i64 m), s, os] h = lawAsk n o m s os h := by kernel_rfl
noncomputable def lawCnt_l18 (n : Nat) (s : V) (l1 : List (List V)) (v5 : V) (v6 : V) (v10 : V) (v11 : V) (st19 : List V) (hh20 : Heap) (next21 : List V → Heap → Option (Res × Heap)) : Option (Res × Heap) :=
 (bd (slc v6) fun p22 =>
 (bd (bop prog .lss 3 (gv st19 2) (V.int .i64 ((p22.2).length : Int))) fun v23 =>
 (bv v23 fun b24 => if b24 then
 (bdS (nv (gv st19 2)) fun n25 =>
 (slk v6 fun q26 l27 x28 => if (q26 = 2) then
 (bd (l27)[n25]? fun es29 =>
 (bd (es29)[0]? fun v30 =>
 (bd (bop prog .eql 5 v30 (V.int .u8 1)) fun v31 =>
 (bv v31 fun b32 => if b32 then
 (bd (bop prog .add 3 (gv st19 0) (V.int .i64 1)) fun v33 =>
 (bdS (nv (gv st19 2)) fun n34 =>
 (slk v6 fun q35 l36 x37 => if (q35 = 2) then
 (bd (l36)[n34]? fun es38 =>
 (bd (es38)[0]? fun v39 =>
 (bd (bop prog .eql 5 v39 (V.int .u8 2)) fun v40 =>
 (bv v40 fun b41 => if b41 then
 (bd (bop prog .sub 3 v33 (V.int .i64 1)) fun v42 =>
 (bdS (nv (gv st19 2)) fun n43 =>
 (slk v11 fun q44 l45 x46 => if (q44 = 2) then
 (bd (l45)[n43]? fun es47 =>
 (bd (es47)[0]? fun v48 =>
 (bd (bop prog .eql 5 v48 (V.int .u8 1)) fun v49 =>
 (bv v49 fun b50 => if b50 then
 (bd (bop prog .add 3 (gv st19 1) (V.int .i64 1)) fun v51 =>
 (bdS (nv (gv st19 2)) fun n52 =>
 (slk v11 fun q53 l54 x55 => if (q53 = 2) then
 (bd (l54)[n52]? fun es56 =>
 (bd (es56)[0]? fun v57 =>
 (bd (bop prog .eql 5 v57 (V.int .u8 2)) fun v58 =>
 (bv v58 fun b59 => if b59 then
 (bd (bop prog .sub 3 v51 (V.int .i64 1)) fun v60 =>
 (bd (bop prog .add 3 (gv st19 2) (V.int .i64 1)) fun v61 =>
 (next21 [v42, v60, v61, (V.bool false)] hh20)))
 else
 (bd (bop prog .add 3 (gv st19 2) (V.int .i64 1)) fun v62 =>
 (next21 [v42, v51, v62, (V.bool false)] hh20)))))) else none)))
 else
 (bdS (nv (gv st19 2)) fun n63 =>
 (slk v11 fun q64 l65 x66 => if (q64 = 2) then
 (bd (l65)[n63]? fun es67 =>
 (bd (es67)[0]? fun v68 =>
 (bd (bop prog .eql 5 v68 (V.int .u8 2)) fun v69 =>
 (bv v69 fun b70 => if b70 then
 (bd (bop prog .sub 3 (gv st19 1) (V.int .i64 1)) fun v71 =>
 (bd (bop prog .add 3 (gv st19 2) (V.int .i64 1)) fun v72 =>
 (next21 [v42, v71, v72, (V.bool false)] hh20)))
 else
 (bd (bop prog .add 3 (gv st19 2) (V.int .i64 1)) fun v73 =>
 (next21 [v42, (gv st19 1), v73, (V.bool false)] hh20)))))) else none)))))) else none)))
 else
 (bdS (nv (gv st19 2)) fun n74 =>
 (slk v11 fun q75 l76 x77 => if (q75 = 2) then
 (bd (l76)[n74]? fun es78 =>
 (bd (es78)[0]? fun v79 =>
 (bd (bop prog .eql 5 v79 (V.int .u8 1)) fun v80 =>
 (bv v80 fun b81 => if b81 then
 (bd (bop prog .add 3 (gv st19 1) (V.int .i64 1)) fun v82 =>
 (bdS (nv (gv st19 2)) fun n83 =>
 (slk v11 fun q84 l85 x86 => if (q84 = 2) then
 (bd (l85)[n83]? fun es87 =>
 (bd (es87)[0]? fun v88 =>
 (bd (bop prog .eql 5 v88 (V.int .u8 2)) fun v89 =>
 (bv v89 fun b90 => if b90 then
 (bd (bop prog .sub 3 v82 (V.int .i64 1)) fun v91 =>
 (bd (bop prog .add 3 (gv st19 2) (V.int .i64 1)) fun v92 =>
 (next21 [v33, v91, v92, (V.bool false)] hh20)))
 else
 (bd (bop prog .add 3 (gv st19 2) (V.int .i64 1)) fun v93 =>
 (next21 [v33, v82, v93, (V.bool false)] hh20)))))) else none)))
 else
 (bdS (nv (gv st19 2)) fun n94 =>
 (slk v11 fun q95 l96 x97 => if (q95 = 2) then
 (bd (l96)[n94]? fun es98 =>
 (bd (es98)[0]? fun v99 =>
 (bd (bop prog .eql 5 v99 (V.int .u8 2)) fun v100 =>
 (bv v100 fun b101 => if b101 then
 (bd (bop prog .sub 3 (gv st19 1) (V.int .i64 1)) fun v102 =>
 (bd (bop prog .add 3 (gv st19 2) (V.int .i64 1)) fun v103 =>
 (next21 [v33, v102, v103, (V.bool false)] hh20)))
 else
 (bd (bop prog .add 3 (gv st19 2) (V.int .i64 1)) fun v104 =>
 (next21 [v33, (gv st19 1), v104, (V.bool false)] hh20)))))) else none)))))) else none)))))) else none)))
 else
 (bdS (nv (gv st19 2)) fun n105 =>
 (slk v6 fun q106 l107 x108 => if (q106 = 2) then
 (bd (l107)[n105]? fun es109 =>
 (bd (es109)[0]? fun v110 =>
 (bd (bop prog .eql 5 v110 (V.int .u8 2)) fun v111 =>
 (bv v111 fun b112 => if b112 then
 (bd (bop prog .sub 3 (gv st19 0) (V.int .i64 1)) fun v113 =>
 (bdS (nv (gv st19 2)) fun n114 =>
 (slk v11 fun q115 l116 x117 => if (q115 = 2) then
 (bd (l116)[n114]? fun es118 =>
 (bd (es118)[0]? fun v119 =>
 (bd (bop prog .eql 5 v119 (V.int .u8 1)) fun v120 =>
 (bv v120 fun b121 => if b121 then
 (bd (bop prog .add 3 (gv st19 1) (V.int .i64 1)) fun v122 =>
 (bdS (nv (gv st19 2)) fun n123 =>
 (slk v11 fun q124 l125 x126 => if (q124 = 2) then
 (bd (l125)[n123]? fun es127 =>
 (bd (es127)[0]? fun v128 =>
 (bd (bop prog .eql 5 v128 (V.int .u8 2)) fun v129 =>
 (bv v129 fun b130 => if b130 then
 (bd (bop prog .sub 3 v122 (V.int .i64 1)) fun v131 =>
 (bd (bop prog .add 3 (gv st19 2) (V.int .i64 1)) fun v132 =>
 (next21 [v113, v131, v132, (V.bool false)] hh20)))
 else
 (bd (bop prog .add 3 (gv st19 2) (V.int .i64 1)) fun v133 =>
 (next21 [v113, v122, v133, (V.bool false)] hh20)))))) else none)))
 else
 (bdS (nv (gv st19 2)) fun n134 =>
 (slk v11 fun q135 l136 x137 => if (q135 = 2) then
 (bd (l136)[n134]? fun es138 =>
 (bd (es138)[0]? fun v139 =>
 (bd (bop prog .eql 5 v139 (V.int .u8 2)) fun v140 =>
 (bv v140 fun b141 => if b141 then
 (bd (bop prog .sub 3 (gv st19 1) (V.int .i64 1)) fun v142 =>
 (bd (bop prog .add 3 (gv st19 2) (V.int .i64 1)) fun v143 =>
 (next21 [v113, v142, v143, (V.bool false)] hh20)))
 else
 (bd (bop prog .add 3 (gv st19 2) (V.int .i64 1)) fun v144 =>
 (next21 [v113, (gv st19 1), v144, (V.bool false)] hh20)))))) else none)))))) else none)))
 else
 (bdS (nv (gv st19 2)) fun n145 =>
 (slk v11 fun q146 l147 x148 => if (q146 = 2) then
 (bd (l147)[n145]? fun es149 =>
 (bd (es149)[0]? fun v150 =>
 (bd (bop prog .eql 5 v150 (V.int .u8 1)) fun v151 =>
 (bv v151 fun b152 => if b152 then
 (bd (bop prog .add 3 (gv st19 1) (V.int .i64 1)) fun v153 =>
 (bdS (nv (gv st19 2)) fun n154 =>
 (slk v11 fun q155 l156 x157 => if (q155 = 2) then
 (bd (l156)[n154]? fun es158 =>
 (bd (es158)[0]? fun v159 =>
 (bd (bop prog .eql 5 v159 (V.int .u8 2)) fun v160 =>
 (bv v160 fun b161 => if b161 then
 (bd (bop prog .sub 3 v153 (V.int .i64 1)) fun v162 =>
 (bd (bop prog .add 3 (gv st19 2) (V.int .i64 1)) fun v163 =>
 (next21 [(gv st19 0), v162, v163, (V.bool false)] hh20)))
 else
 (bd (bop prog .add 3 (gv st19 2) (V.int .i64 1)) fun v164 =>
 (next21 [(gv st19 0), v153, v164, (V.bool false)] hh20)))))) else none)))
 else
 (bdS (nv (gv st19 2)) fun n165 =>
 (slk v11 fun q166 l167 x168 => if (q166 = 2) then
 (bd (l167)[n165]? fun es169 =>
 (bd (es169)[0]? fun v170 =>
 (bd (bop prog .eql 5 v170 (V.int .u8 2)) fun v171 =>
 (bv v171 fun b172 => if b172 then
 (bd (bop prog .sub 3 (gv st19 1) (V.int .i64 1)) fun v173 =>
 (bd (bop prog .add 3 (gv st19 2) (V.int .i64 1)) fun v174 =>
 (next21 [(gv st19 0), v173, v174, (V.bool false)] hh20)))
 else
 (bd (bop prog .add 3 (gv st19 2) (V.int .i64 1)) fun v175 =>
 (next21 [(gv st19 0), (gv st19 1), v175, (V.bool false)] hh20)))))) else none)))))) else none)))))) else none)))))) else none))
 else
 (bd (slc v5) fun p176 =>
 (bd (bop prog .eql 3 (V.int .i64 ((p176.2).length : Int)) (gv st19 0)) fun v177 =>
 (bv v177 fun b178 => if b178 then
 (bd (slc v10) fun p179 =>
 (bd (bop prog .eql 3 (V.int .i64 ((p179.2).length : Int)) (gv st19 1)) fun v180 =>
 (bv v180 fun b181 => if b181 then
 (cl (call n 23 [(V.sl 1 l1 false), s] hh20) (fun r182 h183 =>
 (one1 r182 fun v185 =>
 some (Res.ret [v185], h183))) (fun z184 h183 => some (Res.pan z184, h183)))
 else
 some (Res.ret [(V.bool false)], hh20))))
 else
 some (Res.ret [(V.bool false)], hh20)))))))
noncomputable def lawCnt (n : Nat) (o : Int) (m : Int) (s : V) (os : V) (h : Heap) : Option (Res × Heap) :=
 (bdS (slc s) fun p0 =>
 (if (39 = 39 ∧ (p0.1 = 1 ∨ (p0.2).isEmpty = true)) then
 (bd (app 21 1 (S.own 21 1 []) p0.2) fun l1 =>
 (cl (call n 51 [(V.int .u8 o), (V.int .i64 m), (V.sl 1 l1 false), os] h) (fun r2 h3 =>
 (bd (r2)[0]? fun v5 =>
 (bd (r2)[1]? fun v6 =>
 (cl (call n 45 [(V.int .u8 o), (V.int .i64 m), (V.sl 1 l1 false), os] h3) (fun r7 h8 =>
 (bd (r7)[0]? fun v10 =>
 (bd (r7)[1]? fun v11 =>
 (bd (slc v6) fun p12 =>
 (bd (slc os) fun p13 =>
 (if (((p12.2).length : Int) != ((p13.2).length : Int)) then
 some (Res.ret [(V.bool false)], h8)
 else
 (bd (slc v11) fun p14 =>
 (bd (slc os) fun p15 =>
 (if (((p14.2).length : Int) != ((p15.2).length : Int)) then
 some (Res.ret [(V.bool false)], h8)
 else
 (bd (slc s) fun p16 =>
 (bd (slc s) fun p17 =>
 (loopx n (lawCnt_l18 n s l1 v5 v6 v10 v11) [(V.int .i64 ((p16.2).length : Int)), (V.int .i64 ((p17.2).length : Int)), (V.int .i64 0), (V.bool false)] h8)))))))))))) (fun z9 h8 => some (Res.pan z9, h8)))))) (fun z4 h3 => some (Res.pan z4, h3)))) else none))
theorem lawCnt_eq (n : Nat) (o : Int) (m : Int) (s : V) (os : V) (h : Heap) : call (n + 1) 28 [(V.int .u8 o), (V.int .i64 m), s, os] h = lawCnt n o m s os h := by kernel_rfl
noncomputable def lawOrder (n : Nat) (x0 : Int) (x1 : List (List V)) (x1b : Bool) (x2 : List (List V)) (x2b : Bool) : Option (Res × Heap) :=
 (if (decide ((IntKind.i64.wrap (((x1).length : Int) + ((x2).length : Int))) > 200)) then
 (cl (call n 24 [] []) (fun r0 h1 =>
 (one1 r0 fun v3 =>
 some (Res.ret [v3], h1))) (fun z2 h1 => some (Res.pan z2, h1)))
 else
 (cl (call n 24 [] []) (fun r4 h5 =>
 (one1 r4 fun v7 =>
 (bv v7 fun b8 => if b8 then
 (cl (call n 25 [(V.int .u8 x0), (V.sl 2 x1 x1b)] h5) (fun r9 h10 =>
 (one1 r9 fun v12 =>
 (bv v12 fun b13 => if b13 then
 (cl (call n 14 [(V.sl 1 x2 x2b), (V.int .u8 3)] h10) (fun r14 h15 =>
 (one1 r14 fun v17 =>
 (cl (call n 25 [(V.int .u8 3), v17] h15) (fun r18 h19 =>
 (one1 r18 fun v21 =>
 (bv v21 fun b22 => if b22 then
 (cl (call n 25 [(V.int .u8 3), (V.sl 2 x1 x1b)] h19) (fun r23 h24 =>
 (one1 r23 fun v26 =>
 some (Res.ret [v26], h24))) (fun z25 h24 => some (Res.pan z25, h24)))
 else
 some (Res.ret [(V.bool false)], h19)))) (fun z20 h19 => some (Res.pan z20, h19))))) (fun z16 h15 => some (Res.pan z16, h15)))
 else
 some (Res.ret [(V.bool false)], h10)))) (fun z11 h10 => some (Res.pan z11, h10)))
 else
 some (Res.ret [(V.bool false)], h5)))) (fun z6 h5 => some (Res.pan z6, h5))))
theorem lawOrder_eq (n : Nat) (x0 : Int) (x1 : List (List V)) (x1b : Bool) (x2 : List (List V)) (x2b : Bool) (h : Heap) : call (n + 1) 7 [(V.int .u8 x0), (V.sl 2 x1 x1b), (V.sl 1 x2 x2b)] h = gcw [(V.int .u8 x0), (V.sl 2 x1 x1b), (V.sl 1 x2 x2b)] (lawOrder n x0 x1 x1b x2 x2b) h := by kernel_rfl
noncomputable def lawCounts (n : Nat) (x0 : Int) (x1 : Int) (x2 : List (List V)) (x2b : Bool) (x3 : List (List V)) (x3b : Bool) (x4 : Int) (x5 : List (List V)) (x5b : Bool) : Option (Res × Heap) :=
 (if (decide ((IntKind.i64.wrap ((IntKind.i64.wrap (((x2).length : Int) + ((x3).length : Int))) + ((x5).length : Int))) > 200)) then
 (cl (call n 24 [] []) (fun r0 h1 =>
 (one1 r0 fun v3 =>
 some (Res.ret [v3], h1))) (fun z2 h1 => some (Res.pan z2, h1)))
 else
 (cl (call n 24 [] []) (fun r4 h5 =>
 (one1 r4 fun v7 =>
 (bv v7 fun b8 => if b8 then
 (cl (call n 28 [(V.int .u8 x0), (V.int .i64 x1), (V.sl 1 x2 x2b), (V.sl 2 x3 x3b)] h5) (fun r9 h10 =>
 (one1 r9 fun v12 =>
 (bv v12 fun b13 => if b13 then
 (cl (call n 14 [(V.sl 1 x5 x5b), (V.int .u8 4)] h10) (fun r14 h15 =>
 (one1 r14 fun v17 =>
 (cl (call n 28 [(V.int .u8 (IntKind.u8.wrap (1 + (Int.tmod x4 3)))), (V.int .i64 (IntKind.i64.wrap (Int.tmod x4 9))), (V.sl 0 [] false), v17] h15) (fun r18 h19 =>
 (one1 r18 fun v21 =>
 some (Res.ret [v21], h19))) (fun z20 h19 => some (Res.pan z20, h19))))) (fun z16 h15 => some (Res.pan z16, h15)))
 else
 some (Res.ret [(V.bool false)], h10)))) (fun z11 h10 => some (Res.pan z11, h10)))
 else
 some (Res.ret [(V.bool false)], h5)))) (fun z6 h5 => some (Res.pan z6, h5))))
theorem lawCounts_eq (n : Nat) (x0 : Int) (x1 : Int) (x2 : List (List V)) (x2b : Bool) (x3 : List (List V)) (x3b : Bool) (x4 : Int) (x5 : List (List V)) (x5b : Bool) (h : Heap) : call (n + 1) 10 [(V.int .u8 x0), (V.int .i64 x1), (V.sl 1 x2 x2b), (V.sl 2 x3 x3b), (V.int .u8 x4), (V.sl 1 x5 x5b)] h = gcw [(V.int .u8 x0), (V.int .i64 x1), (V.sl 1 x2 x2b), (V.sl 2 x3 x3b), (V.int .u8 x4), (V.sl 1 x5 x5b)] (lawCounts n x0 x1 x2 x2b x3 x3b x4 x5 x5b) h := by kernel_rfl
noncomputable def lawAsks (n : Nat) (x0 : Int) (x1 : Int) (x2 : List (List V)) (x2b : Bool) (x3 : List (List V)) (x3b : Bool) (x4 : Int) (x5 : List (List V)) (x5b : Bool) : Option (Res × Heap) :=
 (if (decide ((IntKind.i64.wrap ((IntKind.i64.wrap (((x2).length : Int) + ((x3).length : Int))) + ((x5).length : Int))) > 200)) then
 (cl (call n 24 [] []) (fun r0 h1 =>
 (one1 r0 fun v3 =>
 some (Res.ret [v3], h1))) (fun z2 h1 => some (Res.pan z2, h1)))
 else
 (cl (call n 24 [] []) (fun r4 h5 =>
 (one1 r4 fun v7 =>
 (bd (uop .not v7) fun v8 =>
 (bv v8 fun b9 => if b9 then
 (cl (call n 24 [] h5) (fun r10 h11 =>
 (one1 r10 fun v13 =>
 some (Res.ret [v13], h11))) (fun z12 h11 => some (Res.pan z12, h11)))
 else
 (cl (call n 27 [(V.int .u8 x0), (V.int .i64 x1), (V.sl 1 x2 x2b), (V.sl 2 x3 x3b)] h5) (fun r14 h15 =>
 (one1 r14 fun v17 =>
 (bv v17 fun b18 => if b18 then
 (bdS (nv (V.int .i64 (if (IntKind.i64.wrap (Int.tmod x4 5)) < ((x2).length : Int) then (IntKind.i64.wrap (Int.tmod x4 5)) else ((x2).length : Int)))) fun n19 =>
 (if (0 ≤ n19 ∧ n19 ≤ (x2).length ∧ (1 = 1 ∨ (x2).isEmpty = true) ∧ ((none : Option Nat) = none ∨ (none : Option Nat) = some n19) ∧ true = true) then
 (cl (call n 14 [(V.sl 1 x5 x5b), (V.int .u8 5)] h15) (fun r20 h21 =>
 (one1 r20 fun v23 =>
 (cl (call n 27 [(V.int .u8 (IntKind.u8.wrap (1 + (Int.tmod x4 3)))), (V.int .i64 (IntKind.i64.wrap (Int.tmod x4 7))), (V.sl 1 (((x2).take n19).drop 0) false), v23] h21) (fun r24 h25 =>
 (one1 r24 fun v27 =>
 (bv v27 fun b28 => if b28 then
 (cl (call n 14 [(V.sl 1 x5 x5b), (V.int .u8 2)] h25) (fun r29 h30 =>
 (one1 r29 fun v32 =>
 (cl (call n 27 [(V.int .u8 (IntKind.u8.wrap (1 + (Int.tmod x4 3)))), (V.int .i64 (IntKind.i64.wrap (Int.tmod x4 9))), (V.sl 0 [] false), v32] h30) (fun r33 h34 =>
 (one1 r33 fun v36 =>
 (bv v36 fun b37 => if b37 then
 (cl (call n 14 [(V.sl 1 x5 x5b), (V.int .u8 3)] h34) (fun r38 h39 =>
 (one1 r38 fun v41 =>
 (cl (call n 27 [(V.int .u8 (Int.tmod x0 4)), (V.int .i64 x1), (V.sl 1 x2 x2b), v41] h39) (fun r42 h43 =>
 (one1 r42 fun v45 =>
 some (Res.ret [v45], h43))) (fun z44 h43 => none)))) (fun z40 h39 => none))
 else
 some (Res.ret [(V.bool false)], h34)))) (fun z35 h34 => none)))) (fun z31 h30 => none))
 else
 some (Res.ret [(V.bool false)], h25)))) (fun z26 h25 => none)))) (fun z22 h21 => none)) else none))
 else
 some (Res.ret [(V.bool false)], h15)))) (fun z16 h15 => none)))))) (fun z6 h5 => some (Res.pan z6, h5))))
theorem lawAsks_eq (n : Nat) (x0 : Int) (x1 : Int) (x2 : List (List V)) (x2b : Bool) (x3 : List (List V)) (x3b : Bool) (x4 : Int) (x5 : List (List V)) (x5b : Bool) (h : Heap) : call (n + 1) 9 [(V.int .u8 x0), (V.int .i64 x1), (V.sl 1 x2 x2b), (V.sl 2 x3 x3b), (V.int .u8 x4), (V.sl 1 x5 x5b)] h = gcw [(V.int .u8 x0), (V.int .i64 x1), (V.sl 1 x2 x2b), (V.sl 2 x3 x3b), (V.int .u8 x4), (V.sl 1 x5 x5b)] (lawAsks n x0 x1 x2 x2b x3 x3b x4 x5 x5b) h := by kernel_rfl
end Go.Proofs.Try
