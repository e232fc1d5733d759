/- Lopen2 Py Px Pw Ka Lrow Kc Xa Ps Ts Pm Tm Pr Tr Pe Te Po To Tq Ta Tf Tg Tb Th Kt Ks Ku Kl Ti Kb Lso SortL SortM So1 Kp Kq Kr Kv Krf Kx Lops Sops Kyw Ko Tj Tk Xs Pt Xb Xc: what the law needs of these -/
import Derived.SizedLaws
import Derived.Test.YtclhmdhdpejhhaaGreatQor12
set_option linter.unusedVariables false
namespace Go.L
open Go.ChangeShapes Go.WideShapes Go.Rp
section
variable {H : Type} {enc : TypeId × Value -> H} {P : Program} {w : World} {held : Bool}
end
theorem slice_sized {H : Type} {enc : TypeId × Value -> H} {P : Program} {w : World} {base : Nat} {spare : Nat -> Bool} {held : Bool} {ts : List TypeId} {ds : List (DataW H)} (hsz : (DataW.weightsEach P ts ds).all (· <= reachBytes) = true) {j : Nat} {t e : TypeId} {d : DataW H} {pl : List MemPlace} {a : Option Addr} {len cap fuel : Nat}
    (ht : ts[j]? = some t) (hd : ds[j]? = some d) (hu : P.underlying t = some (.slice e)) (hb : 1 <= P.bytesOf e) (h : DataW.trod enc P w base spare held fuel t [.slice a len cap] = some (d, pl)) : len <= 140737488355328 := by
  rcases Deep.open_slice hu h with ⟨h1, _⟩ | ⟨ad, len', cap', m, n, D, Pl, h1, _, hle, hm, hmm, hx, _⟩
  · simp at h1; omega
  · simp at h1
    obtain ⟨rfl, rfl, rfl⟩ := h1
    cases hx
    have h2 := sized_slice hsz ht hd hu
    simp only [List.length_map, List.length_range, reachBytes] at h2
    have h3 : len * 1 <= (len + (m - len)) * P.bytesOf e := Nat.mul_le_mul (by omega) hb
    omega
end Go.L
set_option linter.unusedVariables false
namespace Go.Proofs.Tryz
open Go.L
set_option maxRecDepth 100000
noncomputable def l13MemV_l21 (n : Nat) (lv : V) (v4 : V) (st22 : List V) (hh23 : Heap) (next24 : List V -> Heap -> Option (Res × Heap)) : Option (Res × Heap) :=
 (bd (slcH hh23 lv) fun p25 =>
 (bd (bop prog .lss 3 (gv st22 3) (V.int .i64 ((p25.2).length : Int))) fun v26 =>
 (bv v26 fun b27 => if b27 then
 (bdS (nv (gv st22 3)) fun n28 =>
 (bd (idxP 1 n28 lv) fun p29 =>
 (bd3 (cellsP hh23 p29) fun cs31 m30 o32 => if (o32 + 1 <= m30 /\ 0 < 1) then
 (bd (cs31)[o32]? fun v33 =>
 (cl (call n 52 [v4, (gv st22 3), v33] hh23) (fun r34 h35 =>
 (one1 r34 fun v37 =>
 (bdS (nv (gv st22 3)) fun n38 =>
 (bd (idxP 1 n38 lv) fun p39 =>
 (bd3 (cellsP h35 (ipOf lv p39)) fun cs41 m40 o42 => if (o42 + 1 <= m40 /\ 0 < 1) then
 (bd (cs41)[o42]? fun v43 =>
 (clH (call n 75 [(V.agg (((lcs (gv st22 1))).drop 0 |>.take 3)), (gv st22 3), v43] h35) fun r44 h45 =>
 (bd (r44)[0]? fun v47 =>
 (bd (r44)[1]? fun v48 =>
 (if ((V.cells v47)).length = 3 then
 (if (((V.cells v47)).length <= 3) then
 (if ((((setR [(V.int .i64 0), (V.sl 0 [] true), (V.int .i64 0)] 0 (V.cells v47))).drop 0 |>.take 3)).length = 3 then
 (if (((((setR [(V.int .i64 0), (V.sl 0 [] true), (V.int .i64 0)] 0 (V.cells v47))).drop 0 |>.take 3)).length <= 3) then
 (bd (bop prog .add 3 (gv st22 3) (V.int .i64 1)) fun v49 =>
 (next24 [(V.agg (lcs (gv st22 0))), (V.agg (setR (lcs (gv st22 1)) 0 (((setR [(V.int .i64 0), (V.sl 0 [] true), (V.int .i64 0)] 0 (V.cells v47))).drop 0 |>.take 3))), (V.agg (lcs (gv st22 2))), v49] h45)) else none) else none) else none) else none))))) else none))))) (fun z36 h35 => some (Res.pan z36, h35)))) else none)))
 else
 (if ((((lcs (gv st22 1))).drop 0 |>.take 3)).length = 3 then
 (if (((((lcs (gv st22 1))).drop 0 |>.take 3)).length <= 3) then
 some (Res.ret [v4, (V.agg (((setR (lcs (gv st22 0)) 0 (((lcs (gv st22 1))).drop 0 |>.take 3))).drop 0 |>.take 3))], hh23) else none) else none))))
noncomputable def l13MemV (n : Nat) (lv : V) (h : Heap) : Option (Res × Heap) :=
 (bd (slcH h lv) fun p0 =>
 (cl (call n 71 [(V.int .i64 ((p0.2).length : Int))] h) (fun r1 h2 =>
 (one1 r1 fun v4 =>
 (bd (slcH h2 lv) fun p5 =>
 (cl (call n 72 [(V.int .i64 ((p5.2).length : Int))] h2) (fun r6 h7 =>
 (one1 r6 fun v9 =>
 (if ((V.cells v9)).length = 3 then
 (if (((V.cells v9)).length <= 3) then
 (bd (slcH h7 lv) fun p10 =>
 (cl (call n 73 [(V.agg (((setR [(V.int .i64 0), (V.sl 0 [] true), (V.int .i64 0)] 0 (V.cells v9))).drop 0 |>.take 3)), (V.int .i64 ((p10.2).length : Int))] h7) (fun r11 h12 =>
 (bd (r11)[0]? fun v14 =>
 (bd (r11)[1]? fun v15 =>
 (bd (r11)[2]? fun v16 =>
 (if ((V.cells v14)).length = 3 then
 (if (((V.cells v14)).length <= 3) then
 (if ((((setR [(V.int .i64 0), (V.sl 0 [] true), (V.int .i64 0)] 0 (V.cells v14))).drop 0 |>.take 3)).length = 3 then
 (if (((((setR [(V.int .i64 0), (V.sl 0 [] true), (V.int .i64 0)] 0 (V.cells v14))).drop 0 |>.take 3)).length <= 3) then
 (bd (slcH h12 lv) fun p17 =>
 (cl (call n 74 [v4, (V.int .i64 ((p17.2).length : Int))] h12) (fun r18 h19 =>
 (loopx n (l13MemV_l21 n lv v4) [(V.agg [(V.int .i64 0), (V.sl 0 [] true), (V.int .i64 0)]), (V.agg (setR (setR [(V.int .i64 0), (V.sl 0 [] true), (V.int .i64 0)] 0 (V.cells v9)) 0 (((setR [(V.int .i64 0), (V.sl 0 [] true), (V.int .i64 0)] 0 (V.cells v14))).drop 0 |>.take 3))), (V.agg (setR [(V.int .i64 0), (V.sl 0 [] true), (V.int .i64 0)] 0 (V.cells v14))), (V.int .i64 0)] h19)) (fun z20 h19 => some (Res.pan z20, h19)))) else none) else none) else none) else none))))) (fun z13 h12 => some (Res.pan z13, h12)))) else none) else none))) (fun z8 h7 => some (Res.pan z8, h7)))))) (fun z3 h2 => some (Res.pan z3, h2))))
theorem l13MemV_eq (n : Nat) (lv : V) (h : Heap) : call (n + 1) 32 [lv] h = l13MemV n lv h := by kernel_rfl
end Go.Proofs.Tryz
set_option linter.unusedVariables false
namespace Go.Proofs.Tryz
open Go.L
set_option maxRecDepth 100000
noncomputable def lChain_l63 (n : Nat) (c : List (List V)) (cb : Bool) (v57 : V) (st64 : List V) (hh65 : Heap) (next66 : List V -> Heap -> Option (Res × Heap)) : Option (Res × Heap) :=
 (bd (slcH hh65 v57) fun p67 =>
 (bd (bop prog .lss 3 (gv st64 3) (V.int .i64 ((p67.2).length : Int))) fun v68 =>
 (bv v68 fun b69 => if b69 then
 (bd (bop prog .eql 3 (gv st64 3) (V.int .i64 0)) fun v70 =>
 (bv v70 fun b71 => if b71 then
 (bd (idxP 1 0 v57) fun p72 =>
 (bd3 (cellsP hh65 p72) fun cs74 m73 o75 => if (o75 + 1 <= m73 /\ 0 < 1) then
 (bd (cs74)[o75]? fun v76 =>
 (if (1 = 1 /\ 1 < ((lsl (gv st64 2))).length /\ (some 80 : Option Nat) ≠ some 12) then
 (if ((V.cells v76)).length = 1 then
 (if (1 = 1 /\ 0 < 1 /\ 0 + ((V.cells v76)).length <= 1) then
 (bd ((lsl (gv st64 2)))[1]? fun es77 =>
 (bdS (nv (gv st64 3)) fun n78 =>
 (bd (idxP 1 n78 v57) fun p79 =>
 (bd3 (cellsP hh65 p79) fun cs81 m80 o82 => if (o82 + 1 <= m80 /\ 0 < 1) then
 (bd (cs81)[o82]? fun v83 =>
 (bd (bop prog .add 3 v83 (V.int .i64 1)) fun v84 =>
 (bdS (nv v84) fun n85 =>
 (if (1 = 1 /\ n85 < ((((lsl (gv st64 2))).set 1 (setR es77 0 (V.cells v76)))).length /\ (some 99 : Option Nat) ≠ some 12) then
 (bd ((((lsl (gv st64 2))).set 1 (setR es77 0 (V.cells v76))))[n85]? fun es86 =>
 (bd (bop prog .lss 3 (gv st64 3) (V.int .i64 ((c).length : Int))) fun v87 =>
 (bv v87 fun b88 => if b88 then
 (bdS (nv (gv st64 3)) fun n89 =>
 (bd (idxP 1 n89 v57) fun p90 =>
 (bd3 (cellsP hh65 p90) fun cs92 m91 o93 => if (o93 + 1 <= m91 /\ 0 < 1) then
 (bd (cs92)[o93]? fun v94 =>
 (bd (bop prog .add 3 v94 (V.int .i64 2)) fun v95 =>
 (bdS (nv (gv st64 3)) fun n96 =>
 (bd (idxP 1 n96 (V.sl 1 c cb)) fun p97 =>
 (bd3 (cellsP hh65 p97) fun cs99 m98 o100 => if (o100 + 1 <= m98 /\ 0 < 1) then
 (bd (cs99)[o100]? fun v101 =>
 (bd (bop prog .rem 5 v101 (V.int .u8 60)) fun v102 =>
 (bd (cvt prog 5 2 v102) fun v103 =>
 (bdS (nv v95) fun n104 =>
 (if (1 = 1 /\ n104 < ((((((lsl (gv st64 2))).set 1 (setR es77 0 (V.cells v76)))).set n85 (setR es86 0 [(V.int .i64 1)]))).length /\ (some 116 : Option Nat) ≠ some 12) then
 (if ((V.cells v103)).length = 1 then
 (if (1 = 1 /\ 0 < 1 /\ 0 + ((V.cells v103)).length <= 1) then
 (bd ((((((lsl (gv st64 2))).set 1 (setR es77 0 (V.cells v76)))).set n85 (setR es86 0 [(V.int .i64 1)])))[n104]? fun es105 =>
 (bd (bop prog .add 3 (gv st64 3) (V.int .i64 1)) fun v106 =>
 (next66 [(V.sl 1 (lsl (gv st64 0)) false), (V.sl 1 (lsl (gv st64 1)) false), (V.sl 1 (((((((lsl (gv st64 2))).set 1 (setR es77 0 (V.cells v76)))).set n85 (setR es86 0 [(V.int .i64 1)]))).set n104 (setR es105 0 (V.cells v103))) false), v106, (V.bool false)] hh65))) else none) else none) else none))))) else none))))) else none)))
 else
 (bd (bop prog .add 3 (gv st64 3) (V.int .i64 1)) fun v107 =>
 (next66 [(V.sl 1 (lsl (gv st64 0)) false), (V.sl 1 (lsl (gv st64 1)) false), (V.sl 1 (((((lsl (gv st64 2))).set 1 (setR es77 0 (V.cells v76)))).set n85 (setR es86 0 [(V.int .i64 1)])) false), v107, (V.bool false)] hh65))))) else none)))) else none)))) else none) else none) else none)) else none))
 else
 (bd (bop prog .sub 3 (gv st64 3) (V.int .i64 1)) fun v108 =>
 (bdS (nv v108) fun n109 =>
 (bd (idxP 1 n109 v57) fun p110 =>
 (bd3 (cellsP hh65 p110) fun cs112 m111 o113 => if (o113 + 1 <= m111 /\ 0 < 1) then
 (bd (cs112)[o113]? fun v114 =>
 (bd (bop prog .add 3 v114 (V.int .i64 3)) fun v115 =>
 (bdS (nv (gv st64 3)) fun n116 =>
 (bd (idxP 1 n116 v57) fun p117 =>
 (bd3 (cellsP hh65 p117) fun cs119 m118 o120 => if (o120 + 1 <= m118 /\ 0 < 1) then
 (bd (cs119)[o120]? fun v121 =>
 (bdS (nv v115) fun n122 =>
 (if (1 = 1 /\ n122 < ((lsl (gv st64 2))).length /\ (some 92 : Option Nat) ≠ some 12) then
 (if ((V.cells v121)).length = 1 then
 (if (1 = 1 /\ 0 < 1 /\ 0 + ((V.cells v121)).length <= 1) then
 (bd ((lsl (gv st64 2)))[n122]? fun es123 =>
 (bdS (nv (gv st64 3)) fun n124 =>
 (bd (idxP 1 n124 v57) fun p125 =>
 (bd3 (cellsP hh65 p125) fun cs127 m126 o128 => if (o128 + 1 <= m126 /\ 0 < 1) then
 (bd (cs127)[o128]? fun v129 =>
 (bd (bop prog .add 3 v129 (V.int .i64 1)) fun v130 =>
 (bdS (nv v130) fun n131 =>
 (if (1 = 1 /\ n131 < ((((lsl (gv st64 2))).set n122 (setR es123 0 (V.cells v121)))).length /\ (some 99 : Option Nat) ≠ some 12) then
 (bd ((((lsl (gv st64 2))).set n122 (setR es123 0 (V.cells v121))))[n131]? fun es132 =>
 (bd (bop prog .lss 3 (gv st64 3) (V.int .i64 ((c).length : Int))) fun v133 =>
 (bv v133 fun b134 => if b134 then
 (bdS (nv (gv st64 3)) fun n135 =>
 (bd (idxP 1 n135 v57) fun p136 =>
 (bd3 (cellsP hh65 p136) fun cs138 m137 o139 => if (o139 + 1 <= m137 /\ 0 < 1) then
 (bd (cs138)[o139]? fun v140 =>
 (bd (bop prog .add 3 v140 (V.int .i64 2)) fun v141 =>
 (bdS (nv (gv st64 3)) fun n142 =>
 (bd (idxP 1 n142 (V.sl 1 c cb)) fun p143 =>
 (bd3 (cellsP hh65 p143) fun cs145 m144 o146 => if (o146 + 1 <= m144 /\ 0 < 1) then
 (bd (cs145)[o146]? fun v147 =>
 (bd (bop prog .rem 5 v147 (V.int .u8 60)) fun v148 =>
 (bd (cvt prog 5 2 v148) fun v149 =>
 (bdS (nv v141) fun n150 =>
 (if (1 = 1 /\ n150 < ((((((lsl (gv st64 2))).set n122 (setR es123 0 (V.cells v121)))).set n131 (setR es132 0 [(V.int .i64 1)]))).length /\ (some 116 : Option Nat) ≠ some 12) then
 (if ((V.cells v149)).length = 1 then
 (if (1 = 1 /\ 0 < 1 /\ 0 + ((V.cells v149)).length <= 1) then
 (bd ((((((lsl (gv st64 2))).set n122 (setR es123 0 (V.cells v121)))).set n131 (setR es132 0 [(V.int .i64 1)])))[n150]? fun es151 =>
 (bd (bop prog .add 3 (gv st64 3) (V.int .i64 1)) fun v152 =>
 (next66 [(V.sl 1 (lsl (gv st64 0)) false), (V.sl 1 (lsl (gv st64 1)) false), (V.sl 1 (((((((lsl (gv st64 2))).set n122 (setR es123 0 (V.cells v121)))).set n131 (setR es132 0 [(V.int .i64 1)]))).set n150 (setR es151 0 (V.cells v149))) false), v152, (V.bool false)] hh65))) else none) else none) else none))))) else none))))) else none)))
 else
 (bd (bop prog .add 3 (gv st64 3) (V.int .i64 1)) fun v153 =>
 (next66 [(V.sl 1 (lsl (gv st64 0)) false), (V.sl 1 (lsl (gv st64 1)) false), (V.sl 1 (((((lsl (gv st64 2))).set n122 (setR es123 0 (V.cells v121)))).set n131 (setR es132 0 [(V.int .i64 1)])) false), v153, (V.bool false)] hh65))))) else none)))) else none)))) else none) else none) else none))) else none))))) else none))))))
 else
 some (Res.ret [(V.row (hh65).length 1 0 ((lsl (gv st64 2))).length), v57], (hh65 ++ [(HB.row 2 1 (lsl (gv st64 2)) true)])))))
noncomputable def lChain_l8 (n : Nat) (c : List (List V)) (cb : Bool) (m : Int) (v7 : V) (st9 : List V) (hh10 : Heap) (next11 : List V -> Heap -> Option (Res × Heap)) : Option (Res × Heap) :=
 (bd (bop prog .lss 3 (gv st9 3) v7) fun v12 =>
 (bv v12 fun b13 => if b13 then
 (bd (bop prog .lss 3 (gv st9 3) (V.int .i64 ((c).length : Int))) fun v14 =>
 (bv v14 fun b15 => if b15 then
 (bdS (nv (gv st9 3)) fun n16 =>
 (bd (idxP 1 n16 (V.sl 1 c cb)) fun p17 =>
 (bd3 (cellsP hh10 p17) fun cs19 m18 o20 => if (o20 + 1 <= m18 /\ 0 < 1) then
 (bd (cs19)[o20]? fun v21 =>
 (bd (cvt prog 5 3 v21) fun v22 =>
 (bd (bop prog .add 3 (gv st9 3) (V.int .i64 1)) fun v23 =>
 (bd (bop prog .rem 3 v22 v23) fun v24 =>
 (bd (some (((lsl (gv st9 2))).length - 0)) fun n25 =>
 (bdS (nv v24) fun n26 =>
 (bd (sliceP 1 0 n26 (none : Option Nat) true (V.row (hh10).length 1 0 ((lsl (gv st9 2))).length)) fun v27 =>
 (bdS (slcH (hh10 ++ [(HB.row 3 1 (lsl (gv st9 2)) true)]) v27) fun p28 =>
 (if (55 = 55 /\ (p28.1 = 1 \/ (p28.2).isEmpty = true)) then
 (bd (app 3 1 (S.own 3 1 []) p28.2) fun l29 =>
 (bd (bop prog .mul 3 (V.int .i64 5) (gv st9 3)) fun v30 =>
 (bd (bop prog .add 3 (V.int .i64 3) v30) fun v31 =>
 (bd (bslV prog 55 1 [(0, v31)]) fun p32 =>
 (bd (app 3 1 (S.own 3 1 l29) p32.2) fun l33 =>
 (bd (some (((lsl (gv st9 2))).length - 0)) fun n34 =>
 (bdS (nv v24) fun n35 =>
 (bd (sliceP 1 n35 n34 (none : Option Nat) true (V.row (hh10).length 1 0 ((lsl (gv st9 2))).length)) fun v36 =>
 (bdS (slcH (hh10 ++ [(HB.row 3 1 (lsl (gv st9 2)) true)]) v36) fun p37 =>
 (if (55 = 55 /\ (p37.1 = 1 \/ (p37.2).isEmpty = true)) then
 (bd (app 3 1 (S.own 3 1 l33) p37.2) fun l38 =>
 (bd (bop prog .add 3 (gv st9 3) (V.int .i64 1)) fun v39 =>
 (next11 [(V.sl 1 (lsl (gv st9 0)) false), (V.sl 1 (lsl (gv st9 1)) false), (V.sl 1 l38 false), v39] (hh10 ++ [(HB.row 3 1 (lsl (gv st9 2)) true)])))) else none)))))))))) else none))))))))) else none)))
 else
 (bd (some (((lsl (gv st9 2))).length - 0)) fun n40 =>
 (bd (sliceP 1 0 0 (none : Option Nat) true (V.row (hh10).length 1 0 ((lsl (gv st9 2))).length)) fun v41 =>
 (bdS (slcH (hh10 ++ [(HB.row 3 1 (lsl (gv st9 2)) true)]) v41) fun p42 =>
 (if (55 = 55 /\ (p42.1 = 1 \/ (p42.2).isEmpty = true)) then
 (bd (app 3 1 (S.own 3 1 []) p42.2) fun l43 =>
 (bd (bop prog .mul 3 (V.int .i64 5) (gv st9 3)) fun v44 =>
 (bd (bop prog .add 3 (V.int .i64 3) v44) fun v45 =>
 (bd (bslV prog 55 1 [(0, v45)]) fun p46 =>
 (bd (app 3 1 (S.own 3 1 l43) p46.2) fun l47 =>
 (bd (some (((lsl (gv st9 2))).length - 0)) fun n48 =>
 (bd (sliceP 1 0 n48 (none : Option Nat) true (V.row (hh10).length 1 0 ((lsl (gv st9 2))).length)) fun v49 =>
 (bdS (slcH (hh10 ++ [(HB.row 3 1 (lsl (gv st9 2)) true)]) v49) fun p50 =>
 (if (55 = 55 /\ (p50.1 = 1 \/ (p50.2).isEmpty = true)) then
 (bd (app 3 1 (S.own 3 1 l47) p50.2) fun l51 =>
 (bd (bop prog .add 3 (gv st9 3) (V.int .i64 1)) fun v52 =>
 (next11 [(V.sl 1 (lsl (gv st9 0)) false), (V.sl 1 (lsl (gv st9 1)) false), (V.sl 1 l51 false), v52] (hh10 ++ [(HB.row 3 1 (lsl (gv st9 2)) true)])))) else none))))))))) else none))))))
 else
 (bd (evBsL [(some (V.int .i64 m)), (valB hh10 v7)]) fun a53 => bd (mm false a53) fun v54 =>
 (bd (some (((lsl (gv st9 2))).length - 0)) fun n55 =>
 (bdS (nv v54) fun n56 =>
 (bd (sliceP 1 0 n56 (none : Option Nat) true (V.row (hh10).length 1 0 ((lsl (gv st9 2))).length)) fun v57 =>
 (bd (bop prog .mul 3 (V.int .i64 5) v7) fun v58 =>
 (bd (bop prog .add 3 (V.int .i64 3) v58) fun v59 =>
 (bdS (nv v59) fun n60 =>
 (bdS (nv v59) fun n61 =>
 (if (n60 <= n61 /\ n61 < lim /\ 1 = 1) then
 (if (1 = 1 /\ 2 < ((List.replicate n60 [(V.int .i64 0)])).length /\ (some 67 : Option Nat) ≠ some 12) then
 (bd ((List.replicate n60 [(V.int .i64 0)]))[2]? fun es62 =>
 (loopx n (lChain_l63 n c cb v57) [(V.sl 1 (lsl (gv st9 0)) false), (V.sl 1 (lsl (gv st9 1)) false), (V.sl 1 (((List.replicate n60 [(V.int .i64 0)])).set 2 (setR es62 0 [(V.int .i64 50)])) false), (V.int .i64 0), (V.bool false)] (hh10 ++ [(HB.row 3 1 (lsl (gv st9 2)) true)]))) else none) else none)))))))))))
noncomputable def lChain_l205 (n : Nat) (c : List (List V)) (cb : Bool) (v201 : V) (st206 : List V) (hh207 : Heap) (next208 : List V -> Heap -> Option (Res × Heap)) : Option (Res × Heap) :=
 (bd (slcH hh207 v201) fun p209 =>
 (bd (bop prog .lss 3 (gv st206 3) (V.int .i64 ((p209.2).length : Int))) fun v210 =>
 (bv v210 fun b211 => if b211 then
 (bd (bop prog .eql 3 (gv st206 3) (V.int .i64 0)) fun v212 =>
 (bv v212 fun b213 => if b213 then
 (bd (idxP 1 0 v201) fun p214 =>
 (bd3 (cellsP hh207 p214) fun cs216 m215 o217 => if (o217 + 1 <= m215 /\ 0 < 1) then
 (bd (cs216)[o217]? fun v218 =>
 (if (1 = 1 /\ 1 < ((lsl (gv st206 2))).length /\ (some 80 : Option Nat) ≠ some 12) then
 (if ((V.cells v218)).length = 1 then
 (if (1 = 1 /\ 0 < 1 /\ 0 + ((V.cells v218)).length <= 1) then
 (bd ((lsl (gv st206 2)))[1]? fun es219 =>
 (bdS (nv (gv st206 3)) fun n220 =>
 (bd (idxP 1 n220 v201) fun p221 =>
 (bd3 (cellsP hh207 p221) fun cs223 m222 o224 => if (o224 + 1 <= m222 /\ 0 < 1) then
 (bd (cs223)[o224]? fun v225 =>
 (bd (bop prog .add 3 v225 (V.int .i64 1)) fun v226 =>
 (bdS (nv v226) fun n227 =>
 (if (1 = 1 /\ n227 < ((((lsl (gv st206 2))).set 1 (setR es219 0 (V.cells v218)))).length /\ (some 99 : Option Nat) ≠ some 12) then
 (bd ((((lsl (gv st206 2))).set 1 (setR es219 0 (V.cells v218))))[n227]? fun es228 =>
 (bd (bop prog .lss 3 (gv st206 3) (V.int .i64 ((c).length : Int))) fun v229 =>
 (bv v229 fun b230 => if b230 then
 (bdS (nv (gv st206 3)) fun n231 =>
 (bd (idxP 1 n231 v201) fun p232 =>
 (bd3 (cellsP hh207 p232) fun cs234 m233 o235 => if (o235 + 1 <= m233 /\ 0 < 1) then
 (bd (cs234)[o235]? fun v236 =>
 (bd (bop prog .add 3 v236 (V.int .i64 2)) fun v237 =>
 (bdS (nv (gv st206 3)) fun n238 =>
 (bd (idxP 1 n238 (V.sl 1 c cb)) fun p239 =>
 (bd3 (cellsP hh207 p239) fun cs241 m240 o242 => if (o242 + 1 <= m240 /\ 0 < 1) then
 (bd (cs241)[o242]? fun v243 =>
 (bd (bop prog .rem 5 v243 (V.int .u8 60)) fun v244 =>
 (bd (cvt prog 5 2 v244) fun v245 =>
 (bdS (nv v237) fun n246 =>
 (if (1 = 1 /\ n246 < ((((((lsl (gv st206 2))).set 1 (setR es219 0 (V.cells v218)))).set n227 (setR es228 0 [(V.int .i64 1)]))).length /\ (some 116 : Option Nat) ≠ some 12) then
 (if ((V.cells v245)).length = 1 then
 (if (1 = 1 /\ 0 < 1 /\ 0 + ((V.cells v245)).length <= 1) then
 (bd ((((((lsl (gv st206 2))).set 1 (setR es219 0 (V.cells v218)))).set n227 (setR es228 0 [(V.int .i64 1)])))[n246]? fun es247 =>
 (bd (bop prog .add 3 (gv st206 3) (V.int .i64 1)) fun v248 =>
 (next208 [(V.sl 1 (lsl (gv st206 0)) false), (V.sl 1 (lsl (gv st206 1)) false), (V.sl 1 (((((((lsl (gv st206 2))).set 1 (setR es219 0 (V.cells v218)))).set n227 (setR es228 0 [(V.int .i64 1)]))).set n246 (setR es247 0 (V.cells v245))) false), v248, (V.bool false)] hh207))) else none) else none) else none))))) else none))))) else none)))
 else
 (bd (bop prog .add 3 (gv st206 3) (V.int .i64 1)) fun v249 =>
 (next208 [(V.sl 1 (lsl (gv st206 0)) false), (V.sl 1 (lsl (gv st206 1)) false), (V.sl 1 (((((lsl (gv st206 2))).set 1 (setR es219 0 (V.cells v218)))).set n227 (setR es228 0 [(V.int .i64 1)])) false), v249, (V.bool false)] hh207))))) else none)))) else none)))) else none) else none) else none)) else none))
 else
 (bd (bop prog .sub 3 (gv st206 3) (V.int .i64 1)) fun v250 =>
 (bdS (nv v250) fun n251 =>
 (bd (idxP 1 n251 v201) fun p252 =>
 (bd3 (cellsP hh207 p252) fun cs254 m253 o255 => if (o255 + 1 <= m253 /\ 0 < 1) then
 (bd (cs254)[o255]? fun v256 =>
 (bd (bop prog .add 3 v256 (V.int .i64 3)) fun v257 =>
 (bdS (nv (gv st206 3)) fun n258 =>
 (bd (idxP 1 n258 v201) fun p259 =>
 (bd3 (cellsP hh207 p259) fun cs261 m260 o262 => if (o262 + 1 <= m260 /\ 0 < 1) then
 (bd (cs261)[o262]? fun v263 =>
 (bdS (nv v257) fun n264 =>
 (if (1 = 1 /\ n264 < ((lsl (gv st206 2))).length /\ (some 92 : Option Nat) ≠ some 12) then
 (if ((V.cells v263)).length = 1 then
 (if (1 = 1 /\ 0 < 1 /\ 0 + ((V.cells v263)).length <= 1) then
 (bd ((lsl (gv st206 2)))[n264]? fun es265 =>
 (bdS (nv (gv st206 3)) fun n266 =>
 (bd (idxP 1 n266 v201) fun p267 =>
 (bd3 (cellsP hh207 p267) fun cs269 m268 o270 => if (o270 + 1 <= m268 /\ 0 < 1) then
 (bd (cs269)[o270]? fun v271 =>
 (bd (bop prog .add 3 v271 (V.int .i64 1)) fun v272 =>
 (bdS (nv v272) fun n273 =>
 (if (1 = 1 /\ n273 < ((((lsl (gv st206 2))).set n264 (setR es265 0 (V.cells v263)))).length /\ (some 99 : Option Nat) ≠ some 12) then
 (bd ((((lsl (gv st206 2))).set n264 (setR es265 0 (V.cells v263))))[n273]? fun es274 =>
 (bd (bop prog .lss 3 (gv st206 3) (V.int .i64 ((c).length : Int))) fun v275 =>
 (bv v275 fun b276 => if b276 then
 (bdS (nv (gv st206 3)) fun n277 =>
 (bd (idxP 1 n277 v201) fun p278 =>
 (bd3 (cellsP hh207 p278) fun cs280 m279 o281 => if (o281 + 1 <= m279 /\ 0 < 1) then
 (bd (cs280)[o281]? fun v282 =>
 (bd (bop prog .add 3 v282 (V.int .i64 2)) fun v283 =>
 (bdS (nv (gv st206 3)) fun n284 =>
 (bd (idxP 1 n284 (V.sl 1 c cb)) fun p285 =>
 (bd3 (cellsP hh207 p285) fun cs287 m286 o288 => if (o288 + 1 <= m286 /\ 0 < 1) then
 (bd (cs287)[o288]? fun v289 =>
 (bd (bop prog .rem 5 v289 (V.int .u8 60)) fun v290 =>
 (bd (cvt prog 5 2 v290) fun v291 =>
 (bdS (nv v283) fun n292 =>
 (if (1 = 1 /\ n292 < ((((((lsl (gv st206 2))).set n264 (setR es265 0 (V.cells v263)))).set n273 (setR es274 0 [(V.int .i64 1)]))).length /\ (some 116 : Option Nat) ≠ some 12) then
 (if ((V.cells v291)).length = 1 then
 (if (1 = 1 /\ 0 < 1 /\ 0 + ((V.cells v291)).length <= 1) then
 (bd ((((((lsl (gv st206 2))).set n264 (setR es265 0 (V.cells v263)))).set n273 (setR es274 0 [(V.int .i64 1)])))[n292]? fun es293 =>
 (bd (bop prog .add 3 (gv st206 3) (V.int .i64 1)) fun v294 =>
 (next208 [(V.sl 1 (lsl (gv st206 0)) false), (V.sl 1 (lsl (gv st206 1)) false), (V.sl 1 (((((((lsl (gv st206 2))).set n264 (setR es265 0 (V.cells v263)))).set n273 (setR es274 0 [(V.int .i64 1)]))).set n292 (setR es293 0 (V.cells v291))) false), v294, (V.bool false)] hh207))) else none) else none) else none))))) else none))))) else none)))
 else
 (bd (bop prog .add 3 (gv st206 3) (V.int .i64 1)) fun v295 =>
 (next208 [(V.sl 1 (lsl (gv st206 0)) false), (V.sl 1 (lsl (gv st206 1)) false), (V.sl 1 (((((lsl (gv st206 2))).set n264 (setR es265 0 (V.cells v263)))).set n273 (setR es274 0 [(V.int .i64 1)])) false), v295, (V.bool false)] hh207))))) else none)))) else none)))) else none) else none) else none))) else none))))) else none))))))
 else
 some (Res.ret [(V.row (hh207).length 1 0 ((lsl (gv st206 2))).length), v201], (hh207 ++ [(HB.row 2 1 (lsl (gv st206 2)) true)])))))
noncomputable def lChain_l154 (n : Nat) (c : List (List V)) (cb : Bool) (m : Int) (st155 : List V) (hh156 : Heap) (next157 : List V -> Heap -> Option (Res × Heap)) : Option (Res × Heap) :=
 (bd (bop prog .lss 3 (gv st155 3) (V.int .i64 1)) fun v158 =>
 (bv v158 fun b159 => if b159 then
 (bd (bop prog .lss 3 (gv st155 3) (V.int .i64 ((c).length : Int))) fun v160 =>
 (bv v160 fun b161 => if b161 then
 (bdS (nv (gv st155 3)) fun n162 =>
 (bd (idxP 1 n162 (V.sl 1 c cb)) fun p163 =>
 (bd3 (cellsP hh156 p163) fun cs165 m164 o166 => if (o166 + 1 <= m164 /\ 0 < 1) then
 (bd (cs165)[o166]? fun v167 =>
 (bd (cvt prog 5 3 v167) fun v168 =>
 (bd (bop prog .add 3 (gv st155 3) (V.int .i64 1)) fun v169 =>
 (bd (bop prog .rem 3 v168 v169) fun v170 =>
 (bd (some (((lsl (gv st155 2))).length - 0)) fun n171 =>
 (bdS (nv v170) fun n172 =>
 (bd (sliceP 1 0 n172 (none : Option Nat) true (V.row (hh156).length 1 0 ((lsl (gv st155 2))).length)) fun v173 =>
 (bdS (slcH (hh156 ++ [(HB.row 3 1 (lsl (gv st155 2)) true)]) v173) fun p174 =>
 (if (55 = 55 /\ (p174.1 = 1 \/ (p174.2).isEmpty = true)) then
 (bd (app 3 1 (S.own 3 1 []) p174.2) fun l175 =>
 (bd (bop prog .mul 3 (V.int .i64 5) (gv st155 3)) fun v176 =>
 (bd (bop prog .add 3 (V.int .i64 3) v176) fun v177 =>
 (bd (bslV prog 55 1 [(0, v177)]) fun p178 =>
 (bd (app 3 1 (S.own 3 1 l175) p178.2) fun l179 =>
 (bd (some (((lsl (gv st155 2))).length - 0)) fun n180 =>
 (bdS (nv v170) fun n181 =>
 (bd (sliceP 1 n181 n180 (none : Option Nat) true (V.row (hh156).length 1 0 ((lsl (gv st155 2))).length)) fun v182 =>
 (bdS (slcH (hh156 ++ [(HB.row 3 1 (lsl (gv st155 2)) true)]) v182) fun p183 =>
 (if (55 = 55 /\ (p183.1 = 1 \/ (p183.2).isEmpty = true)) then
 (bd (app 3 1 (S.own 3 1 l179) p183.2) fun l184 =>
 (bd (bop prog .add 3 (gv st155 3) (V.int .i64 1)) fun v185 =>
 (next157 [(V.sl 1 (lsl (gv st155 0)) false), (V.sl 1 (lsl (gv st155 1)) false), (V.sl 1 l184 false), v185] (hh156 ++ [(HB.row 3 1 (lsl (gv st155 2)) true)])))) else none)))))))))) else none))))))))) else none)))
 else
 (bd (some (((lsl (gv st155 2))).length - 0)) fun n186 =>
 (bd (sliceP 1 0 0 (none : Option Nat) true (V.row (hh156).length 1 0 ((lsl (gv st155 2))).length)) fun v187 =>
 (bdS (slcH (hh156 ++ [(HB.row 3 1 (lsl (gv st155 2)) true)]) v187) fun p188 =>
 (if (55 = 55 /\ (p188.1 = 1 \/ (p188.2).isEmpty = true)) then
 (bd (app 3 1 (S.own 3 1 []) p188.2) fun l189 =>
 (bd (bop prog .mul 3 (V.int .i64 5) (gv st155 3)) fun v190 =>
 (bd (bop prog .add 3 (V.int .i64 3) v190) fun v191 =>
 (bd (bslV prog 55 1 [(0, v191)]) fun p192 =>
 (bd (app 3 1 (S.own 3 1 l189) p192.2) fun l193 =>
 (bd (some (((lsl (gv st155 2))).length - 0)) fun n194 =>
 (bd (sliceP 1 0 n194 (none : Option Nat) true (V.row (hh156).length 1 0 ((lsl (gv st155 2))).length)) fun v195 =>
 (bdS (slcH (hh156 ++ [(HB.row 3 1 (lsl (gv st155 2)) true)]) v195) fun p196 =>
 (if (55 = 55 /\ (p196.1 = 1 \/ (p196.2).isEmpty = true)) then
 (bd (app 3 1 (S.own 3 1 l193) p196.2) fun l197 =>
 (bd (bop prog .add 3 (gv st155 3) (V.int .i64 1)) fun v198 =>
 (next157 [(V.sl 1 (lsl (gv st155 0)) false), (V.sl 1 (lsl (gv st155 1)) false), (V.sl 1 l197 false), v198] (hh156 ++ [(HB.row 3 1 (lsl (gv st155 2)) true)])))) else none))))))))) else none))))))
 else
 (bd (some (((lsl (gv st155 2))).length - 0)) fun n199 =>
 (bdS (nv (V.int .i64 (if 1 < m then 1 else m))) fun n200 =>
 (bd (sliceP 1 0 n200 (none : Option Nat) true (V.row (hh156).length 1 0 ((lsl (gv st155 2))).length)) fun v201 =>
 (bdS (nv (V.int .i64 (IntKind.i64.wrap (3 + (IntKind.i64.wrap (5 * 1)))))) fun n202 =>
 (bdS (nv (V.int .i64 (IntKind.i64.wrap (3 + (IntKind.i64.wrap (5 * 1)))))) fun n203 =>
 (if (n202 <= n203 /\ n203 < lim /\ 1 = 1) then
 (if (1 = 1 /\ 2 < ((List.replicate n202 [(V.int .i64 0)])).length /\ (some 67 : Option Nat) ≠ some 12) then
 (bd ((List.replicate n202 [(V.int .i64 0)]))[2]? fun es204 =>
 (loopx n (lChain_l205 n c cb v201) [(V.sl 1 (lsl (gv st155 0)) false), (V.sl 1 (lsl (gv st155 1)) false), (V.sl 1 (((List.replicate n202 [(V.int .i64 0)])).set 2 (setR es204 0 [(V.int .i64 50)])) false), (V.int .i64 0), (V.bool false)] (hh156 ++ [(HB.row 3 1 (lsl (gv st155 2)) true)]))) else none) else none))))))))
noncomputable def lChain (n : Nat) (c : List (List V)) (cb : Bool) (m : Int) (h : Heap) : Option (Res × Heap) :=
 (if (decide (((c).length : Int) > 0)) then
 (bd (idxP 1 0 (V.sl 1 c cb)) fun p0 =>
 (bd3 (cellsP h p0) fun cs2 m1 o3 => if (o3 + 1 <= m1 /\ 0 < 1) then
 (bd (cs2)[o3]? fun v4 =>
 (bd (bop prog .rem 5 v4 (V.int .u8 9)) fun v5 =>
 (bd (cvt prog 5 3 v5) fun v6 =>
 (bd (bop prog .add 3 (V.int .i64 1) v6) fun v7 =>
 (loopx n (lChain_l8 n c cb m v7) [(V.sl 1 [] false), (V.sl 1 [] false), (V.sl 1 [] false), (V.int .i64 0)] h))))) else none))
 else
 (loopx n (lChain_l154 n c cb m) [(V.sl 1 [] false), (V.sl 1 [] false), (V.sl 1 [] false), (V.int .i64 0)] h))
theorem lChain_eq (n : Nat) (c : List (List V)) (cb : Bool) (m : Int) (h : Heap) : call (n + 1) 31 [(V.sl 1 c cb), (V.int .i64 m)] h = lChain n c cb m h := by kernel_rfl
noncomputable def lServe_l0 (n : Nat) (m : Nat) (o : Nat) (p : Int) (k : Int) (st1 : List V) (hh2 : Heap) (next3 : List V -> Heap -> Option (Res × Heap)) : Option (Res × Heap) :=
 (bd (bop prog .lss 3 (gv st1 4) (V.int .i64 k)) fun v4 =>
 (bv v4 fun b5 => if b5 then
 (cl (call n 50 [(V.agg (((lcs (gv st1 2))).drop 0 |>.take 13))] hh2) (fun r6 h7 =>
 (one1 r6 fun v9 =>
 (bv v9 fun b10 => if b10 then
 (cl (call n 38 [(V.ptr m 0), (V.ptr o 0), (V.int .i64 p), (V.agg (((lcs (gv st1 2))).drop 0 |>.take 13))] h7) (fun r11 h12 =>
 (bd (r11)[0]? fun v14 =>
 (bd (r11)[1]? fun v15 =>
 (if ((V.cells v14)).length = 13 then
 (if (((V.cells v14)).length <= 13) then
 (if ((((setR [(V.int .i64 0), (V.int .i64 0), (V.int .i64 0), (V.int .i64 0), (V.int .i64 0), (V.int .i64 0), (V.int .i64 0), (V.int .i64 0), (V.int .i64 0), (V.int .i64 0), (V.int .i64 0), (V.int .i64 0), (V.sl 0 [] true)] 0 (V.cells v14))).drop 0 |>.take 13)).length = 13 then
 (if (((((setR [(V.int .i64 0), (V.int .i64 0), (V.int .i64 0), (V.int .i64 0), (V.int .i64 0), (V.int .i64 0), (V.int .i64 0), (V.int .i64 0), (V.int .i64 0), (V.int .i64 0), (V.int .i64 0), (V.int .i64 0), (V.sl 0 [] true)] 0 (V.cells v14))).drop 0 |>.take 13)).length <= 13) then
 (bdS (slcH h12 v15) fun p16 =>
 (if (63 = 63 /\ (p16.1 = 3 \/ (p16.2).isEmpty = true)) then
 (bd (app 87 3 (S.own 87 3 (lsl (gv st1 3))) p16.2) fun l17 =>
 (bd (bop prog .add 3 (gv st1 4) (V.int .i64 1)) fun v18 =>
 (next3 [(V.agg (lcs (gv st1 0))), (V.sl 3 (lsl (gv st1 1)) false), (V.agg (setR (lcs (gv st1 2)) 0 (((setR [(V.int .i64 0), (V.int .i64 0), (V.int .i64 0), (V.int .i64 0), (V.int .i64 0), (V.int .i64 0), (V.int .i64 0), (V.int .i64 0), (V.int .i64 0), (V.int .i64 0), (V.int .i64 0), (V.int .i64 0), (V.sl 0 [] true)] 0 (V.cells v14))).drop 0 |>.take 13))), (V.sl 3 l17 false), v18] h12))) else none)) else none) else none) else none) else none)))) (fun z13 h12 => some (Res.pan z13, h12)))
 else
 (if ((((lcs (gv st1 2))).drop 0 |>.take 13)).length = 13 then
 (if (((((lcs (gv st1 2))).drop 0 |>.take 13)).length <= 13) then
 some (Res.ret [(V.agg (((setR (lcs (gv st1 0)) 0 (((lcs (gv st1 2))).drop 0 |>.take 13))).drop 0 |>.take 13)), (V.sl 3 (lsl (gv st1 3)) false)], h7) else none) else none)))) (fun z8 h7 => some (Res.pan z8, h7)))
 else
 (if ((((lcs (gv st1 2))).drop 0 |>.take 13)).length = 13 then
 (if (((((lcs (gv st1 2))).drop 0 |>.take 13)).length <= 13) then
 some (Res.ret [(V.agg (((setR (lcs (gv st1 0)) 0 (((lcs (gv st1 2))).drop 0 |>.take 13))).drop 0 |>.take 13)), (V.sl 3 (lsl (gv st1 3)) false)], hh2) else none) else none)))
noncomputable def lServe (n : Nat) (m : Nat) (o : Nat) (p : Int) (k : Int) (h : Heap) : Option (Res × Heap) :=
 (loopx n (lServe_l0 n m o p k) [(V.agg [(V.int .i64 0), (V.int .i64 0), (V.int .i64 0), (V.int .i64 0), (V.int .i64 0), (V.int .i64 0), (V.int .i64 0), (V.int .i64 0), (V.int .i64 0), (V.int .i64 0), (V.int .i64 0), (V.int .i64 0), (V.sl 0 [] true)]), (V.sl 3 [] false), (V.agg [(V.int .i64 0), (V.int .i64 20), (V.int .i64 0), (V.int .i64 0), (V.int .i64 0), (V.int .i64 0), (V.int .i64 0), (V.int .i64 0), (V.int .i64 0), (V.int .i64 0), (V.int .i64 0), (V.int .i64 0), (V.sl 0 [] true)]), (V.sl 3 [] false), (V.int .i64 0)] h)
theorem lServe_eq (n : Nat) (m : Nat) (o : Nat) (p : Int) (k : Int) (h : Heap) : call (n + 1) 33 [(V.ptr m 0), (V.ptr o 0), (V.int .i64 p), (V.int .i64 k)] h = lServe n m o p k h := by kernel_rfl
noncomputable def r14Place_l0 (n : Nat) (lv : V) (x : Int) (st1 : List V) (hh2 : Heap) (next3 : List V -> Heap -> Option (Res × Heap)) : Option (Res × Heap) :=
 (bd (slcH hh2 lv) fun p4 =>
 (bd (bop prog .lss 3 (gv st1 1) (V.int .i64 ((p4.2).length : Int))) fun v5 =>
 (bv v5 fun b6 => if b6 then
 (bdS (nv (gv st1 1)) fun n7 =>
 (bd (idxP 1 n7 lv) fun p8 =>
 (bd3 (cellsP hh2 p8) fun cs10 m9 o11 => if (o11 + 1 <= m9 /\ 0 < 1) then
 (bd (cs10)[o11]? fun v12 =>
 (bd (bop prog .eql 3 v12 (V.int .i64 x)) fun v13 =>
 (bv v13 fun b14 => if b14 then
 some (Res.ret [(gv st1 1)], hh2)
 else
 (bd (bop prog .add 3 (gv st1 1) (V.int .i64 1)) fun v15 =>
 (next3 [(gv st1 0), v15] hh2))))) else none)))
 else
 some (Res.ret [(V.int .i64 (-1))], hh2))))
noncomputable def r14Place (n : Nat) (lv : V) (x : Int) (h : Heap) : Option (Res × Heap) :=
 (loopx n (r14Place_l0 n lv x) [(V.int .i64 0), (V.int .i64 0)] h)
theorem r14Place_eq (n : Nat) (lv : V) (x : Int) (h : Heap) : call (n + 1) 45 [lv, (V.int .i64 x)] h = r14Place n lv x h := by kernel_rfl
noncomputable def lawOr_l72 (n : Nat) (v40 : V) (v49 : V) (st73 : List V) (hh74 : Heap) (next75 : List V -> Heap -> Option (Res × Heap)) : Option (Res × Heap) :=
 (bd (slcH hh74 v49) fun p76 =>
 (bd (bop prog .lss 3 (gv st73 5) (V.int .i64 ((p76.2).length : Int))) fun v77 =>
 (bv v77 fun b78 => if b78 then
 (bdS (nv (gv st73 5)) fun n79 =>
 (bd (idxP 3 n79 v49) fun p80 =>
 (bd (addP 0 p80) fun p81 =>
 (bd3 (cellsP hh74 p81) fun cs83 m82 o84 => if (o84 + 1 <= m82 /\ 0 < 1) then
 (bd (cs83)[o84]? fun v85 =>
 (bd (bslV prog 55 1 [(0, v85)]) fun p86 =>
 (bd (app 3 1 (S.own 3 1 (lsl (gv st73 4))) p86.2) fun l87 =>
 (bd (bop prog .add 3 (gv st73 5) (V.int .i64 1)) fun v88 =>
 (next75 [(V.sl 1 (lsl (gv st73 0)) false), (V.agg (lcs (gv st73 1))), (V.agg (lcs (gv st73 2))), (V.sl 1 (lsl (gv st73 3)) false), (V.sl 1 l87 false), v88, (V.bool false), (V.bool false)] hh74))))) else none))))
 else
 (cl (call n 35 [] hh74) (fun r89 h90 =>
 (one1 r89 fun v92 =>
 (bv v92 fun b93 => if b93 then
 (cl (call n 49 [(V.sl 1 (lsl (gv st73 4)) false), (V.sl 1 (lsl (gv st73 3)) false)] h90) (fun r94 h95 =>
 (one1 r94 fun v97 =>
 (bv v97 fun b98 => if b98 then
 (cl (call n 20 [v40] h95) (fun r99 h100 =>
 (one1 r99 fun v102 =>
 (bd (slcH h100 v102) fun p103 =>
 some (Res.ret [(V.bool (((p103.2).length : Int) == (((lsl (gv st73 3))).length : Int)))], h100)))) (fun z101 h100 => some (Res.pan z101, h100)))
 else
 some (Res.ret [(V.bool false)], h95)))) (fun z96 h95 => some (Res.pan z96, h95)))
 else
 some (Res.ret [(V.bool false)], h90)))) (fun z91 h90 => some (Res.pan z91, h90))))))
noncomputable def lawOr_l56 (n : Nat) (v4 : V) (v40 : V) (v49 : V) (st57 : List V) (hh58 : Heap) (next59 : List V -> Heap -> Option (Res × Heap)) : Option (Res × Heap) :=
 (bd (bop prog .geq 3 (gv st57 4) (V.int .i64 0)) fun v60 =>
 (bv v60 fun b61 => if b61 then
 (bdS (nv (gv st57 4)) fun n62 =>
 (if (1 = 1 /\ n62 < ((lsl (gv st57 0))).length /\ (some 80 : Option Nat) ≠ some 7) then
 (bd ((lsl (gv st57 0)))[n62]? fun es63 =>
 (bd (es63)[0]? fun v64 =>
 (bd (bslV prog 55 1 [(0, v64)]) fun p65 =>
 (bd (app 3 1 (S.own 3 1 (lsl (gv st57 3))) p65.2) fun l66 =>
 (bd (bop prog .sub 3 (gv st57 4) (V.int .i64 1)) fun v67 =>
 (next59 [(V.sl 1 (lsl (gv st57 0)) false), (V.agg (lcs (gv st57 1))), (V.agg (lcs (gv st57 2))), (V.sl 1 l66 false), v67, (V.bool false)] hh58)))))) else none))
 else
 (bd (lenP v4) fun n68 =>
 (bd (sliceP 1 1 n68 (none : Option Nat) true v4) fun v69 =>
 (bdS (slcH hh58 v69) fun p70 =>
 (if (55 = 55 /\ (p70.1 = 1 \/ (p70.2).isEmpty = true)) then
 (bd (app 3 1 (S.own 3 1 (lsl (gv st57 3))) p70.2) fun l71 =>
 (loopx n (lawOr_l72 n v40 v49) [(V.sl 1 (lsl (gv st57 0)) false), (V.agg (lcs (gv st57 1))), (V.agg (lcs (gv st57 2))), (V.sl 1 l71 false), (V.sl 1 [] false), (V.int .i64 0), (V.bool false), (V.bool false)] hh58)) else none))))))
noncomputable def lawOr_l5 (n : Nat) (v3 : V) (v4 : V) (st6 : List V) (hh7 : Heap) (next8 : List V -> Heap -> Option (Res × Heap)) : Option (Res × Heap) :=
 (bd (slcH hh7 v3) fun p9 =>
 (bd (bop prog .lss 3 (gv st6 1) (V.int .i64 ((p9.2).length : Int))) fun v10 =>
 (bv v10 fun b11 => if b11 then
 (bd (cvt prog 3 21 (gv st6 1)) fun v12 =>
 (bd (bldV prog 33 [(0, (V.int .u8 1)), (1, v12)]) fun cs13 =>
 (cl (call n 37 [(V.agg cs13)] hh7) (fun r14 h15 =>
 (one1 r14 fun v17 =>
 (bdS (nv (gv st6 1)) fun n18 =>
 (bd (idxP 1 n18 v3) fun p19 =>
 (if ((V.cells v17)).length = 1 then
 (bd2 (writeB h15 (V.cells v17) p19) fun b20 x21 =>
 (cl (call n 45 [v4, (gv st6 1)] ((h15).set b20 x21)) (fun r22 h23 =>
 (one1 r22 fun v25 =>
 (bd (bop prog .lss 3 v25 (V.int .i64 0)) fun v26 =>
 (bv v26 fun b27 => if b27 then
 (bd (bslV prog 55 1 [(0, (gv st6 1))]) fun p28 =>
 (bd (app 3 1 (S.own 3 1 (lsl (gv st6 0))) p28.2) fun l29 =>
 (bd (bop prog .add 3 (gv st6 1) (V.int .i64 5)) fun v30 =>
 (next8 [(V.sl 1 l29 false), v30] h23))))
 else
 (bd (bop prog .add 3 (gv st6 1) (V.int .i64 5)) fun v31 =>
 (next8 [(V.sl 1 (lsl (gv st6 0)) false), v31] h23)))))) (fun z24 h23 => some (Res.pan z24, h23)))) else none))))) (fun z16 h15 => some (Res.pan z16, h15)))))
 else
 (cl (call n 32 [v3] hh7) (fun r32 h33 =>
 (bd (r32)[0]? fun v35 =>
 (bd (r32)[1]? fun v36 =>
 (if ((V.cells v36)).length = 3 then
 (if (((V.cells v36)).length <= 3) then
 (cl (call n 15 [(V.int .u8 1), (V.int .i64 1000), (V.bool false)] h33) (fun r37 h38 =>
 (one1 r37 fun v40 =>
 (bd (bopH prog h38 .eql 58 v35 (V.val (.pointer none))) fun v41 =>
 (bv v41 fun b42 => if b42 then
 some (Res.ret [(V.bool false)], h38)
 else
 (bd (bopH prog h38 .eql 25 v40 (V.val (.pointer none))) fun v43 =>
 (bv v43 fun b44 => if b44 then
 some (Res.ret [(V.bool false)], h38)
 else
 (cl (call n 33 [v35, v40, (V.int .i64 1), (V.int .i64 400)] h38) (fun r45 h46 =>
 (bd (r45)[0]? fun v48 =>
 (bd (r45)[1]? fun v49 =>
 (if ((V.cells v48)).length = 13 then
 (if (((V.cells v48)).length <= 13) then
 (bd (idxP 1 0 v4) fun p50 =>
 (bd3 (cellsP h46 p50) fun cs52 m51 o53 => if (o53 + 1 <= m51 /\ 0 < 1) then
 (bd (cs52)[o53]? fun v54 =>
 (bd (bslV prog 55 1 [(0, v54)]) fun p55 =>
 (loopx n (lawOr_l56 n v4 v40 v49) [(V.sl 1 (lsl (gv st6 0)) false), (V.agg (setR [(V.int .i64 0), (V.sl 0 [] true), (V.int .i64 0)] 0 (V.cells v36))), (V.agg (setR [(V.int .i64 0), (V.int .i64 0), (V.int .i64 0), (V.int .i64 0), (V.int .i64 0), (V.int .i64 0), (V.int .i64 0), (V.int .i64 0), (V.int .i64 0), (V.int .i64 0), (V.int .i64 0), (V.int .i64 0), (V.sl 0 [] true)] 0 (V.cells v48))), (V.sl 1 p55.2 false), (V.int .i64 (IntKind.i64.wrap ((((lsl (gv st6 0))).length : Int) - 1))), (V.bool false)] h46))) else none)) else none) else none)))) (fun z47 h46 => some (Res.pan z47, h46))))))))) (fun z39 h38 => some (Res.pan z39, h38))) else none) else none)))) (fun z34 h33 => some (Res.pan z34, h33))))))
noncomputable def lawOr (n : Nat) (x0 : List (List V)) (x0b : Bool) (x1 : Int) : Option (Res × Heap) :=
 (cl (call n 31 [(V.sl 1 x0 x0b), (V.int .i64 (IntKind.i64.wrap (1 + (IntKind.i64.wrap (Int.tmod x1 9)))))] []) (fun r0 h1 =>
 (bd (r0)[0]? fun v3 =>
 (bd (r0)[1]? fun v4 =>
 (loopx n (lawOr_l5 n v3 v4) [(V.sl 1 [] false), (V.int .i64 3)] h1)))) (fun z2 h1 => some (Res.pan z2, h1)))
theorem lawOr_eq (n : Nat) (x0 : List (List V)) (x0b : Bool) (x1 : Int) (h : Heap) : call (n + 1) 11 [(V.sl 1 x0 x0b), (V.int .u8 x1)] h = gcw [(V.sl 1 x0 x0b), (V.int .u8 x1)] (lawOr n x0 x0b x1) h := by kernel_rfl
end Go.Proofs.Tryz
set_option linter.unusedVariables false
namespace Go.Proofs.Tryz
open Go.L
set_option maxRecDepth 100000
def ydK {R : Type} (v : V) (a : Nat -> Option R) (b : Option R) : Option R := match v with | .yld x => a x | _ => b
noncomputable def ceNew (n : Nat) (x0 : Int) (h : Heap) : Option (Res × Heap) :=
 some (Res.ret [(V.ptr (h).length 0)], (h ++ [(HB.box 3 [(V.int .i64 (if 0 < (if 1000 < x0 then 1000 else x0) then (if 1000 < x0 then 1000 else x0) else 0)), (V.sl 0 [] true), (V.int .i64 0)])]))
theorem ceNew_eq (n : Nat) (x0 : Int) (h : Heap) : call (n + 1) 71 [(V.int .i64 x0)] h = ceNew n x0 h := by kernel_rfl
noncomputable def ceCount (n : Nat) (m : Nat) (e : Nat) (h : Heap) : Option (Heap × Bool) :=
 (bd3 (cellsP h (V.ptr e 0)) fun cs1 m0 o2 => if (o2 + 1 <= m0 /\ 0 < 1) then
 (bd (cs1)[o2]? fun v3 =>
 (bd (bop prog .eql 97 v3 (V.int .u16 0)) fun v4 =>
 (bv v4 fun b5 => if b5 then
 (bd3 (cellsP h (V.ptr m 2)) fun cs7 m6 o8 => if (o8 + 1 <= m6 /\ 0 < 1) then
 (bd (cs7)[o8]? fun v9 =>
 (bd (bop prog .add 3 v9 (V.int .i64 1)) fun v10 =>
 (if ((V.cells v10)).length = 1 then
 (bd2 (writeB h (V.cells v10) (V.ptr m 2)) fun b11 x12 =>
 some (((h).set b11 x12), false)) else none))) else none)
 else
 some (h, false)))) else none)
theorem ceCount_eq (n : Nat) (m : Nat) (e : Nat) (h : Heap) : dcl n 90 [(V.ptr m 0), (V.ptr e 0)] h none = ceCount n m e h := by kernel_rfl
noncomputable def ceAt (n : Nat) (m : Nat) (a : Int) (h : Heap) : Option (Res × Heap) :=
 (bd (bopH prog h .eql 58 (V.ptr m 0) (V.val (.pointer none))) fun v0 =>
 (bv v0 fun b1 => if b1 then
 some (Res.ret [(V.val (.pointer none))], h)
 else
 (if (decide (a < 0)) then
 some (Res.ret [(V.val (.pointer none))], h)
 else
 (bd3 (cellsP h (V.ptr m 1)) fun cs3 m2 o4 => if (o4 + 1 <= m2 /\ 0 < 1) then
 (bd (cs3)[o4]? fun v5 =>
 (bd (slcH h v5) fun p6 =>
 (if (decide (a ≥ ((p6.2).length : Int))) then
 some (Res.ret [(V.val (.pointer none))], h)
 else
 (bd3 (cellsP h (V.ptr m 1)) fun cs8 m7 o9 => if (o9 + 1 <= m7 /\ 0 < 1) then
 (bd (cs8)[o9]? fun v10 =>
 (bdS (nv (V.int .i64 a)) fun n11 =>
 (bd (idxP 1 n11 v10) fun p12 =>
 some (Res.ret [p12], h)))) else none)))) else none))))
theorem ceAt_eq (n : Nat) (m : Nat) (a : Int) (h : Heap) : call (n + 1) 89 [(V.ptr m 0), (V.int .i64 a)] h = ceAt n m a h := by kernel_rfl
noncomputable def ceAlloc (n : Nat) (m : Nat) (k : Int) (h : Heap) : Option (Res × Heap) :=
 (if (decide (k < 0)) then
 some (Res.ret [(V.int .i64 0), (V.int .u16 1)], h)
 else
 (bd (bopH prog h .eql 58 (V.ptr m 0) (V.val (.pointer none))) fun v0 =>
 (bv v0 fun b1 => if b1 then
 (if (decide (k > 0)) then
 some (Res.ret [(V.int .i64 0), (V.int .u16 11)], h)
 else
 some (Res.ret [(V.int .i64 0), (V.int .u16 0)], h))
 else
 (bd3 (cellsP (h ++ [(HB.box 1 [(V.int .u16 0)])]) (V.ptr m 1)) fun cs3 m2 o4 => if (o4 + 1 <= m2 /\ 0 < 1) then
 (bd (cs3)[o4]? fun v5 =>
 (bd (slcH (h ++ [(HB.box 1 [(V.int .u16 0)])]) v5) fun p6 =>
 (bd3 (cellsP (h ++ [(HB.box 1 [(V.int .u16 0)])]) (V.ptr m 0)) fun cs8 m7 o9 => if (o9 + 1 <= m7 /\ 0 < 1) then
 (bd (cs8)[o9]? fun v10 =>
 (bd (bop prog .sub 3 v10 (V.int .i64 ((p6.2).length : Int))) fun v11 =>
 (bd (bop prog .gtr 3 (V.int .i64 k) v11) fun v12 =>
 (bv v12 fun b13 => if b13 then
 (bd2 (writeB (h ++ [(HB.box 1 [(V.int .u16 0)])]) [(V.int .u16 11)] (V.ptr (h).length 0)) fun b14 x15 =>
 (bd2 (dcl n 90 [(V.ptr m 0), (V.ptr (h).length 0)] (((h ++ [(HB.box 1 [(V.int .u16 0)])])).set b14 x15) none) fun h16 b17 =>
 (bd3 (cellsP h16 (V.ptr (h).length 0)) fun cs19 m18 o20 => if (o20 + 1 <= m18 /\ 0 < 1) then
 (bd (cs19)[o20]? fun v21 =>
 some (Res.ret [(V.int .i64 0), v21], h16)) else none)))
 else
 (bd3 (cellsP (h ++ [(HB.box 1 [(V.int .u16 0)])]) (V.ptr m 1)) fun cs23 m22 o24 => if (o24 + 1 <= m22 /\ 0 < 1) then
 (bd (cs23)[o24]? fun v25 =>
 (bdS (nv (V.int .i64 k)) fun n26 =>
 (if (n26 < lim /\ 1 = 1) then (if (nilS v25 = true /\ 0 < n26) then
 (bd2 (writeB ((h ++ [(HB.box 1 [(V.int .u16 0)])]) ++ [(HB.row 2 1 (List.replicate n26 [(V.int .i64 0)]) true)]) [(V.row ((h ++ [(HB.box 1 [(V.int .u16 0)])])).length 1 0 ((List.replicate n26 [(V.int .i64 0)])).length)] (V.ptr m 1)) fun b29 x30 =>
 (bd2 (writeB ((((h ++ [(HB.box 1 [(V.int .u16 0)])]) ++ [(HB.row 2 1 (List.replicate n26 [(V.int .i64 0)]) true)])).set b29 x30) [(V.int .u16 0)] (V.ptr (h).length 0)) fun b31 x32 =>
 (bd2 (dcl n 90 [(V.ptr m 0), (V.ptr (h).length 0)] ((((((h ++ [(HB.box 1 [(V.int .u16 0)])]) ++ [(HB.row 2 1 (List.replicate n26 [(V.int .i64 0)]) true)])).set b29 x30)).set b31 x32) none) fun h33 b34 =>
 (bd3 (cellsP h33 (V.ptr (h).length 0)) fun cs36 m35 o37 => if (o37 + 1 <= m35 /\ 0 < 1) then
 (bd (cs36)[o37]? fun v38 =>
 some (Res.ret [(V.int .i64 ((p6.2).length : Int)), v38], h33)) else none))))
 else if (true = true /\ isRow v25 = true) then (bd2 (appP 2 1 (h ++ [(HB.box 1 [(V.int .u16 0)])]) (List.replicate n26 [(V.int .i64 0)]) v25) fun v27 h28 =>
 (if ((V.cells v27)).length = 1 then
 (bd2 (writeB h28 (V.cells v27) (V.ptr m 1)) fun b39 x40 =>
 (bd2 (writeB ((h28).set b39 x40) [(V.int .u16 0)] (V.ptr (h).length 0)) fun b41 x42 =>
 (bd2 (dcl n 90 [(V.ptr m 0), (V.ptr (h).length 0)] ((((h28).set b39 x40)).set b41 x42) none) fun h43 b44 =>
 (bd3 (cellsP h43 (V.ptr (h).length 0)) fun cs46 m45 o47 => if (o47 + 1 <= m45 /\ 0 < 1) then
 (bd (cs46)[o47]? fun v48 =>
 some (Res.ret [(V.int .i64 ((p6.2).length : Int)), v48], h43)) else none)))) else none)) else none) else none))) else none))))) else none))) else none))))
theorem ceAlloc_eq (n : Nat) (m : Nat) (k : Int) (h : Heap) : call (n + 1) 74 [(V.ptr m 0), (V.int .i64 k)] h = ceAlloc n m k h := by kernel_rfl
noncomputable def ceLoad (n : Nat) (m : Nat) (a : Int) (h : Heap) : Option (Res × Heap) :=
 (cl (call n 89 [(V.ptr m 0), (V.int .i64 a)] h) (fun r0 h1 =>
 (one1 r0 fun v3 =>
 (bd (bopH prog h1 .eql 167 v3 (V.val (.pointer none))) fun v4 =>
 (bv v4 fun b5 => if b5 then
 some (Res.ret [(V.int .i64 0), (V.int .u16 10)], h1)
 else
 (bd (addP 0 v3) fun p6 =>
 (bd3 (cellsP (h1 ++ [(HB.box 1 [(V.int .u16 0)])]) p6) fun cs8 m7 o9 => if (o9 + 1 <= m7 /\ 0 < 1) then
 (bd (cs8)[o9]? fun v10 =>
 (bd2 (writeB (h1 ++ [(HB.box 1 [(V.int .u16 0)])]) [(V.int .u16 0)] (V.ptr (h1).length 0)) fun b11 x12 =>
 (bd2 (dcl n 90 [(V.ptr m 0), (V.ptr (h1).length 0)] (((h1 ++ [(HB.box 1 [(V.int .u16 0)])])).set b11 x12) none) fun h13 b14 =>
 (bd3 (cellsP h13 (V.ptr (h1).length 0)) fun cs16 m15 o17 => if (o17 + 1 <= m15 /\ 0 < 1) then
 (bd (cs16)[o17]? fun v18 =>
 some (Res.ret [v10, v18], h13)) else none)))) else none)))))) (fun z2 h1 => some (Res.pan z2, h1)))
theorem ceLoad_eq (n : Nat) (m : Nat) (a : Int) (h : Heap) : call (n + 1) 51 [(V.ptr m 0), (V.int .i64 a)] h = ceLoad n m a h := by kernel_rfl
noncomputable def ceStore (n : Nat) (m : Nat) (a : Int) (v : Int) (h : Heap) : Option (Res × Heap) :=
 (cl (call n 89 [(V.ptr m 0), (V.int .i64 a)] h) (fun r0 h1 =>
 (one1 r0 fun v3 =>
 (bd (bopH prog h1 .eql 167 v3 (V.val (.pointer none))) fun v4 =>
 (bv v4 fun b5 => if b5 then
 some (Res.ret [(V.int .u16 10)], h1)
 else
 (bd (addP 0 v3) fun p6 =>
 (bd2 (writeB (h1 ++ [(HB.box 1 [(V.int .u16 0)])]) [(V.int .i64 v)] p6) fun b7 x8 =>
 (bd2 (writeB (((h1 ++ [(HB.box 1 [(V.int .u16 0)])])).set b7 x8) [(V.int .u16 0)] (V.ptr (h1).length 0)) fun b9 x10 =>
 (bd2 (dcl n 90 [(V.ptr m 0), (V.ptr (h1).length 0)] (((((h1 ++ [(HB.box 1 [(V.int .u16 0)])])).set b7 x8)).set b9 x10) none) fun h11 b12 =>
 (bd3 (cellsP h11 (V.ptr (h1).length 0)) fun cs14 m13 o15 => if (o15 + 1 <= m13 /\ 0 < 1) then
 (bd (cs14)[o15]? fun v16 =>
 some (Res.ret [v16], h11)) else none))))))))) (fun z2 h1 => some (Res.pan z2, h1)))
theorem ceStore_eq (n : Nat) (m : Nat) (a : Int) (v : Int) (h : Heap) : call (n + 1) 52 [(V.ptr m 0), (V.int .i64 a), (V.int .i64 v)] h = ceStore n m a v h := by kernel_rfl
noncomputable def ceSwap (n : Nat) (m : Nat) (a : Int) (u : Int) (v : Int) (h : Heap) : Option (Res × Heap) :=
 (cl (call n 89 [(V.ptr m 0), (V.int .i64 a)] h) (fun r0 h1 =>
 (one1 r0 fun v3 =>
 (bd (bopH prog h1 .eql 167 v3 (V.val (.pointer none))) fun v4 =>
 (bv v4 fun b5 => if b5 then
 some (Res.ret [(V.bool false), (V.int .u16 10)], h1)
 else
 (bd (addP 0 v3) fun p6 =>
 (bd3 (cellsP (h1 ++ [(HB.box 1 [(V.int .u16 0)])]) p6) fun cs8 m7 o9 => if (o9 + 1 <= m7 /\ 0 < 1) then
 (bd (cs8)[o9]? fun v10 =>
 (bd (bop prog .neq 2 v10 (V.int .i64 u)) fun v11 =>
 (bv v11 fun b12 => if b12 then
 (bd2 (writeB (h1 ++ [(HB.box 1 [(V.int .u16 0)])]) [(V.int .u16 0)] (V.ptr (h1).length 0)) fun b13 x14 =>
 (bd2 (dcl n 90 [(V.ptr m 0), (V.ptr (h1).length 0)] (((h1 ++ [(HB.box 1 [(V.int .u16 0)])])).set b13 x14) none) fun h15 b16 =>
 (bd3 (cellsP h15 (V.ptr (h1).length 0)) fun cs18 m17 o19 => if (o19 + 1 <= m17 /\ 0 < 1) then
 (bd (cs18)[o19]? fun v20 =>
 some (Res.ret [(V.bool false), v20], h15)) else none)))
 else
 (bd (addP 0 v3) fun p21 =>
 (bd2 (writeB (h1 ++ [(HB.box 1 [(V.int .u16 0)])]) [(V.int .i64 v)] p21) fun b22 x23 =>
 (bd2 (writeB (((h1 ++ [(HB.box 1 [(V.int .u16 0)])])).set b22 x23) [(V.int .u16 0)] (V.ptr (h1).length 0)) fun b24 x25 =>
 (bd2 (dcl n 90 [(V.ptr m 0), (V.ptr (h1).length 0)] (((((h1 ++ [(HB.box 1 [(V.int .u16 0)])])).set b22 x23)).set b24 x25) none) fun h26 b27 =>
 (bd3 (cellsP h26 (V.ptr (h1).length 0)) fun cs29 m28 o30 => if (o30 + 1 <= m28 /\ 0 < 1) then
 (bd (cs29)[o30]? fun v31 =>
 some (Res.ret [(V.bool true), v31], h26)) else none)))))))) else none)))))) (fun z2 h1 => some (Res.pan z2, h1)))
theorem ceSwap_eq (n : Nat) (m : Nat) (a : Int) (u : Int) (v : Int) (h : Heap) : call (n + 1) 147 [(V.ptr m 0), (V.int .i64 a), (V.int .i64 u), (V.int .i64 v)] h = ceSwap n m a u v h := by kernel_rfl
noncomputable def ceCells (n : Nat) (m : Nat) (h : Heap) : Option (Res × Heap) :=
 (bd (bopH prog h .eql 58 (V.ptr m 0) (V.val (.pointer none))) fun v0 =>
 (bv v0 fun b1 => if b1 then
 some (Res.ret [(V.sl 1 [] false)], h)
 else
 (bd3 (cellsP h (V.ptr m 1)) fun cs3 m2 o4 => if (o4 + 1 <= m2 /\ 0 < 1) then
 (bd (cs3)[o4]? fun v5 =>
 (bd (slcH h v5) fun p6 =>
 (if ((p6.1 = 1 \/ (p6.2).isEmpty = true) /\ (p6.2).length < lim) then
 some (Res.ret [(V.sl 1 p6.2 false)], h) else none))) else none)))
theorem ceCells_eq (n : Nat) (m : Nat) (h : Heap) : call (n + 1) 34 [(V.ptr m 0)] h = ceCells n m h := by kernel_rfl
noncomputable def ceTop (n : Nat) (m : Nat) (h : Heap) : Option (Res × Heap) :=
 (cl (call n 34 [(V.ptr m 0)] h) (fun r0 h1 =>
 (one1 r0 fun v3 =>
 (bd (slcH h1 v3) fun p4 =>
 some (Res.ret [(V.int .i64 ((p4.2).length : Int))], h1)))) (fun z2 h1 => some (Res.pan z2, h1)))
theorem ceTop_eq (n : Nat) (m : Nat) (h : Heap) : call (n + 1) 146 [(V.ptr m 0)] h = ceTop n m h := by kernel_rfl
noncomputable def rcMany (n : Nat) (m : Nat) (h : Heap) : Option (Res × Heap) :=
 (cl (call n 146 [(V.ptr m 0)] h) (fun r0 h1 =>
 (one1 r0 fun v3 =>
 (bd (bop prog .sub 3 v3 (V.int .i64 3)) fun v4 =>
 (bd (evBsL [(some (V.int .i64 0)), (valB h1 v4)]) fun a5 => bd (mm true a5) fun v6 =>
 (bd (bop prog .quo 3 v6 (V.int .i64 5)) fun v7 =>
 some (Res.ret [v7], h1)))))) (fun z2 h1 => some (Res.pan z2, h1)))
theorem rcMany_eq (n : Nat) (m : Nat) (h : Heap) : call (n + 1) 135 [(V.ptr m 0)] h = rcMany n m h := by kernel_rfl
noncomputable def rcBase (n : Nat) (x0 : Int) (h : Heap) : Option (Res × Heap) :=
 (if (decide (x0 < 0)) then
 some (Res.ret [(V.int .i64 0)], h)
 else
 (if (decide (x0 > 1000)) then
 some (Res.ret [(V.int .i64 0)], h)
 else
 some (Res.ret [(V.int .i64 (IntKind.i64.wrap (3 + (IntKind.i64.wrap (5 * x0)))))], h)))
theorem rcBase_eq (n : Nat) (x0 : Int) (h : Heap) : call (n + 1) 137 [(V.int .i64 x0)] h = rcBase n x0 h := by kernel_rfl
noncomputable def wdAsks (n : Nat) (x0 : Int) (h : Heap) : Option (Res × Heap) :=
 some (Res.ret [(V.bool (decide (x0 > 0)))], h)
theorem wdAsks_eq (n : Nat) (x0 : Int) (h : Heap) : call (n + 1) 139 [(V.int .i64 x0)] h = wdAsks n x0 h := by kernel_rfl
noncomputable def wdPack (n : Nat) (x0 : Int) (x1 : Int) (h : Heap) : Option (Res × Heap) :=
 some (Res.ret [(V.int .i64 (IntKind.i64.wrap ((IntKind.i64.wrap ((IntKind.i64.wrap ((IntKind.i64.wrap ((IntKind.i64.wrap x1) + 2147483648)) * 256)) + (IntKind.i64.wrap x0))) + 1)))], h)
theorem wdPack_eq (n : Nat) (x0 : Int) (x1 : Int) (h : Heap) : call (n + 1) 150 [(V.int .u8 x0), (V.int .i32 x1)] h = wdPack n x0 x1 h := by kernel_rfl
noncomputable def wdRes (n : Nat) (x0_0 : Int) (x0_1 : Int) : Option (Res × Heap) :=
 (cl (call n 150 [(V.int .u8 x0_0), (V.int .i32 x0_1)] []) (fun r0 h1 =>
 (one1 r0 fun v3 =>
 some (Res.ret [v3], h1))) (fun z2 h1 => some (Res.pan z2, h1)))
theorem wdRes_eq (n : Nat) (x0_0 : Int) (x0_1 : Int) (h : Heap) : call (n + 1) 142 [(V.agg [(V.int .u8 x0_0), (V.int .i32 x0_1)])] h = gcw [(V.agg [(V.int .u8 x0_0), (V.int .i32 x0_1)])] (wdRes n x0_0 x0_1) h := by kernel_rfl
noncomputable def wdUnpack (n : Nat) (w : Int) (h : Heap) : Option (Res × Heap) :=
 (if (decide (w < 1)) then
 some (Res.ret [(V.agg [(V.int .u8 0), (V.int .i32 0)]), (V.bool false)], h)
 else
 (if (decide (w > 1099511627776)) then
 some (Res.ret [(V.agg [(V.int .u8 0), (V.int .i32 0)]), (V.bool false)], h)
 else
 (cl (call n 149 [(V.int .u8 (IntKind.u8.wrap (Int.tmod (IntKind.i64.wrap (w - 1)) 256))), (V.int .i32 (IntKind.i32.wrap (IntKind.i64.wrap ((IntKind.i64.wrap (Int.tdiv (IntKind.i64.wrap (w - 1)) 256)) - 2147483648))))] h) (fun r0 h1 =>
 (one1 r0 fun v3 =>
 (if ((V.cells v3)).length = 2 then
 (if (((V.cells v3)).length <= 2) then
 some (Res.ret [(V.agg (((setR [(V.int .u8 0), (V.int .i32 0)] 0 (V.cells v3))).drop 0 |>.take 2)), (V.bool true)], h1) else none) else none))) (fun z2 h1 => some (Res.pan z2, h1)))))
theorem wdUnpack_eq (n : Nat) (w : Int) (h : Heap) : call (n + 1) 148 [(V.int .i64 w), (V.fn 149 [])] h = wdUnpack n w h := by kernel_rfl
noncomputable def wdOf1 (n : Nat) (x0 : Int) (x1 : Int) (h : Heap) : Option (Res × Heap) :=
 some (Res.ret [(V.agg [(V.int .u8 x0), (V.int .i32 x1)])], h)
theorem wdOf1_eq (n : Nat) (x0 : Int) (x1 : Int) (h : Heap) : call (n + 1) 149 [(V.int .u8 x0), (V.int .i32 x1)] h = wdOf1 n x0 x1 h := by kernel_rfl
noncomputable def wdOfOp (n : Nat) (x0 : Int) (h : Heap) : Option (Res × Heap) :=
 (cl (call n 148 [(V.int .i64 x0), (V.fn 149 [])] h) (fun r0 h1 =>
 (bd (r0)[0]? fun v3 =>
 (bd (r0)[1]? fun v4 =>
 (if ((V.cells v3)).length = 2 then
 (if (((V.cells v3)).length <= 2) then
 some (Res.ret [(V.agg (((setR [(V.int .u8 0), (V.int .i32 0)] 0 (V.cells v3))).drop 0 |>.take 2)), v4], h1) else none) else none)))) (fun z2 h1 => some (Res.pan z2, h1)))
theorem wdOfOp_eq (n : Nat) (x0 : Int) (h : Heap) : call (n + 1) 141 [(V.int .i64 x0)] h = wdOfOp n x0 h := by kernel_rfl
noncomputable def r1Op (n : Nat) (x0_0 : Int) (x0_1 : Int) (h : Heap) : Option (Res × Heap) :=
 some (Res.ret [(V.int .i64 (IntKind.i64.wrap ((IntKind.i64.wrap ((IntKind.i64.wrap (256 * (IntKind.i64.wrap ((IntKind.i64.wrap x0_1) + 2147483648)))) + (IntKind.i64.wrap x0_0))) + 1)))], h)
theorem r1Op_eq (n : Nat) (x0_0 : Int) (x0_1 : Int) (h : Heap) : call (n + 1) 37 [(V.agg [(V.int .u8 x0_0), (V.int .i32 x0_1)])] h = r1Op n x0_0 x0_1 h := by kernel_rfl
noncomputable def obNewS (n : Nat) (m : Int) (p : Bool) (h : Heap) : Option (Res × Heap) :=
 (mapAt ((h ++ [(HB.map [])]))[(h).length]? fun es0 => (bd (kds prog 12 5) fun ksr1 => bd (findI ksr1 (V.int .u8 1) es0 0) fun r1 => if (((V.int .u8 1)).one = !false /\ ((V.int .u8 1)).cells.length = ksr1.length) then
 (mapAt ((((h ++ [(HB.map [])])).set (h).length (HB.map (upd es0 (V.int .u8 1) (V.fn 56 []) r1))))[(h).length]? fun es3 => (bd (kds prog 12 5) fun ksr4 => bd (findI ksr4 (V.int .u8 2) es3 0) fun r4 => if (((V.int .u8 2)).one = !false /\ ((V.int .u8 2)).cells.length = ksr4.length) then
 (mapAt ((((((h ++ [(HB.map [])])).set (h).length (HB.map (upd es0 (V.int .u8 1) (V.fn 56 []) r1)))).set (h).length (HB.map (upd es3 (V.int .u8 2) (V.fn 58 []) r4))))[(h).length]? fun es6 => (bd (kds prog 12 5) fun ksr7 => bd (findI ksr7 (V.int .u8 3) es6 0) fun r7 => if (((V.int .u8 3)).one = !false /\ ((V.int .u8 3)).cells.length = ksr7.length) then
 (bdS (mapOf (((((((h ++ [(HB.map [])])).set (h).length (HB.map (upd es0 (V.int .u8 1) (V.fn 56 []) r1)))).set (h).length (HB.map (upd es3 (V.int .u8 2) (V.fn 58 []) r4)))).set (h).length (HB.map (upd es6 (V.int .u8 3) (V.fn 60 []) r7))) (V.map (h).length)) fun es9 =>
 (bd (kds prog 12 5) fun ksr10 => bdS (findI ksr10 (V.int .u8 1) es9 0) fun r10 => bd (entryV es9 (V.val .nilFunc) r10) fun v11 => if (((V.int .u8 1)).one = !false /\ ((V.int .u8 1)).cells.length = ksr10.length /\ false = false) then
 (bd (bopN prog (((((((h ++ [(HB.map [])])).set (h).length (HB.map (upd es0 (V.int .u8 1) (V.fn 56 []) r1)))).set (h).length (HB.map (upd es3 (V.int .u8 2) (V.fn 58 []) r4)))).set (h).length (HB.map (upd es6 (V.int .u8 3) (V.fn 60 []) r7))) .eql 106 true v11 (V.val .nilFunc)) fun v12 =>
 (bv v12 fun b13 => if b13 then
 some (Res.ret [(V.val (.pointer none))], (((((((h ++ [(HB.map [])])).set (h).length (HB.map (upd es0 (V.int .u8 1) (V.fn 56 []) r1)))).set (h).length (HB.map (upd es3 (V.int .u8 2) (V.fn 58 []) r4)))).set (h).length (HB.map (upd es6 (V.int .u8 3) (V.fn 60 []) r7))))
 else
 (ydK v11 (fun b31 => bd2 (rnd n b31 [(V.int .i64 m)] (((((((h ++ [(HB.map [])])).set (h).length (HB.map (upd es0 (V.int .u8 1) (V.fn 56 []) r1)))).set (h).length (HB.map (upd es3 (V.int .u8 2) (V.fn 58 []) r4)))).set (h).length (HB.map (upd es6 (V.int .u8 3) (V.fn 60 []) r7)))) fun t32 h33 =>
 (cl (call n 62 [] h33) (fun r34 h35 =>
 (one1 r34 fun v37 =>
 (bd (bldV prog 125 [(0, (V.bool t32)), (1, v37), (2, (V.bool p))]) fun cs38 =>
 (if (cs38).length = 3 then
 some (Res.ret [(V.ptr (h35).length 0)], (h35 ++ [(HB.box 3 cs38)])) else none)))) (fun z36 h35 => some (Res.pan z36, h35))))
 (fnK v11 fun f14 c15 => if (okV prog 108 f14 = true) then (if keepS f14 then
 (cl (call n f14 ([(V.int .i64 m)] ++ c15) (((((((h ++ [(HB.map [])])).set (h).length (HB.map (upd es0 (V.int .u8 1) (V.fn 56 []) r1)))).set (h).length (HB.map (upd es3 (V.int .u8 2) (V.fn 58 []) r4)))).set (h).length (HB.map (upd es6 (V.int .u8 3) (V.fn 60 []) r7)))) (fun r16 h17 =>
 (one1 r16 fun v19 =>
 (cl (call n 62 [] h17) (fun r20 h21 =>
 (one1 r20 fun v23 =>
 (bd (bldV prog 125 [(0, v19), (1, v23), (2, (V.bool p))]) fun cs24 =>
 (if (cs24).length = 3 then
 some (Res.ret [(V.ptr (h21).length 0)], (h21 ++ [(HB.box 3 cs24)])) else none)))) (fun z22 h21 => some (Res.pan z22, h21))))) (fun z18 h17 => some (Res.pan z18, h17)))
 else if pureS f14 then
 (cl (call n f14 ([(V.int .i64 m)] ++ c15) (((((((h ++ [(HB.map [])])).set (h).length (HB.map (upd es0 (V.int .u8 1) (V.fn 56 []) r1)))).set (h).length (HB.map (upd es3 (V.int .u8 2) (V.fn 58 []) r4)))).set (h).length (HB.map (upd es6 (V.int .u8 3) (V.fn 60 []) r7)))) (fun r16 h17 => if V.simple.simpleL r16 then
 (one1 r16 fun v25 =>
 (cl (call n 62 [] h17) (fun r26 h27 =>
 (one1 r26 fun v29 =>
 (bd (bldV prog 125 [(0, v25), (1, v29), (2, (V.bool p))]) fun cs30 =>
 (if (cs30).length = 3 then
 some (Res.ret [(V.ptr (h27).length 0)], (h27 ++ [(HB.box 3 cs30)])) else none)))) (fun z28 h27 => some (Res.pan z28, h27)))) else none) (fun z18 h17 => if z18.simple then some (Res.pan z18, h17) else none))
 else none) else none)))) else none)) else none)) else none)) else none))
theorem obNewS_eq (n : Nat) (m : Int) (p : Bool) (h : Heap) : call (n + 1) 15 [(V.int .u8 1), (V.int .i64 m), (V.bool p)] h = obNewS n m p h := by kernel_rfl
end Go.Proofs.Tryz
set_option linter.unusedVariables false
namespace Go.Proofs.Tryz
open Go.L
set_option maxRecDepth 100000
noncomputable def coinNew (n : Nat) (h : Heap) : Option (Res × Heap) :=
 some (Res.ret [(V.ptr (h).length 0)], (h ++ [(HB.box 1 [(V.sl 0 [] true)])]))
theorem coinNew_eq (n : Nat) (h : Heap) : call (n + 1) 62 [] h = coinNew n h := by kernel_rfl
end Go.Proofs.Tryz
set_option linter.unusedVariables false
set_option linter.unusedSimpArgs false
namespace Go.L
theorem rowOf_at {h : Heap} {b e sz lo hi : Nat} {l : List (List V)} {z : Bool} (hb : h[b]? = some (.row e sz l z)) (h1 : lo <= hi) (h2 : hi <= l.length) : rowOf h b sz lo hi = some ((l.take hi).drop lo) := by
  simp only [rowOf, hb]
  rw [if_pos ⟨trivial, h1, h2⟩]
theorem rowOf_all {h : Heap} {b e sz : Nat} {l : List (List V)} {z : Bool} (hb : h[b]? = some (.row e sz l z)) : rowOf h b sz 0 l.length = some l := by
  rw [rowOf_at hb (Nat.zero_le _) (Nat.le_refl _), List.take_length, List.drop_zero]
theorem slcH_row {h : Heap} {b e sz lo hi : Nat} {l : List (List V)} {z : Bool} (hb : h[b]? = some (.row e sz l z)) (h1 : lo <= hi) (h2 : hi <= l.length) : slcH h (.row b sz lo hi) = some (sz, (l.take hi).drop lo) := by
  simp only [slcH, rowOf_at hb h1 h2, Option.map_some]
theorem slcH_all {h : Heap} {b e sz : Nat} {l : List (List V)} {z : Bool} (hb : h[b]? = some (.row e sz l z)) : slcH h (.row b sz 0 l.length) = some (sz, l) := by
  simp only [slcH, rowOf_all hb, Option.map_some]
theorem lenP_row (b sz lo hi : Nat) : lenP (.row b sz lo hi) = some (hi - lo) := rfl
theorem sliceP_row {r sz u v a b : Nat} (h1 : a <= b) (h2 : b <= v - u) (ok : Bool) : sliceP sz a b none ok (.row r sz u v) = some (.row r sz (u + a) (u + b)) := by
  simp only [sliceP]
  rw [if_pos ⟨⟨h1, h2, trivial⟩, trivial⟩]
theorem idxP_row {b sz lo hi n : Nat} (h : n < hi - lo) : idxP sz n (.row b sz lo hi) = some (.rptr b sz (lo + n) 0) := by
  simp only [idxP]
  rw [if_pos ⟨trivial, h⟩]
theorem cellsP_rptr {h : Heap} {b e sz i c : Nat} {l : List (List V)} {z : Bool} {es : List V} (hb : h[b]? = some (.row e sz l z)) (h0 : 0 < sz) (hi : l[i]? = some es) : cellsP h (.rptr b sz i c) = some (es, sz, c) := by
  simp only [cellsP, hb]
  rw [if_pos ⟨trivial, h0⟩]
  simp only [hi]
theorem writeB_rptr {h : Heap} {b e sz i c : Nat} {l : List (List V)} {z : Bool} {es vs : List V} (hb : h[b]? = some (.row e sz l z)) (h0 : 0 < sz) (hc : c + vs.length <= sz) (hi : l[i]? = some es) : writeB h vs (.rptr b sz i c) = some (b, .row e sz (l.set i (setR es c vs)) z) := by
  simp only [writeB, hb]
  rw [if_pos ⟨trivial, h0, hc⟩]
  simp only [hi]
end Go.L
set_option linter.unusedVariables false
set_option linter.unusedSimpArgs false
namespace Go.L
theorem writeB_box {h : Heap} {b n o : Nat} {cs vs : List V} (hb : h[b]? = some (.box n cs)) (ho : o + vs.length <= n) : writeB h vs (.ptr b o) = some (b, .box n (setR cs o vs)) := by
  simp only [writeB, hb]
  rw [if_pos ho]
theorem set_at {h : Heap} {b : Nat} (hb : b < h.length) (x : HB) : (h.set b x)[b]? = some x := List.getElem?_set_self hb
theorem lt_of_at {h : Heap} {b : Nat} {x : HB} (hb : h[b]? = some x) : b < h.length := (List.getElem?_eq_some_iff.1 hb).1
end Go.L
namespace Go.Sk
open Go.L
end Go.Sk
namespace Go.Proofs.Tryz
open Go.L Go.Rp Go.Sk
set_option maxRecDepth 100000
structure Fed (h h' : Heap) (c : Nat) (cb cb' : Option Nat) : Prop where
  len : h.length <= h'.length
  old : ∀ i, i < h.length -> i ≠ c -> cb ≠ some i -> h'[i]? = h[i]?
  own : ∀ b, cb' = some b -> cb = some b \/ h.length <= b
theorem Fed.refl (h : Heap) (c : Nat) (cb : Option Nat) : Fed h h c cb cb := ⟨Nat.le_refl _, fun _ _ _ _ => rfl, fun _ h => .inl h⟩
theorem Fed.trans {h h' h'' : Heap} {c : Nat} {cb cb' cb'' : Option Nat} (a : Fed h h' c cb cb') (b : Fed h' h'' c cb' cb'') : Fed h h'' c cb cb'' :=
  ⟨Nat.le_trans a.len b.len, fun i h1 h2 h3 => (b.old i (by have := a.len; omega) h2 fun e => by rcases a.own i e with h | h; exact h3 h; omega).trans (a.old i h1 h2 h3), fun x hx => by
    rcases b.own x hx with h | h
    · exact a.own x h
    · exact .inr (by have := a.len; omega)⟩
theorem coin_new_call (n : Nat) (h : Heap) : call (n + 1) 62 [] h = some (.ret [.ptr h.length 0], h ++ [.box 1 [.sl 0 [] true]]) := coinNew_eq n h
end Go.Proofs.Tryz
set_option linter.unusedVariables false
set_option linter.unusedSimpArgs false
namespace Go.Cm
open Go.L
def cel (x : Int) : List V := [.int .i64 x]
def cget (l : List Int) (a : Int) : Option Int := if a < 0 then none else l[a.toNat]?
def ldV (l : List Int) (a : Int) : Int := (cget l a).getD 0
def inc (st : Int) : Int := IntKind.i64.wrap (st + 1)
def ldS (l : List Int) (a st : Int) : Int := if (cget l a).isSome then inc st else st
def stL (l : List Int) (a v : Int) : List Int := if a < 0 then l else l.set a.toNat v
theorem stL_len (l : List Int) (a v : Int) : (stL l a v).length = l.length := by unfold stL; split <;> simp
theorem stL_none {l : List Int} {a : Int} (h : cget l a = none) (v : Int) : stL l a v = l := by
  unfold cget at h
  unfold stL
  split
  · rfl
  · rename_i h0
    rw [if_neg h0] at h
    exact List.set_eq_of_length_le (List.getElem?_eq_none_iff.1 h)
theorem stL_some {l : List Int} {a x : Int} (h : cget l a = some x) (v : Int) : stL l a v = l.set a.toNat v /\ 0 <= a /\ l[a.toNat]? = some x := by
  unfold cget at h
  split at h
  · cases h
  · rename_i h0
    exact ⟨by unfold stL; rw [if_neg h0], by omega, h⟩
structure Fr (h h' : Heap) (w : List Nat) : Prop where
  len : h.length <= h'.length
  old : ∀ i, i < h.length -> i ∉ w -> h'[i]? = h[i]?
theorem Fr.refl (h : Heap) (w : List Nat) : Fr h h w := ⟨Nat.le_refl _, fun _ _ _ => rfl⟩
theorem Fr.trans {h h' h'' : Heap} {w : List Nat} (a : Fr h h' w) (b : Fr h' h'' w) : Fr h h'' w :=
  ⟨Nat.le_trans a.len b.len, fun i h1 h2 => (b.old i (by have := a.len; omega) h2).trans (a.old i h1 h2)⟩
theorem Fr.mono {h h' : Heap} {w w' : List Nat} (a : Fr h h' w) (hw : ∀ i ∈ w, i ∈ w') : Fr h h' w' := ⟨a.len, fun i h1 h2 => a.old i h1 fun e => h2 (hw i e)⟩
theorem Fr.set {h : Heap} {b : Nat} (x : HB) {w : List Nat} (hb : b ∈ w) : Fr h (h.set b x) w :=
  ⟨by simp, fun i _ h2 => List.getElem?_set_ne (by rintro rfl; exact h2 hb)⟩
theorem Fr.app {h : Heap} (l : Heap) (w : List Nat) : Fr h (h ++ l) w := ⟨by simp, fun i h1 _ => List.getElem?_append_left h1⟩
end Go.Cm
namespace Go.Proofs.Tryz
open Go.L Go.Rp Go.Cm
set_option maxRecDepth 100000
theorem cgt_row {l : List Int} {a x : Int} (h : cget l a = some x) : (l.map cel)[a.toNat]? = some (cel x) := by
  rw [List.getElem?_map, (stL_some h 0).2.2]; rfl
theorem mapOf_c (h : Heap) (es : List (V × V)) : mapOf (h ++ [.map es]) (.map h.length) = some es := by simp [mapOf]
def MemAt (h : Heap) (m rb : Nat) (sz : Int) (l : List Int) (st : Int) : Prop :=
  m ≠ rb /\ h[m]? = some (.box 3 [.int .i64 sz, .row rb 1 0 l.length, .int .i64 st]) /\ ∃ z, h[rb]? = some (.row 2 1 (l.map cel) z)
theorem MemAt.keep {h h' : Heap} {m rb : Nat} {sz : Int} {l : List Int} {st : Int} (A : MemAt h m rb sz l st) (h1 : h'[m]? = h[m]?) (h2 : h'[rb]? = h[rb]?) : MemAt h' m rb sz l st := by
  obtain ⟨a, b, z, c⟩ := A
  exact ⟨a, h1.trans b, z, h2.trans c⟩
theorem MemAt.lt {h : Heap} {m rb : Nat} {sz : Int} {l : List Int} {st : Int} (A : MemAt h m rb sz l st) : m < h.length /\ rb < h.length := by
  obtain ⟨a, b, z, c⟩ := A
  exact ⟨lt_of_at b, lt_of_at c⟩
theorem MemAt.fr {h h' : Heap} {m rb : Nat} {sz : Int} {l : List Int} {st : Int} (A : MemAt h m rb sz l st) {w : List Nat} (F : Fr h h' w) (h1 : m ∉ w) (h2 : rb ∉ w) : MemAt h' m rb sz l st :=
  A.keep (F.old _ A.lt.1 h1) (F.old _ A.lt.2 h2)
theorem bop_mem_nil (h : Heap) (c : Nat) : bopH prog h .eql 58 (V.ptr c 0) (V.val (.pointer none)) = some (.bool false) := by kernel_rfl
theorem bop_cel_nil (h : Heap) (b sz i c : Nat) : bopH prog h .eql 167 (V.rptr b sz i c) (V.val (.pointer none)) = some (.bool false) := by kernel_rfl
theorem bop_cel_nn (h : Heap) : bopH prog h .eql 167 (V.val (.pointer none)) (V.val (.pointer none)) = some (.bool true) := by kernel_rfl
theorem bop_err (a : Int) : bop prog .eql 97 (.int .u16 a) (.int .u16 0) = some (.bool (a == 0)) := by kernel_rfl
theorem bop_c64_eql (a b : Int) : bop prog .eql 2 (.int .i64 a) (.int .i64 b) = some (.bool (a == b)) := by kernel_rfl
theorem bop_c64_neq (a b : Int) : bop prog .neq 2 (.int .i64 a) (.int .i64 b) = some (.bool (a != b)) := by kernel_rfl
theorem bop_c64_add (a b : Int) : bop prog .add 2 (.int .i64 a) (.int .i64 b) = some (.int .i64 (IntKind.i64.wrap (a + b))) := by kernel_rfl
theorem ce_count (n : Nat) {h : Heap} {m e : Nat} {a b : V} {st x : Int} (hm : h[m]? = some (.box 3 [a, b, .int .i64 st])) (he : h[e]? = some (.box 1 [.int .u16 x])) :
    dcl n 90 [.ptr m 0, .ptr e 0] h none = some (if x = 0 then h.set m (.box 3 [a, b, .int .i64 (inc st)]) else h, false) := by
  rw [ceCount_eq]
  unfold ceCount
  rw [cellsP_box he, bd3_some, if_pos (by decide)]
  simp only [List.getElem?_cons_zero, bd_some]
  rw [bop_err, bd_some, bv_bool]
  by_cases hx : x = 0
  · subst hx
    rw [if_pos (by rfl), if_pos rfl, cellsP_box hm, bd3_some, if_pos (by decide)]
    simp only [List.getElem?_cons_zero, List.getElem?_cons_succ, bd_some]
    rw [bop_i64_add, bd_some]
    simp only [V.cells, List.length_cons, List.length_nil, Nat.zero_add, if_true]
    rw [writeB_box hm (by simp), bd2_some]
    rfl
  · rw [if_neg (by simpa using hx), if_neg hx]
theorem ce_at (n : Nat) {h : Heap} {m rb : Nat} {sz : Int} {l : List Int} {st : Int} (A : MemAt h m rb sz l st) (a : Int) :
    call (n + 1) 89 [.ptr m 0, .int .i64 a] h = some (.ret [match cget l a with | some _ => .rptr rb 1 a.toNat 0 | none => .val (.pointer none)], h) := by
  obtain ⟨h1, h2, z, h3⟩ := A
  rw [ceAt_eq]
  unfold ceAt
  rw [bop_mem_nil, bd_some, bv_bool, if_neg (by decide)]
  have hll : (l.map cel).length = l.length := List.length_map ..
  by_cases h0 : a < 0
  · rw [if_pos (by simpa using h0)]
    unfold cget
    rw [if_pos h0]
  · rw [if_neg (by simpa using h0), cellsP_box h2, bd3_some, if_pos (by decide)]
    simp only [List.getElem?_cons_zero, List.getElem?_cons_succ, bd_some]
    rw [<- hll, slcH_all h3, bd_some]
    by_cases h4 : (l.length : Int) <= a
    · rw [if_pos (by simpa using h4)]
      unfold cget
      rw [if_neg h0, List.getElem?_eq_none (by omega)]
    · rw [if_neg (by simpa using h4), bd3_some, if_pos (by decide)]
      simp only [List.getElem?_cons_zero, List.getElem?_cons_succ, bd_some]
      rw [nv_int (by omega), bdS_some, idxP_row (by omega), bd_some]
      unfold cget
      rw [if_neg h0, List.getElem?_eq_getElem (by omega), Nat.zero_add]
theorem ce_load (n : Nat) {h : Heap} {m rb : Nat} {sz : Int} {l : List Int} {st : Int} (A : MemAt h m rb sz l st) (a : Int) :
    ∃ h' e, call (n + 2) 51 [.ptr m 0, .int .i64 a] h = some (.ret [.int .i64 (ldV l a), .int .u16 e], h') /\ MemAt h' m rb sz l (ldS l a st) /\ Fr h h' [m] := by
  rw [show n + 2 = (n + 1) + 1 from rfl, ceLoad_eq]
  unfold ceLoad
  rw [ce_at n A, cl_ret, one1_one]
  unfold ldV ldS
  cases hg : cget l a with
  | none =>
    simp only
    rw [bop_cel_nn, bd_some, bv_bool, if_pos rfl]
    exact ⟨_, _, rfl, A, .refl _ _⟩
  | some x =>
    have A0 := A
    obtain ⟨h1, h2, z, h3⟩ := A
    simp only
    have hml := lt_of_at h2
    have hrl := lt_of_at h3
    rw [bop_cel_nil, bd_some, bv_bool, if_neg (by decide), show addP 0 (V.rptr rb 1 a.toNat 0) = some (V.rptr rb 1 a.toNat 0) from rfl, bd_some]
    have e3 : (h ++ [HB.box 1 [(V.int .u16 0)]])[rb]? = some (.row 2 1 (l.map cel) z) := by rw [List.getElem?_append_left hrl]; exact h3
    have e2 : (h ++ [HB.box 1 [(V.int .u16 0)]])[m]? = some (.box 3 [.int .i64 sz, .row rb 1 0 l.length, .int .i64 st]) := by rw [List.getElem?_append_left hml]; exact h2
    have e4 : (h ++ [HB.box 1 [(V.int .u16 0)]])[h.length]? = some (.box 1 [V.int .u16 0]) := List.getElem?_concat_length
    rw [cellsP_rptr e3 (by decide) (cgt_row hg), bd3_some, if_pos (by decide)]
    unfold cel
    simp only [List.getElem?_cons_zero, bd_some]
    rw [writeB_box e4 (by simp), bd2_some, show setR [V.int .u16 0] 0 [V.int .u16 0] = [V.int .u16 0] from rfl, show ((h ++ [HB.box 1 [V.int .u16 0]]).set h.length (HB.box 1 [V.int .u16 0])) = h ++ [HB.box 1 [V.int .u16 0]] from by rw [List.set_append_right _ _ (Nat.le_refl _)]; simp]
    rw [ce_count (n + 1) e2 e4, bd2_some, if_pos rfl]
    have e5 : ((h ++ [HB.box 1 [V.int .u16 0]]).set m (.box 3 [.int .i64 sz, .row rb 1 0 l.length, .int .i64 (inc st)]))[h.length]? = some (.box 1 [V.int .u16 0]) := by rw [List.getElem?_set_ne (by omega)]; exact e4
    rw [cellsP_box e5, bd3_some, if_pos (by decide)]
    simp only [List.getElem?_cons_zero, bd_some]
    refine ⟨_, _, rfl, ⟨h1, set_at (by simp; omega) _, z, ?_⟩, (Fr.app _ _).trans (.set _ (by simp))⟩
    rw [List.getElem?_set_ne h1]; exact e3
theorem ce_store (n : Nat) {h : Heap} {m rb : Nat} {sz : Int} {l : List Int} {st : Int} (A : MemAt h m rb sz l st) (a v : Int) :
    ∃ h' e, call (n + 2) 52 [.ptr m 0, .int .i64 a, .int .i64 v] h = some (.ret [.int .u16 e], h') /\ MemAt h' m rb sz (stL l a v) (ldS l a st) /\ Fr h h' [m, rb] := by
  rw [show n + 2 = (n + 1) + 1 from rfl, ceStore_eq]
  unfold ceStore
  rw [ce_at n A, cl_ret, one1_one]
  unfold ldS
  cases hg : cget l a with
  | none =>
    simp only
    rw [bop_cel_nn, bd_some, bv_bool, if_pos rfl, stL_none hg]
    exact ⟨_, _, rfl, A, .refl _ _⟩
  | some x =>
    obtain ⟨h1, h2, z, h3⟩ := A
    simp only
    have hml := lt_of_at h2
    have hrl := lt_of_at h3
    rw [bop_cel_nil, bd_some, bv_bool, if_neg (by decide), show addP 0 (V.rptr rb 1 a.toNat 0) = some (V.rptr rb 1 a.toNat 0) from rfl, bd_some]
    have e3 : (h ++ [HB.box 1 [(V.int .u16 0)]])[rb]? = some (.row 2 1 (l.map cel) z) := by rw [List.getElem?_append_left hrl]; exact h3
    have e2 : (h ++ [HB.box 1 [(V.int .u16 0)]])[m]? = some (.box 3 [.int .i64 sz, .row rb 1 0 l.length, .int .i64 st]) := by rw [List.getElem?_append_left hml]; exact h2
    have e4 : (h ++ [HB.box 1 [(V.int .u16 0)]])[h.length]? = some (.box 1 [V.int .u16 0]) := List.getElem?_concat_length
    rw [writeB_rptr e3 (by decide) (by simp) (cgt_row hg), bd2_some]
    have es : ((l.map cel).set a.toNat (setR (cel x) 0 [V.int .i64 v])) = (stL l a v).map cel := by
      rw [(stL_some hg v).1, List.map_set]; rfl
    rw [es]
    generalize hh1 : (h ++ [HB.box 1 [V.int .u16 0]]).set rb (.row 2 1 ((stL l a v).map cel) z) = g
    have g3 : g[rb]? = some (.row 2 1 ((stL l a v).map cel) z) := by rw [<- hh1]; exact set_at (by simp; omega) _
    have g2 : g[m]? = some (.box 3 [.int .i64 sz, .row rb 1 0 (stL l a v).length, .int .i64 st]) := by rw [<- hh1, List.getElem?_set_ne h1.symm, e2, stL_len]
    have g4 : g[h.length]? = some (.box 1 [V.int .u16 0]) := by rw [<- hh1, List.getElem?_set_ne (by omega)]; exact e4
    have gF : Fr h g [m, rb] := by rw [<- hh1]; exact (Fr.app _ _).trans (.set _ (by simp))
    rw [writeB_box g4 (by simp), bd2_some, show setR [V.int .u16 0] 0 [V.int .u16 0] = [V.int .u16 0] from rfl]
    have k2 : (g.set h.length (HB.box 1 [V.int .u16 0]))[m]? = _ := (List.getElem?_set_ne (by omega)).trans g2
    have k4 : (g.set h.length (HB.box 1 [V.int .u16 0]))[h.length]? = some (.box 1 [V.int .u16 0]) := set_at (lt_of_at g4) _
    have k3 : (g.set h.length (HB.box 1 [V.int .u16 0]))[rb]? = _ := (List.getElem?_set_ne (by omega)).trans g3
    have kF : Fr h (g.set h.length (HB.box 1 [V.int .u16 0])) [m, rb] := ⟨by simpa using gF.len, fun i q1 q2 => (List.getElem?_set_ne (by omega)).trans (gF.old i q1 q2)⟩
    rw [ce_count (n + 1) k2 k4, bd2_some, if_pos rfl]
    have e5 : ((g.set h.length (HB.box 1 [V.int .u16 0])).set m (.box 3 [.int .i64 sz, .row rb 1 0 (stL l a v).length, .int .i64 (inc st)]))[h.length]? = some (.box 1 [V.int .u16 0]) := by rw [List.getElem?_set_ne (by omega)]; exact k4
    rw [cellsP_box e5, bd3_some, if_pos (by decide)]
    simp only [List.getElem?_cons_zero, bd_some]
    refine ⟨_, _, rfl, ⟨h1, set_at (lt_of_at k2) _, z, ?_⟩, kF.trans (.set _ (by simp))⟩
    rw [List.getElem?_set_ne h1]; exact k3
theorem ce_swap (n : Nat) {h : Heap} {m rb : Nat} {sz : Int} {l : List Int} {st : Int} (A : MemAt h m rb sz l st) (a u v : Int) :
    ∃ h' e, call (n + 2) 147 [.ptr m 0, .int .i64 a, .int .i64 u, .int .i64 v] h = some (.ret [.bool (cget l a == some u), .int .u16 e], h') /\ MemAt h' m rb sz (if (cget l a == some u) = true then stL l a v else l) (ldS l a st) /\ Fr h h' [m, rb] := by
  rw [show n + 2 = (n + 1) + 1 from rfl, ceSwap_eq]
  unfold ceSwap
  rw [ce_at n A, cl_ret, one1_one]
  unfold ldS
  cases hg : cget l a with
  | none =>
    simp only
    rw [bop_cel_nn, bd_some, bv_bool, if_pos rfl]
    exact ⟨_, _, rfl, A, .refl _ _⟩
  | some x =>
    obtain ⟨h1, h2, z, h3⟩ := A
    simp only
    have hml := lt_of_at h2
    have hrl := lt_of_at h3
    rw [bop_cel_nil, bd_some, bv_bool, if_neg (by decide), show addP 0 (V.rptr rb 1 a.toNat 0) = some (V.rptr rb 1 a.toNat 0) from rfl, bd_some]
    have e3 : (h ++ [HB.box 1 [(V.int .u16 0)]])[rb]? = some (.row 2 1 (l.map cel) z) := by rw [List.getElem?_append_left hrl]; exact h3
    have e2 : (h ++ [HB.box 1 [(V.int .u16 0)]])[m]? = some (.box 3 [.int .i64 sz, .row rb 1 0 l.length, .int .i64 st]) := by rw [List.getElem?_append_left hml]; exact h2
    have e4 : (h ++ [HB.box 1 [(V.int .u16 0)]])[h.length]? = some (.box 1 [V.int .u16 0]) := List.getElem?_concat_length
    rw [cellsP_rptr e3 (by decide) (cgt_row hg), bd3_some, if_pos (by decide), show (cel x)[0]? = some (V.int .i64 x) from rfl, bd_some, bop_c64_neq, bd_some, bv_bool]
    by_cases hxu : x = u
    · subst hxu
      rw [if_neg (by simp)]
      rw [bd_some]
      rw [writeB_rptr e3 (by decide) (by simp) (cgt_row hg), bd2_some]
      have es : ((l.map cel).set a.toNat (setR (cel x) 0 [V.int .i64 v])) = (stL l a v).map cel := by
        rw [(stL_some hg v).1, List.map_set]; rfl
      rw [es]
      generalize hh1 : (h ++ [HB.box 1 [V.int .u16 0]]).set rb (.row 2 1 ((stL l a v).map cel) z) = g
      have g3 : g[rb]? = some (.row 2 1 ((stL l a v).map cel) z) := by rw [<- hh1]; exact set_at (by simp; omega) _
      have g2 : g[m]? = some (.box 3 [.int .i64 sz, .row rb 1 0 (stL l a v).length, .int .i64 st]) := by rw [<- hh1, List.getElem?_set_ne h1.symm, e2, stL_len]
      have g4 : g[h.length]? = some (.box 1 [V.int .u16 0]) := by rw [<- hh1, List.getElem?_set_ne (by omega)]; exact e4
      have gF : Fr h g [m, rb] := by rw [<- hh1]; exact (Fr.app _ _).trans (.set _ (by simp))
      rw [writeB_box g4 (by simp), bd2_some, show setR [V.int .u16 0] 0 [V.int .u16 0] = [V.int .u16 0] from rfl]
      have k2 : (g.set h.length (HB.box 1 [V.int .u16 0]))[m]? = _ := (List.getElem?_set_ne (by omega)).trans g2
      have k4 : (g.set h.length (HB.box 1 [V.int .u16 0]))[h.length]? = some (.box 1 [V.int .u16 0]) := set_at (lt_of_at g4) _
      have k3 : (g.set h.length (HB.box 1 [V.int .u16 0]))[rb]? = _ := (List.getElem?_set_ne (by omega)).trans g3
      have kF : Fr h (g.set h.length (HB.box 1 [V.int .u16 0])) [m, rb] := ⟨by simpa using gF.len, fun i q1 q2 => (List.getElem?_set_ne (by omega)).trans (gF.old i q1 q2)⟩
      rw [ce_count (n + 1) k2 k4, bd2_some, if_pos rfl]
      have e5 : ((g.set h.length (HB.box 1 [V.int .u16 0])).set m (.box 3 [.int .i64 sz, .row rb 1 0 (stL l a v).length, .int .i64 (inc st)]))[h.length]? = some (.box 1 [V.int .u16 0]) := by rw [List.getElem?_set_ne (by omega)]; exact k4
      rw [cellsP_box e5, bd3_some, if_pos (by decide)]
      simp only [List.getElem?_cons_zero, bd_some]
      refine ⟨_, _, by rw [show (some x == some x) = true by simp], ⟨h1, ?_, z, ?_⟩, kF.trans (.set _ (by simp))⟩
      · rw [if_pos (by simp)]; exact set_at (lt_of_at k2) _
      · rw [if_pos (by simp), List.getElem?_set_ne h1]; exact k3
    · have hb : (some x == some u) = false := by simpa using hxu
      rw [if_pos (by simpa using hxu), hb, if_neg (by decide), writeB_box e4 (by simp), bd2_some, show setR [V.int .u16 0] 0 [V.int .u16 0] = [V.int .u16 0] from rfl, show ((h ++ [HB.box 1 [V.int .u16 0]]).set h.length (HB.box 1 [V.int .u16 0])) = h ++ [HB.box 1 [V.int .u16 0]] from by rw [List.set_append_right _ _ (Nat.le_refl _)]; simp]
      rw [ce_count (n + 1) e2 e4, bd2_some, if_pos rfl]
      have e5 : ((h ++ [HB.box 1 [V.int .u16 0]]).set m (.box 3 [.int .i64 sz, .row rb 1 0 l.length, .int .i64 (inc st)]))[h.length]? = some (.box 1 [V.int .u16 0]) := by rw [List.getElem?_set_ne (by omega)]; exact e4
      rw [cellsP_box e5, bd3_some, if_pos (by decide)]
      simp only [List.getElem?_cons_zero, bd_some]
      refine ⟨_, _, rfl, ⟨h1, set_at (by simp; omega) _, z, ?_⟩, (Fr.app _ _).trans (.set _ (by simp))⟩
      rw [List.getElem?_set_ne h1]; exact e3
end Go.Proofs.Tryz
set_option linter.unusedVariables false
namespace Go.Proofs.Tryz
open Go.L
set_option maxRecDepth 100000
noncomputable def stkNew (n : Nat) (x0 : Int) (h : Heap) : Option (Res × Heap) :=
 some (Res.ret [(V.ptr (h).length 0)], (h ++ [(HB.box 2 [(V.sl 0 [] true), (V.int .i64 (if 0 < (if 1000 < x0 then 1000 else x0) then (if 1000 < x0 then 1000 else x0) else 0))])]))
theorem stkNew_eq (n : Nat) (x0 : Int) (h : Heap) : call (n + 1) 57 [(V.int .i64 x0)] h = stkNew n x0 h := by kernel_rfl
noncomputable def stkPush (n : Nat) (s : Nat) (x : Int) (h : Heap) : Option (Res × Heap) :=
 (bd (bopH prog h .eql 109 (V.ptr s 0) (V.val (.pointer none))) fun v0 =>
 (bv v0 fun b1 => if b1 then
 some (Res.ret [(V.bool false)], h)
 else
 (bd3 (cellsP h (V.ptr s 0)) fun cs3 m2 o4 => if (o4 + 1 <= m2 /\ 0 < 1) then
 (bd (cs3)[o4]? fun v5 =>
 (bd (slcH h v5) fun p6 =>
 (bd3 (cellsP h (V.ptr s 1)) fun cs8 m7 o9 => if (o9 + 1 <= m7 /\ 0 < 1) then
 (bd (cs8)[o9]? fun v10 =>
 (bd (bop prog .geq 3 (V.int .i64 ((p6.2).length : Int)) v10) fun v11 =>
 (bv v11 fun b12 => if b12 then
 some (Res.ret [(V.bool false)], h)
 else
 (bd3 (cellsP h (V.ptr s 0)) fun cs14 m13 o15 => if (o15 + 1 <= m13 /\ 0 < 1) then
 (bd (cs14)[o15]? fun v16 =>
 (bd2 (appP 21 1 h [[(V.int .i32 x)]] v16) fun v17 h18 =>
 (if ((V.cells v17)).length = 1 then
 (bd2 (writeB h18 (V.cells v17) (V.ptr s 0)) fun b19 x20 =>
 some (Res.ret [(V.bool true)], ((h18).set b19 x20))) else none))) else none)))) else none))) else none)))
theorem stkPush_eq (n : Nat) (s : Nat) (x : Int) (h : Heap) : call (n + 1) 180 [(V.ptr s 0), (V.int .i32 x)] h = stkPush n s x h := by kernel_rfl
noncomputable def stkPop (n : Nat) (s : Nat) (h : Heap) : Option (Res × Heap) :=
 (cl (call n 169 [(V.ptr s 0)] h) (fun r0 h1 =>
 (one1 r0 fun v3 =>
 (bd (bop prog .eql 3 v3 (V.int .i64 0)) fun v4 =>
 (bv v4 fun b5 => if b5 then
 some (Res.ret [(V.int .i32 0), (V.bool false)], h1)
 else
 (bd3 (cellsP h1 (V.ptr s 0)) fun cs7 m6 o8 => if (o8 + 1 <= m6 /\ 0 < 1) then
 (bd (cs7)[o8]? fun v9 =>
 (bd (slcH h1 v9) fun p10 =>
 (bd3 (cellsP h1 (V.ptr s 0)) fun cs12 m11 o13 => if (o13 + 1 <= m11 /\ 0 < 1) then
 (bd (cs12)[o13]? fun v14 =>
 (bdS (nv (V.int .i64 (IntKind.i64.wrap (((p10.2).length : Int) - 1)))) fun n15 =>
 (bd (idxP 1 n15 v14) fun p16 =>
 (bd3 (cellsP h1 p16) fun cs18 m17 o19 => if (o19 + 1 <= m17 /\ 0 < 1) then
 (bd (cs18)[o19]? fun v20 =>
 (bd3 (cellsP h1 (V.ptr s 0)) fun cs22 m21 o23 => if (o23 + 1 <= m21 /\ 0 < 1) then
 (bd (cs22)[o23]? fun v24 =>
 (bd (lenP v24) fun n25 =>
 (bdS (nv (V.int .i64 (IntKind.i64.wrap (((p10.2).length : Int) - 1)))) fun n26 =>
 (bd (sliceP 1 0 n26 (none : Option Nat) true v24) fun v27 =>
 (if ((V.cells v27)).length = 1 then
 (bd2 (writeB h1 (V.cells v27) (V.ptr s 0)) fun b28 x29 =>
 some (Res.ret [v20, (V.bool true)], ((h1).set b28 x29))) else none))))) else none)) else none)))) else none))) else none))))) (fun z2 h1 => some (Res.pan z2, h1)))
theorem stkPop_eq (n : Nat) (s : Nat) (h : Heap) : call (n + 1) 184 [(V.ptr s 0)] h = stkPop n s h := by kernel_rfl
noncomputable def stkItems (n : Nat) (s : Nat) (h : Heap) : Option (Res × Heap) :=
 (bd (bopH prog h .eql 109 (V.ptr s 0) (V.val (.pointer none))) fun v0 =>
 (bv v0 fun b1 => if b1 then
 some (Res.ret [(V.row (h).length 1 0 0)], (h ++ [(HB.row 21 1 [] true)]))
 else
 (bd3 (cellsP h (V.ptr s 0)) fun cs3 m2 o4 => if (o4 + 1 <= m2 /\ 0 < 1) then
 (bd (cs3)[o4]? fun v5 =>
 (bd (slcH h v5) fun p6 =>
 (if ((p6.1 = 1 \/ (p6.2).isEmpty = true) /\ (p6.2).length < lim) then
 some (Res.ret [(V.row (h).length 1 0 (p6.2).length)], (h ++ [(HB.row 21 1 p6.2 true)])) else none))) else none)))
theorem stkItems_eq (n : Nat) (s : Nat) (h : Heap) : call (n + 1) 168 [(V.ptr s 0)] h = stkItems n s h := by kernel_rfl
noncomputable def stkLen (n : Nat) (s : Nat) (h : Heap) : Option (Res × Heap) :=
 (bd (bopH prog h .eql 109 (V.ptr s 0) (V.val (.pointer none))) fun v0 =>
 (bv v0 fun b1 => if b1 then
 some (Res.ret [(V.int .i64 0)], h)
 else
 (bd3 (cellsP h (V.ptr s 0)) fun cs3 m2 o4 => if (o4 + 1 <= m2 /\ 0 < 1) then
 (bd (cs3)[o4]? fun v5 =>
 (bd (slcH h v5) fun p6 =>
 some (Res.ret [(V.int .i64 ((p6.2).length : Int))], h))) else none)))
theorem stkLen_eq (n : Nat) (s : Nat) (h : Heap) : call (n + 1) 169 [(V.ptr s 0)] h = stkLen n s h := by kernel_rfl
noncomputable def stkMost (n : Nat) (s : Nat) (h : Heap) : Option (Res × Heap) :=
 (bd (bopH prog h .eql 109 (V.ptr s 0) (V.val (.pointer none))) fun v0 =>
 (bv v0 fun b1 => if b1 then
 some (Res.ret [(V.int .i64 0)], h)
 else
 (bd3 (cellsP h (V.ptr s 1)) fun cs3 m2 o4 => if (o4 + 1 <= m2 /\ 0 < 1) then
 (bd (cs3)[o4]? fun v5 =>
 some (Res.ret [v5], h)) else none)))
theorem stkMost_eq (n : Nat) (s : Nat) (h : Heap) : call (n + 1) 178 [(V.ptr s 0)] h = stkMost n s h := by kernel_rfl
end Go.Proofs.Tryz
set_option linter.unusedVariables false
set_option linter.unusedSimpArgs false
namespace Go.Sk
open Go.L
def numC (x : Int) : List V := [.int .i32 x]
def stkStep (most : Int) (c x : Int) (xs : List Int) : (Int × Int) × List Int :=
  if c = 1 then (if (xs.length : Int) < most then ((1, 0), xs ++ [x]) else ((3, 0), xs))
  else if c = 2 then (match xs.getLast? with | some y => ((2, y), xs.dropLast) | none => ((4, 0), xs))
  else ((5, 0), xs)
end Go.Sk
namespace Go.Proofs.Tryz
open Go.L Go.Rp Go.Sk
set_option maxRecDepth 100000
def StkAt (h : Heap) (s : Nat) (sb : Option Nat) (most : Int) (xs : List Int) : Prop := match sb with
  | none => xs = [] /\ h[s]? = some (.box 2 [.sl 0 [] true, .int .i64 most])
  | some b => b ≠ s /\ ∃ l z, h[s]? = some (.box 2 [.row b 1 0 xs.length, .int .i64 most]) /\ h[b]? = some (.row 21 1 l z) /\ xs.length <= l.length /\ l.take xs.length = xs.map numC
theorem StkAt.keep {h h' : Heap} {s : Nat} {sb : Option Nat} {most : Int} {xs : List Int} (hb : StkAt h s sb most xs) (hc : h'[s]? = h[s]?) (hk : ∀ b, sb = some b -> h'[b]? = h[b]?) : StkAt h' s sb most xs := by
  cases sb with
  | none => exact ⟨hb.1, hc.trans hb.2⟩
  | some b =>
    obtain ⟨h1, l, z, h2, h3, h4⟩ := hb
    exact ⟨h1, l, z, hc.trans h2, (hk b rfl).trans h3, h4⟩
theorem bop_stk_nil (h : Heap) (c : Nat) : bopH prog h .eql 109 (V.ptr c 0) (V.val (.pointer none)) = some (.bool false) := by kernel_rfl
theorem StkAt.box {h : Heap} {s : Nat} {sb : Option Nat} {most : Int} {xs : List Int} (hb : StkAt h s sb most xs) : ∃ v sz, h[s]? = some (.box 2 [v, .int .i64 most]) /\ slcH h v = some (sz, xs.map numC) /\ (sz = 1 \/ xs = []) := by
  cases sb with
  | none =>
    obtain ⟨rfl, hc⟩ := hb
    exact ⟨_, 0, hc, slcH_sl .., .inr rfl⟩
  | some b =>
    obtain ⟨h1, l, z, h2, h3, h4, h5⟩ := hb
    refine ⟨_, 1, h2, ?_, .inl rfl⟩
    rw [slcH_row h3 (Nat.zero_le _) h4, List.drop_zero, h5]
theorem stk_len_call (n : Nat) {h : Heap} {s : Nat} {sb : Option Nat} {most : Int} {xs : List Int} (hb : StkAt h s sb most xs) : call (n + 1) 169 [.ptr s 0] h = some (.ret [.int .i64 (xs.length : Int)], h) := by
  obtain ⟨v, sz, h1, h2, h3⟩ := hb.box
  refine (stkLen_eq n s h).trans ?_
  unfold stkLen
  rw [bop_stk_nil, bd_some, bv_bool, if_neg (by decide), cellsP_box h1, bd3_some, if_pos (by decide)]
  simp only [List.getElem?_cons_zero, bd_some]
  rw [h2, bd_some]
  simp
theorem stk_most_call (n : Nat) {h : Heap} {s : Nat} {sb : Option Nat} {most : Int} {xs : List Int} (hb : StkAt h s sb most xs) : call (n + 1) 178 [.ptr s 0] h = some (.ret [.int .i64 most], h) := by
  obtain ⟨v, sz, h1, h2, h3⟩ := hb.box
  refine (stkMost_eq n s h).trans ?_
  unfold stkMost
  rw [bop_stk_nil, bd_some, bv_bool, if_neg (by decide), cellsP_box h1, bd3_some, if_pos (by decide)]
  rfl
theorem stk_items_call (n : Nat) {h : Heap} {s : Nat} {sb : Option Nat} {most : Int} {xs : List Int} (hb : StkAt h s sb most xs) (hl : xs.length < lim) : call (n + 1) 168 [.ptr s 0] h = some (.ret [.row h.length 1 0 xs.length], h ++ [.row 21 1 (xs.map numC) true]) := by
  obtain ⟨v, sz, h1, h2, h3⟩ := hb.box
  refine (stkItems_eq n s h).trans ?_
  unfold stkItems
  rw [bop_stk_nil, bd_some, bv_bool, if_neg (by decide), cellsP_box h1, bd3_some, if_pos (by decide)]
  simp only [List.getElem?_cons_zero, bd_some]
  rw [h2, bd_some, if_pos ⟨h3.imp id (fun e => by rw [e]; rfl), by simpa using hl⟩, List.length_map]
theorem stk_push_call (n : Nat) {h : Heap} {s : Nat} {sb : Option Nat} {most : Int} {xs : List Int} (hb : StkAt h s sb most xs) (x : Int) (hm : (xs.length : Int) < most) (hl : xs.length + 1 < lim) :
    ∃ h' sb', call (n + 1) 180 [.ptr s 0, .int .i32 x] h = some (.ret [.bool true], h') /\ StkAt h' s sb' most (xs ++ [x]) /\ Fed h h' s sb sb' := by
  rw [stkPush_eq n s x h]
  unfold stkPush
  rw [bop_stk_nil, bd_some, bv_bool, if_neg (by decide)]
  cases sb with
  | none =>
    obtain ⟨rfl, hc⟩ := hb
    have hcl := lt_of_at hc
    rw [cellsP_box hc, bd3_some, if_pos (by decide)]
    simp only [List.getElem?_cons_zero, bd_some]
    rw [slcH_sl, bd_some, cellsP_box hc, bd3_some, if_pos (by decide)]
    simp only [List.getElem?_cons_zero, List.getElem?_cons_succ, bd_some]
    rw [bop_i64_geq, bd_some, bv_bool, if_neg (by simpa using hm), bd3_some, if_pos (by decide)]
    simp only [List.getElem?_cons_zero, bd_some]
    have happ : appP 21 1 h [[.int .i32 x]] (.sl 0 [] true) = some (.row h.length 1 0 1, h ++ [.row 21 1 [[.int .i32 x]] true]) := rfl
    simp only [happ, bd2_some, V.cells, List.length_cons, List.length_nil, Nat.zero_add, if_true]
    have hc' : (h ++ [HB.row 21 1 [[.int .i32 x]] true])[s]? = some (.box 2 [.sl 0 [] true, .int .i64 most]) := by rw [List.getElem?_append_left hcl]; exact hc
    rw [writeB_box hc' (by simp), bd2_some]
    refine ⟨_, some h.length, rfl, ⟨by omega, [[.int .i32 x]], true, ?_, ?_, ?_, ?_⟩, ⟨by simp, fun j h1 h2 h3 => ?_, fun b hb => .inr (by cases hb; exact Nat.le_refl _)⟩⟩
    · rw [set_at (by simp; omega)]; rfl
    · rw [List.getElem?_set_ne (by omega)]; exact List.getElem?_concat_length
    · simp
    · simp [numC]
    · rw [List.getElem?_set_ne (by omega), List.getElem?_append_left h1]
  | some b =>
    obtain ⟨h1, l, z, h2, h3, h4, h5⟩ := hb
    have hcl := lt_of_at h2
    have hbl := lt_of_at h3
    rw [cellsP_box h2, bd3_some, if_pos (by decide)]
    simp only [List.getElem?_cons_zero, bd_some]
    rw [slcH_row h3 (Nat.zero_le _) h4, bd_some, cellsP_box h2, bd3_some, if_pos (by decide)]
    simp only [List.getElem?_cons_zero, List.getElem?_cons_succ, bd_some]
    rw [bop_i64_geq, bd_some, bv_bool, if_neg (by rw [List.drop_zero, h5]; simpa using hm), bd3_some, if_pos (by decide)]
    simp only [List.getElem?_cons_zero, bd_some]
    have happ : appP 21 1 h [[.int .i32 x]] (.row b 1 0 xs.length) = some (.row h.length 1 0 (xs.length + 1), h.set b .dead ++ [.row 21 1 (xs.map numC ++ [[.int .i32 x]]) z]) := by
      simp only [appP, h3]
      rw [if_pos (by refine ⟨⟨?_, ?_, ?_⟩, ⟨by omega, h4⟩, by simp; omega⟩ <;> first | trivial | rfl), List.drop_zero, h5]
      simp
    rw [happ, bd2_some]
    simp only [V.cells, List.length_cons, List.length_nil, Nat.zero_add, if_true]
    have hc' : (h.set b .dead ++ [HB.row 21 1 (xs.map numC ++ [[.int .i32 x]]) z])[s]? = some (.box 2 [.row b 1 0 xs.length, .int .i64 most]) := by
      rw [List.getElem?_append_left (by simpa using hcl), List.getElem?_set_ne h1]; exact h2
    rw [writeB_box hc' (by simp), bd2_some]
    refine ⟨_, some h.length, rfl, ⟨by omega, xs.map numC ++ [[.int .i32 x]], z, ?_, ?_, ?_, ?_⟩, ⟨by simp, fun j k1 k2 k3 => ?_, fun b hb => .inr (by cases hb; exact Nat.le_refl _)⟩⟩
    · rw [set_at (by simp; omega)]; simp; rfl
    · rw [List.getElem?_set_ne (by omega), List.getElem?_append_right (by simp)]; simp
    · simp
    · simp [numC, List.take_of_length_le]
    · rw [List.getElem?_set_ne (by omega), List.getElem?_append_left (by simpa using k1), List.getElem?_set_ne (fun e => k3 (by rw [e]))]
theorem stk_pop_call (n : Nat) {h : Heap} {s : Nat} {sb : Option Nat} {most : Int} {xs : List Int} {x : Int} (hb : StkAt h s sb most (xs ++ [x])) (hl : xs.length + 1 < lim) :
    ∃ h', call (n + 2) 184 [.ptr s 0] h = some (.ret [.int .i32 x, .bool true], h') /\ StkAt h' s sb most xs /\ h'.length = h.length /\ ∀ i, i ≠ s -> h'[i]? = h[i]? := by
  rw [show n + 2 = (n + 1) + 1 from rfl, stkPop_eq]
  unfold stkPop
  rw [stk_len_call n hb, cl_ret, one1_one, bop_i64_eql, bd_some, bv_bool, if_neg (by simp; omega)]
  cases sb with
  | none => exact absurd hb.1 (by simp)
  | some b =>
    obtain ⟨h1, l, z, h2, h3, h4, h5⟩ := hb
    rw [List.length_append, List.length_singleton] at h2 h4 h5
    have hcl := lt_of_at h2
    have hx : l[xs.length]? = some [.int .i32 x] := by
      have := congrArg (fun t : List (List V) => t[xs.length]?) h5
      simpa [numC, List.getElem?_take] using this
    have hr : l.take xs.length = xs.map numC := by
      have := congrArg (List.take xs.length) h5
      rw [List.take_take, Nat.min_eq_left (by omega)] at this
      rw [this, List.map_append, List.take_append_of_le_length (by simp), List.take_of_length_le (by simp)]
    have hw : IntKind.i64.wrap ((((l.take (xs.length + 1)).drop 0).length : Int) - 1) = (xs.length : Int) := by
      rw [List.drop_zero, h5]
      rw [show (((List.map numC (xs ++ [x])).length : Int) - 1) = (xs.length : Int) by simp]
      unfold lim at hl; rw [w64] <;> omega
    have hn : nv (V.int .i64 (xs.length : Int)) = some xs.length := by simp [nv]
    rw [cellsP_box h2, bd3_some, if_pos (by decide)]
    simp only [List.getElem?_cons_zero, bd_some]
    rw [slcH_row h3 (Nat.zero_le _) h4, bd_some, bd3_some, if_pos (by decide)]
    simp only [List.getElem?_cons_zero, bd_some]
    rw [hw, hn, bdS_some, idxP_row (by omega), bd_some, Nat.zero_add, cellsP_rptr h3 (by decide) hx, bd3_some, if_pos (by decide)]
    simp only [List.getElem?_cons_zero, bd_some]
    rw [bd3_some, if_pos (by decide)]
    simp only [List.getElem?_cons_zero, bd_some]
    rw [lenP_row, bd_some, bdS_some, sliceP_row (Nat.zero_le _) (by omega), bd_some]
    simp only [V.cells, List.length_cons, List.length_nil, Nat.zero_add, if_true]
    rw [writeB_box h2 (by simp), bd2_some]
    refine ⟨_, rfl, ⟨h1, l, z, ?_, ?_, by omega, hr⟩, by rw [List.length_set], fun i hi => List.getElem?_set_ne (Ne.symm hi)⟩
    · rw [set_at hcl]; rfl
    · rw [List.getElem?_set_ne (Ne.symm h1)]; exact h3
end Go.Proofs.Tryz
set_option linter.unusedVariables false
namespace Go.Proofs.Tryz
open Go.L
set_option maxRecDepth 100000
noncomputable def matPush (n : Nat) (s : Nat) (i : Int) (h : Heap) : Option (Res × Heap) :=
 (bd3 (cellsP h (V.ptr s 1)) fun cs1 m0 o2 => if (o2 + 1 <= m0 /\ 0 < 1) then
 (bd (cs1)[o2]? fun v3 =>
 (bd3 (cellsP h (V.ptr s 0)) fun cs5 m4 o6 => if (o6 + 1 <= m4 /\ 0 < 1) then
 (bd (cs5)[o6]? fun v7 =>
 (bd (slcH h v7) fun p8 =>
 (bd (bop prog .add 3 v3 (V.int .i64 ((p8.2).length : Int))) fun v9 =>
 (bd3 (cellsP h (V.ptr s 2)) fun cs11 m10 o12 => if (o12 + 1 <= m10 /\ 0 < 1) then
 (bd (cs11)[o12]? fun v13 =>
 (bd (bop prog .geq 3 v9 v13) fun v14 =>
 (bv v14 fun b15 => if b15 then
 some (Res.ret [(V.bool false)], h)
 else
 (bd3 (cellsP h (V.ptr s 0)) fun cs17 m16 o18 => if (o18 + 1 <= m16 /\ 0 < 1) then
 (bd (cs17)[o18]? fun v19 =>
 (bd2 (appP 3 1 h [[(V.int .i64 i)]] v19) fun v20 h21 =>
 (if ((V.cells v20)).length = 1 then
 (bd2 (writeB h21 (V.cells v20) (V.ptr s 0)) fun b22 x23 =>
 some (Res.ret [(V.bool true)], ((h21).set b22 x23))) else none))) else none)))) else none)))) else none)) else none)
theorem matPush_eq (n : Nat) (s : Nat) (i : Int) (h : Heap) : call (n + 1) 186 [(V.ptr s 0), (V.int .i64 i)] h = matPush n s i h := by kernel_rfl
noncomputable def matPop (n : Nat) (s : Nat) (h : Heap) : Option (Res × Heap) :=
 (bd3 (cellsP h (V.ptr s 0)) fun cs1 m0 o2 => if (o2 + 1 <= m0 /\ 0 < 1) then
 (bd (cs1)[o2]? fun v3 =>
 (bd (slcH h v3) fun p4 =>
 (if (decide ((IntKind.i64.wrap (((p4.2).length : Int) - 1)) < 0)) then
 some (Res.ret [(V.int .i64 (-1)), (V.bool false)], h)
 else
 (bd3 (cellsP h (V.ptr s 0)) fun cs6 m5 o7 => if (o7 + 1 <= m5 /\ 0 < 1) then
 (bd (cs6)[o7]? fun v8 =>
 (bdS (nv (V.int .i64 (IntKind.i64.wrap (((p4.2).length : Int) - 1)))) fun n9 =>
 (bd (idxP 1 n9 v8) fun p10 =>
 (bd3 (cellsP h p10) fun cs12 m11 o13 => if (o13 + 1 <= m11 /\ 0 < 1) then
 (bd (cs12)[o13]? fun v14 =>
 (bd3 (cellsP h (V.ptr s 0)) fun cs16 m15 o17 => if (o17 + 1 <= m15 /\ 0 < 1) then
 (bd (cs16)[o17]? fun v18 =>
 (bd (lenP v18) fun n19 =>
 (bdS (nv (V.int .i64 (IntKind.i64.wrap (((p4.2).length : Int) - 1)))) fun n20 =>
 (bd (sliceP 1 0 n20 (none : Option Nat) true v18) fun v21 =>
 (if ((V.cells v21)).length = 1 then
 (bd2 (writeB h (V.cells v21) (V.ptr s 0)) fun b22 x23 =>
 some (Res.ret [v14, (V.bool true)], ((h).set b22 x23))) else none))))) else none)) else none)))) else none)))) else none)
theorem matPop_eq (n : Nat) (s : Nat) (h : Heap) : call (n + 1) 187 [(V.ptr s 0)] h = matPop n s h := by kernel_rfl
noncomputable def matUnder (n : Nat) (s : Nat) (h : Heap) : Option (Res × Heap) :=
 (bd3 (cellsP h (V.ptr s 1)) fun cs1 m0 o2 => if (o2 + 1 <= m0 /\ 0 < 1) then
 (bd (cs1)[o2]? fun v3 =>
 (bd (bop prog .eql 3 v3 (V.int .i64 0)) fun v4 =>
 (bv v4 fun b5 => if b5 then
 some (Res.ret [(V.bool false)], h)
 else
 (bd3 (cellsP h (V.ptr s 1)) fun cs7 m6 o8 => if (o8 + 1 <= m6 /\ 0 < 1) then
 (bd (cs7)[o8]? fun v9 =>
 (bd (bop prog .sub 3 v9 (V.int .i64 1)) fun v10 =>
 (if ((V.cells v10)).length = 1 then
 (bd2 (writeB h (V.cells v10) (V.ptr s 1)) fun b11 x12 =>
 some (Res.ret [(V.bool true)], ((h).set b11 x12))) else none))) else none)))) else none)
theorem matUnder_eq (n : Nat) (s : Nat) (h : Heap) : call (n + 1) 188 [(V.ptr s 0)] h = matUnder n s h := by kernel_rfl
noncomputable def matA2 (n : Nat) (i : Int) (j : Int) (bo : Nat) (r : Nat) (l : Nat) (h : Heap) : Option (Res × Heap) :=
 (bd3 (cellsP h (V.ptr bo 0)) fun cs1 m0 o2 => if (o2 + 1 <= m0 /\ 0 < 1) then
 (bd (cs1)[o2]? fun v3 =>
 (bdS (nv (V.int .i64 j)) fun n4 =>
 (bd (idxP 2 n4 v3) fun p5 =>
 (bd (addP 1 p5) fun p6 =>
 (bd3 (cellsP h p6) fun cs8 m7 o9 => if (o9 + 1 <= m7 /\ 0 < 1) then
 (bd (cs8)[o9]? fun v10 =>
 (bdS (nv (V.int .i64 i)) fun n11 =>
 (bd (idxP 1 n11 (V.row r 1 0 l)) fun p12 =>
 (if ((V.cells v10)).length = 1 then
 (bd2 (writeB h (V.cells v10) p12) fun b13 x14 =>
 some (Res.ret [], ((h).set b13 x14))) else none)))) else none))))) else none)
theorem matA2_eq (n : Nat) (i : Int) (j : Int) (bo : Nat) (r : Nat) (l : Nat) (h : Heap) : call (n + 1) 182 [(V.int .i64 i), (V.int .i64 j), (V.ptr bo 0), (V.iptr 1 [(V.row r 1 0 l)] 0)] h = matA2 n i j bo r l h := by kernel_rfl
noncomputable def matA3 (n : Nat) (i : Int) (bs : Nat) (r : Nat) (l : Nat) (h : Heap) : Option (Res × Heap) :=
 (bd3 (cellsP h (V.ptr bs 0)) fun cs1 m0 o2 => if (o2 + 1 <= m0 /\ 0 < 1) then
 (bd (cs1)[o2]? fun v3 =>
 (clH (call n 184 [v3] h) fun r4 h5 =>
 (bd (r4)[0]? fun v7 =>
 (bd (r4)[1]? fun v8 =>
 (bdS (nv (V.int .i64 i)) fun n9 =>
 (bd (idxP 1 n9 (V.row r 1 0 l)) fun p10 =>
 (if ((V.cells v7)).length = 1 then
 (bd2 (writeB h5 (V.cells v7) (V.rptr r 1 (ixP p10) 0)) fun b11 x12 =>
 some (Res.ret [], ((h5).set b11 x12))) else none))))))) else none)
theorem matA3_eq (n : Nat) (i : Int) (bs : Nat) (r : Nat) (l : Nat) (h : Heap) : call (n + 1) 183 [(V.int .i64 i), (V.ptr bs 0), (V.iptr 1 [(V.row r 1 0 l)] 0)] h = matA3 n i bs r l h := by kernel_rfl
noncomputable def matAll_l2 (n : Nat) (s : Nat) (os : List (List V)) (osb : Bool) (bo : Nat) (bs : Nat) (r : Nat) (l : Nat) (st3 : List V) (hh4 : Heap) (next5 : List V -> Heap -> Option (Res × Heap)) : Option (Res × Heap) :=
 (bd (bop prog .lss 3 (gv st3 3) (V.int .i64 ((os).length : Int))) fun v6 =>
 (bv v6 fun b7 => if b7 then
 (bdS (nv (gv st3 3)) fun n8 =>
 (bd (idxP 2 n8 (V.sl 2 os osb)) fun p9 =>
 (bd3 (cellsP hh4 p9) fun cs11 m10 o12 => if (o12 + 2 <= m10 /\ 0 < 2) then
 (if (((cs11).drop o12 |>.take 2)).length = 2 then
 (if ((((cs11).drop o12 |>.take 2)).length <= 2) then
 (bdS (nv (gv st3 3)) fun n13 =>
 (if (2 = 2 /\ n13 < ((lsl (gv st3 1))).length /\ (some 27 : Option Nat) ≠ some 9) then
 (bd ((setR [(V.int .u8 0), (V.int .i32 0)] 0 ((cs11).drop o12 |>.take 2)))[0]? fun v14 =>
 (bd (bop prog .eql 5 v14 (V.int .u8 1)) fun v15 =>
 (bv v15 fun b16 => if b16 then
 (bd ((lsl (gv st3 1)))[n13]? fun es17 =>
 (cl (call n 186 [(V.ptr s 0), (gv st3 3)] hh4) (fun r18 h19 =>
 (one1 r18 fun v21 =>
 (bv v21 fun b22 => if b22 then
 (bd ((((lsl (gv st3 1))).set n13 (setR es17 0 [(V.int .u8 3)])))[n13]? fun es23 =>
 (bd (bop prog .add 3 (gv st3 3) (V.int .i64 1)) fun v24 =>
 (next5 [(V.sl 2 (lsl (gv st3 0)) false), (V.sl 2 (((((lsl (gv st3 1))).set n13 (setR es17 0 [(V.int .u8 3)]))).set n13 (setR es23 0 [(V.int .u8 1)])) false), (V.bool false), v24] h19)))
 else
 (bd (bop prog .add 3 (gv st3 3) (V.int .i64 1)) fun v25 =>
 (next5 [(V.sl 2 (lsl (gv st3 0)) false), (V.sl 2 (((lsl (gv st3 1))).set n13 (setR es17 0 [(V.int .u8 3)])) false), (V.bool false), v25] h19))))) (fun z20 h19 => some (Res.pan z20, h19))))
 else
 (bd (bop prog .eql 5 v14 (V.int .u8 2)) fun v26 =>
 (bv v26 fun b27 => if b27 then
 (bd ((lsl (gv st3 1)))[n13]? fun es28 =>
 (cl (call n 187 [(V.ptr s 0)] hh4) (fun r29 h30 =>
 (bd (r29)[0]? fun v32 =>
 (bd (r29)[1]? fun v33 =>
 (bv v33 fun b34 => if b34 then
 (cl (call n 182 [(gv st3 3), v32, (V.ptr bo 0), (V.iptr 1 [(V.row r 1 0 l)] 0)] h30) (fun r35 h36 =>
 (bd (bop prog .add 3 (gv st3 3) (V.int .i64 1)) fun v38 =>
 (next5 [(V.sl 2 (lsl (gv st3 0)) false), (V.sl 2 (((lsl (gv st3 1))).set n13 (setR es28 0 [(V.int .u8 2)])) false), (V.bool false), v38] h36))) (fun z37 h36 => some (Res.pan z37, h36)))
 else
 (cl (call n 188 [(V.ptr s 0)] h30) (fun r39 h40 =>
 (one1 r39 fun v42 =>
 (bv v42 fun b43 => if b43 then
 (cl (call n 183 [(gv st3 3), (V.ptr bs 0), (V.iptr 1 [(V.row r 1 0 l)] 0)] h40) (fun r44 h45 =>
 (bd (bop prog .add 3 (gv st3 3) (V.int .i64 1)) fun v47 =>
 (next5 [(V.sl 2 (lsl (gv st3 0)) false), (V.sl 2 (((lsl (gv st3 1))).set n13 (setR es28 0 [(V.int .u8 2)])) false), (V.bool false), v47] h45))) (fun z46 h45 => some (Res.pan z46, h45)))
 else
 (bd ((((lsl (gv st3 1))).set n13 (setR es28 0 [(V.int .u8 2)])))[n13]? fun es48 =>
 (bd (bop prog .add 3 (gv st3 3) (V.int .i64 1)) fun v49 =>
 (next5 [(V.sl 2 (lsl (gv st3 0)) false), (V.sl 2 (((((lsl (gv st3 1))).set n13 (setR es28 0 [(V.int .u8 2)]))).set n13 (setR es48 0 [(V.int .u8 4)])) false), (V.bool false), v49] h40)))))) (fun z41 h40 => some (Res.pan z41, h40))))))) (fun z31 h30 => some (Res.pan z31, h30))))
 else
 (bd ((lsl (gv st3 1)))[n13]? fun es50 =>
 (bd (bop prog .add 3 (gv st3 3) (V.int .i64 1)) fun v51 =>
 (next5 [(V.sl 2 (lsl (gv st3 0)) false), (V.sl 2 (((lsl (gv st3 1))).set n13 (setR es50 0 [(V.int .u8 5)])) false), (V.bool false), v51] hh4)))))))) else none)) else none) else none) else none)))
 else
 some (Res.ret [(V.row (hh4).length 2 0 ((lsl (gv st3 1))).length)], (hh4 ++ [(HB.row 35 2 (lsl (gv st3 1)) true)]))))
noncomputable def matAll (n : Nat) (s : Nat) (os : List (List V)) (osb : Bool) (bo : Nat) (bs : Nat) (r : Nat) (l : Nat) (h : Heap) : Option (Res × Heap) :=
 (bdS (nv (V.int .i64 ((os).length : Int))) fun n0 =>
 (bdS (nv (V.int .i64 ((os).length : Int))) fun n1 =>
 (if (n0 <= n1 /\ n1 < lim /\ 2 = 2) then
 (loopx n (matAll_l2 n s os osb bo bs r l) [(V.sl 2 [] false), (V.sl 2 (List.replicate n0 [(V.int .u8 0), (V.int .i32 0)]) false), (V.bool false), (V.int .i64 0)] h) else none)))
theorem matAll_eq (n : Nat) (s : Nat) (os : List (List V)) (osb : Bool) (bo : Nat) (bs : Nat) (r : Nat) (l : Nat) (h : Heap) : call (n + 1) 181 [(V.ptr s 0), (V.sl 2 os osb), (V.fn 182 [(V.ptr bo 0), (V.iptr 1 [(V.row r 1 0 l)] 0)]), (V.fn 183 [(V.ptr bs 0), (V.iptr 1 [(V.row r 1 0 l)] 0)])] h = matAll n s os osb bo bs r l h := by kernel_rfl
noncomputable def matApply_l29 (n : Nat) (s : Nat) (os : List (List V)) (osb : Bool) (h5 : Heap) (cs8 : List V) (n14 : Nat) (v27 : V) (p28 : Nat × List (List V)) (st30 : List V) (hh31 : Heap) (next32 : List V -> Heap -> Option (Res × Heap)) : Option (Res × Heap) :=
 (bd (bop prog .lss 3 (gv st30 1) (V.int .i64 ((p28.2).length : Int))) fun v33 =>
 (bv v33 fun b34 => if b34 then
 (bdS (nv (gv st30 1)) fun n35 =>
 (bd (idxP 1 n35 (V.row (((((h5 ++ [(HB.box 3 cs8)]) ++ [(HB.box 1 [(V.ptr (h5).length 0)])]) ++ [(HB.box 1 [(V.ptr s 0)])]) ++ [(HB.box 1 [(V.sl 2 os osb)])])).length 1 0 ((List.replicate n14 [(V.int .i32 0)])).length)) fun p36 =>
 (bd3 (cellsP hh31 p36) fun cs38 m37 o39 => if (o39 + 1 <= m37 /\ 0 < 1) then
 (bd (cs38)[o39]? fun v40 =>
 (bdS (nv (gv st30 1)) fun n41 =>
 (bd (idxP 2 n41 v27) fun p42 =>
 (bd (addP 1 p42) fun p43 =>
 (if ((V.cells v40)).length = 1 then
 (bd2 (writeB hh31 (V.cells v40) p43) fun b44 x45 =>
 (bd (bop prog .add 3 (gv st30 1) (V.int .i64 1)) fun v46 =>
 (next32 [(V.sl 2 (lsl (gv st30 0)) false), v46] ((hh31).set b44 x45)))) else none))))) else none)))
 else
 (bd2 (dcl n 179 [(V.ptr ((h5 ++ [(HB.box 3 cs8)])).length 0), (V.ptr (((h5 ++ [(HB.box 3 cs8)]) ++ [(HB.box 1 [(V.ptr (h5).length 0)])])).length 0), (V.ptr ((((h5 ++ [(HB.box 3 cs8)]) ++ [(HB.box 1 [(V.ptr (h5).length 0)])]) ++ [(HB.box 1 [(V.ptr s 0)])])).length 0)] hh31 none) fun h47 b48 =>
 some (Res.ret [v27], h47))))
noncomputable def matApply (n : Nat) (s : Nat) (os : List (List V)) (osb : Bool) (h : Heap) : Option (Res × Heap) :=
 (clH (call n 169 [(V.ptr s 0)] h) fun r0 h1 =>
 (one1 r0 fun v3 =>
 (clH (call n 178 [(V.ptr s 0)] h1) fun r4 h5 =>
 (one1 r4 fun v7 =>
 (bd (bldV prog 249 [(1, v3), (2, v7)]) fun cs8 =>
 (if (cs8).length = 3 then
 (bd3 (cellsP ((((h5 ++ [(HB.box 3 cs8)]) ++ [(HB.box 1 [(V.ptr (h5).length 0)])]) ++ [(HB.box 1 [(V.ptr s 0)])]) ++ [(HB.box 1 [(V.sl 2 os osb)])]) (V.ptr ((((h5 ++ [(HB.box 3 cs8)]) ++ [(HB.box 1 [(V.ptr (h5).length 0)])]) ++ [(HB.box 1 [(V.ptr s 0)])])).length 0)) fun cs10 m9 o11 => if (o11 + 1 <= m9 /\ 0 < 1) then
 (bd (cs10)[o11]? fun v12 =>
 (bd (slcH ((((h5 ++ [(HB.box 3 cs8)]) ++ [(HB.box 1 [(V.ptr (h5).length 0)])]) ++ [(HB.box 1 [(V.ptr s 0)])]) ++ [(HB.box 1 [(V.sl 2 os osb)])]) v12) fun p13 =>
 (bdS (nv (V.int .i64 ((p13.2).length : Int))) fun n14 =>
 (bdS (nv (V.int .i64 ((p13.2).length : Int))) fun n15 =>
 (if (n14 <= n15 /\ n15 < lim /\ 1 = 1) then
 (bd3 (cellsP (((((h5 ++ [(HB.box 3 cs8)]) ++ [(HB.box 1 [(V.ptr (h5).length 0)])]) ++ [(HB.box 1 [(V.ptr s 0)])]) ++ [(HB.box 1 [(V.sl 2 os osb)])]) ++ [(HB.row 21 1 (List.replicate n14 [(V.int .i32 0)]) true)]) (V.ptr ((h5 ++ [(HB.box 3 cs8)])).length 0)) fun cs17 m16 o18 => if (o18 + 1 <= m16 /\ 0 < 1) then
 (bd (cs17)[o18]? fun v19 =>
 (bd3 (cellsP (((((h5 ++ [(HB.box 3 cs8)]) ++ [(HB.box 1 [(V.ptr (h5).length 0)])]) ++ [(HB.box 1 [(V.ptr s 0)])]) ++ [(HB.box 1 [(V.sl 2 os osb)])]) ++ [(HB.row 21 1 (List.replicate n14 [(V.int .i32 0)]) true)]) (V.ptr ((((h5 ++ [(HB.box 3 cs8)]) ++ [(HB.box 1 [(V.ptr (h5).length 0)])]) ++ [(HB.box 1 [(V.ptr s 0)])])).length 0)) fun cs21 m20 o22 => if (o22 + 1 <= m20 /\ 0 < 1) then
 (bd (cs21)[o22]? fun v23 =>
 (cl (call n 181 [v19, v23, (V.fn 182 [(V.ptr ((((h5 ++ [(HB.box 3 cs8)]) ++ [(HB.box 1 [(V.ptr (h5).length 0)])]) ++ [(HB.box 1 [(V.ptr s 0)])])).length 0), (V.iptr 1 [(V.row (((((h5 ++ [(HB.box 3 cs8)]) ++ [(HB.box 1 [(V.ptr (h5).length 0)])]) ++ [(HB.box 1 [(V.ptr s 0)])]) ++ [(HB.box 1 [(V.sl 2 os osb)])])).length 1 0 ((List.replicate n14 [(V.int .i32 0)])).length)] 0)]), (V.fn 183 [(V.ptr (((h5 ++ [(HB.box 3 cs8)]) ++ [(HB.box 1 [(V.ptr (h5).length 0)])])).length 0), (V.iptr 1 [(V.row (((((h5 ++ [(HB.box 3 cs8)]) ++ [(HB.box 1 [(V.ptr (h5).length 0)])]) ++ [(HB.box 1 [(V.ptr s 0)])]) ++ [(HB.box 1 [(V.sl 2 os osb)])])).length 1 0 ((List.replicate n14 [(V.int .i32 0)])).length)] 0)])] (((((h5 ++ [(HB.box 3 cs8)]) ++ [(HB.box 1 [(V.ptr (h5).length 0)])]) ++ [(HB.box 1 [(V.ptr s 0)])]) ++ [(HB.box 1 [(V.sl 2 os osb)])]) ++ [(HB.row 21 1 (List.replicate n14 [(V.int .i32 0)]) true)])) (fun r24 h25 =>
 (one1 r24 fun v27 =>
 (bd (slcH h25 (V.row (((((h5 ++ [(HB.box 3 cs8)]) ++ [(HB.box 1 [(V.ptr (h5).length 0)])]) ++ [(HB.box 1 [(V.ptr s 0)])]) ++ [(HB.box 1 [(V.sl 2 os osb)])])).length 1 0 ((List.replicate n14 [(V.int .i32 0)])).length)) fun p28 =>
 (loopx n (matApply_l29 n s os osb h5 cs8 n14 v27 p28) [(V.sl 2 [] false), (V.int .i64 0)] h25)))) (fun z26 h25 => (bd2 (dcl n 179 [(V.ptr ((h5 ++ [(HB.box 3 cs8)])).length 0), (V.ptr (((h5 ++ [(HB.box 3 cs8)]) ++ [(HB.box 1 [(V.ptr (h5).length 0)])])).length 0), (V.ptr ((((h5 ++ [(HB.box 3 cs8)]) ++ [(HB.box 1 [(V.ptr (h5).length 0)])]) ++ [(HB.box 1 [(V.ptr s 0)])])).length 0)] h25 (some z26)) fun h49 b50 => if b50 then
 some (Res.ret [(V.row (h49).length 2 0 0)], (h49 ++ [(HB.row 35 2 [] true)]))
 else
 some (Res.pan z26, h49))))) else none)) else none) else none))))) else none) else none))))))
theorem matApply_eq (n : Nat) (s : Nat) (os : List (List V)) (osb : Bool) (h : Heap) : call (n + 1) 174 [(V.ptr s 0), (V.sl 2 os osb)] h = matApply n s os osb h := by kernel_rfl
noncomputable def matA1_l11 (n : Nat) (bs : Nat) (bo : Nat) (v9 : V) (p10 : Nat × List (List V)) (st12 : List V) (hh13 : Heap) (next14 : List V -> Heap -> Option (Heap × Bool)) : Option (Heap × Bool) :=
 (bd (bop prog .lss 3 (gv st12 0) (V.int .i64 ((p10.2).length : Int))) fun v15 =>
 (bv v15 fun b16 => if b16 then
 (bdS (nv (gv st12 0)) fun n17 =>
 (bd (idxP 1 n17 v9) fun p18 =>
 (bd3 (cellsP hh13 p18) fun cs20 m19 o21 => if (o21 + 1 <= m19 /\ 0 < 1) then
 (bd (cs20)[o21]? fun v22 =>
 (bd3 (cellsP hh13 (V.ptr bs 0)) fun cs24 m23 o25 => if (o25 + 1 <= m23 /\ 0 < 1) then
 (bd (cs24)[o25]? fun v26 =>
 (bd3 (cellsP hh13 (V.ptr bo 0)) fun cs28 m27 o29 => if (o29 + 1 <= m27 /\ 0 < 1) then
 (bd (cs28)[o29]? fun v30 =>
 (bdS (nv v22) fun n31 =>
 (bd (idxP 2 n31 v30) fun p32 =>
 (bd (addP 1 p32) fun p33 =>
 (bd3 (cellsP hh13 p33) fun cs35 m34 o36 => if (o36 + 1 <= m34 /\ 0 < 1) then
 (bd (cs35)[o36]? fun v37 =>
 (cl (call n 180 [v26, v37] hh13) (fun r38 h39 =>
 (one1 r38 fun v41 =>
 (bd (bop prog .add 3 (gv st12 0) (V.int .i64 1)) fun v42 =>
 (next14 [v42] h39)))) (fun z40 h39 => none))) else none))))) else none)) else none)) else none)))
 else
 some (hh13, false)))
noncomputable def matA1 (n : Nat) (b : Nat) (bs : Nat) (bo : Nat) (h : Heap) : Option (Heap × Bool) :=
 (bd3 (cellsP h (V.ptr b 0)) fun cs1 m0 o2 => if (o2 + 1 <= m0 /\ 0 < 1) then
 (bd (cs1)[o2]? fun v3 =>
 (bd (addP 0 v3) fun p4 =>
 (bd (addP 0 p4) fun p5 =>
 (bd3 (cellsP h p5) fun cs7 m6 o8 => if (o8 + 1 <= m6 /\ 0 < 1) then
 (bd (cs7)[o8]? fun v9 =>
 (bd (slcH h v9) fun p10 =>
 (loopx n (matA1_l11 n bs bo v9 p10) [(V.int .i64 0)] h))) else none)))) else none)
theorem matA1_eq (n : Nat) (b : Nat) (bs : Nat) (bo : Nat) (h : Heap) : dcl n 179 [(V.ptr b 0), (V.ptr bs 0), (V.ptr bo 0)] h none = matA1 n b bs bo h := by kernel_rfl
end Go.Proofs.Tryz
set_option linter.unusedVariables false
set_option linter.unusedSimpArgs false
namespace Go.Sk
open Go.L
def idxC (x : Nat) : List V := [.int .i64 (x : Int)]
end Go.Sk
namespace Go.Proofs.Tryz
open Go.L Go.Rp Go.Sk
set_option maxRecDepth 100000
def MatAt (h : Heap) (s : Nat) (sb : Option Nat) (u m : Nat) (xs : List Nat) : Prop := match sb with
  | none => xs = [] /\ h[s]? = some (.box 3 [.sl 0 [] true, .int .i64 (u : Int), .int .i64 (m : Int)])
  | some b => b ≠ s /\ ∃ l z, h[s]? = some (.box 3 [.row b 1 0 xs.length, .int .i64 (u : Int), .int .i64 (m : Int)]) /\ h[b]? = some (.row 3 1 l z) /\ xs.length <= l.length /\ l.take xs.length = xs.map idxC
theorem MatAt.keep {h h' : Heap} {s : Nat} {sb : Option Nat} {u m : Nat} {xs : List Nat} (hb : MatAt h s sb u m xs) (hc : h'[s]? = h[s]?) (hk : ∀ b, sb = some b -> h'[b]? = h[b]?) : MatAt h' s sb u m xs := by
  cases sb with
  | none => exact ⟨hb.1, hc.trans hb.2⟩
  | some b =>
    obtain ⟨h1, l, z, h2, h3, h4⟩ := hb
    exact ⟨h1, l, z, hc.trans h2, (hk b rfl).trans h3, h4⟩
theorem MatAt.box {h : Heap} {s : Nat} {sb : Option Nat} {u m : Nat} {xs : List Nat} (hb : MatAt h s sb u m xs) : ∃ v sz, h[s]? = some (.box 3 [v, .int .i64 (u : Int), .int .i64 (m : Int)]) /\ slcH h v = some (sz, xs.map idxC) := by
  cases sb with
  | none =>
    obtain ⟨rfl, hc⟩ := hb
    exact ⟨_, 0, hc, slcH_sl ..⟩
  | some b =>
    obtain ⟨h1, l, z, h2, h3, h4, h5⟩ := hb
    refine ⟨_, 1, h2, ?_⟩
    rw [slcH_row h3 (Nat.zero_le _) h4, List.drop_zero, h5]
theorem mat_push_full (n : Nat) {h : Heap} {s : Nat} {sb : Option Nat} {u m : Nat} {xs : List Nat} (hb : MatAt h s sb u m xs) (i : Int) (hm : m <= u + xs.length) (hl : u + xs.length < lim) : call (n + 1) 186 [.ptr s 0, .int .i64 i] h = some (.ret [.bool false], h) := by
  obtain ⟨v, sz, h1, h2⟩ := hb.box
  refine (matPush_eq n s i h).trans ?_
  unfold matPush
  rw [cellsP_box h1, bd3_some, if_pos (by decide)]
  simp only [List.getElem?_cons_zero, List.getElem?_cons_succ, bd_some]
  rw [cellsP_box h1, bd3_some, if_pos (by decide)]
  simp only [List.getElem?_cons_zero, bd_some]
  rw [h2, bd_some, bop_i64_add, bd_some, cellsP_box h1, bd3_some, if_pos (by decide)]
  simp only [List.getElem?_cons_zero, List.getElem?_cons_succ, bd_some]
  rw [bop_i64_geq, bd_some, bv_bool, List.length_map, w64 (by omega) (by unfold lim at hl; omega), if_pos (by simp; omega)]
theorem mat_push_call (n : Nat) {h : Heap} {s : Nat} {sb : Option Nat} {u m : Nat} {xs : List Nat} (hb : MatAt h s sb u m xs) (i : Nat) (hm : u + xs.length < m) (hl : u + xs.length + 1 < lim) :
    ∃ h' sb', call (n + 1) 186 [.ptr s 0, .int .i64 (i : Int)] h = some (.ret [.bool true], h') /\ MatAt h' s sb' u m (xs ++ [i]) /\ Fed h h' s sb sb' := by
  rw [matPush_eq n s i h]
  unfold matPush
  obtain ⟨v, sz, k1, k2⟩ := hb.box
  rw [cellsP_box k1, bd3_some, if_pos (by decide)]
  simp only [List.getElem?_cons_zero, List.getElem?_cons_succ, bd_some]
  rw [cellsP_box k1, bd3_some, if_pos (by decide)]
  simp only [List.getElem?_cons_zero, bd_some]
  rw [k2, bd_some, bop_i64_add, bd_some, cellsP_box k1, bd3_some, if_pos (by decide)]
  simp only [List.getElem?_cons_zero, List.getElem?_cons_succ, bd_some]
  rw [bop_i64_geq, bd_some, bv_bool, List.length_map, w64 (by omega) (by unfold lim at hl; omega), if_neg (by simp; omega), bd3_some, if_pos (by decide)]
  simp only [List.getElem?_cons_zero, bd_some]
  cases sb with
  | none =>
    obtain ⟨rfl, hc⟩ := hb
    have hcl := lt_of_at hc
    obtain rfl : v = .sl 0 [] true := by rw [hc] at k1; simpa using k1.symm
    have happ : appP 3 1 h [[.int .i64 (i : Int)]] (.sl 0 [] true) = some (.row h.length 1 0 1, h ++ [.row 3 1 [[.int .i64 (i : Int)]] true]) := rfl
    simp only [happ, bd2_some, V.cells, List.length_cons, List.length_nil, Nat.zero_add, if_true]
    have hc' : (h ++ [HB.row 3 1 [[.int .i64 (i : Int)]] true])[s]? = some (.box 3 [.sl 0 [] true, .int .i64 (u : Int), .int .i64 (m : Int)]) := by rw [List.getElem?_append_left hcl]; exact hc
    rw [writeB_box hc' (by simp), bd2_some]
    refine ⟨_, some h.length, rfl, ⟨by omega, [[.int .i64 (i : Int)]], true, ?_, ?_, ?_, ?_⟩, ⟨by simp, fun j h1 h2 h3 => ?_, fun b hb => .inr (by cases hb; exact Nat.le_refl _)⟩⟩
    · rw [set_at (by simp; omega)]; rfl
    · rw [List.getElem?_set_ne (by omega)]; exact List.getElem?_concat_length
    · simp
    · simp [idxC]
    · rw [List.getElem?_set_ne (by omega), List.getElem?_append_left h1]
  | some b =>
    obtain ⟨h1, l, z, h2, h3, h4, h5⟩ := hb
    have hcl := lt_of_at h2
    have hbl := lt_of_at h3
    obtain rfl : v = .row b 1 0 xs.length := by rw [h2] at k1; simpa using k1.symm
    have happ : appP 3 1 h [[.int .i64 (i : Int)]] (.row b 1 0 xs.length) = some (.row h.length 1 0 (xs.length + 1), h.set b .dead ++ [.row 3 1 (xs.map idxC ++ [[.int .i64 (i : Int)]]) z]) := by
      simp only [appP, h3]
      rw [if_pos (by refine ⟨⟨?_, ?_, ?_⟩, ⟨by omega, h4⟩, by simp; omega⟩ <;> first | trivial | rfl), List.drop_zero, h5]
      simp
    rw [happ, bd2_some]
    simp only [V.cells, List.length_cons, List.length_nil, Nat.zero_add, if_true]
    have hc' : (h.set b .dead ++ [HB.row 3 1 (xs.map idxC ++ [[.int .i64 (i : Int)]]) z])[s]? = some (.box 3 [.row b 1 0 xs.length, .int .i64 (u : Int), .int .i64 (m : Int)]) := by
      rw [List.getElem?_append_left (by simpa using hcl), List.getElem?_set_ne h1]; exact h2
    rw [writeB_box hc' (by simp), bd2_some]
    refine ⟨_, some h.length, rfl, ⟨by omega, xs.map idxC ++ [[.int .i64 (i : Int)]], z, ?_, ?_, ?_, ?_⟩, ⟨by simp, fun j k1 k2 k3 => ?_, fun b hb => .inr (by cases hb; exact Nat.le_refl _)⟩⟩
    · rw [set_at (by simp; omega)]; simp; rfl
    · rw [List.getElem?_set_ne (by omega), List.getElem?_append_right (by simp)]; simp
    · simp
    · simp [idxC, List.take_of_length_le]
    · rw [List.getElem?_set_ne (by omega), List.getElem?_append_left (by simpa using k1), List.getElem?_set_ne (fun e => k3 (by rw [e]))]
theorem mat_under_none (n : Nat) {h : Heap} {s : Nat} {sb : Option Nat} {m : Nat} {xs : List Nat} (hb : MatAt h s sb 0 m xs) : call (n + 1) 188 [.ptr s 0] h = some (.ret [.bool false], h) := by
  obtain ⟨v, sz, h1, h2⟩ := hb.box
  refine (matUnder_eq n s h).trans ?_
  unfold matUnder
  rw [cellsP_box h1, bd3_some, if_pos (by decide)]
  simp only [List.getElem?_cons_zero, List.getElem?_cons_succ, bd_some]
  rw [bop_i64_eql, bd_some, bv_bool, if_pos (by rfl)]
theorem mat_under_call (n : Nat) {h : Heap} {s : Nat} {sb : Option Nat} {u m : Nat} {xs : List Nat} (hb : MatAt h s sb (u + 1) m xs) (hu : u < lim) :
    ∃ h', call (n + 1) 188 [.ptr s 0] h = some (.ret [.bool true], h') /\ MatAt h' s sb u m xs /\ h'.length = h.length /\ ∀ i, i ≠ s -> h'[i]? = h[i]? := by
  have hw : IntKind.i64.wrap (((u + 1 : Nat) : Int) - 1) = (u : Int) := by unfold lim at hu; rw [w64] <;> omega
  rw [matUnder_eq n s h]
  unfold matUnder
  cases sb with
  | none =>
    obtain ⟨rfl, hc⟩ := hb
    rw [cellsP_box hc, bd3_some, if_pos (by decide)]
    simp only [List.getElem?_cons_zero, List.getElem?_cons_succ, bd_some]
    rw [bop_i64_eql, bd_some, bv_bool, if_neg (by simp; omega), bd3_some, if_pos (by decide)]
    simp only [List.getElem?_cons_zero, List.getElem?_cons_succ, bd_some]
    rw [bop_i64_sub, bd_some, hw, if_pos (by rfl), writeB_box hc (by simp [V.cells]), bd2_some]
    refine ⟨_, rfl, ⟨rfl, ?_⟩, by rw [List.length_set], fun i hi => List.getElem?_set_ne (Ne.symm hi)⟩
    rw [set_at (lt_of_at hc)]; rfl
  | some b =>
    obtain ⟨h1, l, z, h2, h3, h4, h5⟩ := hb
    rw [cellsP_box h2, bd3_some, if_pos (by decide)]
    simp only [List.getElem?_cons_zero, List.getElem?_cons_succ, bd_some]
    rw [bop_i64_eql, bd_some, bv_bool, if_neg (by simp; omega), bd3_some, if_pos (by decide)]
    simp only [List.getElem?_cons_zero, List.getElem?_cons_succ, bd_some]
    rw [bop_i64_sub, bd_some, hw, if_pos (by rfl), writeB_box h2 (by simp [V.cells]), bd2_some]
    refine ⟨_, rfl, ⟨h1, l, z, ?_, ?_, h4, h5⟩, by rw [List.length_set], fun i hi => List.getElem?_set_ne (Ne.symm hi)⟩
    · rw [set_at (lt_of_at h2)]; rfl
    · rw [List.getElem?_set_ne (Ne.symm h1)]; exact h3
theorem mat_pop_none (n : Nat) {h : Heap} {s : Nat} {sb : Option Nat} {u m : Nat} (hb : MatAt h s sb u m []) : call (n + 1) 187 [.ptr s 0] h = some (.ret [.int .i64 (-1), .bool false], h) := by
  obtain ⟨v, sz, h1, h2⟩ := hb.box
  refine (matPop_eq n s h).trans ?_
  unfold matPop
  rw [cellsP_box h1, bd3_some, if_pos (by decide)]
  simp only [List.getElem?_cons_zero, bd_some]
  rw [h2, bd_some, if_pos (by show decide (IntKind.i64.wrap (((0 : Nat) : Int) - 1) < 0) = true; decide)]
theorem mat_pop_call (n : Nat) {h : Heap} {s : Nat} {sb : Option Nat} {u m : Nat} {xs : List Nat} {x : Nat} (hb : MatAt h s sb u m (xs ++ [x])) (hl : xs.length + 1 < lim) :
    ∃ h', call (n + 1) 187 [.ptr s 0] h = some (.ret [.int .i64 (x : Int), .bool true], h') /\ MatAt h' s sb u m xs /\ h'.length = h.length /\ ∀ i, i ≠ s -> h'[i]? = h[i]? := by
  rw [matPop_eq]
  unfold matPop
  cases sb with
  | none => exact absurd hb.1 (by simp)
  | some b =>
    obtain ⟨h1, l, z, h2, h3, h4, h5⟩ := hb
    rw [List.length_append, List.length_singleton] at h2 h4 h5
    have hcl := lt_of_at h2
    have hx : l[xs.length]? = some [.int .i64 (x : Int)] := by
      have := congrArg (fun t : List (List V) => t[xs.length]?) h5
      simpa [idxC, List.getElem?_take] using this
    have hr : l.take xs.length = xs.map idxC := by
      have := congrArg (List.take xs.length) h5
      rw [List.take_take, Nat.min_eq_left (by omega)] at this
      rw [this, List.map_append, List.take_append_of_le_length (by simp), List.take_of_length_le (by simp)]
    have hw : IntKind.i64.wrap ((((l.take (xs.length + 1)).drop 0).length : Int) - 1) = (xs.length : Int) := by
      rw [List.drop_zero, h5]
      rw [show (((List.map idxC (xs ++ [x])).length : Int) - 1) = (xs.length : Int) by simp]
      unfold lim at hl; rw [w64] <;> omega
    have hn : nv (V.int .i64 (xs.length : Int)) = some xs.length := by simp [nv]
    rw [cellsP_box h2, bd3_some, if_pos (by decide)]
    simp only [List.getElem?_cons_zero, bd_some]
    rw [slcH_row h3 (Nat.zero_le _) h4, bd_some, hw, if_neg (by simp), bd3_some, if_pos (by decide)]
    simp only [List.getElem?_cons_zero, bd_some]
    rw [hn, bdS_some, idxP_row (by omega), bd_some, Nat.zero_add, cellsP_rptr h3 (by decide) hx, bd3_some, if_pos (by decide)]
    simp only [List.getElem?_cons_zero, bd_some]
    rw [bd3_some, if_pos (by decide)]
    simp only [List.getElem?_cons_zero, bd_some]
    rw [lenP_row, bd_some, bdS_some, sliceP_row (Nat.zero_le _) (by omega), bd_some]
    simp only [V.cells, List.length_cons, List.length_nil, Nat.zero_add, if_true]
    rw [writeB_box h2 (by simp), bd2_some]
    refine ⟨_, rfl, ⟨h1, l, z, ?_, ?_, by omega, hr⟩, by rw [List.length_set], fun i hi => List.getElem?_set_ne (Ne.symm hi)⟩
    · rw [set_at hcl]; rfl
    · rw [List.getElem?_set_ne (Ne.symm h1)]; exact h3
theorem mat_a2_call (n : Nat) {h : Heap} {bo r : Nat} {os : List O} {osb : Bool} {l : List (List V)} {z : Bool} {i j : Nat} (ho : h[bo]? = some (.box 1 [.sl 2 (os.map O.w) osb])) (hr : h[r]? = some (.row 21 1 l z)) (hl : ∀ es ∈ l, es.length = 1) (hi : i < l.length) (hj : j < os.length) :
    call (n + 1) 182 [.int .i64 (i : Int), .int .i64 (j : Int), .ptr bo 0, .iptr 1 [.row r 1 0 l.length] 0] h = some (.ret [], h.set r (.row 21 1 (l.set i [.int .i32 os[j].v]) z)) := by
  refine (matA2_eq n _ _ bo r _ h).trans ?_
  unfold matA2
  have hx : l[i]? = some l[i] := List.getElem?_eq_getElem hi
  have h1 : l[i].length = 1 := hl _ (List.getElem_mem hi)
  rw [cellsP_box ho, bd3_some, if_pos (by decide)]
  simp only [List.getElem?_cons_zero, bd_some]
  rw [nv_nat, bdS_some, idxP_sl (es := O.w os[j]) (by rw [List.getElem?_map, List.getElem?_eq_getElem hj]; rfl), bd_some]
  simp only [addP, bd_some]
  rw [cellsP_iptr, bd3_some, if_pos (by decide)]
  simp only [O.w, Nat.zero_add, List.getElem?_cons_succ, List.getElem?_cons_zero, bd_some]
  rw [nv_nat, bdS_some, idxP_row (by omega), bd_some, Nat.zero_add]
  simp only [V.cells, List.length_cons, List.length_nil, Nat.zero_add, if_true]
  have hw : writeB h [V.int .i32 os[j].v] (.rptr r 1 i 0) = some (r, .row 21 1 (l.set i [.int .i32 os[j].v]) z) := by
    obtain ⟨e, he⟩ : ∃ e, l[i] = [e] := List.length_eq_one_iff.1 h1
    simp [writeB, hr, hx, he, setR]
  rw [hw, bd2_some]
theorem mat_a3_call (n : Nat) {h : Heap} {bs r s : Nat} {sb : Option Nat} {most : Int} {xs : List Int} {x : Int} {l : List (List V)} {z : Bool} {i : Nat} (hbs : h[bs]? = some (.box 1 [.ptr s 0])) (hs : StkAt h s sb most (xs ++ [x])) (hm : xs.length + 1 < lim) (hr : h[r]? = some (.row 21 1 l z)) (hrs : r ≠ s) (hrb : sb ≠ some r) (hl : ∀ es ∈ l, es.length = 1) (hi : i < l.length) :
    ∃ h', call (n + 3) 183 [.int .i64 (i : Int), .ptr bs 0, .iptr 1 [.row r 1 0 l.length] 0] h = some (.ret [], h') /\ StkAt h' s sb most xs /\ h'[r]? = some (.row 21 1 (l.set i [.int .i32 x]) z) /\ h'.length = h.length /\ ∀ j, j ≠ s -> j ≠ r -> h'[j]? = h[j]? := by
  obtain ⟨h1, e, b1, b2, b3⟩ := stk_pop_call n hs hm
  have hr1 : h1[r]? = some (.row 21 1 l z) := (b3 r hrs).trans hr
  have hx : l[i]? = some l[i] := List.getElem?_eq_getElem hi
  have hw : writeB h1 [V.int .i32 x] (.rptr r 1 i 0) = some (r, .row 21 1 (l.set i [.int .i32 x]) z) := by
    obtain ⟨e, he⟩ : ∃ e, l[i] = [e] := List.length_eq_one_iff.1 (hl _ (List.getElem_mem hi))
    simp [writeB, hr1, hx, he, setR]
  rw [matA3_eq]
  unfold matA3
  rw [cellsP_box hbs, bd3_some, if_pos (by decide)]
  simp only [List.getElem?_cons_zero, bd_some]
  rw [e]
  simp only [clH, List.getElem?_cons_zero, List.getElem?_cons_succ, bd_some]
  rw [nv_nat, bdS_some, idxP_row (by omega), bd_some, Nat.zero_add]
  simp only [V.cells, ixP, List.length_cons, List.length_nil, Nat.zero_add, if_true]
  rw [hw, bd2_some]
  refine ⟨_, rfl, b1.keep (List.getElem?_set_ne hrs) (fun b hb => List.getElem?_set_ne (fun e => hrb (by rw [hb, e]))), set_at (lt_of_at hr1) _, by rw [List.length_set]; exact b2, fun j h2 h3 => ?_⟩
  rw [List.getElem?_set_ne (Ne.symm h3)]
  exact b3 j h2
end Go.Proofs.Tryz
set_option linter.unusedVariables false
namespace Go.Proofs.Tryz
open Go.L
set_option maxRecDepth 100000
end Go.Proofs.Tryz
set_option linter.unusedVariables false
set_option linter.unusedSimpArgs false
namespace Go.Sk
open Go.L
end Go.Sk
namespace Go.Proofs.Tryz
open Go.L Go.Rp Go.Sk
set_option maxRecDepth 100000
theorem bop_i64_rem {a b : Nat} (h : b ≠ 0) : bop prog .rem 3 (.int .i64 (a : Int)) (.int .i64 (b : Int)) = some (.int .i64 ((a % b : Nat) : Int)) := by
  have : bop prog .rem 3 (.int .i64 (a : Int)) (.int .i64 (b : Int)) = if (b : Int) = 0 then none else some (.int .i64 ((a : Int).tmod b)) := by kernel_rfl
  rw [this, if_neg (by omega)]; rfl
end Go.Proofs.Tryz
set_option linter.unusedVariables false
namespace Go.Proofs.Tryz
open Go.L
set_option maxRecDepth 100000
end Go.Proofs.Tryz
set_option linter.unusedVariables false
set_option linter.unusedSimpArgs false
namespace Go.Sk
open Go.L Go.Rp
end Go.Sk
namespace Go.Proofs.Tryz
open Go.L Go.Rp Go.Sk
set_option maxRecDepth 100000
end Go.Proofs.Tryz
set_option linter.unusedVariables false
namespace Go.Proofs.Tryz
open Go.L
set_option maxRecDepth 100000
noncomputable def objNew1 (n : Nat) (x0 : Int) (h : Heap) : Option (Res × Heap) :=
 (cl (call n 57 [(V.int .i64 x0)] h) (fun r0 h1 =>
 (one1 r0 fun v3 =>
 (bd (bldV prog 112 [(0, v3)]) fun cs4 =>
 some (Res.ret [(V.iface 112 (V.agg cs4))], h1)))) (fun z2 h1 => some (Res.pan z2, h1)))
theorem objNew1_eq (n : Nat) (x0 : Int) (h : Heap) : call (n + 1) 56 [(V.int .i64 x0)] h = objNew1 n x0 h := by kernel_rfl
noncomputable def objDo (n : Nat) (s : Nat) (os : List (List V)) (osb : Bool) (h : Heap) : Option (Res × Heap) :=
 (bd (bopH prog h .eql 25 (V.ptr s 0) (V.val (.pointer none))) fun v0 =>
 (bv v0 fun b1 => if b1 then
 some (Res.ret [(V.sl 2 [] false)], h)
 else
 (bd3 (cellsP h (V.ptr s 2)) fun cs3 m2 o4 => if (o4 + 1 <= m2 /\ 0 < 1) then
 (bd (cs3)[o4]? fun v5 =>
 (bv v5 fun b6 => if b6 then
 (bd3 (cellsP h (V.ptr s 0)) fun cs8 m7 o9 => if (o9 + 1 <= m7 /\ 0 < 1) then
 (bd (cs8)[o9]? fun v10 =>
 (bd3 (cellsP h (V.ptr s 1)) fun cs12 m11 o13 => if (o13 + 1 <= m11 /\ 0 < 1) then
 (bd (cs12)[o13]? fun v14 =>
 (if (nckV v10 = true) then
 (ifK v10 fun t15 w16 => bd2 (methV prog t15 w16 "reaper/object.plain") fun f17 w18 => if (keepS f17 = true /\ okV prog 28 f17 = true) then
 (clH (call n f17 ([w18] ++ [v14, (V.sl 2 os osb)]) h) fun r19 h20 =>
 (one1 r19 fun v22 =>
 some (Res.ret [v22], h20))) else none) else none)) else none)) else none)
 else
 (bd3 (cellsP h (V.ptr s 0)) fun cs24 m23 o25 => if (o25 + 1 <= m23 /\ 0 < 1) then
 (bd (cs24)[o25]? fun v26 =>
 (bd3 (cellsP h (V.ptr s 1)) fun cs28 m27 o29 => if (o29 + 1 <= m27 /\ 0 < 1) then
 (bd (cs28)[o29]? fun v30 =>
 (if (nckV v26 = true) then
 (ifK v26 fun t31 w32 => bd2 (methV prog t31 w32 "reaper/object.batch") fun f33 w34 => if (keepS f33 = true /\ okV prog 28 f33 = true) then
 (clH (call n f33 ([w34] ++ [v30, (V.sl 2 os osb)]) h) fun r35 h36 =>
 (one1 r35 fun v38 =>
 some (Res.ret [v38], h36))) else none) else none)) else none)) else none))) else none)))
theorem objDo_eq (n : Nat) (s : Nat) (os : List (List V)) (osb : Bool) (h : Heap) : call (n + 1) 17 [(V.ptr s 0), (V.sl 2 os osb)] h = objDo n s os osb h := by kernel_rfl
noncomputable def objItems (n : Nat) (s : Nat) (h : Heap) : Option (Res × Heap) :=
 (bd (bopH prog h .eql 25 (V.ptr s 0) (V.val (.pointer none))) fun v0 =>
 (bv v0 fun b1 => if b1 then
 some (Res.ret [(V.sl 1 [] false)], h)
 else
 (bd3 (cellsP h (V.ptr s 0)) fun cs3 m2 o4 => if (o4 + 1 <= m2 /\ 0 < 1) then
 (bd (cs3)[o4]? fun v5 =>
 (ifK v5 fun t6 w7 => bd2 (methV prog t6 w7 "Items") fun f8 w9 => if (keepS f8 = true /\ okV prog 27 f8 = true) then
 (cl (call n f8 ([w9] ++ []) h) (fun r10 h11 =>
 (one1 r10 fun v13 =>
 some (Res.ret [v13], h11))) (fun z12 h11 => some (Res.pan z12, h11))) else none)) else none)))
theorem objItems_eq (n : Nat) (s : Nat) (h : Heap) : call (n + 1) 20 [(V.ptr s 0)] h = objItems n s h := by kernel_rfl
noncomputable def stkBatch (n : Nat) (s : Nat) (c : Nat) (os : List (List V)) (osb : Bool) (h : Heap) : Option (Res × Heap) :=
 (cl (call n 174 [(V.ptr s 0), (V.sl 2 os osb)] h) (fun r0 h1 =>
 (one1 r0 fun v3 =>
 some (Res.ret [v3], h1))) (fun z2 h1 => some (Res.pan z2, h1)))
theorem stkBatch_eq (n : Nat) (s : Nat) (c : Nat) (os : List (List V)) (osb : Bool) (h : Heap) : call (n + 1) 171 [(V.agg [(V.ptr s 0)]), (V.ptr c 0), (V.sl 2 os osb)] h = stkBatch n s c os osb h := by kernel_rfl
end Go.Proofs.Tryz
set_option linter.unusedVariables false
set_option linter.unusedSimpArgs false
namespace Go.Sk
open Go.L Go.Rp
def stkR (most : Int) (o : O) (xs : List Int) : R := ⟨(stkStep most o.k o.v xs).1.1, (stkStep most o.k o.v xs).1.2⟩
def stkRun (most : Int) : List O -> List Int -> List R × List Int
  | [], xs => ([], xs)
  | o :: r, xs => (stkR most o xs :: (stkRun most r (stkStep most o.k o.v xs).2).1, (stkRun most r (stkStep most o.k o.v xs).2).2)
theorem stkRun_len (most : Int) : ∀ (l : List O) (xs : List Int), (stkRun most l xs).1.length = l.length
  | [], _ => rfl
  | o :: r, xs => by simp [stkRun, stkRun_len most r]
end Go.Sk
namespace Go.Proofs.Tryz
open Go.L Go.Rp Go.Sk
set_option maxRecDepth 100000
end Go.Proofs.Tryz
set_option linter.unusedVariables false
namespace Go.Sk
open Go.L Go.Rp
def mStep (most : Int) (vals : Nat -> Int) (i : Nat) (c : Int) (ws : List Nat) (xs : List Int) : (Int × Int) × List Nat × List Int :=
  if c = 1 then (if ((xs.length + ws.length : Nat) : Int) < most then ((1, 0), ws ++ [i], xs) else ((3, 0), ws, xs))
  else if c = 2 then (match ws.getLast? with
    | some w => ((2, vals w), ws.dropLast, xs)
    | none => (match xs.getLast? with | some y => ((2, y), ws, xs.dropLast) | none => ((4, 0), ws, xs)))
  else ((5, 0), ws, xs)
theorem mStep_stk (most : Int) (vals : Nat -> Int) (i : Nat) (c : Int) (ws : List Nat) (xs : List Int) :
    stkStep most c (vals i) (xs ++ ws.map vals) = ((mStep most vals i c ws xs).1, (mStep most vals i c ws xs).2.2 ++ (mStep most vals i c ws xs).2.1.map vals) := by
  unfold stkStep mStep
  by_cases h1 : c = 1
  · rw [if_pos h1, if_pos h1, List.length_append, List.length_map]
    by_cases h : ((xs.length + ws.length : Nat) : Int) < most
    · rw [if_pos h, if_pos h]; simp
    · rw [if_neg h, if_neg h]
  · rw [if_neg h1, if_neg h1]
    by_cases h2 : c = 2
    · rw [if_pos h2, if_pos h2]
      rcases List.eq_nil_or_concat ws with rfl | ⟨w0, w, rfl⟩
      · rcases List.eq_nil_or_concat xs with rfl | ⟨x0, x, rfl⟩
        · simp
        · simp
      · simp [<- List.append_assoc]
    · rw [if_neg h2, if_neg h2]
end Go.Sk
set_option linter.unusedVariables false
set_option linter.unusedSimpArgs false
namespace Go.Sk
open Go.L Go.Rp
def cdC (t : R) : List V := [.int .u8 t.c, .int .i32 0]
def vlC (t : R) : List V := [.int .i32 t.v]
def mRun (most : Int) (vals : Nat -> Int) : List O -> Nat -> List Nat -> List Int -> List R × List Nat × List Int
  | [], i, ws, xs => ([], ws, xs)
  | o :: l, i, ws, xs =>
    let t := mStep most vals i o.k ws xs
    let z := mRun most vals l (i + 1) t.2.1 t.2.2
    (⟨t.1.1, t.1.2⟩ :: z.1, z.2)
theorem mRun_len (most : Int) (vals : Nat -> Int) : ∀ (l : List O) (i : Nat) (ws : List Nat) (xs : List Int), (mRun most vals l i ws xs).1.length = l.length
  | [], _, _, _ => rfl
  | o :: l, i, ws, xs => by simp [mRun, mRun_len most vals l]
theorem mRun_stk (most : Int) (vals : Nat -> Int) : ∀ (l : List O) (i : Nat) (ws : List Nat) (xs : List Int), (∀ j o, l[j]? = some o -> vals (i + j) = o.v) →
    stkRun most l (xs ++ ws.map vals) = ((mRun most vals l i ws xs).1, (mRun most vals l i ws xs).2.2 ++ (mRun most vals l i ws xs).2.1.map vals)
  | [], i, ws, xs, hv => rfl
  | o :: l, i, ws, xs, hv => by
    have h0 : vals i = o.v := hv 0 o rfl
    have hs := mStep_stk most vals i o.k ws xs
    rw [h0] at hs
    have ih := mRun_stk most vals l (i + 1) (mStep most vals i o.k ws xs).2.1 (mStep most vals i o.k ws xs).2.2 (fun j p hj => by rw [show i + 1 + j = i + (j + 1) by omega]; exact hv (j + 1) p hj)
    simp only [stkRun, mRun, stkR, hs, ih]
theorem mStep_ws (most : Int) (vals : Nat -> Int) (i : Nat) (c : Int) (ws : List Nat) (xs : List Int) (h : ∀ w ∈ ws, w < i) : ∀ w ∈ (mStep most vals i c ws xs).2.1, w < i + 1 := by
  have h' : ∀ w ∈ ws, w < i + 1 := fun w hw => Nat.lt_succ_of_lt (h w hw)
  unfold mStep
  split
  · split
    · intro w hw
      rcases List.mem_append.1 hw with hw | hw
      · exact h' w hw
      · rw [List.mem_singleton.1 hw]; exact Nat.lt_succ_self i
    · exact h'
  · split
    · split
      · exact fun w hw => h' w (List.dropLast_subset _ hw)
      · split <;> exact h'
    · exact h'
theorem mStep_len (most : Int) (vals : Nat -> Int) (i : Nat) (c : Int) (ws : List Nat) (xs : List Int) : (mStep most vals i c ws xs).2.1.length + (mStep most vals i c ws xs).2.2.length <= ws.length + xs.length + 1 := by
  unfold mStep
  split
  · split <;> simp <;> omega
  · split
    · split
      · simp; omega
      · split <;> simp; omega
    · simp
structure Lay (B s q bo bs r : Nat) (qb : Option Nat) : Prop where
  s1 : s < B
  q1 : q < B
  o1 : bo < B
  b1 : bs < B
  r1 : r < B
  sq : s ≠ q
  so : s ≠ bo
  sb : s ≠ bs
  sr : s ≠ r
  qo : q ≠ bo
  qb' : q ≠ bs
  qr : q ≠ r
  ro : r ≠ bo
  rb : r ≠ bs
  own : ∀ b, qb = some b -> b < B /\ b ≠ s /\ b ≠ q /\ b ≠ r
end Go.Sk
namespace Go.Proofs.Tryz
open Go.L Go.Rp Go.Sk
set_option maxRecDepth 100000
structure MInv (B s q r : Nat) (qb : Option Nat) (m : Nat) (h0 h : Heap) (sb : Option Nat) (ws : List Nat) (xs : List Int) (done : List R) (d : Nat) : Prop where
  mt : MatAt h s sb xs.length m ws
  fr : ∀ b, sb = some b -> B <= b
  le : B <= h.length
  st : StkAt h q qb (m : Int) xs
  row : h[r]? = some (.row 21 1 (done.map vlC ++ List.replicate d [.int .i32 0]) true)
  rest : ∀ j, j < B -> j ≠ s -> j ≠ q -> j ≠ r -> h[j]? = h0[j]?
theorem MInv.meet {B s q bo bs r : Nat} {qb : Option Nat} {m : Nat} {h0 h h' : Heap} {sb sb' : Option Nat} {ws ws' : List Nat} {xs : List Int} {done : List R} {d : Nat} (L : Lay B s q bo bs r qb) (I : MInv B s q r qb m h0 h sb ws xs done d)
    (b1 : MatAt h' s sb' xs.length m ws') (b2 : Fed h h' s sb sb') : MInv B s q r qb m h0 h' sb' ws' xs done d := by
  have hk : ∀ j, j < B -> j ≠ s -> h'[j]? = h[j]? := fun j h1 h2 => b2.old j (Nat.lt_of_lt_of_le h1 I.le) h2 (fun e => by have := I.fr j e; omega)
  exact ⟨b1, fun b hb => by rcases b2.own b hb with e | e; exact I.fr b e; exact Nat.le_trans I.le e, Nat.le_trans I.le b2.len, I.st.keep (hk q L.q1 L.sq.symm) (fun b hb => hk b (L.own b hb).1 (L.own b hb).2.1), (hk r L.r1 L.sr.symm).trans I.row, fun j h1 h2 h3 h4 => (hk j h1 h2).trans (I.rest j h1 h2 h3 h4)⟩
theorem MInv.told {B s q r : Nat} {qb : Option Nat} {m : Nat} {h0 h : Heap} {sb : Option Nat} {ws : List Nat} {xs : List Int} {done : List R} {d : Nat} (I : MInv B s q r qb m h0 h sb ws xs done (d + 1)) (c : Int) : MInv B s q r qb m h0 h sb ws xs (done ++ [⟨c, 0⟩]) d :=
  ⟨I.mt, I.fr, I.le, I.st, by rw [I.row]; simp [List.replicate_succ, vlC], I.rest⟩
theorem row_len {done : List R} {d : Nat} : ∀ es ∈ done.map vlC ++ List.replicate d [V.int .i32 0], es.length = 1 := by
  intro es hes
  rcases List.mem_append.1 hes with h | h
  · obtain ⟨t, _, rfl⟩ := List.mem_map.1 h; rfl
  · rw [(List.mem_replicate.1 h).2]; rfl
theorem row_set (done : List R) (d : Nat) (c v : Int) : (done.map vlC ++ List.replicate (d + 1) [V.int .i32 0]).set done.length [.int .i32 v] = (done ++ [(⟨c, v⟩ : R)]).map vlC ++ List.replicate d [.int .i32 0] := by
  rw [List.set_append_right _ _ (by simp)]
  simp [List.replicate_succ, vlC]
theorem told_get (done : List R) (d : Nat) (a : Int) : (done.map cdC ++ ([V.int .u8 a, V.int .i32 0] :: List.replicate d [V.int .u8 0, V.int .i32 0]))[done.length]? = some [.int .u8 a, .int .i32 0] := by
  rw [List.getElem?_append_right (by simp)]; simp
theorem told_set1 (done : List R) (d : Nat) (c a : Int) : (done.map cdC ++ ([V.int .u8 a, V.int .i32 0] :: List.replicate d [V.int .u8 0, V.int .i32 0])).set done.length (setR [V.int .u8 a, .int .i32 0] 0 [V.int .u8 c]) = done.map cdC ++ ([V.int .u8 c, V.int .i32 0] :: List.replicate d [V.int .u8 0, V.int .i32 0]) := by
  rw [List.set_append_right _ _ (by simp)]
  simp [setR]
theorem told_end (done : List R) (d : Nat) (c v : Int) : done.map cdC ++ ([V.int .u8 c, V.int .i32 0] :: List.replicate d [V.int .u8 0, V.int .i32 0]) = (done ++ [(⟨c, v⟩ : R)]).map cdC ++ List.replicate d [.int .u8 0, .int .i32 0] := by simp [cdC]
def valsOf (os : List O) (j : Nat) : Int := (os[j]?.map O.v).getD 0
theorem mat_all_step (n s q bo bs r B : Nat) (osb : Bool) (m : Nat) (os : List O) {qb sb : Option Nat} {h0 h : Heap} {ws : List Nat} {xs : List Int} {done : List R} {d : Nat} (L : Lay B s q bo bs r qb) (I : MInv B s q r qb m h0 h sb ws xs done (d + 1))
    (hbo : h0[bo]? = some (.box 1 [.sl 2 (os.map O.w) osb])) (hbs : h0[bs]? = some (.box 1 [.ptr q 0])) (hd : done.length + (d + 1) = os.length) (hw : ∀ w ∈ ws, w < done.length) (hl : ws.length + xs.length + 1 < lim) (hos : os.length < lim) (o : O) (ho : os[done.length]? = some o) :
    ∃ h' sb' t, t = mStep (m : Int) (valsOf os) done.length o.k ws xs /\ (∀ next, matAll_l2 (n + 3) s (os.map O.w) osb bo bs r os.length [.sl 2 [] false, .sl 2 (done.map cdC ++ List.replicate (d + 1) [.int .u8 0, .int .i32 0]) false, .bool false, .int .i64 (done.length : Int)] h next = next [.sl 2 [] false, .sl 2 ((done ++ [(⟨t.1.1, t.1.2⟩ : R)]).map cdC ++ List.replicate d [.int .u8 0, .int .i32 0]) false, .bool false, .int .i64 ((done.length + 1 : Nat) : Int)] h') /\ MInv B s q r qb m h0 h' sb' t.2.1 t.2.2 (done ++ [⟨t.1.1, t.1.2⟩]) d := by
  have hlt : done.length < os.length := by omega
  have hix : idxP 2 done.length (.sl 2 (os.map O.w) osb) = some (.iptr 2 (O.w o) 0) := by simp [idxP, ho]
  have hbo' := (I.rest bo L.o1 L.so.symm L.qo.symm L.ro.symm).trans hbo
  have hbs' := (I.rest bs L.b1 L.sb.symm L.qb'.symm L.rb.symm).trans hbs
  have hwrap : IntKind.i64.wrap ((done.length : Int) + 1) = ((done.length + 1 : Nat) : Int) := step64 (by omega)
  have front : ∀ next, matAll_l2 (n + 3) s (os.map O.w) osb bo bs r os.length [.sl 2 [] false, .sl 2 (done.map cdC ++ List.replicate (d + 1) [.int .u8 0, .int .i32 0]) false, .bool false, .int .i64 (done.length : Int)] h next = matAll_l2 (n + 3) s (os.map O.w) osb bo bs r os.length [.sl 2 [] false, .sl 2 (done.map cdC ++ ([.int .u8 0, .int .i32 0] :: List.replicate d [.int .u8 0, .int .i32 0])) false, .bool false, .int .i64 (done.length : Int)] h next := fun next => by rw [List.replicate_succ]
  have hlen : done.length < (done.map cdC ++ ([V.int .u8 0, V.int .i32 0] :: List.replicate d [V.int .u8 0, V.int .i32 0])).length := by simp
  have hput : ∀ k : Int, setR [V.int .u8 0, V.int .i32 0] 0 (O.w o) = O.w o := fun _ => rfl
  have hll : (done.map vlC ++ List.replicate (d + 1) [V.int .i32 0]).length = os.length := by simp; omega
  by_cases k1 : o.k = 1
  · by_cases hm : xs.length + ws.length < m
    · obtain ⟨h', sb', e, c1, c2⟩ := mat_push_call (n + 2) I.mt done.length hm (by omega)
      have ht : mStep (m : Int) (valsOf os) done.length o.k ws xs = ((1, 0), ws ++ [done.length], xs) := by unfold mStep; rw [if_pos k1, if_pos (by omega)]
      refine ⟨h', sb', _, rfl, ?_, ?_⟩
      · intro next
        rw [ht]
        rw [front]
        unfold matAll_l2
        simp only [gv, List.getD_cons_zero, List.getD_cons_succ, lsl]
        rw [bop_i64_lss, bd_some, bv_bool, if_pos (by simp; omega), nv_nat, bdS_some, hix, bd_some]
        simp only [cellsP]
        rw [bd3_some, if_pos (by decide), List.drop_zero, ow_take, if_pos (ow_len _), if_pos (by rw [ow_len]; decide), bdS_some, if_pos ⟨trivial, hlen, by decide⟩, set_o]
        simp only [O.w, List.getElem?_cons_zero, bd_some]
        rw [bop_u8_eql, bd_some, bv_bool, if_pos (by simp [k1]), told_get, bd_some, e, cl_ret, one1_one, bv_bool, if_pos rfl, told_set1, told_get, bd_some, bop_i64_add, bd_some, hwrap, told_set1, told_end (v := 0)]
      · rw [ht]
        exact (I.meet L c1 c2).told 1
    · have e := mat_push_full (n + 2) I.mt (done.length : Int) (by omega) (by omega)
      have ht : mStep (m : Int) (valsOf os) done.length o.k ws xs = ((3, 0), ws, xs) := by unfold mStep; rw [if_pos k1, if_neg (by omega)]
      refine ⟨h, sb, _, rfl, ?_, ?_⟩
      · intro next
        rw [ht]
        rw [front]
        unfold matAll_l2
        simp only [gv, List.getD_cons_zero, List.getD_cons_succ, lsl]
        rw [bop_i64_lss, bd_some, bv_bool, if_pos (by simp; omega), nv_nat, bdS_some, hix, bd_some]
        simp only [cellsP]
        rw [bd3_some, if_pos (by decide), List.drop_zero, ow_take, if_pos (ow_len _), if_pos (by rw [ow_len]; decide), bdS_some, if_pos ⟨trivial, hlen, by decide⟩, set_o]
        simp only [O.w, List.getElem?_cons_zero, bd_some]
        rw [bop_u8_eql, bd_some, bv_bool, if_pos (by simp [k1]), told_get, bd_some, e, cl_ret, one1_one, bv_bool, if_neg (by decide), bop_i64_add, bd_some, hwrap, told_set1, told_end (v := 0)]
      · rw [ht]
        exact I.told 3
  by_cases k2 : o.k = 2
  · rcases List.eq_nil_or_concat ws with rfl | ⟨w0, w, rfl⟩
    · have e := mat_pop_none (n + 2) I.mt
      rcases List.eq_nil_or_concat xs with rfl | ⟨x0, x, rfl⟩
      · have e2 := mat_under_none (n + 2) I.mt
        have ht : mStep (m : Int) (valsOf os) done.length o.k [] [] = ((4, 0), [], []) := by unfold mStep; rw [if_neg k1, if_pos k2]; rfl
        refine ⟨h, sb, _, rfl, ?_, ?_⟩
        · intro next
          rw [ht]
          rw [front]
          unfold matAll_l2
          simp only [gv, List.getD_cons_zero, List.getD_cons_succ, lsl]
          rw [bop_i64_lss, bd_some, bv_bool, if_pos (by simp; omega), nv_nat, bdS_some, hix, bd_some]
          simp only [cellsP]
          rw [bd3_some, if_pos (by decide), List.drop_zero, ow_take, if_pos (ow_len _), if_pos (by rw [ow_len]; decide), bdS_some, if_pos ⟨trivial, hlen, by decide⟩, set_o]
          simp only [O.w, List.getElem?_cons_zero, bd_some]
          rw [bop_u8_eql, bd_some, bv_bool, if_neg (by simp [k1]), bop_u8_eql, bd_some, bv_bool, if_pos (by simp [k2]), told_get, bd_some, e, cl_ret]
          simp only [List.getElem?_cons_zero, List.getElem?_cons_succ, bd_some]
          rw [bv_bool, if_neg (by decide), e2, cl_ret, one1_one, bv_bool, if_neg (by decide), told_set1, told_get, bd_some, bop_i64_add, bd_some, hwrap, told_set1, told_end (v := 0)]
        · rw [ht]
          exact I.told 4
      · rw [List.concat_eq_append] at I hl ⊢
        have hmt := I.mt
        rw [List.length_append, List.length_singleton] at hmt
        obtain ⟨h1, e2, c1, c2, c3⟩ := mat_under_call (n + 2) hmt (by simp at hl; omega)
        have hq1 : StkAt h1 q qb (m : Int) (x0 ++ [x]) := I.st.keep (c3 q L.sq.symm) (fun b hb => c3 b (L.own b hb).2.1)
        have hr1 := (c3 r L.sr.symm).trans I.row
        obtain ⟨h2, e3, d1, d2, d3, d4⟩ := mat_a3_call n (i := done.length) ((c3 bs L.sb.symm).trans hbs') hq1 (by simp at hl; omega) hr1 L.qr.symm (fun e => (L.own r e).2.2.2 rfl) row_len (by rw [hll]; exact hlt)
        rw [hll] at e3
        have ht : mStep (m : Int) (valsOf os) done.length o.k [] (x0 ++ [x]) = ((2, x), [], x0) := by unfold mStep; rw [if_neg k1, if_pos k2]; simp
        refine ⟨h2, sb, _, rfl, ?_, ?_⟩
        · intro next
          rw [ht]
          rw [front]
          unfold matAll_l2
          simp only [gv, List.getD_cons_zero, List.getD_cons_succ, lsl]
          rw [bop_i64_lss, bd_some, bv_bool, if_pos (by simp; omega), nv_nat, bdS_some, hix, bd_some]
          simp only [cellsP]
          rw [bd3_some, if_pos (by decide), List.drop_zero, ow_take, if_pos (ow_len _), if_pos (by rw [ow_len]; decide), bdS_some, if_pos ⟨trivial, hlen, by decide⟩, set_o]
          simp only [O.w, List.getElem?_cons_zero, bd_some]
          rw [bop_u8_eql, bd_some, bv_bool, if_neg (by simp [k1]), bop_u8_eql, bd_some, bv_bool, if_pos (by simp [k2]), told_get, bd_some, e, cl_ret]
          simp only [List.getElem?_cons_zero, List.getElem?_cons_succ, bd_some]
          rw [bv_bool, if_neg (by decide), e2, cl_ret, one1_one, bv_bool, if_pos rfl, e3, cl_ret, bop_i64_add, bd_some, hwrap, told_set1, told_end (v := x)]
        · rw [ht]
          refine ⟨c1.keep (d4 s L.sq L.sr) (fun b hb => d4 b (fun e => by have := I.fr b hb; have := L.q1; omega) (fun e => by have := I.fr b hb; have := L.r1; omega)), I.fr, by rw [d3, c2]; exact I.le, d1, by rw [d2, row_set done d 2 x], fun j j1 j2 j3 j4 => (d4 j j3 j4).trans ((c3 j j2).trans (I.rest j j1 j2 j3 j4))⟩
    · rw [List.concat_eq_append] at I hl hw ⊢
      obtain ⟨h1, e, c1, c2, c3⟩ := mat_pop_call (n + 2) I.mt (by simp at hl; omega)
      have hwl : w < os.length := by have := hw w (by simp); omega
      have I1 := I.meet L c1 ⟨by omega, fun j _ j2 _ => c3 j j2, fun b hb => .inl hb⟩
      have e2 := mat_a2_call (n + 2) (j := w) (i := done.length) ((c3 bo L.so.symm).trans hbo') I1.row row_len (by rw [hll]; exact hlt) hwl
      rw [hll] at e2
      have hv : valsOf os w = os[w].v := by simp [valsOf, List.getElem?_eq_getElem hwl]
      have ht : mStep (m : Int) (valsOf os) done.length o.k (w0 ++ [w]) xs = ((2, os[w].v), w0, xs) := by unfold mStep; rw [if_neg k1, if_pos k2, <- hv]; simp
      refine ⟨h1.set r (.row 21 1 ((done.map vlC ++ List.replicate (d + 1) [V.int .i32 0]).set done.length [.int .i32 os[w].v]) true), sb, _, rfl, ?_, ?_⟩
      · intro next
        rw [ht]
        rw [front]
        unfold matAll_l2
        simp only [gv, List.getD_cons_zero, List.getD_cons_succ, lsl]
        rw [bop_i64_lss, bd_some, bv_bool, if_pos (by simp; omega), nv_nat, bdS_some, hix, bd_some]
        simp only [cellsP]
        rw [bd3_some, if_pos (by decide), List.drop_zero, ow_take, if_pos (ow_len _), if_pos (by rw [ow_len]; decide), bdS_some, if_pos ⟨trivial, hlen, by decide⟩, set_o]
        simp only [O.w, List.getElem?_cons_zero, bd_some]
        rw [bop_u8_eql, bd_some, bv_bool, if_neg (by simp [k1]), bop_u8_eql, bd_some, bv_bool, if_pos (by simp [k2]), told_get, bd_some, e, cl_ret]
        simp only [List.getElem?_cons_zero, List.getElem?_cons_succ, bd_some]
        rw [bv_bool, if_pos rfl, e2, cl_ret, bop_i64_add, bd_some, hwrap, told_set1, told_end (v := os[w].v)]
      · rw [ht]
        refine ⟨I1.mt.keep (List.getElem?_set_ne L.sr.symm) (fun b hb => List.getElem?_set_ne (fun e => by have := I1.fr b hb; have := L.r1; omega)), I1.fr, by rw [List.length_set]; exact I1.le, I1.st.keep (List.getElem?_set_ne L.qr.symm) (fun b hb => List.getElem?_set_ne (L.own b hb).2.2.2.symm), ?_, fun j j1 j2 j3 j4 => (List.getElem?_set_ne j4.symm).trans (I1.rest j j1 j2 j3 j4)⟩
        rw [set_at (lt_of_at I1.row), row_set done d 2]
  · have ht : mStep (m : Int) (valsOf os) done.length o.k ws xs = ((5, 0), ws, xs) := by unfold mStep; rw [if_neg k1, if_neg k2]
    refine ⟨h, sb, _, rfl, ?_, ?_⟩
    · intro next
      rw [ht]
      rw [front]
      unfold matAll_l2
      simp only [gv, List.getD_cons_zero, List.getD_cons_succ, lsl]
      rw [bop_i64_lss, bd_some, bv_bool, if_pos (by simp; omega), nv_nat, bdS_some, hix, bd_some]
      simp only [cellsP]
      rw [bd3_some, if_pos (by decide), List.drop_zero, ow_take, if_pos (ow_len _), if_pos (by rw [ow_len]; decide), bdS_some, if_pos ⟨trivial, hlen, by decide⟩, set_o]
      simp only [O.w, List.getElem?_cons_zero, bd_some]
      rw [bop_u8_eql, bd_some, bv_bool, if_neg (by simp [k1]), bop_u8_eql, bd_some, bv_bool, if_neg (by simp [k2]), told_get, bd_some, bop_i64_add, bd_some, hwrap, told_set1, told_end (v := 0)]
    · rw [ht]
      exact I.told 5
theorem mat_all_loop (n s q bo bs r B : Nat) (osb : Bool) (m : Nat) (os : List O) {qb : Option Nat} {h0 : Heap} (L : Lay B s q bo bs r qb)
    (hbo : h0[bo]? = some (.box 1 [.sl 2 (os.map O.w) osb])) (hbs : h0[bs]? = some (.box 1 [.ptr q 0])) (hos : os.length < lim) : ∀ (d N : Nat) (h : Heap) (sb : Option Nat) (ws : List Nat) (xs : List Int) (done : List R), MInv B s q r qb m h0 h sb ws xs done d -> done.length + d = os.length -> d < N -> (∀ w ∈ ws, w < done.length) -> ws.length + xs.length + d < lim →
    ∃ h' sb' z, z = mRun (m : Int) (valsOf os) (os.drop done.length) done.length ws xs /\ loopx N (matAll_l2 (n + 3) s (os.map O.w) osb bo bs r os.length) [.sl 2 [] false, .sl 2 (done.map cdC ++ List.replicate d [.int .u8 0, .int .i32 0]) false, .bool false, .int .i64 (done.length : Int)] h = some (.ret [.row h'.length 2 0 os.length], h' ++ [.row 35 2 ((done ++ z.1).map cdC) true]) /\ MInv B s q r qb m h0 h' sb' z.2.1 z.2.2 (done ++ z.1) 0 := by
  intro d
  induction d with
  | zero =>
    intro N h sb ws xs done I h1 h2 hw hl
    obtain ⟨N, rfl⟩ : ∃ N', N = N' + 1 := ⟨N - 1, by omega⟩
    refine ⟨h, sb, _, rfl, ?_, ?_⟩
    · rw [loopx_succ]
      unfold matAll_l2
      simp only [gv, List.getD_cons_zero, List.getD_cons_succ]
      rw [bop_i64_lss, bd_some, bv_bool, if_neg (by simp; omega), List.drop_eq_nil_of_le (by omega)]
      simp only [lsl, mRun, List.append_nil, List.replicate_zero, List.length_map]
      rw [show done.length = os.length by omega]
    · rw [List.drop_eq_nil_of_le (by omega)]
      simp only [mRun, List.append_nil]
      exact I
  | succ d ih =>
    intro N h sb ws xs done I h1 h2 hw hl
    obtain ⟨N, rfl⟩ : ∃ N', N = N' + 1 := ⟨N - 1, by omega⟩
    have hi : done.length < os.length := by omega
    obtain ⟨h', sb', t, rfl, key, I'⟩ := mat_all_step n s q bo bs r B osb m os L I hbo hbs h1 hw (by omega) hos os[done.length] (List.getElem?_eq_getElem hi)
    have hlen := mStep_len (m : Int) (valsOf os) done.length os[done.length].k ws xs
    have hws := mStep_ws (m : Int) (valsOf os) done.length os[done.length].k ws xs hw
    obtain ⟨h'', sb'', z, hz, e', I''⟩ := ih N h' sb' _ _ _ I' (by simp; omega) (by omega) (by simpa using hws) (by omega)
    have hd : os.drop done.length = os[done.length] :: os.drop (done.length + 1) := List.drop_eq_getElem_cons hi
    rw [List.length_append, List.length_singleton] at hz e'
    refine ⟨h'', sb'', _, rfl, ?_, ?_⟩
    · rw [hd, loopx_succ, key, e', hz]
      simp [mRun]
    · rw [hd]
      rw [hz] at I''
      simpa [mRun] using I''
theorem mat_all_call (n s q bo bs r B : Nat) (osb : Bool) (m : Nat) (os : List O) {qb : Option Nat} {h : Heap} (L : Lay B s q bo bs r qb)
    (hbo : h[bo]? = some (.box 1 [.sl 2 (os.map O.w) osb])) (hbs : h[bs]? = some (.box 1 [.ptr q 0])) {xs : List Int} (hos : os.length + xs.length < lim) (hn : os.length < n) (I : MInv B s q r qb m h h none [] xs [] os.length) :
    ∃ h' sb' z, z = mRun (m : Int) (valsOf os) os 0 [] xs /\ call (n + 4) 181 [.ptr s 0, .sl 2 (os.map O.w) osb, .fn 182 [.ptr bo 0, .iptr 1 [.row r 1 0 os.length] 0], .fn 183 [.ptr bs 0, .iptr 1 [.row r 1 0 os.length] 0]] h = some (.ret [.row h'.length 2 0 os.length], h' ++ [.row 35 2 (z.1.map cdC) true]) /\ MInv B s q r qb m h h' sb' z.2.1 z.2.2 z.1 0 := by
  obtain ⟨h', sb', z, hz, e, I'⟩ := mat_all_loop n s q bo bs r B osb m os L hbo hbs (by omega) os.length (n + 3) h none [] xs [] I (by simp) (by omega) (by simp) (by simp; omega)
  refine ⟨h', sb', z, by simpa using hz, (matAll_eq (n + 3) s _ osb bo bs r _ h).trans ?_, by simpa using I'⟩
  unfold matAll
  rw [List.length_map, nv_nat, bdS_some, bdS_some, if_pos ⟨Nat.le_refl _, by omega, rfl⟩]
  simpa using e
end Go.Proofs.Tryz
set_option linter.unusedVariables false
set_option linter.unusedSimpArgs false
namespace Go.Sk
open Go.L Go.Rp
end Go.Sk
namespace Go.Proofs.Tryz
open Go.L Go.Rp Go.Sk
set_option maxRecDepth 100000
end Go.Proofs.Tryz
set_option linter.unusedVariables false
set_option linter.unusedSimpArgs false
namespace Go.Proofs.Tryz
open Go.L Go.Rp Go.Sk
set_option maxRecDepth 100000
end Go.Proofs.Tryz
set_option linter.unusedVariables false
set_option linter.unusedSimpArgs false
namespace Go.Sk
open Go.L Go.Rp
theorem mStep_le (most : Nat) (vals : Nat -> Int) (i : Nat) (c : Int) (ws : List Nat) (xs : List Int) (h : xs.length + ws.length <= most) : (mStep (most : Int) vals i c ws xs).2.2.length + (mStep (most : Int) vals i c ws xs).2.1.length <= most := by
  unfold mStep
  split
  · split
    · simp; omega
    · exact h
  · split
    · split
      · simp; omega
      · split
        · simp; omega
        · exact h
    · exact h
theorem mRun_le (most : Nat) (vals : Nat -> Int) : ∀ (l : List O) (i : Nat) (ws : List Nat) (xs : List Int), xs.length + ws.length <= most -> (mRun (most : Int) vals l i ws xs).2.2.length + (mRun (most : Int) vals l i ws xs).2.1.length <= most
  | [], _, _, _, h => h
  | o :: l, i, ws, xs, h => mRun_le most vals l (i + 1) _ _ (mStep_le most vals i o.k ws xs h)
theorem mStep_wl (most : Int) (vals : Nat -> Int) (i : Nat) (c : Int) (ws : List Nat) (xs : List Int) : (mStep most vals i c ws xs).2.1.length <= ws.length + 1 := by
  unfold mStep
  split
  · split <;> simp
  · split
    · split
      · simp; omega
      · split <;> simp
    · simp
theorem mRun_wl (most : Int) (vals : Nat -> Int) : ∀ (l : List O) (i : Nat) (ws : List Nat) (xs : List Int), (mRun most vals l i ws xs).2.1.length <= ws.length + l.length
  | [], _, _, _ => Nat.le_refl _
  | o :: l, i, ws, xs => by
    have h1 := mRun_wl most vals l (i + 1) (mStep most vals i o.k ws xs).2.1 (mStep most vals i o.k ws xs).2.2
    have h2 := mStep_wl most vals i o.k ws xs
    simp only [mRun, List.length_cons]
    omega
theorem mRun_ws (most : Int) (vals : Nat -> Int) : ∀ (l : List O) (i : Nat) (ws : List Nat) (xs : List Int), (∀ w ∈ ws, w < i) -> ∀ w ∈ (mRun most vals l i ws xs).2.1, w < i + l.length
  | [], _, _, _, h => h
  | o :: l, i, ws, xs, h => fun w hw => by
    have := mRun_ws most vals l (i + 1) _ _ (mStep_ws most vals i o.k ws xs h) w hw
    simp; omega
end Go.Sk
namespace Go.Proofs.Tryz
open Go.L Go.Rp Go.Sk
set_option maxRecDepth 100000
theorem mat_a1_loop (n : Nat) {h1 : Heap} {q bo bs : Nat} {qb : Option Nat} {m : Nat} {xs : List Int} {os : List O} {osb : Bool} {v9 : V} {sz : Nat} {ws : List Nat} (hbo : h1[bo]? = some (.box 1 [.sl 2 (os.map O.w) osb])) (hbs : h1[bs]? = some (.box 1 [.ptr q 0])) (qbo : bo ≠ q /\ qb ≠ some bo) (qbs : bs ≠ q /\ qb ≠ some bs)
    (hv : ∀ h', (∀ j, j < h1.length -> j ≠ q -> qb ≠ some j -> h'[j]? = h1[j]?) -> ∀ i (hi : i < ws.length), ∃ p, idxP 1 i v9 = some p /\ ∃ cs m' o, cellsP h' p = some (cs, m', o) /\ (o + 1 <= m' /\ 0 < 1) /\ cs[o]? = some (.int .i64 (ws[i] : Int)))
    (hw : ∀ w ∈ ws, w < os.length) (hm : xs.length + ws.length <= m) (hl : m + 1 < lim) :
    ∀ (d i N : Nat) (h : Heap) (qc : Option Nat), i + d = ws.length -> d < N -> StkAt h q qc (m : Int) (xs ++ (ws.take i).map (valsOf os)) -> Fed h1 h q qb qc →
    ∃ h' qc', loopx N (matA1_l11 (n + 1) bs bo v9 (sz, ws.map idxC)) [.int .i64 (i : Int)] h = some (h', false) /\ StkAt h' q qc' (m : Int) (xs ++ ws.map (valsOf os)) /\ Fed h1 h' q qb qc' := by
  intro d
  induction d with
  | zero =>
    intro i N h qc hi hN hb hf
    obtain ⟨N, rfl⟩ : ∃ N', N = N' + 1 := ⟨N - 1, by omega⟩
    rw [loopx_succ]
    unfold matA1_l11
    simp only [gv, List.getD_cons_zero]
    rw [bop_i64_lss, bd_some, bv_bool, if_neg (by simp; omega)]
    rw [List.take_of_length_le (by omega)] at hb
    exact ⟨h, qc, rfl, hb, hf⟩
  | succ d ih =>
    intro i N h qc hi hN hb hf
    obtain ⟨N, rfl⟩ : ∃ N', N = N' + 1 := ⟨N - 1, by omega⟩
    have hlt : i < ws.length := by omega
    have hwi : ws[i] < os.length := hw _ (List.getElem_mem hlt)
    have h1l := lt_of_at hbo
    have h2l := lt_of_at hbs
    obtain ⟨p, e1, cs, m', o, e2, e3, e4⟩ := hv h (fun j k1 k2 k3 => hf.old j k1 k2 k3) i hlt
    have hx : (xs ++ (ws.take i).map (valsOf os)).length = xs.length + i := by simp; omega
    obtain ⟨h', qc', e5, c1, c2⟩ := stk_push_call n hb os[ws[i]].v (by rw [hx]; omega) (by rw [hx]; omega)
    have hvv : valsOf os ws[i] = os[ws[i]].v := by simp [valsOf, List.getElem?_eq_getElem hwi]
    have hx2 : xs ++ (ws.take i).map (valsOf os) ++ [os[ws[i]].v] = xs ++ (ws.take (i + 1)).map (valsOf os) := by
      rw [List.take_succ_eq_append_getElem hlt, List.map_append, List.append_assoc, <- hvv]; rfl
    rw [hx2] at c1
    obtain ⟨h'', qc'', e6, d1, d2⟩ := ih (i + 1) N h' qc' (by omega) (by omega) c1 (hf.trans c2)
    refine ⟨h'', qc'', ?_, d1, d2⟩
    rw [<- e6, loopx_succ]
    have key : ∀ next, matA1_l11 (n + 1) bs bo v9 (sz, ws.map idxC) [.int .i64 (i : Int)] h next = next [.int .i64 ((i + 1 : Nat) : Int)] h' := by
      intro next
      unfold matA1_l11
      simp only [gv, List.getD_cons_zero]
      rw [bop_i64_lss, bd_some, bv_bool, if_pos (by simp; omega), nv_nat, bdS_some, e1, bd_some, e2, bd3_some, if_pos e3, e4, bd_some, cellsP_box ((hf.old bs h2l qbs.1 qbs.2).trans hbs), bd3_some, if_pos (by decide)]
      simp only [List.getElem?_cons_zero, bd_some]
      rw [cellsP_box ((hf.old bo h1l qbo.1 qbo.2).trans hbo), bd3_some, if_pos (by decide)]
      simp only [List.getElem?_cons_zero, bd_some]
      rw [nv_nat, bdS_some, idxP_sl (es := O.w os[ws[i]]) (by rw [List.getElem?_map, List.getElem?_eq_getElem hwi]; rfl), bd_some]
      simp only [addP, bd_some]
      rw [cellsP_iptr, bd3_some, if_pos (by decide)]
      simp only [O.w, Nat.zero_add, List.getElem?_cons_succ, List.getElem?_cons_zero, bd_some]
      rw [e5, cl_ret, one1_one, bop_i64_add, bd_some, step64 (by unfold lim at hl ⊢; omega)]
    rw [key]
theorem mat_a1_call (n : Nat) {h : Heap} {b s q bo bs : Nat} {qb sb : Option Nat} {u m : Nat} {xs : List Int} {os : List O} {osb : Bool} {ws : List Nat} (hbb : h[b]? = some (.box 1 [.ptr s 0])) (hm : MatAt h s sb u m ws) (hbo : h[bo]? = some (.box 1 [.sl 2 (os.map O.w) osb])) (hbs : h[bs]? = some (.box 1 [.ptr q 0])) (qbo : bo ≠ q /\ qb ≠ some bo) (qbs : bs ≠ q /\ qb ≠ some bs) (hsb : ∀ b, sb = some b -> b ≠ q /\ qb ≠ some b)
    (hb : StkAt h q qb (m : Int) xs) (hw : ∀ w ∈ ws, w < os.length) (hmm : xs.length + ws.length <= m) (hl : m + 1 < lim) (hn : ws.length < n) :
    ∃ h' qb', dcl (n + 1) 179 [.ptr b 0, .ptr bs 0, .ptr bo 0] h none = some (h', false) /\ StkAt h' q qb' (m : Int) (xs ++ ws.map (valsOf os)) /\ Fed h h' q qb qb' := by
  obtain ⟨v, sz, k1, k2⟩ := hm.box
  have hv : ∀ h', (∀ j, j < h.length -> j ≠ q -> qb ≠ some j -> h'[j]? = h[j]?) -> ∀ i (hi : i < ws.length), ∃ p, idxP 1 i v = some p /\ ∃ cs m' o, cellsP h' p = some (cs, m', o) /\ (o + 1 <= m' /\ 0 < 1) /\ cs[o]? = some (.int .i64 (ws[i] : Int)) := by
    intro h' hk i hi
    cases sb with
    | none => rw [hm.1] at hi; simp at hi
    | some r =>
      obtain ⟨e1, l, z, e2, e3, e4, e5⟩ := hm
      obtain rfl : v = .row r 1 0 ws.length := by rw [e2] at k1; simpa using k1.symm
      have hx : l[i]? = some [.int .i64 (ws[i] : Int)] := by
        have := congrArg (fun t : List (List V) => t[i]?) e5
        simpa [idxC, List.getElem?_take, hi] using this
      refine ⟨_, idxP_row (by omega), _, _, _, cellsP_rptr ((hk r (lt_of_at e3) (hsb r rfl).1 (hsb r rfl).2).trans e3) (by decide) (by rw [Nat.zero_add]; exact hx), by decide, rfl⟩
  obtain ⟨h', qb', e, c1, c2⟩ := mat_a1_loop n (sz := sz) (v9 := v) hbo hbs qbo qbs hv hw hmm hl ws.length 0 (n + 1) h qb (by omega) (by omega) (by simpa using hb) (Fed.refl ..)
  refine ⟨h', qb', (matA1_eq (n + 1) b bs bo h).trans ?_, c1, c2⟩
  unfold matA1
  rw [cellsP_box hbb, bd3_some, if_pos (by decide)]
  simp only [List.getElem?_cons_zero, bd_some, addP, Nat.add_zero]
  rw [cellsP_box k1, bd3_some, if_pos (by decide)]
  simp only [List.getElem?_cons_zero, bd_some]
  rw [k2, bd_some]
  exact e
theorem mat_vals_loop (n : Nat) (H : Heap) (r : Nat) (s : Nat) (os : List (List V)) (osb : Bool) (h5 : Heap) (cs8 : List V) (n14 : Nat) (z : List R) (hr : H[r]? = some (.row 21 1 (z.map vlC) true)) (hrr : r = (((((h5 ++ [(HB.box 3 cs8)]) ++ [(HB.box 1 [(V.ptr (h5).length 0)])]) ++ [(HB.box 1 [(V.ptr s 0)])]) ++ [(HB.box 1 [(V.sl 2 os osb)])])).length) (hn14 : n14 = z.length) (hz : z.length < lim) (h' : Heap) (hD : dcl n 179 [(V.ptr ((h5 ++ [(HB.box 3 cs8)])).length 0), (V.ptr (((h5 ++ [(HB.box 3 cs8)]) ++ [(HB.box 1 [(V.ptr (h5).length 0)])])).length 0), (V.ptr ((((h5 ++ [(HB.box 3 cs8)]) ++ [(HB.box 1 [(V.ptr (h5).length 0)])]) ++ [(HB.box 1 [(V.ptr s 0)])])).length 0)] (H ++ [.row 35 2 (z.map R.w) true]) none = some (h', false)) :
    ∀ (d i N : Nat), i + d = z.length -> d < N -> loopx N (matApply_l29 n s os osb h5 cs8 n14 (.row H.length 2 0 z.length) (1, z.map vlC)) [.sl 2 [] false, .int .i64 (i : Int)] (H ++ [.row 35 2 ((z.take i).map R.w ++ (z.drop i).map cdC) true]) = some (.ret [.row H.length 2 0 z.length], h') := by
  intro d
  induction d with
  | zero =>
    intro i N hi hN
    obtain ⟨N, rfl⟩ : ∃ N', N = N' + 1 := ⟨N - 1, by omega⟩
    rw [loopx_succ]
    unfold matApply_l29
    simp only [gv, List.getD_cons_zero, List.getD_cons_succ]
    rw [bop_i64_lss, bd_some, bv_bool, if_neg (by simp; omega), List.take_of_length_le (by omega), List.drop_eq_nil_of_le (by omega), List.map_nil, List.append_nil, hD, bd2_some]
  | succ d ih =>
    intro i N hi hN
    obtain ⟨N, rfl⟩ : ∃ N', N = N' + 1 := ⟨N - 1, by omega⟩
    have hlt : i < z.length := by omega
    rw [loopx_succ, <- ih (i + 1) N (by omega) (by omega)]
    have hrl := lt_of_at hr
    have key : ∀ next, matApply_l29 n s os osb h5 cs8 n14 (.row H.length 2 0 z.length) (1, z.map vlC) [.sl 2 [] false, .int .i64 (i : Int)] (H ++ [.row 35 2 ((z.take i).map R.w ++ (z.drop i).map cdC) true]) next = next [.sl 2 [] false, .int .i64 ((i + 1 : Nat) : Int)] (H ++ [.row 35 2 ((z.take (i + 1)).map R.w ++ (z.drop (i + 1)).map cdC) true]) := by
      intro next
      unfold matApply_l29
      simp only [gv, List.getD_cons_zero, List.getD_cons_succ, lsl]
      rw [<- hrr, bop_i64_lss, bd_some, bv_bool, if_pos (by simp; omega), nv_nat, bdS_some, idxP_row (by simp; omega), bd_some, cellsP_rptr (es := vlC z[i]) (by rw [List.getElem?_append_left hrl]; exact hr) (by decide) (by simp [hlt]), bd3_some, if_pos (by decide)]
      simp only [vlC, List.getElem?_cons_zero, bd_some]
      rw [bdS_some, idxP_row (by omega), bd_some]
      simp only [addP, bd_some, V.cells, List.length_cons, List.length_nil, Nat.zero_add, if_true]
      have hT : (H ++ [HB.row 35 2 ((z.take i).map R.w ++ (z.drop i).map cdC) true])[H.length]? = some (.row 35 2 ((z.take i).map R.w ++ (z.drop i).map cdC) true) := List.getElem?_concat_length
      have hTi : ((z.take i).map R.w ++ (z.drop i).map cdC)[i]? = some (cdC z[i]) := by
        rw [List.getElem?_append_right (by simp; omega)]; simp [hlt, Nat.min_eq_left (Nat.le_of_lt hlt)]
      rw [writeB_rptr hT (by decide) (by simp) hTi, bd2_some, bop_i64_add, bd_some, step64 (by omega)]
      have hset : ((z.take i).map R.w ++ (z.drop i).map cdC).set i (setR (cdC z[i]) 1 [V.int .i32 z[i].v]) = (z.take (i + 1)).map R.w ++ (z.drop (i + 1)).map cdC := by
        rw [List.set_append_right _ _ (by simp; omega), List.drop_eq_getElem_cons hlt, List.take_succ_eq_append_getElem hlt, List.map_cons, show i - (List.map R.w (z.take i)).length = 0 by simp; omega, List.set_cons_zero, List.map_append, List.append_assoc]
        rfl
      rw [hset]
      have : ∀ x, (H ++ [HB.row 35 2 ((z.take i).map R.w ++ (z.drop i).map cdC) true]).set H.length x = H ++ [x] := fun x => by rw [List.set_append_right _ _ (Nat.le_refl _)]; simp
      rw [this]
    rw [key]
theorem bld_meet (a b : Int) : bldV prog 249 [(1, .int .i64 a), (2, .int .i64 b)] = some [.sl 0 [] true, .int .i64 a, .int .i64 b] := by kernel_rfl
theorem mat_apply_call (n : Nat) {h : Heap} {q : Nat} {qb : Option Nat} {m : Nat} {xs : List Int} (hb : StkAt h q qb (m : Int) xs) (os : List O) (osb : Bool) (hmm : xs.length <= m) (hl : m + 1 < lim) (hos : os.length + xs.length < lim) (hn : os.length < n) (hqb : ∀ b, qb = some b -> b < h.length) :
    ∃ h' qb' T, call (n + 5) 174 [.ptr q 0, .sl 2 (os.map O.w) osb] h = some (.ret [.row T 2 0 os.length], h') /\ h'[T]? = some (.row 35 2 ((stkRun (m : Int) os xs).1.map R.w) true) /\ h.length <= T /\ qb' ≠ some T /\ StkAt h' q qb' (m : Int) (stkRun (m : Int) os xs).2 /\ Fed h h' q qb qb' := by
  have hqs : qb ≠ some q := by
    intro e
    rw [e] at hb
    exact hb.1 rfl
  have hql : q < h.length := by obtain ⟨v, sz, k1, k2⟩ := hb.box; exact lt_of_at k1
  rw [show n + 5 = (n + 4) + 1 from rfl, matApply_eq]
  unfold matApply
  rw [stk_len_call (n + 3) hb]
  simp only [clH]
  rw [one1_one, stk_most_call (n + 3) hb]
  simp only []
  rw [one1_one, bld_meet, bd_some, if_pos (by rfl)]
  generalize hA : h ++ [HB.box 3 [V.sl 0 [] true, V.int .i64 (xs.length : Int), V.int .i64 (m : Int)]] = A
  generalize hB : A ++ [HB.box 1 [V.ptr h.length 0]] = B
  generalize hC : B ++ [HB.box 1 [V.ptr q 0]] = C
  generalize hD : C ++ [HB.box 1 [V.sl 2 (os.map O.w) osb]] = D
  have lA : A.length = h.length + 1 := by rw [<- hA]; simp
  have lB : B.length = h.length + 2 := by rw [<- hB]; simp; omega
  have lC : C.length = h.length + 3 := by rw [<- hC]; simp; omega
  have lD : D.length = h.length + 4 := by rw [<- hD]; simp; omega
  have aA : ∀ j, j < h.length -> A[j]? = h[j]? := fun j hj => by rw [<- hA, List.getElem?_append_left hj]
  have aB : ∀ j, j < A.length -> B[j]? = A[j]? := fun j hj => by rw [<- hB, List.getElem?_append_left hj]
  have aC : ∀ j, j < B.length -> C[j]? = B[j]? := fun j hj => by rw [<- hC, List.getElem?_append_left hj]
  have aD : ∀ j, j < C.length -> D[j]? = C[j]? := fun j hj => by rw [<- hD, List.getElem?_append_left hj]
  have eA : A[h.length]? = some (HB.box 3 [V.sl 0 [] true, V.int .i64 (xs.length : Int), V.int .i64 (m : Int)]) := by rw [<- hA]; exact List.getElem?_concat_length
  have eB : B[A.length]? = some (HB.box 1 [V.ptr h.length 0]) := by rw [<- hB]; exact List.getElem?_concat_length
  have eC : C[B.length]? = some (HB.box 1 [V.ptr q 0]) := by rw [<- hC]; exact List.getElem?_concat_length
  have eD : D[C.length]? = some (HB.box 1 [V.sl 2 (os.map O.w) osb]) := by rw [<- hD]; exact List.getElem?_concat_length
  have dA : D[h.length]? = some (HB.box 3 [V.sl 0 [] true, V.int .i64 (xs.length : Int), V.int .i64 (m : Int)]) := by rw [aD _ (by omega), aC _ (by omega), aB _ (by omega)]; exact eA
  have dB : D[A.length]? = some (HB.box 1 [V.ptr h.length 0]) := by rw [aD _ (by omega), aC _ (by omega)]; exact eB
  have dC : D[B.length]? = some (HB.box 1 [V.ptr q 0]) := by rw [aD _ (by omega)]; exact eC
  have d0 : ∀ j, j < h.length -> D[j]? = h[j]? := fun j hj => by rw [aD _ (by omega), aC _ (by omega), aB _ (by omega), aA _ hj]
  rw [cellsP_box eD, bd3_some, if_pos (by decide)]
  simp only [List.getElem?_cons_zero, bd_some]
  rw [slcH_sl, bd_some, List.length_map, nv_nat, bdS_some, bdS_some, if_pos ⟨Nat.le_refl _, by omega, trivial⟩]
  generalize hE : D ++ [HB.row 21 1 (List.replicate os.length [V.int .i32 0]) true] = E
  have lE : E.length = h.length + 5 := by rw [<- hE]; simp; omega
  have aE : ∀ j, j < D.length -> E[j]? = D[j]? := fun j hj => by rw [<- hE, List.getElem?_append_left hj]
  have eE : E[D.length]? = some (HB.row 21 1 (List.replicate os.length [V.int .i32 0]) true) := by rw [<- hE]; exact List.getElem?_concat_length
  have e0 : ∀ j, j < h.length -> E[j]? = h[j]? := fun j hj => (aE j (by omega)).trans (d0 j hj)
  have fA := (aE h.length (by omega)).trans dA
  have fB := (aE A.length (by omega)).trans dB
  have fC := (aE B.length (by omega)).trans dC
  have fD := (aE C.length (by omega)).trans eD
  rw [cellsP_box fB, bd3_some, if_pos (by decide)]
  simp only [List.getElem?_cons_zero, bd_some]
  rw [cellsP_box fD, bd3_some, if_pos (by decide)]
  simp only [List.getElem?_cons_zero, bd_some]
  rw [List.length_replicate]
  have L : Lay E.length h.length q C.length B.length D.length qb := ⟨by omega, by omega, by omega, by omega, by omega, by omega, by omega, by omega, by omega, by omega, by omega, by omega, by omega, by omega, fun b hb' => ⟨by have := hqb b hb'; omega, by have := hqb b hb'; omega, fun e => hqs (e ▸ hb'), by have := hqb b hb'; omega⟩⟩
  have I : MInv E.length h.length q D.length qb m E E none [] xs [] os.length := ⟨⟨rfl, fA⟩, (fun b hb' => nomatch hb'), Nat.le_refl _, hb.keep (e0 q hql) (fun b hb' => e0 b (hqb b hb')), by rw [eE]; rfl, fun _ _ _ _ _ => rfl⟩
  obtain ⟨H, sb', z, hz, e, I'⟩ := mat_all_call n h.length q C.length B.length D.length E.length osb m os L fD fC hos hn I
  rw [e, cl_ret, one1_one]
  have hzl : z.1.length = os.length := by rw [hz]; exact mRun_len ..
  have hrl := lt_of_at I'.row
  have hrow : H[D.length]? = some (.row 21 1 (z.1.map vlC) true) := by rw [I'.row]; simp
  have hsl : slcH (H ++ [HB.row 35 2 (z.1.map cdC) true]) (.row D.length 1 0 os.length) = some (1, z.1.map vlC) := by
    have : (H ++ [HB.row 35 2 (z.1.map cdC) true])[D.length]? = some (.row 21 1 (z.1.map vlC) true) := by rw [List.getElem?_append_left hrl]; exact hrow
    have h2 := slcH_all this
    rwa [List.length_map, hzl] at h2
  rw [hsl, bd_some]
  generalize hG : H ++ [HB.row 35 2 (z.1.map R.w) true] = G
  have aG : ∀ j, j < H.length -> G[j]? = H[j]? := fun j hj => by rw [<- hG, List.getElem?_append_left hj]
  have eG : G[H.length]? = some (HB.row 35 2 (z.1.map R.w) true) := by rw [<- hG]; exact List.getElem?_concat_length
  have lG : G.length = H.length + 1 := by rw [<- hG]; simp
  have hle := I'.le
  have rest : ∀ j, j < E.length -> j ≠ h.length -> j ≠ q -> j ≠ D.length -> G[j]? = E[j]? := fun j h1 h2 h3 h4 => (aG j (by omega)).trans (I'.rest j h1 h2 h3 h4)
  have hsl' : h.length < H.length := by omega
  have hm : MatAt G h.length sb' z.2.2.length m z.2.1 := I'.mt.keep (aG _ hsl') (fun b hb' => by
    have hmt := I'.mt
    rw [hb'] at hmt
    obtain ⟨_, l, w, _, h3, _⟩ := hmt
    exact aG b (lt_of_at h3))
  have hst : StkAt G q qb (m : Int) z.2.2 := I'.st.keep (aG q (by omega)) (fun b hb' => aG b (by have := hqb b hb'; omega))
  have hzz := mRun_stk (m : Int) (valsOf os) os 0 [] xs (fun j o hj => by rw [Nat.zero_add]; simp [valsOf, hj])
  rw [List.map_nil, List.append_nil, <- hz] at hzz
  have hws : ∀ w ∈ z.2.1, w < os.length := by
    have := mRun_ws (m : Int) (valsOf os) os 0 [] xs (by simp)
    rw [<- hz] at this
    simpa using this
  have hle2 : z.2.2.length + z.2.1.length <= m := by
    have := mRun_le m (valsOf os) os 0 [] xs (by simpa using hmm)
    rwa [<- hz] at this
  have hwl : z.2.1.length <= os.length := by
    have := mRun_wl (m : Int) (valsOf os) os 0 [] xs
    rw [<- hz] at this
    simpa using this
  obtain ⟨h', qb', eD', b1, b2⟩ := mat_a1_call (n + 3) (b := A.length) (s := h.length) (bo := C.length) (bs := B.length) ((rest _ (by omega) (by omega) (by omega) (by omega)).trans fB) hm ((rest _ (by omega) (by omega) (by omega) (by omega)).trans fD) ((rest _ (by omega) (by omega) (by omega) (by omega)).trans fC) ⟨by omega, fun e => by have := hqb _ e; omega⟩ ⟨by omega, fun e => by have := hqb _ e; omega⟩ (fun b hb' => ⟨by have := I'.fr b hb'; omega, fun e => by have := I'.fr b hb'; have := hqb b e; omega⟩) hst hws hle2 hl (by omega)
  have fin := mat_vals_loop (n + 4) H D.length q (os.map O.w) osb h [V.sl 0 [] true, V.int .i64 (xs.length : Int), V.int .i64 (m : Int)] os.length z.1 hrow (by rw [hA, hB, hC, hD]) hzl.symm (by omega) h' (by rw [hA, hB, hC, hG]; exact eD') z.1.length 0 (n + 4) (by omega) (by omega)
  rw [hzl] at fin
  have hT : G[H.length]? = some (HB.row 35 2 ((stkRun (m : Int) os xs).1.map R.w) true) := by rw [hzz]; exact eG
  have hqH : ∀ b, qb = some b -> b < H.length := fun b hb' => by have := hqb b hb'; omega
  refine ⟨h', qb', H.length, ?_, ?_, by omega, ?_, by rw [hzz]; exact b1, ?_⟩
  · simpa using fin
  · rw [b2.old H.length (by omega) (by omega) (fun e => by have := hqH _ e; omega)]; exact hT
  · intro e
    rcases b2.own _ e with e1 | e1
    · have := hqH _ e1; omega
    · omega
  · refine ⟨by have := b2.len; omega, fun j h1 h2 h3 => ?_, fun b hb' => ?_⟩
    · rw [b2.old j (by omega) h2 h3, rest j (by omega) (by omega) h2 (by omega), e0 j h1]
    · rcases b2.own b hb' with e1 | e1
      · exact .inl e1
      · exact .inr (by omega)
end Go.Proofs.Tryz
set_option linter.unusedVariables false
set_option linter.unusedSimpArgs false
namespace Go.Sk
open Go.L Go.Rp
end Go.Sk
namespace Go.Proofs.Tryz
open Go.L Go.Rp Go.Sk
set_option maxRecDepth 100000
end Go.Proofs.Tryz
set_option linter.unusedVariables false
set_option linter.unusedSimpArgs false
namespace Go.Sk
open Go.L
end Go.Sk
set_option linter.unusedVariables false
set_option linter.unusedSimpArgs false
namespace Go.Sk
open Go.L
end Go.Sk
namespace Go.Proofs.Tryz
open Go.L Go.Rp Go.Sk
set_option maxRecDepth 100000
theorem nv_int (k : IntKind) (a : Nat) : nv (V.int k (a : Int)) = some a := nv_nat _ _
theorem lcs_agg (l : List V) : lcs (V.agg l) = l := rfl
end Go.Proofs.Tryz
set_option linter.unusedVariables false
set_option linter.unusedSimpArgs false
namespace Go.Sk
open Go.L
end Go.Sk
namespace Go.Proofs.Tryz
open Go.L Go.Rp Go.Sk
set_option maxRecDepth 100000
def RowI (h : Heap) (b : Nat) (k : IntKind) (e : Nat) (l : List Int) : Prop := ∃ z, h[b]? = some (.row e 1 (l.map (intV k)) z)
end Go.Proofs.Tryz
set_option linter.unusedVariables false
set_option linter.unusedSimpArgs false
namespace Go.Sk
open Go.L
end Go.Sk
namespace Go.Proofs.Tryz
open Go.L Go.Rp Go.Sk
set_option maxRecDepth 100000
def SlI (h : Heap) (lo : Nat) (r : V) (l : List Int) : Prop := (r = .sl 0 [] true /\ l = []) \/ ∃ b z, lo <= b /\ r = .row b 1 0 l.length /\ h[b]? = some (.row 21 1 (l.map (intV .i32)) z)
section
variable {y0 y1 y4 y7 y8 y9 y10 y11 y12 y13 y14 y15 y16 y17 y18 y19 : Option V}
end
end Go.Proofs.Tryz
set_option linter.unusedVariables false
set_option linter.unusedSimpArgs false
namespace Go.Proofs.Tryz
open Go.L Go.Rp Go.Sk
set_option maxRecDepth 100000
section
variable {y0 y2 y5 y6 y7 y8 y9 y10 y11 y12 y13 y14 y15 y16 : Option V}
end
end Go.Proofs.Tryz
set_option linter.unusedVariables false
namespace Go.Proofs.Tryz
open Go.L
set_option maxRecDepth 100000
end Go.Proofs.Tryz
set_option linter.unusedVariables false
namespace Go.Proofs.Tryz
open Go.L
set_option maxRecDepth 100000
end Go.Proofs.Tryz
namespace Go.Rp
section
variable {K : Int -> Int}
end
end Go.Rp
namespace Go.Rp
section
variable {p : Nat -> Int}
variable {K : Int -> Int}
end
end Go.Rp
set_option linter.unusedVariables false
set_option linter.unusedSimpArgs false
namespace Go.Proofs.Tryz
open Go.L Go.Rp
set_option maxRecDepth 100000
end Go.Proofs.Tryz
set_option linter.unusedVariables false
set_option linter.unusedSimpArgs false
namespace Go.Proofs.Tryz
open Go.L Go.Rp
set_option maxRecDepth 100000
section
variable {K : Int -> Int} {D : Int -> Prop} {H : Heap} {c : V} {n0 : Nat} {p : Nat -> Int}
end
end Go.Proofs.Tryz
set_option linter.unusedVariables false
set_option linter.unusedSimpArgs false
namespace Go.Proofs.Tryz
open Go.L Go.Rp
set_option maxRecDepth 100000
section
variable {K : Int -> Int} {D : Int -> Prop} {H : Heap} {c : V}
end
end Go.Proofs.Tryz
set_option linter.unusedVariables false
set_option linter.unusedSimpArgs false
namespace Go.Proofs.Tryz
open Go.L Go.Rp
set_option maxRecDepth 100000
section
variable {K : Int -> Int} {D : Int -> Prop} {H : Heap} {c : V} {n0 : Nat} {p : Nat -> Int}
end
end Go.Proofs.Tryz
set_option linter.unusedVariables false
set_option linter.unusedSimpArgs false
namespace Go.Proofs.Tryz
open Go.L Go.Rp
set_option maxRecDepth 100000
section
variable {K : Int -> Int} {D : Int -> Prop} {H : Heap} {c : V} {n0 : Nat} {p : Nat -> Int}
end
end Go.Proofs.Tryz
set_option linter.unusedVariables false
set_option linter.unusedSimpArgs false
namespace Go.Proofs.Tryz
open Go.L Go.Rp
set_option maxRecDepth 100000
@[simp] theorem bop_i64_mul (a b : Int) : bop prog .mul 3 (.int .i64 a) (.int .i64 b) = some (.int .i64 (IntKind.i64.wrap (a * b))) := by kernel_rfl
section
variable {K : Int -> Int} {D : Int -> Prop} {H : Heap} {c : V} {n0 : Nat} {p : Nat -> Int}
end
end Go.Proofs.Tryz
set_option linter.unusedVariables false
set_option linter.unusedSimpArgs false
namespace Go.Proofs.Tryz
open Go.L Go.Rp Go.Sk
set_option maxRecDepth 100000
end Go.Proofs.Tryz
set_option linter.unusedVariables false
set_option linter.unusedSimpArgs false
namespace Go.Proofs.Tryz
open Go.L Go.Rp Go.Sk
set_option maxRecDepth 100000
def RowR (h : Heap) (b : Nat) (l : List R) : Prop := ∃ z, h[b]? = some (.row 35 2 (l.map R.w) z)
end Go.Proofs.Tryz
set_option linter.unusedVariables false
set_option linter.unusedSimpArgs false
namespace Go.Proofs.Tryz
open Go.L Go.Rp Go.Sk
set_option maxRecDepth 100000
end Go.Proofs.Tryz
set_option linter.unusedVariables false
set_option linter.unusedSimpArgs false
namespace Go.Proofs.Tryz
open Go.L Go.Rp Go.Sk
set_option maxRecDepth 100000
theorem RowI.getP {h : Heap} {b : Nat} {k : IntKind} {e : Nat} {l : List Int} (r : RowI h b k e l) {lo hi i : Nat} {x : Int} (hi' : lo + i < hi) (hx : l[lo + i]? = some x) : idxP 1 i (.row b 1 lo hi) = some (.rptr b 1 (lo + i) 0) /\ cellsP h (.rptr b 1 (lo + i) 0) = some ([.int k x], 1, 0) := by
  obtain ⟨z, hz⟩ := r
  refine ⟨idxP_row (by omega), cellsP_rptr hz (by decide) ?_⟩
  rw [List.getElem?_map, hx]
  rfl
theorem RowI.slcP {h : Heap} {b : Nat} {k : IntKind} {e : Nat} {l : List Int} (r : RowI h b k e l) {lo hi : Nat} (h1 : lo <= hi) (h2 : hi <= l.length) : slcH h (.row b 1 lo hi) = some (1, ((l.take hi).drop lo).map (intV k)) := by
  obtain ⟨z, hz⟩ := r
  rw [slcH_row hz h1 (by rw [List.length_map]; exact h2), List.map_drop, List.map_take]
theorem mm_min (a b : Int) : mm false [.int .i64 a, .int .i64 b] = some (.int .i64 (if b < a then b else a)) := rfl
end Go.Proofs.Tryz
set_option linter.unusedVariables false
namespace Go.Proofs.Tryz
open Go.L
set_option maxRecDepth 100000
noncomputable def rInts_l2 (n : Nat) (a : V) (b : V) (st3 : List V) (hh4 : Heap) (next5 : List V -> Heap -> Option (Res × Heap)) : Option (Res × Heap) :=
 (bd (slcH hh4 a) fun p6 =>
 (bd (bop prog .lss 3 (gv st3 1) (V.int .i64 ((p6.2).length : Int))) fun v7 =>
 (bv v7 fun b8 => if b8 then
 (bdS (nv (gv st3 1)) fun n9 =>
 (bd (idxP 1 n9 a) fun p10 =>
 (bd3 (cellsP hh4 p10) fun cs12 m11 o13 => if (o13 + 1 <= m11 /\ 0 < 1) then
 (bd (cs12)[o13]? fun v14 =>
 (bdS (nv (gv st3 1)) fun n15 =>
 (bd (idxP 1 n15 b) fun p16 =>
 (bd3 (cellsP hh4 p16) fun cs18 m17 o19 => if (o19 + 1 <= m17 /\ 0 < 1) then
 (bd (cs18)[o19]? fun v20 =>
 (bd (bop prog .neq 3 v14 v20) fun v21 =>
 (bv v21 fun b22 => if b22 then
 some (Res.ret [(V.bool false)], hh4)
 else
 (bd (bop prog .add 3 (gv st3 1) (V.int .i64 1)) fun v23 =>
 (next5 [(gv st3 0), v23] hh4))))) else none)))) else none)))
 else
 some (Res.ret [(V.bool true)], hh4))))
noncomputable def rInts (n : Nat) (a : V) (b : V) (h : Heap) : Option (Res × Heap) :=
 (bd (slcH h a) fun p0 =>
 (bd (slcH h b) fun p1 =>
 (if (((p0.2).length : Int) != ((p1.2).length : Int)) then
 some (Res.ret [(V.bool false)], h)
 else
 (loopx n (rInts_l2 n a b) [(V.bool false), (V.int .i64 0)] h))))
theorem rInts_eq (n : Nat) (a : V) (b : V) (h : Heap) : call (n + 1) 49 [a, b] h = rInts n a b h := by kernel_rfl
end Go.Proofs.Tryz
set_option linter.unusedVariables false
set_option linter.unusedSimpArgs false
namespace Go.Proofs.Tryz
open Go.L Go.Rp Go.Sk
set_option maxRecDepth 100000
end Go.Proofs.Tryz
set_option linter.unusedVariables false
namespace Go.Proofs.Tryz
open Go.L
set_option maxRecDepth 100000
end Go.Proofs.Tryz
set_option linter.unusedVariables false
set_option linter.unusedSimpArgs false
namespace Go.Proofs.Tryz
open Go.L Go.Rp
set_option maxRecDepth 100000
end Go.Proofs.Tryz
set_option linter.unusedVariables false
set_option linter.unusedSimpArgs false
namespace Go.Proofs.Tryz
open Go.L Go.Rp Go.Sk
set_option maxRecDepth 100000
end Go.Proofs.Tryz
set_option linter.unusedVariables false
set_option linter.unusedSimpArgs false
namespace Go.Proofs.Tryz
open Go.L Go.Rp Go.Sk
set_option maxRecDepth 100000
def Sees (h : Heap) (r : V) (l : List Int) : Prop := (∃ sz, slcH h r = some (sz, l.map (intV .i32))) /\ ∀ (i : Nat) (x : Int), l[i]? = some x -> ∃ p, idxP 1 i r = some p /\ cellsP h p = some ([.int .i32 x], 1, 0)
theorem RowI.sees {h : Heap} {b : Nat} {L : List Int} (r : RowI h b .i32 21 L) {lo hi : Nat} (h1 : lo <= hi) (h2 : hi <= L.length) : Sees h (.row b 1 lo hi) ((L.take hi).drop lo) := by
  refine ⟨⟨1, r.slcP h1 h2⟩, fun i x hx => ?_⟩
  rw [List.getElem?_drop] at hx
  have hi' : lo + i < hi := by
    have := (List.getElem?_eq_some_iff.1 hx).1
    rw [List.length_take] at this
    omega
  rw [List.getElem?_take_of_lt hi'] at hx
  obtain ⟨a, c⟩ := r.getP hi' hx
  exact ⟨_, a, c⟩
theorem sees_nil (h : Heap) : Sees h (.sl 0 [] true) [] := ⟨⟨0, rfl⟩, fun i x hx => by simp at hx⟩
theorem SlI.sees {h : Heap} {lo : Nat} {r : V} {l : List Int} (s : SlI h lo r l) : Sees h r l := by
  rcases s with ⟨rfl, rfl⟩ | ⟨b, z, _, rfl, hz⟩
  · exact sees_nil h
  · have := RowI.sees (L := l) ⟨z, hz⟩ (Nat.zero_le l.length) (Nat.le_refl _)
    rwa [List.take_length, List.drop_zero] at this
end Go.Proofs.Tryz
set_option linter.unusedVariables false
set_option linter.unusedSimpArgs false
namespace Go.Sk
open Go.L Go.Rp
theorem stkStep_le (m : Nat) (c x : Int) (xs : List Int) (h : xs.length <= m) : (stkStep (m : Int) c x xs).2.length <= m := by
  unfold stkStep
  split
  · split
    · simp; omega
    · exact h
  · split
    · split
      · simp; omega
      · exact h
    · exact h
theorem stkRun_le (m : Nat) : ∀ (l : List O) (xs : List Int), xs.length <= m -> (stkRun (m : Int) l xs).2.length <= m
  | [], _, h => h
  | o :: l, xs, h => stkRun_le m l _ (stkStep_le m o.k o.v xs h)
end Go.Sk
namespace Go.Proofs.Tryz
open Go.L Go.Rp Go.Sk
set_option maxRecDepth 100000
def bodV (k s : Nat) : V := .iface (if k = 1 then 112 else if k = 2 then 116 else 120) (.agg [.ptr s 0])
structure XFed (h h' : Heap) (X X' : List Nat) : Prop where
  len : h.length <= h'.length
  old : ∀ i, i < h.length -> i ∉ X -> h'[i]? = h[i]?
  new : ∀ x ∈ X', x ∈ X \/ h.length <= x
def bodF (k : Nat) (pl : Bool) : Nat := if k = 1 then (if pl then 173 else 171) else if k = 2 then (if pl then 198 else 196) else (if pl then 221 else 219)
end Go.Proofs.Tryz
set_option linter.unusedVariables false
set_option linter.unusedSimpArgs false
namespace Go.Proofs.Tryz
open Go.L Go.Rp Go.Sk
set_option maxRecDepth 100000
theorem bop_obj_nil (h : Heap) (c : Nat) : bopH prog h .eql 25 (V.ptr c 0) (V.val (.pointer none)) = some (.bool false) := by kernel_rfl
def tagK (k : Nat) : Nat := if k = 1 then 112 else if k = 2 then 116 else 120
theorem meth_batch {k : Nat} (hk : k = 1 \/ k = 2 \/ k = 3) (s : Nat) : methV prog (tagK k) (.agg [.ptr s 0]) "reaper/object.batch" = some (bodF k false, .agg [.ptr s 0]) := by
  rcases hk with rfl | rfl | rfl
  · show methV prog 112 (.agg [.ptr s 0]) "reaper/object.batch" = some (171, .agg [.ptr s 0]); kernel_rfl
  · show methV prog 116 (.agg [.ptr s 0]) "reaper/object.batch" = some (196, .agg [.ptr s 0]); kernel_rfl
  · show methV prog 120 (.agg [.ptr s 0]) "reaper/object.batch" = some (219, .agg [.ptr s 0]); kernel_rfl
theorem bodF_ok {k : Nat} (hk : k = 1 \/ k = 2 \/ k = 3) (pl : Bool) : keepS (bodF k pl) = true /\ okV prog 28 (bodF k pl) = true := by
  rcases hk with rfl | rfl | rfl <;> cases pl
  · show keepS 171 = true /\ okV prog 28 171 = true; exact ⟨by kernel_rfl, by kernel_rfl⟩
  · show keepS 173 = true /\ okV prog 28 173 = true; exact ⟨by kernel_rfl, by kernel_rfl⟩
  · show keepS 196 = true /\ okV prog 28 196 = true; exact ⟨by kernel_rfl, by kernel_rfl⟩
  · show keepS 198 = true /\ okV prog 28 198 = true; exact ⟨by kernel_rfl, by kernel_rfl⟩
  · show keepS 219 = true /\ okV prog 28 219 = true; exact ⟨by kernel_rfl, by kernel_rfl⟩
  · show keepS 221 = true /\ okV prog 28 221 = true; exact ⟨by kernel_rfl, by kernel_rfl⟩
def SlJ (h : Heap) (lo : Nat) (r : V) (l : List Int) : Prop := SlI h lo r l \/ r = .sl 1 (l.map (intV .i32)) false
theorem SlJ.sees {h : Heap} {lo : Nat} {r : V} {l : List Int} (s : SlJ h lo r l) : Sees h r l := by
  rcases s with s | rfl
  · exact s.sees
  · exact ⟨⟨1, slcH_sl ..⟩, fun i x hx => ⟨_, idxP_sl (es := intV .i32 x) (by rw [List.getElem?_map, hx]; rfl) false, cellsP_iptr ..⟩⟩
theorem SlJ.len {h : Heap} {lo : Nat} {r : V} {l : List Int} (s : SlJ h lo r l) : ∃ sz, slcH h r = some (sz, l.map (intV .i32)) := s.sees.1
theorem meth_items {k : Nat} (hk : k = 1 \/ k = 2 \/ k = 3) (s : Nat) : methV prog (tagK k) (.agg [.ptr s 0]) "Items" = some (if k = 1 then 168 else if k = 2 then 191 else 217, .ptr s 0) := by
  rcases hk with rfl | rfl | rfl
  · show methV prog 112 (.agg [.ptr s 0]) "Items" = some (168, .ptr s 0); kernel_rfl
  · show methV prog 116 (.agg [.ptr s 0]) "Items" = some (191, .ptr s 0); kernel_rfl
  · show methV prog 120 (.agg [.ptr s 0]) "Items" = some (217, .ptr s 0); kernel_rfl
theorem ok_items {k : Nat} (hk : k = 1 \/ k = 2 \/ k = 3) : keepS (if k = 1 then 168 else if k = 2 then 191 else 217) = true /\ okV prog 27 (if k = 1 then 168 else if k = 2 then 191 else 217) = true := by
  rcases hk with rfl | rfl | rfl
  · show keepS 168 = true /\ okV prog 27 168 = true; exact ⟨by kernel_rfl, by kernel_rfl⟩
  · show keepS 191 = true /\ okV prog 27 191 = true; exact ⟨by kernel_rfl, by kernel_rfl⟩
  · show keepS 217 = true /\ okV prog 27 217 = true; exact ⟨by kernel_rfl, by kernel_rfl⟩
def capN (m : Int) : Nat := (if 0 < (if 1000 < m then 1000 else m) then (if 1000 < m then 1000 else m) else 0).toNat
theorem capN_eq (m : Int) : (if 0 < (if 1000 < m then 1000 else m) then (if 1000 < m then 1000 else m) else 0) = ((capN m : Nat) : Int) := by
  unfold capN
  (repeat' split) <;> omega
theorem capN_le (m : Int) : capN m <= 1000 := by
  unfold capN
  (repeat' split) <;> omega
theorem stk_new_call (n : Nat) (h : Heap) (m : Int) : call (n + 1) 57 [.int .i64 m] h = some (.ret [.ptr h.length 0], h ++ [.box 2 [.sl 0 [] true, .int .i64 (capN m : Int)]]) := by
  rw [stkNew_eq, <- capN_eq]
  rfl
theorem bld_st (v : V) (s : Nat) : bldV prog 112 [(0, .ptr s 0)] = some [.ptr s 0] := by kernel_rfl
theorem bld_ob (t : Nat) (v : V) (c : Nat) (p : Bool) : bldV prog 125 [(0, .iface t v), (1, .ptr c 0), (2, .bool p)] = some [.iface t v, .ptr c 0, .bool p] := by kernel_rfl
end Go.Proofs.Tryz
set_option linter.unusedVariables false
set_option linter.unusedSimpArgs false
namespace Go.Proofs.Tryz
open Go.L Go.Rp Go.Sk
set_option maxRecDepth 100000
structure StO (h : Heap) (o s c : Nat) (qb : Option Nat) (m : Nat) (xs : List Int) : Prop where
  box : h[o]? = some (.box 3 [bodV 1 s, .ptr c 0, .bool false])
  stk : StkAt h s qb (m : Int) xs
  room : xs.length <= m
  most : m <= 1000
  os : o ≠ s
  oq : qb ≠ some o
def soB (o s : Nat) (qb : Option Nat) : List Nat := o :: s :: qb.toList
theorem StkAt.slt {h : Heap} {s : Nat} {sb : Option Nat} {most : Int} {xs : List Int} (B : StkAt h s sb most xs) : s < h.length /\ ∀ b, sb = some b -> b < h.length := by
  obtain ⟨v, sz, k1, k2⟩ := B.box
  refine ⟨lt_of_at k1, fun b hb => ?_⟩
  subst hb
  obtain ⟨_, l, z, _, k3, _⟩ := B
  exact lt_of_at k3
theorem StO.lt {h : Heap} {o s c : Nat} {qb : Option Nat} {m : Nat} {xs : List Int} (A : StO h o s c qb m xs) : ∀ x ∈ soB o s qb, x < h.length := by
  intro x hx
  have h2 := A.stk.slt
  simp only [soB, List.mem_cons, Option.mem_toList] at hx
  rcases hx with rfl | rfl | hx
  · exact lt_of_at A.box
  · exact h2.1
  · exact h2.2 _ hx
theorem StO.keep {h h' : Heap} {o s c : Nat} {qb : Option Nat} {m : Nat} {xs : List Int} (A : StO h o s c qb m xs) (hk : ∀ x ∈ soB o s qb, h'[x]? = h[x]?) : StO h' o s c qb m xs :=
  ⟨(hk o (by simp [soB])).trans A.box, A.stk.keep (hk s (by simp [soB])) (fun b hb => hk b (by simp [soB, hb])), A.room, A.most, A.os, A.oq⟩
theorem bodV1 (s : Nat) : bodV 1 s = .iface (tagK 1) (.agg [.ptr s 0]) := rfl
theorem ifK_if {R : Type} (t : Nat) (v : V) (k : Nat -> V -> Option R) : ifK (.iface t v) k = k t v := rfl
theorem so_do (n : Nat) {h : Heap} {o s c : Nat} {qb : Option Nat} {m : Nat} {xs : List Int} (A : StO h o s c qb m xs) (os : List O) (osb : Bool) (hos : os.length <= 1000) (hn : os.length <= n) :
    ∃ h' qb' T, call (n + 8) 17 [.ptr o 0, .sl 2 (os.map O.w) osb] h = some (.ret [.row T 2 0 os.length], h') /\ RowR h' T (stkRun m os xs).1 /\ StO h' o s c qb' m (stkRun m os xs).2 /\ h.length <= T /\ T ∉ soB o s qb' /\ XFed h h' (soB o s qb) (soB o s qb') := by
  have hl := A.stk.slt
  have hm := A.most
  have hr := A.room
  have hlim : 1000000 < lim := by unfold lim; omega
  have hol := lt_of_at A.box
  obtain ⟨h', qb', T, e, c1, c2, c3, c4, c5⟩ := mat_apply_call (n + 1) A.stk os osb A.room (by omega) (by omega) (by omega) hl.2
  have hoq : qb' ≠ some o := fun e => by
    rcases c5.own o e with e1 | e1
    · exact A.oq e1
    · omega
  refine ⟨h', qb', T, ?_, ⟨true, c1⟩, ⟨(c5.old o hol A.os A.oq).trans A.box, c4, stkRun_le m os xs A.room, A.most, A.os, hoq⟩, c2, ?_, ⟨c5.len, fun i h1 h2 => c5.old i h1 (fun e => h2 (by simp [soB, e])) (fun e => h2 (by simp [soB, e])), ?_⟩⟩
  · rw [show n + 8 = (n + 7) + 1 from rfl, objDo_eq]
    unfold objDo
    rw [bop_obj_nil, bd_some, bv_bool, if_neg (by decide), cellsP_box A.box, bd3_some, if_pos (by decide)]
    simp only [List.getElem?_cons_zero, List.getElem?_cons_succ, bd_some]
    rw [bv_bool, if_neg (by decide), cellsP_box A.box, bd3_some, if_pos (by decide)]
    simp only [List.getElem?_cons_zero, List.getElem?_cons_succ, bd_some]
    rw [cellsP_box A.box, bd3_some, if_pos (by decide)]
    simp only [List.getElem?_cons_zero, List.getElem?_cons_succ, bd_some]
    rw [if_pos (by rfl)]
    rw [bodV1, ifK_if]
    rw [meth_batch (.inl rfl), bd2_some, if_pos (bodF_ok (.inl rfl) false)]
    show clH (call (n + 6 + 1) 171 [.agg [.ptr s 0], .ptr c 0, .sl 2 (os.map O.w) osb] h) _ = _
    rw [stkBatch_eq]
    unfold stkBatch
    rw [show n + 6 = n + 1 + 5 from rfl, e, cl_ret, one1_one]
    rfl
  · intro hT
    simp only [soB, List.mem_cons, Option.mem_toList] at hT
    rcases hT with e1 | e1 | e1
    · omega
    · have := hl.1; omega
    · exact c3 e1
  · intro x hx
    simp only [soB, List.mem_cons, Option.mem_toList] at hx ⊢
    rcases hx with e1 | e1 | e1
    · exact .inl (.inl e1)
    · exact .inl (.inr (.inl e1))
    · rcases c5.own x e1 with e2 | e2
      · exact .inl (.inr (.inr e2))
      · exact .inr e2
theorem so_items (n : Nat) {h : Heap} {o s c : Nat} {qb : Option Nat} {m : Nat} {xs : List Int} (A : StO h o s c qb m xs) :
    ∃ h' r, call (n + 4) 20 [.ptr o 0] h = some (.ret [r], h') /\ SlJ h' h.length r xs /\ h.length <= h'.length /\ ∀ i, i < h.length -> h'[i]? = h[i]? := by
  have hm := A.most
  have hr := A.room
  have hlim : 1000000 < lim := by unfold lim; omega
  refine ⟨h ++ [HB.row 21 1 (xs.map numC) true], .row h.length 1 0 xs.length, ?_, .inl (.inr ⟨h.length, true, Nat.le_refl _, rfl, List.getElem?_concat_length⟩), by simp, fun i hi => List.getElem?_append_left hi⟩
  rw [show n + 4 = (n + 3) + 1 from rfl, objItems_eq]
  unfold objItems
  rw [bop_obj_nil, bd_some, bv_bool, if_neg (by decide), cellsP_box A.box, bd3_some, if_pos (by decide)]
  simp only [List.getElem?_cons_zero, List.getElem?_cons_succ, bd_some]
  rw [bodV1, ifK_if]
  rw [meth_items (.inl rfl), bd2_some, if_pos (ok_items (.inl rfl))]
  show cl (call (n + 2 + 1) 168 [.ptr s 0] h) _ _ = _
  rw [stk_items_call (n + 2) A.stk (by omega), cl_ret, one1_one]
theorem setc (h : Heap) (a x : HB) : (h ++ [a]).set h.length x = h ++ [x] := by simp
theorem getc (h : Heap) (a : HB) : (h ++ [a])[h.length]? = some a := List.getElem?_concat_length
theorem kds_u8s : kds prog 12 5 = some [0] := by kernel_rfl
theorem of_nil (g : Heap) : bopN prog g .eql 106 true (V.fn 56 []) (V.val .nilFunc) = some (.bool false) := by kernel_rfl
theorem of_ok : okV prog 108 56 = true /\ keepS 56 = true := ⟨by kernel_rfl, by kernel_rfl⟩
theorem so_new (n : Nat) (h : Heap) (m : Int) : ∃ h' o s c, call (n + 3) 15 [.int .u8 1, .int .i64 m, .bool false] h = some (.ret [.ptr o 0], h') /\ StO h' o s c none (capN m) [] /\ h.length <= h'.length /\ (∀ i, i < h.length -> h'[i]? = h[i]?) /\ h.length <= o /\ h.length <= s := by
  rw [show n + 3 = (n + 2) + 1 from rfl, obNewS_eq]
  unfold obNewS
  rw [getc, mapAt_map, show kds prog 12 5 = some [0] from kds_u8s]
  simp only [bd_some]
  rw [show findI [0] (V.int .u8 1) [] 0 = some none from rfl, bd_some, if_pos (by refine ⟨?_, ?_⟩ <;> first | trivial | rfl)]
  rw [setc]
  rw [getc, mapAt_map, show findI [0] (V.int .u8 2) (upd [] (V.int .u8 1) (V.fn 56 []) none) 0 = some none from rfl, bd_some, if_pos (by refine ⟨?_, ?_⟩ <;> first | trivial | rfl)]
  rw [setc]
  rw [getc, mapAt_map, show findI [0] (V.int .u8 3) (upd (upd [] (V.int .u8 1) (V.fn 56 []) none) (V.int .u8 2) (V.fn 58 []) none) 0 = some none from rfl, bd_some, if_pos (by refine ⟨?_, ?_⟩ <;> first | trivial | rfl)]
  rw [setc]
  rw [mapOf_c, bdS_some, show findI [0] (V.int .u8 1) (upd (upd (upd [] (V.int .u8 1) (V.fn 56 []) none) (V.int .u8 2) (V.fn 58 []) none) (V.int .u8 3) (V.fn 60 []) none) 0 = some (some 0) from rfl, bdS_some]
  rw [show entryV (upd (upd (upd [] (V.int .u8 1) (V.fn 56 []) none) (V.int .u8 2) (V.fn 58 []) none) (V.int .u8 3) (V.fn 60 []) none) (V.val .nilFunc) (some 0) = some (V.fn 56 []) from rfl, bd_some, if_pos (by refine ⟨?_, ?_, ?_⟩ <;> first | trivial | rfl), of_nil, bd_some, bv_bool, if_neg (by decide)]
  generalize hg : (h ++ [HB.map (upd (upd (upd [] (V.int .u8 1) (V.fn 56 []) none) (V.int .u8 2) (V.fn 58 []) none) (V.int .u8 3) (V.fn 60 []) none)]) = g
  have hgl : g.length = h.length + 1 := by rw [<- hg]; simp
  have hgo : ∀ i, i < h.length -> g[i]? = h[i]? := fun i hi => by rw [<- hg, List.getElem?_append_left hi]
  rw [show ∀ (a : Nat -> Option (Res × Heap)) b, ydK (V.fn 56 []) a b = b from fun _ _ => rfl, fnK_fn, if_pos of_ok.1, if_pos of_ok.2]
  have e : call (n + 2) 56 [.int .i64 m] g = some (.ret [bodV 1 g.length], g ++ [.box 2 [.sl 0 [] true, .int .i64 (capN m : Int)]]) := by
    rw [show n + 2 = (n + 1) + 1 from rfl, objNew1_eq]
    unfold objNew1
    rw [stk_new_call, cl_ret, one1_one, bld_st (.bool true), bd_some]
    rfl
  rw [show [V.int .i64 m] ++ [] = [V.int .i64 m] from rfl, e, cl_ret, one1_one, coin_new_call (n + 1), cl_ret, one1_one]
  unfold bodV
  rw [bld_ob, bd_some, if_pos (by rfl)]
  refine ⟨((g ++ [HB.box 2 [V.sl 0 [] true, V.int .i64 (capN m : Int)]]) ++ [HB.box 1 [V.sl 0 [] true]]) ++ [HB.box 3 [bodV 1 g.length, .ptr (g.length + 1) 0, .bool false]], g.length + 2, g.length, g.length + 1, by simp [bodV], ⟨?_, ⟨rfl, ?_⟩, by simp, capN_le m, by omega, by simp⟩, by simp; omega, fun i hi => ?_, by omega, by omega⟩
  · rw [List.getElem?_append_right (by simp)]; simp [bodV]
  · rw [List.getElem?_append_left (by simp), List.getElem?_append_left (by simp), List.getElem?_concat_length]
  · rw [List.getElem?_append_left (by simp; omega), List.getElem?_append_left (by simp; omega), List.getElem?_append_left (by omega), hgo i hi]
end Go.Proofs.Tryz
set_option linter.unusedVariables false
namespace Go.Proofs.Tryz
open Go.L
set_option maxRecDepth 100000
noncomputable def plF {R : Type} (b t : Nat) : List (Int × Nat) -> Heap -> (Heap -> Option R) -> Option R
 | [], h, K => K h
 | (k, f) :: l, h, K => mapAt (h)[b]? fun es => bd (kds prog 12 3) fun ks => bd (findI ks (V.int .i64 k) es 0) fun r => if ((V.int .i64 k).one = !false /\ (V.int .i64 k).cells.length = ks.length) then plF b t l ((h).set b (HB.map (upd es (V.int .i64 k) (V.bf f [(V.ptr t 0)]) r))) K else none
def plcL : List (Int × Nat) := [(20, 103), (21, 104), (22, 105), (23, 106), (24, 107), (25, 108), (26, 109), (27, 110), (28, 111), (29, 112), (30, 113), (31, 114), (32, 115), (33, 116), (34, 117), (35, 118), (36, 119), (37, 120), (38, 121), (39, 122)]
theorem tnPlaces_eq (n : Nat) (t : Nat) (h : Heap) : call (n + 1) 79 [(V.ptr t 0)] h = plF h.length t plcL (h ++ [.map []]) (fun h' => some (.ret [.map h.length], h')) := by kernel_rfl
noncomputable def tnLoad (n : Nat) (t : Nat) (a : Int) (p : Int) (h : Heap) : Option (Res × Heap) :=
 (bd3 (cellsP h (V.ptr t 13)) fun cs1 m0 o2 => if (o2 + 1 <= m0 /\ 0 < 1) then
 (bd (cs1)[o2]? fun v3 =>
 (cl (call n 51 [v3, (V.int .i64 a)] h) (fun r4 h5 =>
 (bd (r4)[0]? fun v7 =>
 (bd (r4)[1]? fun v8 =>
 (if ((V.cells v7)).length = 1 then
 (bd2 (writeB h5 (V.cells v7) (V.ptr t 5)) fun b9 x10 =>
 (bd2 (writeB ((h5).set b9 x10) [(V.int .i64 p)] (V.ptr t 1)) fun b11 x12 =>
 some (Res.ret [], ((((h5).set b9 x10)).set b11 x12)))) else none)))) (fun z6 h5 => some (Res.pan z6, h5)))) else none)
theorem tnLoad_eq (n : Nat) (t : Nat) (a : Int) (p : Int) (h : Heap) : call (n + 1) 133 [(V.ptr t 0), (V.int .i64 a), (V.int .i64 p)] h = tnLoad n t a p h := by kernel_rfl
noncomputable def tnStore (n : Nat) (t : Nat) (a : Int) (v : Int) (p : Int) (h : Heap) : Option (Res × Heap) :=
 (bd3 (cellsP h (V.ptr t 13)) fun cs1 m0 o2 => if (o2 + 1 <= m0 /\ 0 < 1) then
 (bd (cs1)[o2]? fun v3 =>
 (cl (call n 52 [v3, (V.int .i64 a), (V.int .i64 v)] h) (fun r4 h5 =>
 (one1 r4 fun v7 =>
 (bd2 (writeB h5 [(V.int .i64 p)] (V.ptr t 1)) fun b8 x9 =>
 some (Res.ret [], ((h5).set b8 x9))))) (fun z6 h5 => some (Res.pan z6, h5)))) else none)
theorem tnStore_eq (n : Nat) (t : Nat) (a : Int) (v : Int) (p : Int) (h : Heap) : call (n + 1) 134 [(V.ptr t 0), (V.int .i64 a), (V.int .i64 v), (V.int .i64 p)] h = tnStore n t a v p h := by kernel_rfl
noncomputable def tnSwap (n : Nat) (t : Nat) (a : Int) (u : Int) (v : Int) (y : Int) (z : Int) (h : Heap) : Option (Res × Heap) :=
 (bd2 (writeB h [(V.int .i64 z)] (V.ptr t 1)) fun b0 x1 =>
 (bd3 (cellsP ((h).set b0 x1) (V.ptr t 13)) fun cs3 m2 o4 => if (o4 + 1 <= m2 /\ 0 < 1) then
 (bd (cs3)[o4]? fun v5 =>
 (cl (call n 147 [v5, (V.int .i64 a), (V.int .i64 u), (V.int .i64 v)] ((h).set b0 x1)) (fun r6 h7 =>
 (bd (r6)[0]? fun v9 =>
 (bd (r6)[1]? fun v10 =>
 (bv v9 fun b11 => if b11 then
 (bd2 (writeB h7 [(V.int .i64 y)] (V.ptr t 1)) fun b12 x13 =>
 some (Res.ret [], ((h7).set b12 x13)))
 else
 some (Res.ret [], h7))))) (fun z8 h7 => some (Res.pan z8, h7)))) else none))
theorem tnSwap_eq (n : Nat) (t : Nat) (a : Int) (u : Int) (v : Int) (y : Int) (z : Int) (h : Heap) : call (n + 1) 140 [(V.ptr t 0), (V.int .i64 a), (V.int .i64 u), (V.int .i64 v), (V.int .i64 y), (V.int .i64 z)] h = tnSwap n t a u v y z h := by kernel_rfl
noncomputable def tnOn (n : Nat) (t : Nat) (h : Heap) : Option (Res × Heap) :=
 (bd3 (cellsP h (V.ptr t 8)) fun cs1 m0 o2 => if (o2 + 1 <= m0 /\ 0 < 1) then
 (bd (cs1)[o2]? fun v3 =>
 (bd (bop prog .add 3 v3 (V.int .i64 1)) fun v4 =>
 (if ((V.cells v4)).length = 1 then
 (bd2 (writeB h (V.cells v4) (V.ptr t 8)) fun b5 x6 =>
 (bd2 (writeB ((h).set b5 x6) [(V.int .i64 33)] (V.ptr t 1)) fun b7 x8 =>
 (bd3 (cellsP ((((h).set b5 x6)).set b7 x8) (V.ptr t 8)) fun cs10 m9 o11 => if (o11 + 1 <= m9 /\ 0 < 1) then
 (bd (cs10)[o11]? fun v12 =>
 (bd3 (cellsP ((((h).set b5 x6)).set b7 x8) (V.ptr t 9)) fun cs14 m13 o15 => if (o15 + 1 <= m13 /\ 0 < 1) then
 (bd (cs14)[o15]? fun v16 =>
 (bd (bop prog .lss 3 v12 v16) fun v17 =>
 (bv v17 fun b18 => if b18 then
 (bd2 (writeB ((((h).set b5 x6)).set b7 x8) [(V.int .i64 23)] (V.ptr t 1)) fun b19 x20 =>
 some (Res.ret [], ((((((h).set b5 x6)).set b7 x8)).set b19 x20)))
 else
 some (Res.ret [], ((((h).set b5 x6)).set b7 x8))))) else none)) else none))) else none))) else none)
theorem tnOn_eq (n : Nat) (t : Nat) (h : Heap) : call (n + 1) 136 [(V.ptr t 0)] h = tnOn n t h := by kernel_rfl
noncomputable def tnUnless (n : Nat) (t : Nat) (b : Bool) (h : Heap) : Option (Res × Heap) :=
 (if (!b) then
 (cl (call n 136 [(V.ptr t 0)] h) (fun r0 h1 =>
 some (Res.ret [], h1)) (fun z2 h1 => some (Res.pan z2, h1)))
 else
 some (Res.ret [], h))
theorem tnUnless_eq (n : Nat) (t : Nat) (b : Bool) (h : Heap) : call (n + 1) 138 [(V.ptr t 0), (V.bool b)] h = tnUnless n t b h := by kernel_rfl
noncomputable def tnItem (n : Nat) (t : Nat) (h : Heap) : Option (Res × Heap) :=
 (bd3 (cellsP h (V.ptr t 8)) fun cs1 m0 o2 => if (o2 + 1 <= m0 /\ 0 < 1) then
 (bd (cs1)[o2]? fun v3 =>
 (bd (bop prog .lss 3 v3 (V.int .i64 0)) fun v4 =>
 (bv v4 fun b5 => if b5 then
 some (Res.ret [(V.val (.pointer none))], h)
 else
 (bd3 (cellsP h (V.ptr t 8)) fun cs7 m6 o8 => if (o8 + 1 <= m6 /\ 0 < 1) then
 (bd (cs7)[o8]? fun v9 =>
 (bd3 (cellsP h (V.ptr t 12)) fun cs11 m10 o12 => if (o12 + 1 <= m10 /\ 0 < 1) then
 (bd (cs11)[o12]? fun v13 =>
 (bd (slcH h v13) fun p14 =>
 (bd (bop prog .geq 3 v9 (V.int .i64 ((p14.2).length : Int))) fun v15 =>
 (bv v15 fun b16 => if b16 then
 some (Res.ret [(V.val (.pointer none))], h)
 else
 (bd3 (cellsP h (V.ptr t 12)) fun cs18 m17 o19 => if (o19 + 1 <= m17 /\ 0 < 1) then
 (bd (cs18)[o19]? fun v20 =>
 (bd3 (cellsP h (V.ptr t 8)) fun cs22 m21 o23 => if (o23 + 1 <= m21 /\ 0 < 1) then
 (bd (cs22)[o23]? fun v24 =>
 (bdS (nv v24) fun n25 =>
 (bd (idxP 3 n25 v20) fun p26 =>
 some (Res.ret [(ipOf v20 p26)], h)))) else none)) else none))))) else none)) else none)))) else none)
theorem tnItem_eq (n : Nat) (t : Nat) (h : Heap) : call (n + 1) 143 [(V.ptr t 0)] h = tnItem n t h := by kernel_rfl
noncomputable def tnPass (n : Nat) (t : Nat) (h : Heap) : Option (Res × Heap) :=
 (cl (call n 133 [(V.ptr t 0), (V.int .i64 2), (V.int .i64 21)] h) (fun r0 h1 =>
 some (Res.ret [], h1)) (fun z2 h1 => some (Res.pan z2, h1)))
theorem tnPass_eq (n : Nat) (t : Nat) (h : Heap) : call (n + 1) 103 [(V.ptr t 0)] h = tnPass n t h := by kernel_rfl
noncomputable def tnStamp (n : Nat) (t : Nat) (h : Heap) : Option (Res × Heap) :=
 (bd3 (cellsP h (V.ptr t 5)) fun cs1 m0 o2 => if (o2 + 1 <= m0 /\ 0 < 1) then
 (bd (cs1)[o2]? fun v3 =>
 (bd (bop prog .add 2 v3 (V.int .i64 1)) fun v4 =>
 (if ((V.cells v4)).length = 1 then
 (bd2 (writeB h (V.cells v4) (V.ptr t 10)) fun b5 x6 =>
 (bd3 (cellsP ((h).set b5 x6) (V.ptr t 11)) fun cs8 m7 o9 => if (o9 + 1 <= m7 /\ 0 < 1) then
 (bd (cs8)[o9]? fun v10 =>
 (bd (bop prog .add 3 v10 (V.int .i64 1)) fun v11 =>
 (if ((V.cells v11)).length = 1 then
 (bd2 (writeB ((h).set b5 x6) (V.cells v11) (V.ptr t 11)) fun b12 x13 =>
 (bd3 (cellsP ((((h).set b5 x6)).set b12 x13) (V.ptr t 10)) fun cs15 m14 o16 => if (o16 + 1 <= m14 /\ 0 < 1) then
 (bd (cs15)[o16]? fun v17 =>
 (cl (call n 134 [(V.ptr t 0), (V.int .i64 2), v17, (V.int .i64 22)] ((((h).set b5 x6)).set b12 x13)) (fun r18 h19 =>
 some (Res.ret [], h19)) (fun z20 h19 => some (Res.pan z20, h19)))) else none)) else none))) else none)) else none))) else none)
theorem tnStamp_eq (n : Nat) (t : Nat) (h : Heap) : call (n + 1) 104 [(V.ptr t 0)] h = tnStamp n t h := by kernel_rfl
noncomputable def tnMany (n : Nat) (t : Nat) (h : Heap) : Option (Res × Heap) :=
 (bd3 (cellsP h (V.ptr t 13)) fun cs1 m0 o2 => if (o2 + 1 <= m0 /\ 0 < 1) then
 (bd (cs1)[o2]? fun v3 =>
 (cl (call n 135 [v3] h) (fun r4 h5 =>
 (one1 r4 fun v7 =>
 (if ((V.cells v7)).length = 1 then
 (bd2 (writeB h5 (V.cells v7) (V.ptr t 9)) fun b8 x9 =>
 (bd2 (writeB ((h5).set b8 x9) [(V.int .i64 (-1))] (V.ptr t 8)) fun b10 x11 =>
 (bd2 (writeB ((((h5).set b8 x9)).set b10 x11) [(V.sl 0 [] true)] (V.ptr t 12)) fun b12 x13 =>
 (cl (call n 136 [(V.ptr t 0)] ((((((h5).set b8 x9)).set b10 x11)).set b12 x13)) (fun r14 h15 =>
 some (Res.ret [], h15)) (fun z16 h15 => some (Res.pan z16, h15)))))) else none))) (fun z6 h5 => some (Res.pan z6, h5)))) else none)
theorem tnMany_eq (n : Nat) (t : Nat) (h : Heap) : call (n + 1) 105 [(V.ptr t 0)] h = tnMany n t h := by kernel_rfl
noncomputable def tnLook (n : Nat) (t : Nat) (h : Heap) : Option (Res × Heap) :=
 (bd3 (cellsP h (V.ptr t 8)) fun cs1 m0 o2 => if (o2 + 1 <= m0 /\ 0 < 1) then
 (bd (cs1)[o2]? fun v3 =>
 (cl (call n 137 [v3] h) (fun r4 h5 =>
 (one1 r4 fun v7 =>
 (if ((V.cells v7)).length = 1 then
 (bd2 (writeB h5 (V.cells v7) (V.ptr t 6)) fun b8 x9 =>
 (bd3 (cellsP ((h5).set b8 x9) (V.ptr t 6)) fun cs11 m10 o12 => if (o12 + 1 <= m10 /\ 0 < 1) then
 (bd (cs11)[o12]? fun v13 =>
 (bd (bop prog .add 3 v13 (V.int .i64 1)) fun v14 =>
 (cl (call n 133 [(V.ptr t 0), v14, (V.int .i64 24)] ((h5).set b8 x9)) (fun r15 h16 =>
 (bd3 (cellsP h16 (V.ptr t 5)) fun cs19 m18 o20 => if (o20 + 1 <= m18 /\ 0 < 1) then
 (bd (cs19)[o20]? fun v21 =>
 (bd (bop prog .eql 2 v21 (V.int .i64 0)) fun v22 =>
 (cl (call n 138 [(V.ptr t 0), v22] h16) (fun r23 h24 =>
 some (Res.ret [], h24)) (fun z25 h24 => some (Res.pan z25, h24))))) else none)) (fun z17 h16 => some (Res.pan z17, h16))))) else none)) else none))) (fun z6 h5 => some (Res.pan z6, h5)))) else none)
theorem tnLook_eq (n : Nat) (t : Nat) (h : Heap) : call (n + 1) 106 [(V.ptr t 0)] h = tnLook n t h := by kernel_rfl
noncomputable def tnPend (n : Nat) (t : Nat) (h : Heap) : Option (Res × Heap) :=
 (bd3 (cellsP h (V.ptr t 6)) fun cs1 m0 o2 => if (o2 + 1 <= m0 /\ 0 < 1) then
 (bd (cs1)[o2]? fun v3 =>
 (bd (bop prog .add 3 v3 (V.int .i64 0)) fun v4 =>
 (cl (call n 133 [(V.ptr t 0), v4, (V.int .i64 25)] h) (fun r5 h6 =>
 (bd3 (cellsP h6 (V.ptr t 5)) fun cs9 m8 o10 => if (o10 + 1 <= m8 /\ 0 < 1) then
 (bd (cs9)[o10]? fun v11 =>
 (cl (call n 139 [v11] h6) (fun r12 h13 =>
 (one1 r12 fun v15 =>
 (cl (call n 138 [(V.ptr t 0), v15] h13) (fun r16 h17 =>
 some (Res.ret [], h17)) (fun z18 h17 => some (Res.pan z18, h17))))) (fun z14 h13 => some (Res.pan z14, h13)))) else none)) (fun z7 h6 => some (Res.pan z7, h6))))) else none)
theorem tnPend_eq (n : Nat) (t : Nat) (h : Heap) : call (n + 1) 107 [(V.ptr t 0)] h = tnPend n t h := by kernel_rfl
noncomputable def tnHelp (n : Nat) (t : Nat) (h : Heap) : Option (Res × Heap) :=
 (bd3 (cellsP h (V.ptr t 6)) fun cs1 m0 o2 => if (o2 + 1 <= m0 /\ 0 < 1) then
 (bd (cs1)[o2]? fun v3 =>
 (bd (bop prog .add 3 v3 (V.int .i64 1)) fun v4 =>
 (cl (call n 140 [(V.ptr t 0), v4, (V.int .i64 0), (V.int .i64 2), (V.int .i64 26), (V.int .i64 23)] h) (fun r5 h6 =>
 (bd3 (cellsP h6 (V.ptr t 1)) fun cs9 m8 o10 => if (o10 + 1 <= m8 /\ 0 < 1) then
 (bd (cs9)[o10]? fun v11 =>
 (bd (bop prog .eql 3 v11 (V.int .i64 26)) fun v12 =>
 (cl (call n 138 [(V.ptr t 0), v12] h6) (fun r13 h14 =>
 some (Res.ret [], h14)) (fun z15 h14 => some (Res.pan z15, h14))))) else none)) (fun z7 h6 => some (Res.pan z7, h6))))) else none)
theorem tnHelp_eq (n : Nat) (t : Nat) (h : Heap) : call (n + 1) 108 [(V.ptr t 0)] h = tnHelp n t h := by kernel_rfl
noncomputable def tnFirst (n : Nat) (t : Nat) (h : Heap) : Option (Res × Heap) :=
 (cl (call n 133 [(V.ptr t 0), (V.int .i64 1), (V.int .i64 27)] h) (fun r0 h1 =>
 (bd3 (cellsP h1 (V.ptr t 5)) fun cs4 m3 o5 => if (o5 + 1 <= m3 /\ 0 < 1) then
 (bd (cs4)[o5]? fun v6 =>
 (bd (bop prog .neq 2 v6 (V.int .i64 0)) fun v7 =>
 (bv v7 fun b8 => if b8 then
 (bd3 (cellsP h1 (V.ptr t 5)) fun cs10 m9 o11 => if (o11 + 1 <= m9 /\ 0 < 1) then
 (bd (cs10)[o11]? fun v12 =>
 (if ((V.cells v12)).length = 1 then
 (bd2 (writeB h1 (V.cells v12) (V.ptr t 7)) fun b13 x14 =>
 (bd2 (writeB ((h1).set b13 x14) [(V.int .i64 29)] (V.ptr t 1)) fun b15 x16 =>
 some (Res.ret [], ((((h1).set b13 x14)).set b15 x16)))) else none)) else none)
 else
 some (Res.ret [], h1)))) else none)) (fun z2 h1 => some (Res.pan z2, h1)))
theorem tnFirst_eq (n : Nat) (t : Nat) (h : Heap) : call (n + 1) 109 [(V.ptr t 0)] h = tnFirst n t h := by kernel_rfl
noncomputable def tnBare (n : Nat) (t : Nat) (h : Heap) : Option (Res × Heap) :=
 (bd3 (cellsP h (V.ptr t 6)) fun cs1 m0 o2 => if (o2 + 1 <= m0 /\ 0 < 1) then
 (bd (cs1)[o2]? fun v3 =>
 (bd (bop prog .add 3 v3 (V.int .i64 3)) fun v4 =>
 (cl (call n 134 [(V.ptr t 0), v4, (V.int .i64 0), (V.int .i64 28)] h) (fun r5 h6 =>
 some (Res.ret [], h6)) (fun z7 h6 => some (Res.pan z7, h6))))) else none)
theorem tnBare_eq (n : Nat) (t : Nat) (h : Heap) : call (n + 1) 110 [(V.ptr t 0)] h = tnBare n t h := by kernel_rfl
noncomputable def tnSolo (n : Nat) (t : Nat) (h : Heap) : Option (Res × Heap) :=
 (bd3 (cellsP h (V.ptr t 6)) fun cs1 m0 o2 => if (o2 + 1 <= m0 /\ 0 < 1) then
 (bd (cs1)[o2]? fun v3 =>
 (cl (call n 140 [(V.ptr t 0), (V.int .i64 1), (V.int .i64 0), v3, (V.int .i64 32), (V.int .i64 26)] h) (fun r4 h5 =>
 some (Res.ret [], h5)) (fun z6 h5 => some (Res.pan z6, h5)))) else none)
theorem tnSolo_eq (n : Nat) (t : Nat) (h : Heap) : call (n + 1) 111 [(V.ptr t 0)] h = tnSolo n t h := by kernel_rfl
noncomputable def tnAfter (n : Nat) (t : Nat) (h : Heap) : Option (Res × Heap) :=
 (bd3 (cellsP h (V.ptr t 7)) fun cs1 m0 o2 => if (o2 + 1 <= m0 /\ 0 < 1) then
 (bd (cs1)[o2]? fun v3 =>
 (bd (bop prog .add 3 v3 (V.int .i64 3)) fun v4 =>
 (cl (call n 133 [(V.ptr t 0), v4, (V.int .i64 30)] h) (fun r5 h6 =>
 some (Res.ret [], h6)) (fun z7 h6 => some (Res.pan z7, h6))))) else none)
theorem tnAfter_eq (n : Nat) (t : Nat) (h : Heap) : call (n + 1) 112 [(V.ptr t 0)] h = tnAfter n t h := by kernel_rfl
noncomputable def tnTie (n : Nat) (t : Nat) (h : Heap) : Option (Res × Heap) :=
 (bd3 (cellsP h (V.ptr t 6)) fun cs1 m0 o2 => if (o2 + 1 <= m0 /\ 0 < 1) then
 (bd (cs1)[o2]? fun v3 =>
 (bd (bop prog .add 3 v3 (V.int .i64 3)) fun v4 =>
 (bd3 (cellsP h (V.ptr t 5)) fun cs6 m5 o7 => if (o7 + 1 <= m5 /\ 0 < 1) then
 (bd (cs6)[o7]? fun v8 =>
 (clH (call n 134 [(V.ptr t 0), v4, v8, (V.int .i64 31)] h) fun r9 h10 =>
 some (Res.ret [], h10))) else none))) else none)
theorem tnTie_eq (n : Nat) (t : Nat) (h : Heap) : call (n + 1) 113 [(V.ptr t 0)] h = tnTie n t h := by kernel_rfl
noncomputable def tnSet (n : Nat) (t : Nat) (h : Heap) : Option (Res × Heap) :=
 (bd3 (cellsP h (V.ptr t 7)) fun cs1 m0 o2 => if (o2 + 1 <= m0 /\ 0 < 1) then
 (bd (cs1)[o2]? fun v3 =>
 (bd (bop prog .add 3 v3 (V.int .i64 3)) fun v4 =>
 (bd3 (cellsP h (V.ptr t 6)) fun cs6 m5 o7 => if (o7 + 1 <= m5 /\ 0 < 1) then
 (bd (cs6)[o7]? fun v8 =>
 (clH (call n 134 [(V.ptr t 0), v4, v8, (V.int .i64 32)] h) fun r9 h10 =>
 some (Res.ret [], h10))) else none))) else none)
theorem tnSet_eq (n : Nat) (t : Nat) (h : Heap) : call (n + 1) 114 [(V.ptr t 0)] h = tnSet n t h := by kernel_rfl
noncomputable def tnSeen (n : Nat) (t : Nat) (h : Heap) : Option (Res × Heap) :=
 (bd3 (cellsP h (V.ptr t 6)) fun cs1 m0 o2 => if (o2 + 1 <= m0 /\ 0 < 1) then
 (bd (cs1)[o2]? fun v3 =>
 (bd (bop prog .add 3 v3 (V.int .i64 1)) fun v4 =>
 (cl (call n 134 [(V.ptr t 0), v4, (V.int .i64 1), (V.int .i64 23)] h) (fun r5 h6 =>
 (cl (call n 136 [(V.ptr t 0)] h6) (fun r8 h9 =>
 some (Res.ret [], h9)) (fun z10 h9 => some (Res.pan z10, h9)))) (fun z7 h6 => some (Res.pan z7, h6))))) else none)
theorem tnSeen_eq (n : Nat) (t : Nat) (h : Heap) : call (n + 1) 115 [(V.ptr t 0)] h = tnSeen n t h := by kernel_rfl
noncomputable def tnScan (n : Nat) (t : Nat) (h : Heap) : Option (Res × Heap) :=
 (cl (call n 133 [(V.ptr t 0), (V.int .i64 1), (V.int .i64 40)] h) (fun r0 h1 =>
 (bd3 (cellsP h1 (V.ptr t 5)) fun cs4 m3 o5 => if (o5 + 1 <= m3 /\ 0 < 1) then
 (bd (cs4)[o5]? fun v6 =>
 (bd (bop prog .neq 2 v6 (V.int .i64 0)) fun v7 =>
 (bv v7 fun b8 => if b8 then
 (bd3 (cellsP h1 (V.ptr t 5)) fun cs10 m9 o11 => if (o11 + 1 <= m9 /\ 0 < 1) then
 (bd (cs10)[o11]? fun v12 =>
 (if ((V.cells v12)).length = 1 then
 (bd2 (writeB h1 (V.cells v12) (V.ptr t 6)) fun b13 x14 =>
 (bd2 (writeB ((h1).set b13 x14) [(V.int .i64 34)] (V.ptr t 1)) fun b15 x16 =>
 some (Res.ret [], ((((h1).set b13 x14)).set b15 x16)))) else none)) else none)
 else
 some (Res.ret [], h1)))) else none)) (fun z2 h1 => some (Res.pan z2, h1)))
theorem tnScan_eq (n : Nat) (t : Nat) (h : Heap) : call (n + 1) 116 [(V.ptr t 0)] h = tnScan n t h := by kernel_rfl
noncomputable def tnPick (n : Nat) (t : Nat) (h : Heap) : Option (Res × Heap) :=
 (bd3 (cellsP h (V.ptr t 6)) fun cs1 m0 o2 => if (o2 + 1 <= m0 /\ 0 < 1) then
 (bd (cs1)[o2]? fun v3 =>
 (bd (bop prog .add 3 v3 (V.int .i64 0)) fun v4 =>
 (cl (call n 133 [(V.ptr t 0), v4, (V.int .i64 35)] h) (fun r5 h6 =>
 (bd3 (cellsP h6 (V.ptr t 5)) fun cs9 m8 o10 => if (o10 + 1 <= m8 /\ 0 < 1) then
 (bd (cs9)[o10]? fun v11 =>
 (cl (call n 139 [v11] h6) (fun r12 h13 =>
 (one1 r12 fun v15 =>
 (bv v15 fun b16 => if b16 then
 (bd3 (cellsP h13 (V.ptr t 12)) fun cs18 m17 o19 => if (o19 + 1 <= m17 /\ 0 < 1) then
 (bd (cs18)[o19]? fun v20 =>
 (bd3 (cellsP h13 (V.ptr t 6)) fun cs22 m21 o23 => if (o23 + 1 <= m21 /\ 0 < 1) then
 (bd (cs22)[o23]? fun v24 =>
 (bd3 (cellsP h13 (V.ptr t 5)) fun cs26 m25 o27 => if (o27 + 1 <= m25 /\ 0 < 1) then
 (bd (cs26)[o27]? fun v28 =>
 (bd (bldV prog 87 [(0, v24), (1, v28)]) fun cs29 =>
 (bd (bslV prog 63 1 [(0, (V.agg cs29))]) fun p30 =>
 (bd2 (appP 87 3 h13 p30.2 v20) fun v31 h32 =>
 (if ((V.cells v31)).length = 1 then
 (bd2 (writeB h32 (V.cells v31) (V.ptr t 12)) fun b33 x34 =>
 some (Res.ret [], ((h32).set b33 x34))) else none))))) else none)) else none)) else none)
 else
 some (Res.ret [], h13)))) (fun z14 h13 => some (Res.pan z14, h13)))) else none)) (fun z7 h6 => some (Res.pan z7, h6))))) else none)
theorem tnPick_eq (n : Nat) (t : Nat) (h : Heap) : call (n + 1) 117 [(V.ptr t 0)] h = tnPick n t h := by kernel_rfl
noncomputable def tnNext (n : Nat) (t : Nat) (h : Heap) : Option (Res × Heap) :=
 (bd3 (cellsP h (V.ptr t 6)) fun cs1 m0 o2 => if (o2 + 1 <= m0 /\ 0 < 1) then
 (bd (cs1)[o2]? fun v3 =>
 (bd (bop prog .add 3 v3 (V.int .i64 3)) fun v4 =>
 (cl (call n 133 [(V.ptr t 0), v4, (V.int .i64 36)] h) (fun r5 h6 =>
 (bd3 (cellsP h6 (V.ptr t 5)) fun cs9 m8 o10 => if (o10 + 1 <= m8 /\ 0 < 1) then
 (bd (cs9)[o10]? fun v11 =>
 (bd (bop prog .neq 2 v11 (V.int .i64 0)) fun v12 =>
 (bv v12 fun b13 => if b13 then
 (bd3 (cellsP h6 (V.ptr t 5)) fun cs15 m14 o16 => if (o16 + 1 <= m14 /\ 0 < 1) then
 (bd (cs15)[o16]? fun v17 =>
 (if ((V.cells v17)).length = 1 then
 (bd2 (writeB h6 (V.cells v17) (V.ptr t 6)) fun b18 x19 =>
 (bd2 (writeB ((h6).set b18 x19) [(V.int .i64 34)] (V.ptr t 1)) fun b20 x21 =>
 some (Res.ret [], ((((h6).set b18 x19)).set b20 x21)))) else none)) else none)
 else
 (bd3 (cellsP h6 (V.ptr t 12)) fun cs23 m22 o24 => if (o24 + 1 <= m22 /\ 0 < 1) then
 (bd (cs23)[o24]? fun v25 =>
 (bd (slcH h6 v25) fun p26 =>
 (if (((p26.2).length : Int) == 0) then
 (bd2 (writeB h6 [(V.int .i64 40)] (V.ptr t 1)) fun b27 x28 =>
 some (Res.ret [], ((h6).set b27 x28)))
 else
 some (Res.ret [], h6)))) else none)))) else none)) (fun z7 h6 => some (Res.pan z7, h6))))) else none)
theorem tnNext_eq (n : Nat) (t : Nat) (h : Heap) : call (n + 1) 118 [(V.ptr t 0)] h = tnNext n t h := by kernel_rfl
noncomputable def tnDo_l45 (n : Nat) (t : Nat) (v39 : V) (p44 : Nat × List (List V)) (st46 : List V) (hh47 : Heap) (next48 : List V -> Heap -> Option (Res × Heap)) : Option (Res × Heap) :=
 (bd (bop prog .lss 3 (gv st46 1) (V.int .i64 ((p44.2).length : Int))) fun v49 =>
 (bv v49 fun b50 => if b50 then
 (bd (slcH hh47 v39) fun p51 =>
 (bd (bop prog .lss 3 (gv st46 1) (V.int .i64 ((p51.2).length : Int))) fun v52 =>
 (bv v52 fun b53 => if b53 then
 (bdS (nv (gv st46 1)) fun n54 =>
 (bd (idxP 2 n54 v39) fun p55 =>
 (bd3 (cellsP hh47 p55) fun cs57 m56 o58 => if (o58 + 2 <= m56 /\ 0 < 2) then
 (if (((cs57).drop o58 |>.take 2)).length = 2 then
 (if ((((cs57).drop o58 |>.take 2)).length <= 2) then
 (bd3 (cellsP hh47 (V.ptr t 12)) fun cs60 m59 o61 => if (o61 + 1 <= m59 /\ 0 < 1) then
 (bd (cs60)[o61]? fun v62 =>
 (clS (call n 142 [(V.agg (((setR [(V.int .u8 0), (V.int .i32 0)] 0 ((cs57).drop o58 |>.take 2))).drop 0 |>.take 2))] []) fun r63 =>
 (one1 r63 fun v66 =>
 (bdS (nv (gv st46 1)) fun n67 =>
 (bd (idxP 3 n67 v62) fun p68 =>
 (bd (addP 2 (ipOf v62 p68)) fun p69 =>
 (if ((V.cells v66)).length = 1 then
 (bd2 (writeB hh47 (V.cells v66) p69) fun b70 x71 =>
 (bd (bop prog .add 3 (gv st46 1) (V.int .i64 1)) fun v72 =>
 (next48 [(V.bool false), v72] ((hh47).set b70 x71)))) else none))))))) else none) else none) else none) else none)))
 else
 (bd3 (cellsP hh47 (V.ptr t 12)) fun cs74 m73 o75 => if (o75 + 1 <= m73 /\ 0 < 1) then
 (bd (cs74)[o75]? fun v76 =>
 (clS (call n 142 [(V.agg [(V.int .u8 0), (V.int .i32 0)])] []) fun r77 =>
 (one1 r77 fun v80 =>
 (bdS (nv (gv st46 1)) fun n81 =>
 (bd (idxP 3 n81 v76) fun p82 =>
 (bd (addP 2 (ipOf v76 p82)) fun p83 =>
 (if ((V.cells v80)).length = 1 then
 (bd2 (writeB hh47 (V.cells v80) p83) fun b84 x85 =>
 (bd (bop prog .add 3 (gv st46 1) (V.int .i64 1)) fun v86 =>
 (next48 [(V.bool false), v86] ((hh47).set b84 x85)))) else none))))))) else none))))
 else
 (bd3 (cellsP hh47 (V.ptr t 12)) fun cs88 m87 o89 => if (o89 + 1 <= m87 /\ 0 < 1) then
 (bd (cs88)[o89]? fun v90 =>
 (bd (slcH hh47 v90) fun p91 =>
 (if ((p91.1 = 3 \/ (p91.2).isEmpty = true) /\ (p91.2).length < lim) then
 (bd2 (writeB hh47 [(V.sl 3 p91.2 false)] (V.ptr t 16)) fun b92 x93 =>
 (bd2 (writeB ((hh47).set b92 x93) [(V.int .i64 0)] (V.ptr t 8)) fun b94 x95 =>
 (bd2 (writeB ((((hh47).set b92 x93)).set b94 x95) [(V.int .i64 37)] (V.ptr t 1)) fun b96 x97 =>
 some (Res.ret [], ((((((hh47).set b92 x93)).set b94 x95)).set b96 x97))))) else none))) else none)))
noncomputable def tnDo_l12 (n : Nat) (t : Nat) (v10 : V) (p11 : Nat × List (List V)) (st13 : List V) (hh14 : Heap) (next15 : List V -> Heap -> Option (Res × Heap)) : Option (Res × Heap) :=
 (bd (bop prog .lss 3 (gv st13 2) (V.int .i64 ((p11.2).length : Int))) fun v16 =>
 (bv v16 fun b17 => if b17 then
 (bdS (nv (gv st13 2)) fun n18 =>
 (bd (idxP 3 n18 v10) fun p19 =>
 (bd3 (cellsP hh14 p19) fun cs21 m20 o22 => if (o22 + 3 <= m20 /\ 0 < 3) then
 (if (((cs21).drop o22 |>.take 3)).length = 3 then
 (if ((((cs21).drop o22 |>.take 3)).length <= 3) then
 (bd ((setR [(V.int .i64 0), (V.int .i64 0), (V.int .i64 0)] 0 ((cs21).drop o22 |>.take 3)))[1]? fun v23 =>
 (cl (call n 141 [v23] hh14) (fun r24 h25 =>
 (bd (r24)[0]? fun v27 =>
 (bd (r24)[1]? fun v28 =>
 (bdS (nv (gv st13 2)) fun n29 =>
 (if (2 = 2 /\ n29 < ((lsl (gv st13 0))).length /\ (some 34 : Option Nat) ≠ some 2) then
 (if ((V.cells v27)).length = 2 then
 (if (2 = 2 /\ 0 < 2 /\ 0 + ((V.cells v27)).length <= 2) then
 (bd ((lsl (gv st13 0)))[n29]? fun es30 =>
 (bd (bop prog .add 3 (gv st13 2) (V.int .i64 1)) fun v31 =>
 (next15 [(V.sl 2 (((lsl (gv st13 0))).set n29 (setR es30 0 (V.cells v27))) false), (V.bool false), v31] h25))) else none) else none) else none))))) (fun z26 h25 => some (Res.pan z26, h25)))) else none) else none) else none)))
 else
 (bd3 (cellsP hh14 (V.ptr t 14)) fun cs33 m32 o34 => if (o34 + 1 <= m32 /\ 0 < 1) then
 (bd (cs33)[o34]? fun v35 =>
 (cl (call n 17 [v35, (V.sl 2 (lsl (gv st13 0)) false)] hh14) (fun r36 h37 =>
 (one1 r36 fun v39 =>
 (bd3 (cellsP h37 (V.ptr t 12)) fun cs41 m40 o42 => if (o42 + 1 <= m40 /\ 0 < 1) then
 (bd (cs41)[o42]? fun v43 =>
 (bd (slcH h37 v43) fun p44 =>
 (loopx n (tnDo_l45 n t v39 p44) [(V.bool false), (V.int .i64 0)] h37))) else none))) (fun z38 h37 => some (Res.pan z38, h37)))) else none)))
noncomputable def tnDo (n : Nat) (t : Nat) (h : Heap) : Option (Res × Heap) :=
 (bd3 (cellsP h (V.ptr t 12)) fun cs1 m0 o2 => if (o2 + 1 <= m0 /\ 0 < 1) then
 (bd (cs1)[o2]? fun v3 =>
 (bd (slcH h v3) fun p4 =>
 (bdS (nv (V.int .i64 ((p4.2).length : Int))) fun n5 =>
 (bdS (nv (V.int .i64 ((p4.2).length : Int))) fun n6 =>
 (if (n5 <= n6 /\ n6 < lim /\ 2 = 2) then
 (bd3 (cellsP h (V.ptr t 12)) fun cs8 m7 o9 => if (o9 + 1 <= m7 /\ 0 < 1) then
 (bd (cs8)[o9]? fun v10 =>
 (bd (slcH h v10) fun p11 =>
 (loopx n (tnDo_l12 n t v10 p11) [(V.sl 2 (List.replicate n5 [(V.int .u8 0), (V.int .i32 0)]) false), (V.bool false), (V.int .i64 0)] h))) else none) else none))))) else none)
theorem tnDo_eq (n : Nat) (t : Nat) (h : Heap) : call (n + 1) 119 [(V.ptr t 0)] h = tnDo n t h := by kernel_rfl
noncomputable def tnTell (n : Nat) (t : Nat) (h : Heap) : Option (Res × Heap) :=
 (cl (call n 143 [(V.ptr t 0)] h) (fun r0 h1 =>
 (one1 r0 fun v3 =>
 (bd (bopH prog h1 .neq 216 v3 (V.val (.pointer none))) fun v4 =>
 (bv v4 fun b5 => if b5 then
 (bd3 (cellsP h1 (V.ptr t 13)) fun cs7 m6 o8 => if (o8 + 1 <= m6 /\ 0 < 1) then
 (bd (cs7)[o8]? fun v9 =>
 (bd (addP 0 v3) fun p10 =>
 (bd (addP 0 p10) fun p11 =>
 (bd3 (cellsP h1 p11) fun cs13 m12 o14 => if (o14 + 1 <= m12 /\ 0 < 1) then
 (bd (cs13)[o14]? fun v15 =>
 (bd (bop prog .add 3 v15 (V.int .i64 4)) fun v16 =>
 (bd (addP 0 v3) fun p17 =>
 (bd (addP 2 p17) fun p18 =>
 (bd3 (cellsP h1 p18) fun cs20 m19 o21 => if (o21 + 1 <= m19 /\ 0 < 1) then
 (bd (cs20)[o21]? fun v22 =>
 (clH (call n 52 [v9, v16, v22] h1) fun r23 h24 =>
 (one1 r23 fun v26 =>
 (bd2 (writeB h24 [(V.int .i64 38)] (V.ptr t 1)) fun b27 x28 =>
 some (Res.ret [], ((h24).set b27 x28)))))) else none))))) else none)))) else none)
 else
 (bd2 (writeB h1 [(V.int .i64 38)] (V.ptr t 1)) fun b29 x30 =>
 some (Res.ret [], ((h1).set b29 x30))))))) (fun z2 h1 => some (Res.pan z2, h1)))
theorem tnTell_eq (n : Nat) (t : Nat) (h : Heap) : call (n + 1) 120 [(V.ptr t 0)] h = tnTell n t h := by kernel_rfl
noncomputable def tnAge (n : Nat) (t : Nat) (h : Heap) : Option (Res × Heap) :=
 (cl (call n 143 [(V.ptr t 0)] h) (fun r0 h1 =>
 (one1 r0 fun v3 =>
 (bd (bopH prog h1 .neq 216 v3 (V.val (.pointer none))) fun v4 =>
 (bv v4 fun b5 => if b5 then
 (bd3 (cellsP h1 (V.ptr t 13)) fun cs7 m6 o8 => if (o8 + 1 <= m6 /\ 0 < 1) then
 (bd (cs7)[o8]? fun v9 =>
 (bd (addP 0 v3) fun p10 =>
 (bd (addP 0 p10) fun p11 =>
 (bd3 (cellsP h1 p11) fun cs13 m12 o14 => if (o14 + 1 <= m12 /\ 0 < 1) then
 (bd (cs13)[o14]? fun v15 =>
 (bd (bop prog .add 3 v15 (V.int .i64 2)) fun v16 =>
 (bd3 (cellsP h1 (V.ptr t 10)) fun cs18 m17 o19 => if (o19 + 1 <= m17 /\ 0 < 1) then
 (bd (cs18)[o19]? fun v20 =>
 (clH (call n 52 [v9, v16, v20] h1) fun r21 h22 =>
 (one1 r21 fun v24 =>
 (bd2 (writeB h22 [(V.int .i64 39)] (V.ptr t 1)) fun b25 x26 =>
 some (Res.ret [], ((h22).set b25 x26)))))) else none))) else none)))) else none)
 else
 (bd2 (writeB h1 [(V.int .i64 39)] (V.ptr t 1)) fun b27 x28 =>
 some (Res.ret [], ((h1).set b27 x28))))))) (fun z2 h1 => some (Res.pan z2, h1)))
theorem tnAge_eq (n : Nat) (t : Nat) (h : Heap) : call (n + 1) 121 [(V.ptr t 0)] h = tnAge n t h := by kernel_rfl
noncomputable def tnFree (n : Nat) (t : Nat) (h : Heap) : Option (Res × Heap) :=
 (cl (call n 143 [(V.ptr t 0)] h) (fun r0 h1 =>
 (one1 r0 fun v3 =>
 (bd (bopH prog h1 .neq 216 v3 (V.val (.pointer none))) fun v4 =>
 (bv v4 fun b5 => if b5 then
 (bd3 (cellsP h1 (V.ptr t 13)) fun cs7 m6 o8 => if (o8 + 1 <= m6 /\ 0 < 1) then
 (bd (cs7)[o8]? fun v9 =>
 (bd (addP 0 v3) fun p10 =>
 (bd (addP 0 p10) fun p11 =>
 (bd3 (cellsP h1 p11) fun cs13 m12 o14 => if (o14 + 1 <= m12 /\ 0 < 1) then
 (bd (cs13)[o14]? fun v15 =>
 (bd (bop prog .add 3 v15 (V.int .i64 0)) fun v16 =>
 (clH (call n 52 [v9, v16, (V.int .i64 0)] h1) fun r17 h18 =>
 (one1 r17 fun v20 =>
 (bd3 (cellsP h18 (V.ptr t 8)) fun cs22 m21 o23 => if (o23 + 1 <= m21 /\ 0 < 1) then
 (bd (cs22)[o23]? fun v24 =>
 (bd (bop prog .add 3 v24 (V.int .i64 1)) fun v25 =>
 (if ((V.cells v25)).length = 1 then
 (bd2 (writeB h18 (V.cells v25) (V.ptr t 8)) fun b26 x27 =>
 (bd (bopH prog ((h18).set b26 x27) .neq 216 v3 (V.val (.pointer none))) fun v28 =>
 (bv v28 fun b29 => if b29 then
 (cl (call n 143 [(V.ptr t 0)] ((h18).set b26 x27)) (fun r30 h31 =>
 (one1 r30 fun v33 =>
 (bd (bopH prog h31 .neq 216 v33 (V.val (.pointer none))) fun v34 =>
 (bv v34 fun b35 => if b35 then
 (bd2 (writeB h31 [(V.int .i64 37)] (V.ptr t 1)) fun b36 x37 =>
 some (Res.ret [], ((h31).set b36 x37)))
 else
 (bd3 (cellsP h31 (V.ptr t 11)) fun cs39 m38 o40 => if (o40 + 1 <= m38 /\ 0 < 1) then
 (bd (cs39)[o40]? fun v41 =>
 (bd3 (cellsP h31 (V.ptr t 15)) fun cs43 m42 o44 => if (o44 + 1 <= m42 /\ 0 < 1) then
 (bd (cs43)[o44]? fun v45 =>
 (bd (bop prog .lss 3 v41 v45) fun v46 =>
 (bv v46 fun b47 => if b47 then
 (bd2 (writeB h31 [(V.int .i64 20)] (V.ptr t 1)) fun b48 x49 =>
 some (Res.ret [], ((h31).set b48 x49)))
 else
 (bd2 (writeB h31 [(V.int .i64 40)] (V.ptr t 1)) fun b50 x51 =>
 some (Res.ret [], ((h31).set b50 x51)))))) else none)) else none))))) (fun z32 h31 => some (Res.pan z32, h31)))
 else
 (bd3 (cellsP ((h18).set b26 x27) (V.ptr t 11)) fun cs53 m52 o54 => if (o54 + 1 <= m52 /\ 0 < 1) then
 (bd (cs53)[o54]? fun v55 =>
 (bd3 (cellsP ((h18).set b26 x27) (V.ptr t 15)) fun cs57 m56 o58 => if (o58 + 1 <= m56 /\ 0 < 1) then
 (bd (cs57)[o58]? fun v59 =>
 (bd (bop prog .lss 3 v55 v59) fun v60 =>
 (bv v60 fun b61 => if b61 then
 (bd2 (writeB ((h18).set b26 x27) [(V.int .i64 20)] (V.ptr t 1)) fun b62 x63 =>
 some (Res.ret [], ((((h18).set b26 x27)).set b62 x63)))
 else
 (bd2 (writeB ((h18).set b26 x27) [(V.int .i64 40)] (V.ptr t 1)) fun b64 x65 =>
 some (Res.ret [], ((((h18).set b26 x27)).set b64 x65)))))) else none)) else none)))) else none))) else none))))) else none)))) else none)
 else
 (bd3 (cellsP h1 (V.ptr t 8)) fun cs67 m66 o68 => if (o68 + 1 <= m66 /\ 0 < 1) then
 (bd (cs67)[o68]? fun v69 =>
 (bd (bop prog .add 3 v69 (V.int .i64 1)) fun v70 =>
 (if ((V.cells v70)).length = 1 then
 (bd2 (writeB h1 (V.cells v70) (V.ptr t 8)) fun b71 x72 =>
 (bd (bopH prog ((h1).set b71 x72) .neq 216 v3 (V.val (.pointer none))) fun v73 =>
 (bv v73 fun b74 => if b74 then
 (cl (call n 143 [(V.ptr t 0)] ((h1).set b71 x72)) (fun r75 h76 =>
 (one1 r75 fun v78 =>
 (bd (bopH prog h76 .neq 216 v78 (V.val (.pointer none))) fun v79 =>
 (bv v79 fun b80 => if b80 then
 (bd2 (writeB h76 [(V.int .i64 37)] (V.ptr t 1)) fun b81 x82 =>
 some (Res.ret [], ((h76).set b81 x82)))
 else
 (bd3 (cellsP h76 (V.ptr t 11)) fun cs84 m83 o85 => if (o85 + 1 <= m83 /\ 0 < 1) then
 (bd (cs84)[o85]? fun v86 =>
 (bd3 (cellsP h76 (V.ptr t 15)) fun cs88 m87 o89 => if (o89 + 1 <= m87 /\ 0 < 1) then
 (bd (cs88)[o89]? fun v90 =>
 (bd (bop prog .lss 3 v86 v90) fun v91 =>
 (bv v91 fun b92 => if b92 then
 (bd2 (writeB h76 [(V.int .i64 20)] (V.ptr t 1)) fun b93 x94 =>
 some (Res.ret [], ((h76).set b93 x94)))
 else
 (bd2 (writeB h76 [(V.int .i64 40)] (V.ptr t 1)) fun b95 x96 =>
 some (Res.ret [], ((h76).set b95 x96)))))) else none)) else none))))) (fun z77 h76 => some (Res.pan z77, h76)))
 else
 (bd3 (cellsP ((h1).set b71 x72) (V.ptr t 11)) fun cs98 m97 o99 => if (o99 + 1 <= m97 /\ 0 < 1) then
 (bd (cs98)[o99]? fun v100 =>
 (bd3 (cellsP ((h1).set b71 x72) (V.ptr t 15)) fun cs102 m101 o103 => if (o103 + 1 <= m101 /\ 0 < 1) then
 (bd (cs102)[o103]? fun v104 =>
 (bd (bop prog .lss 3 v100 v104) fun v105 =>
 (bv v105 fun b106 => if b106 then
 (bd2 (writeB ((h1).set b71 x72) [(V.int .i64 20)] (V.ptr t 1)) fun b107 x108 =>
 some (Res.ret [], ((((h1).set b71 x72)).set b107 x108)))
 else
 (bd2 (writeB ((h1).set b71 x72) [(V.int .i64 40)] (V.ptr t 1)) fun b109 x110 =>
 some (Res.ret [], ((((h1).set b71 x72)).set b109 x110)))))) else none)) else none)))) else none))) else none))))) (fun z2 h1 => some (Res.pan z2, h1)))
theorem tnFree_eq (n : Nat) (t : Nat) (h : Heap) : call (n + 1) 122 [(V.ptr t 0)] h = tnFree n t h := by kernel_rfl
noncomputable def cbServes (n : Nat) (id : Int) (pc : Int) (rec : Int) (seq : Int) (wrd : Int) (look : Int) (cur : Int) (prev : Int) (nth : Int) (many : Int) (pass : Int) (runs : Int) (bat : V) (h : Heap) : Option (Res × Heap) :=
 (if (decide (pc ≥ 20)) then
 some (Res.ret [(V.bool (decide (pc <= 39)))], h)
 else
 some (Res.ret [(V.bool false)], h))
theorem cbServes_eq (n : Nat) (id : Int) (pc : Int) (rec : Int) (seq : Int) (wrd : Int) (look : Int) (cur : Int) (prev : Int) (nth : Int) (many : Int) (pass : Int) (runs : Int) (bat : V) (h : Heap) : call (n + 1) 50 [(V.agg [(V.int .i64 id), (V.int .i64 pc), (V.int .i64 rec), (V.int .i64 seq), (V.int .i64 wrd), (V.int .i64 look), (V.int .i64 cur), (V.int .i64 prev), (V.int .i64 nth), (V.int .i64 many), (V.int .i64 pass), (V.int .i64 runs), bat])] h = cbServes n id pc rec seq wrd look cur prev nth many pass runs bat h := by kernel_rfl
noncomputable def cbStep (n : Nat) (m : Nat) (o : Nat) (passes : Int) (id : Int) (pc : Int) (rec : Int) (seq : Int) (wrd : Int) (look : Int) (cur : Int) (prev : Int) (nth : Int) (many : Int) (pass : Int) (runs : Int) (bat : V) (h : Heap) : Option (Res × Heap) :=
 (bd (slcH h bat) fun p0 =>
 (if ((p0.1 = 3 \/ (p0.2).isEmpty = true) /\ (p0.2).length < lim) then
 (cl (call n 50 [(V.agg [(V.int .i64 id), (V.int .i64 pc), (V.int .i64 rec), (V.int .i64 seq), (V.int .i64 wrd), (V.int .i64 look), (V.int .i64 cur), (V.int .i64 prev), (V.int .i64 nth), (V.int .i64 many), (V.int .i64 pass), (V.int .i64 runs), (V.row (h).length 3 0 (p0.2).length)])] (h ++ [(HB.row 87 3 p0.2 true)])) (fun r1 h2 =>
 (one1 r1 fun v4 =>
 (bd (uop .not v4) fun v5 =>
 (bv v5 fun b6 => if b6 then
 some (Res.ret [(V.agg [(V.int .i64 id), (V.int .i64 pc), (V.int .i64 rec), (V.int .i64 seq), (V.int .i64 wrd), (V.int .i64 look), (V.int .i64 cur), (V.int .i64 prev), (V.int .i64 nth), (V.int .i64 many), (V.int .i64 pass), (V.int .i64 runs), (V.row (h).length 3 0 (p0.2).length)]), (V.row (h2).length 3 0 0)], (h2 ++ [(HB.row 87 3 [] true)]))
 else
 (clH (call n 79 [(V.ptr (h2).length 0)] (h2 ++ [(HB.box 17 [(V.int .i64 id), (V.int .i64 pc), (V.int .i64 rec), (V.int .i64 seq), (V.int .i64 wrd), (V.int .i64 look), (V.int .i64 cur), (V.int .i64 prev), (V.int .i64 nth), (V.int .i64 many), (V.int .i64 pass), (V.int .i64 runs), (V.row (h).length 3 0 (p0.2).length), (V.ptr m 0), (V.ptr o 0), (V.int .i64 passes), (V.sl 0 [] true)])])) fun r7 h8 =>
 (one1 r7 fun v10 =>
 (bdS (mapOf h8 v10) fun es11 =>
 (bd (kds prog 12 3) fun ksr12 => bdS (findI ksr12 (V.int .i64 pc) es11 0) fun r12 => bd (entryV es11 (V.val .nilFunc) r12) fun v13 => if (((V.int .i64 pc)).one = !false /\ ((V.int .i64 pc)).cells.length = ksr12.length /\ false = false) then
 (fbK v13 (fun f14 c15 => if (okV prog 0 f14 = true) then (if pureS f14 then (if keepS f14 then
 (clS (call n f14 ([] ++ c15) []) fun r16 =>
 (bd3 (cellsP h8 (V.ptr (h2).length 0)) fun cs20 m19 o21 => if (o21 + 13 <= m19 /\ 0 < 13) then
 (bd3 (cellsP h8 (V.ptr (h2).length 16)) fun cs23 m22 o24 => if (o24 + 1 <= m22 /\ 0 < 1) then
 (bd (cs23)[o24]? fun v25 =>
 (if (((cs20).drop o21 |>.take 13)).length = 13 then
 (if ((((cs20).drop o21 |>.take 13)).length <= 13) then
 some (Res.ret [(V.agg (((setR [(V.int .i64 0), (V.int .i64 0), (V.int .i64 0), (V.int .i64 0), (V.int .i64 0), (V.int .i64 0), (V.int .i64 0), (V.int .i64 0), (V.int .i64 0), (V.int .i64 0), (V.int .i64 0), (V.int .i64 0), (V.sl 0 [] true)] 0 ((cs20).drop o21 |>.take 13))).drop 0 |>.take 13)), v25], h8) else none) else none)) else none) else none))
 else
 (clS (call n f14 ([] ++ c15) []) fun r16 => if V.simple.simpleL r16 then
 (bd3 (cellsP h8 (V.ptr (h2).length 0)) fun cs27 m26 o28 => if (o28 + 13 <= m26 /\ 0 < 13) then
 (bd3 (cellsP h8 (V.ptr (h2).length 16)) fun cs30 m29 o31 => if (o31 + 1 <= m29 /\ 0 < 1) then
 (bd (cs30)[o31]? fun v32 =>
 (if (((cs27).drop o28 |>.take 13)).length = 13 then
 (if ((((cs27).drop o28 |>.take 13)).length <= 13) then
 some (Res.ret [(V.agg (((setR [(V.int .i64 0), (V.int .i64 0), (V.int .i64 0), (V.int .i64 0), (V.int .i64 0), (V.int .i64 0), (V.int .i64 0), (V.int .i64 0), (V.int .i64 0), (V.int .i64 0), (V.int .i64 0), (V.int .i64 0), (V.sl 0 [] true)] 0 ((cs27).drop o28 |>.take 13))).drop 0 |>.take 13)), v32], h8) else none) else none)) else none) else none) else none))
 else if keepS f14 then
 (clH (call n f14 ([] ++ c15) h8) fun r16 h17 =>
 (bd3 (cellsP h17 (V.ptr (h2).length 0)) fun cs34 m33 o35 => if (o35 + 13 <= m33 /\ 0 < 13) then
 (bd3 (cellsP h17 (V.ptr (h2).length 16)) fun cs37 m36 o38 => if (o38 + 1 <= m36 /\ 0 < 1) then
 (bd (cs37)[o38]? fun v39 =>
 (if (((cs34).drop o35 |>.take 13)).length = 13 then
 (if ((((cs34).drop o35 |>.take 13)).length <= 13) then
 some (Res.ret [(V.agg (((setR [(V.int .i64 0), (V.int .i64 0), (V.int .i64 0), (V.int .i64 0), (V.int .i64 0), (V.int .i64 0), (V.int .i64 0), (V.int .i64 0), (V.int .i64 0), (V.int .i64 0), (V.int .i64 0), (V.int .i64 0), (V.sl 0 [] true)] 0 ((cs34).drop o35 |>.take 13))).drop 0 |>.take 13)), v39], h17) else none) else none)) else none) else none))
 else none) else none) (fun f40 c41 => if (keepS f40 = true /\ okV prog 0 f40 = true) then
 (clH (call n f40 (c41 ++ []) h8) fun r42 h43 =>
 (bd3 (cellsP h43 (V.ptr (h2).length 0)) fun cs45 m44 o46 => if (o46 + 13 <= m44 /\ 0 < 13) then
 (bd3 (cellsP h43 (V.ptr (h2).length 16)) fun cs48 m47 o49 => if (o49 + 1 <= m47 /\ 0 < 1) then
 (bd (cs48)[o49]? fun v50 =>
 (if (((cs45).drop o46 |>.take 13)).length = 13 then
 (if ((((cs45).drop o46 |>.take 13)).length <= 13) then
 some (Res.ret [(V.agg (((setR [(V.int .i64 0), (V.int .i64 0), (V.int .i64 0), (V.int .i64 0), (V.int .i64 0), (V.int .i64 0), (V.int .i64 0), (V.int .i64 0), (V.int .i64 0), (V.int .i64 0), (V.int .i64 0), (V.int .i64 0), (V.sl 0 [] true)] 0 ((cs45).drop o46 |>.take 13))).drop 0 |>.take 13)), v50], h43) else none) else none)) else none) else none)) else none)) else none)))))))) (fun z3 h2 => some (Res.pan z3, h2))) else none))
theorem cbStep_eq (n : Nat) (m : Nat) (o : Nat) (passes : Int) (id : Int) (pc : Int) (rec : Int) (seq : Int) (wrd : Int) (look : Int) (cur : Int) (prev : Int) (nth : Int) (many : Int) (pass : Int) (runs : Int) (bat : V) (h : Heap) : call (n + 1) 38 [(V.ptr m 0), (V.ptr o 0), (V.int .i64 passes), (V.agg [(V.int .i64 id), (V.int .i64 pc), (V.int .i64 rec), (V.int .i64 seq), (V.int .i64 wrd), (V.int .i64 look), (V.int .i64 cur), (V.int .i64 prev), (V.int .i64 nth), (V.int .i64 many), (V.int .i64 pass), (V.int .i64 runs), bat])] h = cbStep n m o passes id pc rec seq wrd look cur prev nth many pass runs bat h := by kernel_rfl
end Go.Proofs.Tryz
set_option linter.unusedVariables false
set_option linter.unusedSimpArgs false
namespace Go.Cm
open Go.L
def w64i (x : Int) : Int := IntKind.i64.wrap x
def mnN (l : List Int) : Int := (((l.length - 3) / 5 : Nat) : Int)
def bsN (k : Int) : Int := if k < 0 then 0 else if k > 1000 then 0 else w64i (3 + w64i (5 * k))
def pkW (k v : Int) : Int := w64i ((w64i ((w64i ((w64i ((w64i v) + 2147483648)) * 256)) + (w64i k))) + 1)
def okW (x : Int) : Bool := !(decide (x < 1)) && !(decide (x > 1099511627776))
def ofK (x : Int) : Int := if okW x then IntKind.u8.wrap (Int.tmod (w64i (x - 1)) 256) else 0
def ofV (x : Int) : Int := if okW x then IntKind.i32.wrap (w64i ((w64i (Int.tdiv (w64i (x - 1)) 256)) - 2147483648)) else 0
structure Th where
  id : Int
  pc : Int
  rc : Int
  sq : Int
  wd : Int
  lk : Int
  cu : Int
  pv : Int
  nt : Int
  mn : Int
  ps : Int
  rn : Int
structure It where
  r : Int
  w : Int
  s : Int
def It.c (x : It) : List V := [.int .i64 x.r, .int .i64 x.w, .int .i64 x.s]
def Th.v (T : Th) (bv : V) : List V := [.int .i64 T.id, .int .i64 T.pc, .int .i64 T.rc, .int .i64 T.sq, .int .i64 T.wd, .int .i64 T.lk, .int .i64 T.cu, .int .i64 T.pv, .int .i64 T.nt, .int .i64 T.mn, .int .i64 T.ps, .int .i64 T.rn, bv]
def tcl (T : Th) (bv : V) (m o : Nat) (pp : Int) (dn : V) : List V := [.int .i64 T.id, .int .i64 T.pc, .int .i64 T.rc, .int .i64 T.sq, .int .i64 T.wd, .int .i64 T.lk, .int .i64 T.cu, .int .i64 T.pv, .int .i64 T.nt, .int .i64 T.mn, .int .i64 T.ps, .int .i64 T.rn, bv, .ptr m 0, .ptr o 0, .int .i64 pp, dn]
structure Ps where
  T : Th
  xs : List It
  l : List Int
  st : Int
def Ps.pc (s : Ps) (p : Int) : Ps := { s with T := { s.T with pc := p } }
def Ps.load (s : Ps) (a p : Int) : Ps := { s with T := { s.T with lk := ldV s.l a, pc := p }, st := ldS s.l a s.st }
def Ps.store (s : Ps) (a v p : Int) : Ps := { s with T := { s.T with pc := p }, l := stL s.l a v, st := ldS s.l a s.st }
def Ps.swap (s : Ps) (a u v y z : Int) : Ps := { s with T := { s.T with pc := if (cget s.l a == some u) = true then y else z }, l := if (cget s.l a == some u) = true then stL s.l a v else s.l, st := ldS s.l a s.st }
def Ps.on (s : Ps) : Ps := { s with T := { s.T with nt := w64i (s.T.nt + 1), pc := if w64i (s.T.nt + 1) < s.T.mn then 23 else 33 } }
def Ps.unless (s : Ps) (b : Bool) : Ps := if b then s else s.on
def batV (bb : Option Nat) (n : Nat) : V := match bb with | none => .sl 0 [] true | some b => .row b 3 0 n
end Go.Cm
namespace Go.Proofs.Tryz
open Go.L Go.Rp Go.Cm
set_option maxRecDepth 100000
theorem ce_cells (n : Nat) {h : Heap} {m rb : Nat} {sz : Int} {l : List Int} {st : Int} (A : MemAt h m rb sz l st) (hl : l.length < lim) : call (n + 1) 34 [.ptr m 0] h = some (.ret [.sl 1 (l.map cel) false], h) := by
  obtain ⟨h1, h2, z, h3⟩ := A
  have hll : (l.map cel).length = l.length := List.length_map ..
  rw [ceCells_eq]
  unfold ceCells
  rw [bop_mem_nil, bd_some, bv_bool, if_neg (by decide), cellsP_box h2, bd3_some, if_pos (by decide)]
  simp only [List.getElem?_cons_zero, List.getElem?_cons_succ, bd_some]
  rw [<- hll, slcH_all h3, bd_some, if_pos ⟨.inl rfl, by rw [hll]; exact hl⟩]
theorem ce_top (n : Nat) {h : Heap} {m rb : Nat} {sz : Int} {l : List Int} {st : Int} (A : MemAt h m rb sz l st) (hl : l.length < lim) : call (n + 2) 146 [.ptr m 0] h = some (.ret [.int .i64 (l.length : Int)], h) := by
  rw [show n + 2 = (n + 1) + 1 from rfl, ceTop_eq]
  unfold ceTop
  rw [ce_cells n A hl, cl_ret, one1_one]
  simp only [slcH, bd_some, List.length_map]
theorem bop_i64_quo5 (a : Int) : bop prog .quo 3 (.int .i64 a) (.int .i64 5) = some (.int .i64 (IntKind.i64.wrap (a.tdiv 5))) := by kernel_rfl
theorem rc_many (n : Nat) {h : Heap} {m rb : Nat} {sz : Int} {l : List Int} {st : Int} (A : MemAt h m rb sz l st) (hl : l.length < lim) : call (n + 3) 135 [.ptr m 0] h = some (.ret [.int .i64 (mnN l)], h) := by
  rw [show n + 3 = (n + 2) + 1 from rfl, rcMany_eq]
  unfold rcMany
  rw [ce_top n A hl, cl_ret, one1_one, bop_i64_sub, bd_some]
  unfold lim at hl
  rw [w64 (by omega) (by omega)]
  have e : evBsL [(some (V.int .i64 0)), (valB h (V.int .i64 ((l.length : Int) - 3)))] = some [V.int .i64 0, V.int .i64 ((l.length : Int) - 3)] := rfl
  rw [e, bd_some]
  have e2 : mm true [V.int .i64 0, V.int .i64 ((l.length : Int) - 3)] = some (V.int .i64 (((l.length - 3 : Nat)) : Int)) := by
    simp only [mm, if_true]
    by_cases h0 : 3 < l.length
    · rw [if_pos (by omega)]; congr 2; omega
    · rw [if_neg (by omega)]; congr 2; omega
  rw [e2, bd_some, bop_i64_quo5, bd_some]
  have e3 : (((l.length - 3 : Nat) : Int)).tdiv 5 = ((((l.length - 3) / 5 : Nat)) : Int) := by
    rw [Int.tdiv_eq_ediv_of_nonneg (by omega)]; omega
  rw [e3, w64 (by omega) (by omega)]
  rfl
theorem rc_base (n : Nat) (k : Int) (h : Heap) : call (n + 1) 137 [.int .i64 k] h = some (.ret [.int .i64 (bsN k)], h) := by
  rw [rcBase_eq]
  unfold rcBase bsN
  by_cases h1 : k < 0
  · rw [if_pos (by simpa using h1), if_pos h1]
  · rw [if_neg (by simpa using h1), if_neg h1]
    by_cases h2 : k > 1000
    · rw [if_pos (by simpa using h2), if_pos h2]
    · rw [if_neg (by simpa using h2), if_neg h2]
      rfl
theorem wd_asks (n : Nat) (x : Int) (h : Heap) : call (n + 1) 139 [.int .i64 x] h = some (.ret [.bool (decide (x > 0))], h) := wdAsks_eq n x h
theorem wd_res (n : Nat) (c v : Int) (h : Heap) : call (n + 2) 142 [.agg [.int .u8 c, .int .i32 v]] h = some (.ret [.int .i64 (pkW c v)], h) := by
  rw [show n + 2 = (n + 1) + 1 from rfl, wdRes_eq]
  unfold wdRes
  rw [wdPack_eq]
  unfold wdPack
  rw [cl_ret, one1_one]
  exact gcw_ret (by rfl) (by rfl)
theorem wd_ofop (n : Nat) (x : Int) (h : Heap) : call (n + 3) 141 [.int .i64 x] h = some (.ret [.agg [.int .u8 (ofK x), .int .i32 (ofV x)], .bool (okW x)], h) := by
  rw [show n + 3 = (n + 2) + 1 from rfl, wdOfOp_eq]
  unfold wdOfOp
  rw [show n + 2 = (n + 1) + 1 from rfl, wdUnpack_eq]
  unfold wdUnpack ofK ofV okW
  by_cases h1 : x < 1
  · rw [if_pos (by simpa using h1), cl_ret]
    simp only [h1]
    rfl
  · rw [if_neg (by simpa using h1)]
    by_cases h2 : x > 1099511627776
    · rw [if_pos (by simpa using h2), cl_ret]
      simp only [h1, h2]
      rfl
    · rw [if_neg (by simpa using h2), wdOf1_eq]
      unfold wdOf1
      rw [cl_ret, one1_one]
      simp only [V.cells, List.length_cons, List.length_nil, Nat.zero_add, Nat.reduceAdd, if_true, Nat.le_refl]
      rw [cl_ret]
      simp only [h1, h2]
      rfl
structure TS (h : Heap) (t m rb o : Nat) (pp : Int) (bb : Option Nat) (dn : V) (sz : Int) (s : Ps) : Prop where
  tn : h[t]? = some (.box 17 (tcl s.T (batV bb s.xs.length) m o pp dn))
  mem : MemAt h m rb sz s.l s.st
  tm : t ≠ m
  tr : t ≠ rb
  bt : match bb with | none => s.xs = [] | some b => (∃ z, h[b]? = some (.row 87 3 (s.xs.map It.c) z)) /\ b ≠ t /\ b ≠ m /\ b ≠ rb
structure Fx (h h' : Heap) (t m rb : Nat) (bb bb' : Option Nat) : Prop where
  len : h.length <= h'.length
  old : ∀ i, i < h.length -> i ≠ t -> i ≠ m -> i ≠ rb -> bb ≠ some i -> h'[i]? = h[i]?
  own : ∀ b, bb' = some b -> bb = some b \/ h.length <= b
section
variable {h : Heap} {t m rb o : Nat} {pp : Int} {bb : Option Nat} {dn : V} {sz : Int} {s : Ps}
theorem Fx.refl : Fx h h t m rb bb bb := ⟨Nat.le_refl _, fun _ _ _ _ _ _ => rfl, fun _ h => .inl h⟩
theorem Fx.trans {h' h'' : Heap} {bb' bb'' : Option Nat} (a : Fx h h' t m rb bb bb') (b : Fx h' h'' t m rb bb' bb'') : Fx h h'' t m rb bb bb'' :=
  ⟨Nat.le_trans a.len b.len, fun i h1 h2 h3 h4 h5 => (b.old i (by have := a.len; omega) h2 h3 h4 fun e => by rcases a.own i e with h | h; exact h5 h; omega).trans (a.old i h1 h2 h3 h4 h5), fun x hx => by
    rcases b.own x hx with h | h
    · exact a.own x h
    · exact .inr (by have := a.len; omega)⟩
theorem Fx.ofFr {h' : Heap} {w : List Nat} (a : Fr h h' w) (hw : ∀ i ∈ w, i = t \/ i = m \/ i = rb) : Fx h h' t m rb bb bb :=
  ⟨a.len, fun i h1 h2 h3 h4 _ => a.old i h1 fun e => by rcases hw i e with h | h | h <;> contradiction, fun _ h => .inl h⟩
theorem TS.lt (A : TS h t m rb o pp bb dn sz s) : t < h.length := lt_of_at A.tn
theorem TS.rd (A : TS h t m rb o pp bb dn sz s) {R : Type} {k : Nat} (hk : k < 17) (K : V -> Option R) :
    (bd3 (cellsP h (V.ptr t k)) fun cs m o => if (o + 1 <= m /\ 0 < 1) then (bd (cs)[o]? fun v => K v) else none) = K (gv (tcl s.T (batV bb s.xs.length) m o pp dn) k) := by
  rw [cellsP_box A.tn, bd3_some, if_pos ⟨by omega, by decide⟩]
  have hl : (tcl s.T (batV bb s.xs.length) m o pp dn).length = 17 := rfl
  rw [List.getElem?_eq_getElem (by omega), bd_some]
  unfold gv
  rw [List.getD_eq_getElem?_getD, List.getElem?_eq_getElem (by omega), Option.getD_some]
theorem TS.wr (A : TS h t m rb o pp bb dn sz s) {R : Type} {k : Nat} (hk : k < 17) (v : V) (K : Nat -> HB -> Option R) :
    (bd2 (writeB h [v] (V.ptr t k)) K) = K t (.box 17 ((tcl s.T (batV bb s.xs.length) m o pp dn).set k v)) := by
  rw [writeB_box A.tn (by simp; omega), bd2_some]
  rfl
theorem TS.upd (A : TS h t m rb o pp bb dn sz s) (T : Th) : TS (h.set t (.box 17 (tcl T (batV bb s.xs.length) m o pp dn))) t m rb o pp bb dn sz { s with T := T } where
  tn := set_at A.lt _
  mem := A.mem.keep (List.getElem?_set_ne A.tm) (List.getElem?_set_ne A.tr)
  tm := A.tm
  tr := A.tr
  bt := by
    have := A.bt
    cases bb with
    | none => exact this
    | some b =>
      obtain ⟨⟨z, h1⟩, h2, h3, h4⟩ := this
      exact ⟨⟨z, (List.getElem?_set_ne (Ne.symm h2)).trans h1⟩, h2, h3, h4⟩
theorem Fx.set (x : HB) : Fx h (h.set t x) t m rb bb bb := ⟨by simp, fun i _ h2 _ _ _ => List.getElem?_set_ne (Ne.symm h2), fun _ h => .inl h⟩
theorem TS.fr (A : TS h t m rb o pp bb dn sz s) {h' : Heap} (F : Fr h h' [m, rb]) {l : List Int} {st : Int} (M : MemAt h' m rb sz l st) : TS h' t m rb o pp bb dn sz { s with l := l, st := st } where
  tn := (F.old _ A.lt (by simp [A.tm, A.tr])).trans A.tn
  mem := M
  tm := A.tm
  tr := A.tr
  bt := by
    have := A.bt
    cases bb with
    | none => exact this
    | some b =>
      obtain ⟨⟨z, h1⟩, h2, h3, h4⟩ := this
      exact ⟨⟨z, (F.old _ (lt_of_at h1) (by simp [h3, h4])).trans h1⟩, h2, h3, h4⟩
theorem tn_load (n : Nat) (A : TS h t m rb o pp bb dn sz s) (a p : Int) : ∃ h', call (n + 3) 133 [.ptr t 0, .int .i64 a, .int .i64 p] h = some (.ret [], h') /\ TS h' t m rb o pp bb dn sz (s.load a p) /\ Fx h h' t m rb bb bb := by
  rw [show n + 3 = (n + 2) + 1 from rfl, tnLoad_eq]
  unfold tnLoad
  rw [A.rd (by decide)]
  obtain ⟨h1, e, c1, M, F⟩ := ce_load n A.mem a
  have A1 := A.fr (F.mono (by simp)) M
  rw [show gv (tcl s.T (batV bb s.xs.length) m o pp dn) 13 = V.ptr m 0 from rfl, c1, cl_ret]
  simp only [List.getElem?_cons_zero, List.getElem?_cons_succ, bd_some, V.cells, List.length_cons, List.length_nil, Nat.zero_add, if_true]
  rw [A1.wr (by decide)]
  have A2 := A1.upd { s.T with lk := ldV s.l a }
  rw [show ((tcl s.T (batV bb s.xs.length) m o pp dn).set 5 (.int .i64 (ldV s.l a))) = tcl { s.T with lk := ldV s.l a } (batV bb s.xs.length) m o pp dn from rfl]
  rw [A2.wr (by decide)]
  exact ⟨_, rfl, A2.upd { s.T with lk := ldV s.l a, pc := p }, (Fx.ofFr F (by simp)).trans ((Fx.set _).trans (Fx.set _))⟩
theorem tn_store (n : Nat) (A : TS h t m rb o pp bb dn sz s) (a v p : Int) : ∃ h', call (n + 3) 134 [.ptr t 0, .int .i64 a, .int .i64 v, .int .i64 p] h = some (.ret [], h') /\ TS h' t m rb o pp bb dn sz (s.store a v p) /\ Fx h h' t m rb bb bb := by
  rw [show n + 3 = (n + 2) + 1 from rfl, tnStore_eq]
  unfold tnStore
  rw [A.rd (by decide)]
  obtain ⟨h1, e, c1, M, F⟩ := ce_store n A.mem a v
  have A1 := A.fr F M
  rw [show gv (tcl s.T (batV bb s.xs.length) m o pp dn) 13 = V.ptr m 0 from rfl, c1, cl_ret, one1_one, A1.wr (by decide)]
  exact ⟨_, rfl, A1.upd { s.T with pc := p }, (Fx.ofFr F (by simp)).trans (Fx.set _)⟩
theorem tn_swap (n : Nat) (A : TS h t m rb o pp bb dn sz s) (a u v y z : Int) : ∃ h', call (n + 3) 140 [.ptr t 0, .int .i64 a, .int .i64 u, .int .i64 v, .int .i64 y, .int .i64 z] h = some (.ret [], h') /\ TS h' t m rb o pp bb dn sz (s.swap a u v y z) /\ Fx h h' t m rb bb bb := by
  rw [show n + 3 = (n + 2) + 1 from rfl, tnSwap_eq]
  unfold tnSwap
  rw [A.wr (by decide)]
  have A0 := A.upd { s.T with pc := z }
  rw [show ((tcl s.T (batV bb s.xs.length) m o pp dn).set 1 (.int .i64 z)) = tcl { s.T with pc := z } (batV bb s.xs.length) m o pp dn from rfl]
  rw [A0.rd (by decide)]
  obtain ⟨h1, e, c1, M, F⟩ := ce_swap n A0.mem a u v
  have A1 := A0.fr F M
  rw [show gv (tcl { s.T with pc := z } (batV bb s.xs.length) m o pp dn) 13 = V.ptr m 0 from rfl, c1, cl_ret]
  simp only [List.getElem?_cons_zero, List.getElem?_cons_succ, bd_some]
  rw [bv_bool]
  unfold Ps.swap
  cases hb : (cget s.l a == some u) with
  | true =>
    simp only [hb, if_true] at A1 ⊢
    rw [A1.wr (by decide)]
    exact ⟨_, rfl, A1.upd { s.T with pc := y }, ((Fx.set _).trans (Fx.ofFr F (by simp))).trans (Fx.set _)⟩
  | false =>
    simp only [hb, Bool.false_eq_true, if_false] at A1 ⊢
    exact ⟨_, rfl, A1, (Fx.set _).trans (Fx.ofFr F (by simp))⟩
theorem tn_on (n : Nat) (A : TS h t m rb o pp bb dn sz s) : ∃ h', call (n + 1) 136 [.ptr t 0] h = some (.ret [], h') /\ TS h' t m rb o pp bb dn sz s.on /\ Fx h h' t m rb bb bb := by
  rw [tnOn_eq]
  unfold tnOn
  rw [A.rd (by decide), show gv (tcl s.T (batV bb s.xs.length) m o pp dn) 8 = V.int .i64 s.T.nt from rfl, bop_i64_add, bd_some]
  simp only [V.cells, List.length_cons, List.length_nil, Nat.zero_add, if_true]
  rw [A.wr (by decide)]
  have A1 := A.upd { s.T with nt := w64i (s.T.nt + 1) }
  rw [show ((tcl s.T (batV bb s.xs.length) m o pp dn).set 8 (.int .i64 (IntKind.i64.wrap (s.T.nt + 1)))) = tcl { s.T with nt := w64i (s.T.nt + 1) } (batV bb s.xs.length) m o pp dn from rfl]
  rw [A1.wr (by decide)]
  have A2 := A1.upd { s.T with nt := w64i (s.T.nt + 1), pc := 33 }
  rw [show ((tcl { s.T with nt := w64i (s.T.nt + 1) } (batV bb s.xs.length) m o pp dn).set 1 (.int .i64 33)) = tcl { s.T with nt := w64i (s.T.nt + 1), pc := 33 } (batV bb s.xs.length) m o pp dn from rfl]
  rw [A2.rd (by decide), A2.rd (by decide)]
  rw [show gv (tcl { s.T with nt := w64i (s.T.nt + 1), pc := 33 } (batV bb s.xs.length) m o pp dn) 8 = V.int .i64 (w64i (s.T.nt + 1)) from rfl, show gv (tcl { s.T with nt := w64i (s.T.nt + 1), pc := 33 } (batV bb s.xs.length) m o pp dn) 9 = V.int .i64 s.T.mn from rfl, bop_i64_lss, bd_some, bv_bool]
  unfold Ps.on
  by_cases hc : w64i (s.T.nt + 1) < s.T.mn
  · rw [if_pos (by simpa using hc), if_pos hc, A2.wr (by decide)]
    exact ⟨_, rfl, A2.upd { s.T with nt := w64i (s.T.nt + 1), pc := 23 }, ((Fx.set _).trans (Fx.set _)).trans (Fx.set _)⟩
  · rw [if_neg (by simpa using hc), if_neg hc]
    exact ⟨_, rfl, A2, (Fx.set _).trans (Fx.set _)⟩
theorem tn_unless (n : Nat) (A : TS h t m rb o pp bb dn sz s) (b : Bool) : ∃ h', call (n + 2) 138 [.ptr t 0, .bool b] h = some (.ret [], h') /\ TS h' t m rb o pp bb dn sz (s.unless b) /\ Fx h h' t m rb bb bb := by
  rw [show n + 2 = (n + 1) + 1 from rfl, tnUnless_eq]
  unfold tnUnless Ps.unless
  cases b with
  | true => exact ⟨h, rfl, A, .refl⟩
  | false =>
    obtain ⟨h', c1, A1, F⟩ := tn_on n A
    rw [if_pos (show (!false) = true from rfl), c1, cl_ret]
    exact ⟨h', rfl, A1, F⟩
end
end Go.Proofs.Tryz
set_option linter.unusedVariables false
set_option linter.unusedSimpArgs false
namespace Go.Cm
open Go.L
def pPass (s : Ps) : Ps := s.load 2 21
def pStamp (s : Ps) : Ps := Ps.store { s with T := { s.T with ps := w64i (s.T.lk + 1), rn := w64i (s.T.rn + 1) } } 2 (w64i (s.T.lk + 1)) 22
def pMany (s : Ps) : Ps := Ps.on { s with T := { s.T with mn := mnN s.l, nt := -1 }, xs := [] }
def look1 (s : Ps) : Ps := Ps.load { s with T := { s.T with cu := bsN s.T.nt } } (w64i (bsN s.T.nt + 1)) 24
def pLook (s : Ps) : Ps := (look1 s).unless ((look1 s).T.lk == 0)
def pend1 (s : Ps) : Ps := s.load (w64i (s.T.cu + 0)) 25
def pPend (s : Ps) : Ps := (pend1 s).unless (decide ((pend1 s).T.lk > 0))
def help1 (s : Ps) : Ps := s.swap (w64i (s.T.cu + 1)) 0 2 26 23
def pHelp (s : Ps) : Ps := (help1 s).unless ((help1 s).T.pc == 26)
def first1 (s : Ps) : Ps := s.load 1 27
def pFirst (s : Ps) : Ps := if (first1 s).T.lk != 0 then { (first1 s) with T := { (first1 s).T with pv := (first1 s).T.lk, pc := 29 } } else first1 s
def pBare (s : Ps) : Ps := s.store (w64i (s.T.cu + 3)) 0 28
def pSolo (s : Ps) : Ps := s.swap 1 0 s.T.cu 32 26
def pAfter (s : Ps) : Ps := s.load (w64i (s.T.pv + 3)) 30
def pTie (s : Ps) : Ps := s.store (w64i (s.T.cu + 3)) s.T.lk 31
def pSet (s : Ps) : Ps := s.store (w64i (s.T.pv + 3)) s.T.cu 32
def pSeen (s : Ps) : Ps := (s.store (w64i (s.T.cu + 1)) 1 23).on
def scan1 (s : Ps) : Ps := s.load 1 40
def pScan (s : Ps) : Ps := if (scan1 s).T.lk != 0 then { (scan1 s) with T := { (scan1 s).T with cu := (scan1 s).T.lk, pc := 34 } } else scan1 s
def pick1 (s : Ps) : Ps := s.load (w64i (s.T.cu + 0)) 35
def pPick (s : Ps) : Ps := if (pick1 s).T.lk > 0 then { (pick1 s) with xs := s.xs ++ [⟨s.T.cu, (pick1 s).T.lk, 0⟩] } else pick1 s
def next1 (s : Ps) : Ps := s.load (w64i (s.T.cu + 3)) 36
def pNext (s : Ps) : Ps := if (next1 s).T.lk != 0 then { (next1 s) with T := { (next1 s).T with cu := (next1 s).T.lk, pc := 34 } } else if s.xs.length = 0 then (next1 s).pc 40 else next1 s
def item (s : Ps) : Option It := if s.T.nt < 0 then none else s.xs[s.T.nt.toNat]?
def pTell (s : Ps) : Ps := match item s with | some x => s.store (w64i (x.r + 4)) x.s 38 | none => s.pc 38
def pAge (s : Ps) : Ps := match item s with | some x => s.store (w64i (x.r + 2)) s.T.ps 39 | none => s.pc 39
def free1 (s : Ps) : Ps := match item s with | some x => s.store (w64i (x.r + 0)) 0 s.T.pc | none => s
def free2 (s : Ps) : Ps := { (free1 s) with T := { (free1 s).T with nt := w64i ((free1 s).T.nt + 1) } }
def pFree (pp : Int) (s : Ps) : Ps := (free2 s).pc (if (item s).isSome && (item (free2 s)).isSome then 37 else if (free2 s).T.rn < pp then 20 else 40)
end Go.Cm
namespace Go.Proofs.Tryz
open Go.L Go.Rp Go.Cm
set_option maxRecDepth 100000
section
variable {T : Th} {bv : V} {m o : Nat} {pp : Int} {dn : V}
theorem gv1 : gv (tcl T bv m o pp dn) 1 = .int .i64 T.pc := rfl
theorem gv5 : gv (tcl T bv m o pp dn) 5 = .int .i64 T.lk := rfl
theorem gv6 : gv (tcl T bv m o pp dn) 6 = .int .i64 T.cu := rfl
theorem gv7 : gv (tcl T bv m o pp dn) 7 = .int .i64 T.pv := rfl
theorem gv8 : gv (tcl T bv m o pp dn) 8 = .int .i64 T.nt := rfl
theorem gv10 : gv (tcl T bv m o pp dn) 10 = .int .i64 T.ps := rfl
theorem gv11 : gv (tcl T bv m o pp dn) 11 = .int .i64 T.rn := rfl
theorem gv12 : gv (tcl T bv m o pp dn) 12 = bv := rfl
theorem gv13 : gv (tcl T bv m o pp dn) 13 = .ptr m 0 := rfl
theorem gv14 : gv (tcl T bv m o pp dn) 14 = .ptr o 0 := rfl
theorem gv15 : gv (tcl T bv m o pp dn) 15 = .int .i64 pp := rfl
end
theorem len1 (k : IntKind) (x : Int) : (V.cells (.int k x)).length = 1 := rfl
section
variable {h : Heap} {t m rb o : Nat} {pp : Int} {bb : Option Nat} {dn : V} {sz : Int} {s : Ps}
theorem TS.wr1 (A : TS h t m rb o pp bb dn sz s) {R : Type} {k : Nat} (hk : k < 17) (kk : IntKind) (x : Int) (K : Nat -> HB -> Option R) (T : Th) (hT : (tcl s.T (batV bb s.xs.length) m o pp dn).set k (.int kk x) = tcl T (batV bb s.xs.length) m o pp dn) :
    (if ((V.cells (.int kk x))).length = 1 then bd2 (writeB h (V.cells (.int kk x)) (V.ptr t k)) K else none) = K t (.box 17 (tcl T (batV bb s.xs.length) m o pp dn)) := by
  rw [if_pos (len1 kk x), show V.cells (.int kk x) = [.int kk x] from rfl, A.wr hk, hT]
theorem TS.wr0 (A : TS h t m rb o pp bb dn sz s) {R : Type} {k : Nat} (hk : k < 17) (kk : IntKind) (x : Int) (K : Nat -> HB -> Option R) (T : Th) (hT : (tcl s.T (batV bb s.xs.length) m o pp dn).set k (.int kk x) = tcl T (batV bb s.xs.length) m o pp dn) :
    (bd2 (writeB h [.int kk x] (V.ptr t k)) K) = K t (.box 17 (tcl T (batV bb s.xs.length) m o pp dn)) := by
  rw [A.wr hk, hT]
theorem tn_pass (n : Nat) (A : TS h t m rb o pp bb dn sz s) : ∃ h', call (n + 4) 103 [.ptr t 0] h = some (.ret [], h') /\ TS h' t m rb o pp bb dn sz (pPass s) /\ Fx h h' t m rb bb bb := by
  rw [show n + 4 = (n + 3) + 1 from rfl, tnPass_eq]
  unfold tnPass
  obtain ⟨h1, c1, A1, F1⟩ := tn_load n A 2 21
  rw [c1, cl_ret]
  exact ⟨_, rfl, A1, F1⟩
theorem tn_stamp (n : Nat) (A : TS h t m rb o pp bb dn sz s) : ∃ h', call (n + 4) 104 [.ptr t 0] h = some (.ret [], h') /\ TS h' t m rb o pp bb dn sz (pStamp s) /\ Fx h h' t m rb bb bb := by
  rw [show n + 4 = (n + 3) + 1 from rfl, tnStamp_eq]
  unfold tnStamp
  rw [A.rd (by decide), gv5, bop_c64_add, bd_some, A.wr1 (by decide) _ _ _ { s.T with ps := w64i (s.T.lk + 1) } rfl]
  have A1 := A.upd { s.T with ps := w64i (s.T.lk + 1) }
  rw [A1.rd (by decide), gv11, bop_i64_add, bd_some, A1.wr1 (by decide) _ _ _ { s.T with ps := w64i (s.T.lk + 1), rn := w64i (s.T.rn + 1) } rfl]
  have A2 := A1.upd { s.T with ps := w64i (s.T.lk + 1), rn := w64i (s.T.rn + 1) }
  rw [A2.rd (by decide), gv10]
  obtain ⟨h1, c1, A3, F3⟩ := tn_store n A2 2 (w64i (s.T.lk + 1)) 22
  rw [c1, cl_ret]
  exact ⟨_, rfl, A3, ((Fx.set _).trans (Fx.set _)).trans F3⟩
theorem tn_many (n : Nat) (A : TS h t m rb o pp bb dn sz s) (hl : s.l.length < lim) : ∃ h', call (n + 4) 105 [.ptr t 0] h = some (.ret [], h') /\ TS h' t m rb o pp none dn sz (pMany s) /\ Fx h h' t m rb bb none := by
  rw [show n + 4 = (n + 3) + 1 from rfl, tnMany_eq]
  unfold tnMany
  rw [A.rd (by decide), gv13, rc_many n A.mem hl, cl_ret, one1_one, A.wr1 (by decide) _ _ _ { s.T with mn := mnN s.l } rfl]
  have A1 := A.upd { s.T with mn := mnN s.l }
  rw [A1.wr0 (by decide) _ _ _ { s.T with mn := mnN s.l, nt := -1 } rfl]
  have A2 := A1.upd { s.T with mn := mnN s.l, nt := -1 }
  rw [A2.wr (by decide), show ((tcl { s.T with mn := mnN s.l, nt := -1 } (batV bb s.xs.length) m o pp dn).set 12 (.sl 0 [] true)) = tcl { s.T with mn := mnN s.l, nt := -1 } (batV none 0) m o pp dn from rfl]
  generalize hg : ((h.set t (.box 17 (tcl { s.T with mn := mnN s.l } (batV bb s.xs.length) m o pp dn))).set t (.box 17 (tcl { s.T with mn := mnN s.l, nt := -1 } (batV bb s.xs.length) m o pp dn))) = g at A2 ⊢
  have A3 : TS (g.set t (.box 17 (tcl { s.T with mn := mnN s.l, nt := -1 } (batV none 0) m o pp dn))) t m rb o pp none dn sz { s with T := { s.T with mn := mnN s.l, nt := -1 }, xs := [] } :=
    ⟨set_at A2.lt _, A2.mem.keep (List.getElem?_set_ne A.tm) (List.getElem?_set_ne A.tr), A.tm, A.tr, rfl⟩
  have F3 : Fx h (g.set t (.box 17 (tcl { s.T with mn := mnN s.l, nt := -1 } (batV none 0) m o pp dn))) t m rb bb none := by
    have F2 : Fx h (g.set t (.box 17 (tcl { s.T with mn := mnN s.l, nt := -1 } (batV none 0) m o pp dn))) t m rb bb bb := by
      rw [<- hg]; exact ((Fx.set _).trans (Fx.set _)).trans (Fx.set _)
    exact ⟨F2.len, F2.old, fun b hb => by cases hb⟩
  obtain ⟨h1, c1, A4, F4⟩ := tn_on (n + 2) A3
  rw [show n + 3 = (n + 2) + 1 from rfl, c1, cl_ret]
  exact ⟨_, rfl, A4, F3.trans F4⟩
theorem tn_look (n : Nat) (A : TS h t m rb o pp bb dn sz s) : ∃ h', call (n + 4) 106 [.ptr t 0] h = some (.ret [], h') /\ TS h' t m rb o pp bb dn sz (pLook s) /\ Fx h h' t m rb bb bb := by
  rw [show n + 4 = (n + 3) + 1 from rfl, tnLook_eq]
  unfold tnLook
  rw [A.rd (by decide), gv8, rc_base (n + 2), cl_ret, one1_one, A.wr1 (by decide) _ _ _ { s.T with cu := bsN s.T.nt } rfl]
  have A1 := A.upd { s.T with cu := bsN s.T.nt }
  rw [A1.rd (by decide), gv6, bop_i64_add, bd_some]
  obtain ⟨h1, c1, A2, F2⟩ := tn_load n A1 (w64i (bsN s.T.nt + 1)) 24
  rw [show IntKind.i64.wrap (bsN s.T.nt + 1) = w64i (bsN s.T.nt + 1) from rfl, c1, cl_ret, A2.rd (by decide), gv5, bop_c64_eql, bd_some]
  obtain ⟨h3, c3, A3, F3⟩ := tn_unless (n + 1) A2 ((look1 s).T.lk == 0)
  rw [show n + 3 = (n + 1) + 2 from rfl]
  refine ⟨h3, ?_, A3, ((Fx.set _).trans F2).trans F3⟩
  rw [show ((Ps.load { s with T := { s.T with cu := bsN s.T.nt } } (w64i (bsN s.T.nt + 1)) 24).T.lk == 0) = ((look1 s).T.lk == 0) from rfl, c3, cl_ret]
theorem tn_pend (n : Nat) (A : TS h t m rb o pp bb dn sz s) : ∃ h', call (n + 4) 107 [.ptr t 0] h = some (.ret [], h') /\ TS h' t m rb o pp bb dn sz (pPend s) /\ Fx h h' t m rb bb bb := by
  rw [show n + 4 = (n + 3) + 1 from rfl, tnPend_eq]
  unfold tnPend
  rw [A.rd (by decide), gv6, bop_i64_add, bd_some]
  obtain ⟨h1, c1, A2, F2⟩ := tn_load n A (w64i (s.T.cu + 0)) 25
  rw [show IntKind.i64.wrap (s.T.cu + 0) = w64i (s.T.cu + 0) from rfl, c1, cl_ret, A2.rd (by decide), gv5, wd_asks (n + 2), cl_ret, one1_one]
  obtain ⟨h3, c3, A3, F3⟩ := tn_unless (n + 1) A2 (decide ((pend1 s).T.lk > 0))
  refine ⟨h3, ?_, A3, F2.trans F3⟩
  rw [show n + 3 = (n + 1) + 2 from rfl, show (s.load (w64i (s.T.cu + 0)) 25).T.lk = (pend1 s).T.lk from rfl, c3, cl_ret]
theorem tn_help (n : Nat) (A : TS h t m rb o pp bb dn sz s) : ∃ h', call (n + 4) 108 [.ptr t 0] h = some (.ret [], h') /\ TS h' t m rb o pp bb dn sz (pHelp s) /\ Fx h h' t m rb bb bb := by
  rw [show n + 4 = (n + 3) + 1 from rfl, tnHelp_eq]
  unfold tnHelp
  rw [A.rd (by decide), gv6, bop_i64_add, bd_some]
  obtain ⟨h1, c1, A2, F2⟩ := tn_swap n A (w64i (s.T.cu + 1)) 0 2 26 23
  rw [show IntKind.i64.wrap (s.T.cu + 1) = w64i (s.T.cu + 1) from rfl, c1, cl_ret, A2.rd (by decide), gv1, bop_i64_eql, bd_some]
  obtain ⟨h3, c3, A3, F3⟩ := tn_unless (n + 1) A2 ((help1 s).T.pc == 26)
  refine ⟨h3, ?_, A3, F2.trans F3⟩
  rw [show n + 3 = (n + 1) + 2 from rfl, show (s.swap (w64i (s.T.cu + 1)) 0 2 26 23).T.pc = (help1 s).T.pc from rfl, c3, cl_ret]
theorem tn_first (n : Nat) (A : TS h t m rb o pp bb dn sz s) : ∃ h', call (n + 4) 109 [.ptr t 0] h = some (.ret [], h') /\ TS h' t m rb o pp bb dn sz (pFirst s) /\ Fx h h' t m rb bb bb := by
  rw [show n + 4 = (n + 3) + 1 from rfl, tnFirst_eq]
  unfold tnFirst
  obtain ⟨h1, c1, A2, F2⟩ := tn_load n A 1 27
  rw [c1, cl_ret, A2.rd (by decide), gv5, bop_c64_neq, bd_some, bv_bool]
  unfold pFirst
  rw [show (s.load 1 27) = first1 s from rfl] at A2 ⊢
  cases hc : ((first1 s).T.lk != 0) with
  | true =>
    rw [if_pos rfl, if_pos rfl, A2.rd (by decide), gv5, A2.wr1 (by decide) _ _ _ { (first1 s).T with pv := (first1 s).T.lk } rfl]
    have A3 := A2.upd { (first1 s).T with pv := (first1 s).T.lk }
    rw [A3.wr0 (by decide) _ _ _ { (first1 s).T with pv := (first1 s).T.lk, pc := 29 } rfl]
    exact ⟨_, rfl, A3.upd { (first1 s).T with pv := (first1 s).T.lk, pc := 29 }, (F2.trans (Fx.set _)).trans (Fx.set _)⟩
  | false =>
    rw [if_neg (by decide), if_neg (by decide)]
    exact ⟨_, rfl, A2, F2⟩
theorem tn_bare (n : Nat) (A : TS h t m rb o pp bb dn sz s) : ∃ h', call (n + 4) 110 [.ptr t 0] h = some (.ret [], h') /\ TS h' t m rb o pp bb dn sz (pBare s) /\ Fx h h' t m rb bb bb := by
  rw [show n + 4 = (n + 3) + 1 from rfl, tnBare_eq]
  unfold tnBare
  rw [A.rd (by decide), gv6, bop_i64_add, bd_some]
  obtain ⟨h1, c1, A1, F1⟩ := tn_store n A (w64i (s.T.cu + 3)) 0 28
  rw [show IntKind.i64.wrap (s.T.cu + 3) = w64i (s.T.cu + 3) from rfl, c1, cl_ret]
  exact ⟨_, rfl, A1, F1⟩
theorem tn_solo (n : Nat) (A : TS h t m rb o pp bb dn sz s) : ∃ h', call (n + 4) 111 [.ptr t 0] h = some (.ret [], h') /\ TS h' t m rb o pp bb dn sz (pSolo s) /\ Fx h h' t m rb bb bb := by
  rw [show n + 4 = (n + 3) + 1 from rfl, tnSolo_eq]
  unfold tnSolo
  rw [A.rd (by decide), gv6]
  obtain ⟨h1, c1, A1, F1⟩ := tn_swap n A 1 0 s.T.cu 32 26
  rw [c1, cl_ret]
  exact ⟨_, rfl, A1, F1⟩
theorem tn_after (n : Nat) (A : TS h t m rb o pp bb dn sz s) : ∃ h', call (n + 4) 112 [.ptr t 0] h = some (.ret [], h') /\ TS h' t m rb o pp bb dn sz (pAfter s) /\ Fx h h' t m rb bb bb := by
  rw [show n + 4 = (n + 3) + 1 from rfl, tnAfter_eq]
  unfold tnAfter
  rw [A.rd (by decide), gv7, bop_i64_add, bd_some]
  obtain ⟨h1, c1, A1, F1⟩ := tn_load n A (w64i (s.T.pv + 3)) 30
  rw [show IntKind.i64.wrap (s.T.pv + 3) = w64i (s.T.pv + 3) from rfl, c1, cl_ret]
  exact ⟨_, rfl, A1, F1⟩
theorem tn_tie (n : Nat) (A : TS h t m rb o pp bb dn sz s) : ∃ h', call (n + 4) 113 [.ptr t 0] h = some (.ret [], h') /\ TS h' t m rb o pp bb dn sz (pTie s) /\ Fx h h' t m rb bb bb := by
  rw [show n + 4 = (n + 3) + 1 from rfl, tnTie_eq]
  unfold tnTie
  rw [A.rd (by decide), gv6, bop_i64_add, bd_some, A.rd (by decide), gv5]
  obtain ⟨h1, c1, A1, F1⟩ := tn_store n A (w64i (s.T.cu + 3)) s.T.lk 31
  rw [show IntKind.i64.wrap (s.T.cu + 3) = w64i (s.T.cu + 3) from rfl, c1, clH_ret]
  exact ⟨_, rfl, A1, F1⟩
theorem tn_set (n : Nat) (A : TS h t m rb o pp bb dn sz s) : ∃ h', call (n + 4) 114 [.ptr t 0] h = some (.ret [], h') /\ TS h' t m rb o pp bb dn sz (pSet s) /\ Fx h h' t m rb bb bb := by
  rw [show n + 4 = (n + 3) + 1 from rfl, tnSet_eq]
  unfold tnSet
  rw [A.rd (by decide), gv7, bop_i64_add, bd_some, A.rd (by decide), gv6]
  obtain ⟨h1, c1, A1, F1⟩ := tn_store n A (w64i (s.T.pv + 3)) s.T.cu 32
  rw [show IntKind.i64.wrap (s.T.pv + 3) = w64i (s.T.pv + 3) from rfl, c1, clH_ret]
  exact ⟨_, rfl, A1, F1⟩
theorem tn_seen (n : Nat) (A : TS h t m rb o pp bb dn sz s) : ∃ h', call (n + 4) 115 [.ptr t 0] h = some (.ret [], h') /\ TS h' t m rb o pp bb dn sz (pSeen s) /\ Fx h h' t m rb bb bb := by
  rw [show n + 4 = (n + 3) + 1 from rfl, tnSeen_eq]
  unfold tnSeen
  rw [A.rd (by decide), gv6, bop_i64_add, bd_some]
  obtain ⟨h1, c1, A1, F1⟩ := tn_store n A (w64i (s.T.cu + 1)) 1 23
  obtain ⟨h2, c2, A2, F2⟩ := tn_on (n + 2) A1
  rw [show IntKind.i64.wrap (s.T.cu + 1) = w64i (s.T.cu + 1) from rfl, c1, cl_ret, show n + 3 = (n + 2) + 1 from rfl, c2, cl_ret]
  exact ⟨_, rfl, A2, F1.trans F2⟩
theorem tn_scan (n : Nat) (A : TS h t m rb o pp bb dn sz s) : ∃ h', call (n + 4) 116 [.ptr t 0] h = some (.ret [], h') /\ TS h' t m rb o pp bb dn sz (pScan s) /\ Fx h h' t m rb bb bb := by
  rw [show n + 4 = (n + 3) + 1 from rfl, tnScan_eq]
  unfold tnScan
  obtain ⟨h1, c1, A2, F2⟩ := tn_load n A 1 40
  rw [c1, cl_ret, A2.rd (by decide), gv5, bop_c64_neq, bd_some, bv_bool]
  unfold pScan
  rw [show (s.load 1 40) = scan1 s from rfl] at A2 ⊢
  cases hc : ((scan1 s).T.lk != 0) with
  | true =>
    rw [if_pos rfl, if_pos rfl, A2.rd (by decide), gv5, A2.wr1 (by decide) _ _ _ { (scan1 s).T with cu := (scan1 s).T.lk } rfl]
    have A3 := A2.upd { (scan1 s).T with cu := (scan1 s).T.lk }
    rw [A3.wr0 (by decide) _ _ _ { (scan1 s).T with cu := (scan1 s).T.lk, pc := 34 } rfl]
    exact ⟨_, rfl, A3.upd { (scan1 s).T with cu := (scan1 s).T.lk, pc := 34 }, (F2.trans (Fx.set _)).trans (Fx.set _)⟩
  | false =>
    rw [if_neg (by decide), if_neg (by decide)]
    exact ⟨_, rfl, A2, F2⟩
theorem TS.bat (A : TS h t m rb o pp bb dn sz s) : ∃ z, slcH h (batV bb s.xs.length) = some (z, s.xs.map It.c) /\ (z = 3 \/ s.xs = []) := by
  have := A.bt
  cases bb with
  | none => exact ⟨0, by rw [show s.xs = [] from this]; rfl, .inr this⟩
  | some b =>
    obtain ⟨⟨z, h1⟩, _⟩ := this
    refine ⟨3, ?_, .inl rfl⟩
    unfold batV
    have := slcH_all h1
    rwa [List.length_map] at this
theorem tn_next (n : Nat) (A : TS h t m rb o pp bb dn sz s) : ∃ h', call (n + 4) 118 [.ptr t 0] h = some (.ret [], h') /\ TS h' t m rb o pp bb dn sz (pNext s) /\ Fx h h' t m rb bb bb := by
  rw [show n + 4 = (n + 3) + 1 from rfl, tnNext_eq]
  unfold tnNext
  rw [A.rd (by decide), gv6, bop_i64_add, bd_some]
  obtain ⟨h1, c1, A2, F2⟩ := tn_load n A (w64i (s.T.cu + 3)) 36
  rw [show IntKind.i64.wrap (s.T.cu + 3) = w64i (s.T.cu + 3) from rfl, c1, cl_ret, A2.rd (by decide), gv5, bop_c64_neq, bd_some, bv_bool]
  unfold pNext
  rw [show (s.load (w64i (s.T.cu + 3)) 36) = next1 s from rfl] at A2 ⊢
  have hxs : (next1 s).xs = s.xs := rfl
  cases hc : ((next1 s).T.lk != 0) with
  | true =>
    rw [if_pos rfl, if_pos rfl, A2.rd (by decide), gv5, A2.wr1 (by decide) _ _ _ { (next1 s).T with cu := (next1 s).T.lk } rfl]
    have A3 := A2.upd { (next1 s).T with cu := (next1 s).T.lk }
    rw [A3.wr0 (by decide) _ _ _ { (next1 s).T with cu := (next1 s).T.lk, pc := 34 } rfl]
    exact ⟨_, rfl, A3.upd { (next1 s).T with cu := (next1 s).T.lk, pc := 34 }, (F2.trans (Fx.set _)).trans (Fx.set _)⟩
  | false =>
    obtain ⟨z, hb, _⟩ := A2.bat
    rw [if_neg (by decide), if_neg (by decide), A2.rd (by decide), gv12, hb, bd_some]
    simp only [List.length_map, hxs]
    by_cases h0 : s.xs.length = 0
    · rw [if_pos (by simp [h0]), if_pos h0, A2.wr0 (by decide) _ _ _ { (next1 s).T with pc := 40 } rfl]
      exact ⟨_, rfl, A2.upd { (next1 s).T with pc := 40 }, F2.trans (Fx.set _)⟩
    · rw [if_neg (by simpa using h0), if_neg h0]
      exact ⟨_, rfl, A2, F2⟩
def itV (bb : Option Nat) (s : Ps) : V := match item s, bb with | some _, some b => .rptr b 3 s.T.nt.toNat 0 | _, _ => .val (.pointer none)
theorem tn_item (n : Nat) (A : TS h t m rb o pp bb dn sz s) : call (n + 1) 143 [.ptr t 0] h = some (.ret [itV bb s], h) := by
  rw [tnItem_eq]
  unfold tnItem itV item
  rw [A.rd (by decide), gv8, bop_i64_lss, bd_some, bv_bool]
  by_cases h0 : s.T.nt < 0
  · rw [if_pos (by simpa using h0), if_pos h0]
  · rw [if_neg (by simpa using h0), if_neg h0, A.rd (by decide), gv8, A.rd (by decide), gv12]
    obtain ⟨z, hb, hz⟩ := A.bat
    rw [hb, bd_some, bop_i64_geq, bd_some, bv_bool]
    by_cases h1 : (s.xs.length : Int) <= s.T.nt
    · rw [if_pos (by simpa using h1), List.getElem?_eq_none (by omega)]
    · rw [if_neg (by simpa using h1), A.rd (by decide), gv12, A.rd (by decide), gv8, Go.L.nv_int (by omega), bdS_some, List.getElem?_eq_getElem (by omega)]
      have := A.bt
      cases bb with
      | none => exact absurd (show s.xs.length = 0 by rw [show s.xs = [] from this]; rfl) (by omega)
      | some b =>
        unfold batV
        simp only
        rw [idxP_row (by omega), bd_some, Nat.zero_add]
        rfl
theorem bop_it_neq (h : Heap) (b i c : Nat) : bopH prog h .neq 216 (V.rptr b 3 i c) (V.val (.pointer none)) = some (.bool true) := by kernel_rfl
theorem bop_it_nn (h : Heap) : bopH prog h .neq 216 (V.val (.pointer none)) (V.val (.pointer none)) = some (.bool false) := by kernel_rfl
theorem TS.at (A : TS h t m rb o pp bb dn sz s) {x : It} (hx : item s = some x) : ∃ b z, bb = some b /\ itV bb s = .rptr b 3 s.T.nt.toNat 0 /\ h[b]? = some (.row 87 3 (s.xs.map It.c) z) /\ (s.xs.map It.c)[s.T.nt.toNat]? = some x.c := by
  have := A.bt
  have hx' := hx
  unfold item at hx
  split at hx
  · cases hx
  · cases bb with
    | none => rw [show s.xs = [] from this] at hx; simp at hx
    | some b =>
      obtain ⟨⟨z, h1⟩, _⟩ := this
      exact ⟨b, z, rfl, by unfold itV; rw [hx'], h1, by rw [List.getElem?_map, hx]; rfl⟩
theorem itV_none {s : Ps} (hx : item s = none) : itV bb s = .val (.pointer none) := by unfold itV; rw [hx]
theorem addp0 (b i c : Nat) : addP 0 (V.rptr b 3 i c) = some (V.rptr b 3 i c) := rfl
theorem tn_tell (n : Nat) (A : TS h t m rb o pp bb dn sz s) : ∃ h', call (n + 4) 120 [.ptr t 0] h = some (.ret [], h') /\ TS h' t m rb o pp bb dn sz (pTell s) /\ Fx h h' t m rb bb bb := by
  rw [show n + 4 = (n + 3) + 1 from rfl, tnTell_eq]
  unfold tnTell pTell
  rw [show n + 3 = (n + 2) + 1 from rfl, tn_item (n + 2) A, cl_ret, one1_one]
  cases hx : item s with
  | none =>
    rw [itV_none hx, bop_it_nn, bd_some, bv_bool, if_neg (by decide), A.wr0 (by decide) _ _ _ { s.T with pc := 38 } rfl]
    exact ⟨_, rfl, A.upd { s.T with pc := 38 }, Fx.set _⟩
  | some x =>
    obtain ⟨b, z, rfl, e1, e2, e3⟩ := A.at hx
    rw [e1, bop_it_neq, bd_some, bv_bool, if_pos rfl, A.rd (by decide), gv13]
    simp only [addp0, bd_some]
    rw [cellsP_rptr e2 (by decide) e3, bd3_some, if_pos (by decide), show (It.c x)[0]? = some (V.int .i64 x.r) from rfl, bd_some, bop_i64_add, bd_some]
    rw [show addP 2 (V.rptr b 3 s.T.nt.toNat 0) = some (V.rptr b 3 s.T.nt.toNat 2) from rfl, bd_some, cellsP_rptr e2 (by decide) e3, bd3_some, if_pos (by decide), show (It.c x)[2]? = some (V.int .i64 x.s) from rfl, bd_some]
    obtain ⟨h1, e, c1, M, F⟩ := ce_store (n + 1) A.mem (w64i (x.r + 4)) x.s
    have A1 := A.fr F M
    rw [show IntKind.i64.wrap (x.r + 4) = w64i (x.r + 4) from rfl, show n + 2 + 1 = (n + 1) + 2 from rfl, c1, clH_ret, one1_one, A1.wr0 (by decide) _ _ _ { s.T with pc := 38 } rfl]
    exact ⟨_, rfl, A1.upd { s.T with pc := 38 }, (Fx.ofFr F (by simp)).trans (Fx.set _)⟩
theorem tn_age (n : Nat) (A : TS h t m rb o pp bb dn sz s) : ∃ h', call (n + 4) 121 [.ptr t 0] h = some (.ret [], h') /\ TS h' t m rb o pp bb dn sz (pAge s) /\ Fx h h' t m rb bb bb := by
  rw [show n + 4 = (n + 3) + 1 from rfl, tnAge_eq]
  unfold tnAge pAge
  rw [show n + 3 = (n + 2) + 1 from rfl, tn_item (n + 2) A, cl_ret, one1_one]
  cases hx : item s with
  | none =>
    rw [itV_none hx, bop_it_nn, bd_some, bv_bool, if_neg (by decide), A.wr0 (by decide) _ _ _ { s.T with pc := 39 } rfl]
    exact ⟨_, rfl, A.upd { s.T with pc := 39 }, Fx.set _⟩
  | some x =>
    obtain ⟨b, z, rfl, e1, e2, e3⟩ := A.at hx
    rw [e1, bop_it_neq, bd_some, bv_bool, if_pos rfl, A.rd (by decide), gv13]
    simp only [addp0, bd_some]
    rw [cellsP_rptr e2 (by decide) e3, bd3_some, if_pos (by decide), show (It.c x)[0]? = some (V.int .i64 x.r) from rfl, bd_some, bop_i64_add, bd_some, A.rd (by decide), gv10]
    obtain ⟨h1, e, c1, M, F⟩ := ce_store (n + 1) A.mem (w64i (x.r + 2)) s.T.ps
    have A1 := A.fr F M
    rw [show IntKind.i64.wrap (x.r + 2) = w64i (x.r + 2) from rfl, show n + 2 + 1 = (n + 1) + 2 from rfl, c1, clH_ret, one1_one, A1.wr0 (by decide) _ _ _ { s.T with pc := 39 } rfl]
    exact ⟨_, rfl, A1.upd { s.T with pc := 39 }, (Fx.ofFr F (by simp)).trans (Fx.set _)⟩
theorem bld_it (a b : Int) : bldV prog 87 [(0, .int .i64 a), (1, .int .i64 b)] = some [.int .i64 a, .int .i64 b, .int .i64 0] := by kernel_rfl
theorem bsl_it (a b c : Int) : bslV prog 63 1 [(0, .agg [.int .i64 a, .int .i64 b, .int .i64 c])] = some (3, [[.int .i64 a, .int .i64 b, .int .i64 c]]) := by kernel_rfl
theorem tn_pick (n : Nat) (A : TS h t m rb o pp bb dn sz s) (hlim : s.xs.length + 1 < lim) : ∃ h' bb', call (n + 4) 117 [.ptr t 0] h = some (.ret [], h') /\ TS h' t m rb o pp bb' dn sz (pPick s) /\ Fx h h' t m rb bb bb' := by
  rw [show n + 4 = (n + 3) + 1 from rfl, tnPick_eq]
  unfold tnPick
  rw [A.rd (by decide), gv6, bop_i64_add, bd_some]
  obtain ⟨h1, c1, A2, F2⟩ := tn_load n A (w64i (s.T.cu + 0)) 35
  rw [show IntKind.i64.wrap (s.T.cu + 0) = w64i (s.T.cu + 0) from rfl, c1, cl_ret, A2.rd (by decide), gv5, wd_asks (n + 2), cl_ret, one1_one, bv_bool]
  unfold pPick
  rw [show (s.load (w64i (s.T.cu + 0)) 35) = pick1 s from rfl] at A2 ⊢
  have hxs : (pick1 s).xs = s.xs := rfl
  by_cases hc : (pick1 s).T.lk > 0
  · rw [if_pos (by simpa using hc), if_pos hc, A2.rd (by decide), gv12, A2.rd (by decide), gv6, A2.rd (by decide), gv5, bld_it, bd_some, bsl_it, bd_some]
    have hcu : (pick1 s).T.cu = s.T.cu := rfl
    rw [hcu]
    generalize hit : ([.int .i64 s.T.cu, .int .i64 (pick1 s).T.lk, .int .i64 0] : List V) = ic
    have hic : ic = It.c ⟨s.T.cu, (pick1 s).T.lk, 0⟩ := hit.symm
    have key : ∃ g, appP 87 3 h1 [ic] (batV bb (pick1 s).xs.length) = some (.row h1.length 3 0 (s.xs.length + 1), g) /\ (∃ z, g[h1.length]? = some (.row 87 3 (s.xs.map It.c ++ [ic]) z)) /\ h1.length < g.length /\ ∀ i, i < h1.length -> bb ≠ some i -> g[i]? = h1[i]? := by
      have hbt := A2.bt
      cases bb with
      | none =>
        have h0 : s.xs = [] := hbt
        refine ⟨h1 ++ [.row 87 3 [ic] true], ?_, ⟨true, ?_⟩, by simp, fun i q1 _ => List.getElem?_append_left q1⟩
        · rw [hxs, h0]; rfl
        · rw [h0]; exact List.getElem?_concat_length
      | some b =>
        obtain ⟨⟨z, q1⟩, _⟩ := hbt
        rw [hxs] at q1
        refine ⟨h1.set b .dead ++ [.row 87 3 (s.xs.map It.c ++ [ic]) (z && 0 == 0)], ?_, ⟨(z && 0 == 0), ?_⟩, by simp, fun i p1 p2 => ?_⟩
        · unfold batV
          rw [hxs]
          simp only [appP, q1]
          rw [if_pos (by refine ⟨⟨?_, ?_, ?_⟩, ⟨by omega, by simp⟩, by simp; omega⟩ <;> first | trivial | rfl)]
          simp [List.take_of_length_le]
        · rw [List.getElem?_append_right (by simp)]; simp
        · rw [List.getElem?_append_left (by simpa using p1), List.getElem?_set_ne (fun e => p2 (by rw [e]))]
    obtain ⟨g, e1, ⟨z, e2⟩, e3, e4⟩ := key
    rw [e1, bd2_some, if_pos (show (V.cells (.row h1.length 3 0 (s.xs.length + 1))).length = 1 from rfl), show V.cells (.row h1.length 3 0 (s.xs.length + 1)) = [.row h1.length 3 0 (s.xs.length + 1)] from rfl]
    have ht1 := A2.lt
    have hbne : ∀ x, (∀ b, bb = some b -> b ≠ x) -> bb ≠ some x := fun x hx e => hx x e rfl
    have hbt : ∀ b, bb = some b -> b ≠ t /\ b ≠ m /\ b ≠ rb := fun b hb => by
      subst hb
      exact A2.bt.2
    have gt : g[t]? = some (.box 17 (tcl (pick1 s).T (batV bb (pick1 s).xs.length) m o pp dn)) := (e4 t ht1 (hbne t fun b hb => (hbt b hb).1)).trans A2.tn
    rw [writeB_box gt (by simp), bd2_some]
    refine ⟨_, some h1.length, rfl, ⟨(set_at (lt_of_at gt) _).trans (by unfold batV; simp only [List.length_append, List.length_singleton]; rfl), ?_, A2.tm, A2.tr, ⟨⟨z, ?_⟩, ?_, ?_, ?_⟩⟩, ?_⟩
    · refine A2.mem.keep ?_ ?_
      · exact (List.getElem?_set_ne A2.tm).trans (e4 m A2.mem.lt.1 (hbne m fun b hb => (hbt b hb).2.1))
      · exact (List.getElem?_set_ne A2.tr).trans (e4 rb A2.mem.lt.2 (hbne rb fun b hb => (hbt b hb).2.2))
    · rw [List.getElem?_set_ne (by omega), e2, hic]
      simp
    · omega
    · have := A2.mem.lt.1; omega
    · have := A2.mem.lt.2; omega
    · refine ⟨?_, fun i q1 q2 q3 q4 q5 => ?_, fun b hb => by cases hb; exact .inr F2.len⟩
      · have := F2.len; rw [List.length_set]; omega
      · rw [List.getElem?_set_ne (Ne.symm q2), e4 i (by have := F2.len; omega) q5]
        exact F2.old i q1 q2 q3 q4 q5
  · rw [if_neg (by simpa using hc), if_neg hc]
    exact ⟨_, bb, rfl, A2, F2⟩
theorem tn_free (n : Nat) (A : TS h t m rb o pp bb dn sz s) : ∃ h', call (n + 4) 122 [.ptr t 0] h = some (.ret [], h') /\ TS h' t m rb o pp bb dn sz (pFree pp s) /\ Fx h h' t m rb bb bb := by
  rw [show n + 4 = (n + 3) + 1 from rfl, tnFree_eq]
  unfold tnFree pFree
  rw [show n + 3 = (n + 2) + 1 from rfl, tn_item (n + 2) A, cl_ret, one1_one]
  cases hx : item s with
  | none =>
    have e1 : free1 s = s := by unfold free1; rw [hx]
    have e2 : free2 s = { s with T := { s.T with nt := w64i (s.T.nt + 1) } } := by unfold free2; rw [e1]
    rw [itV_none hx, bop_it_nn, bd_some, bv_bool, if_neg (by decide), A.rd (by decide), gv8, bop_i64_add, bd_some, A.wr1 (by decide) _ _ _ { s.T with nt := w64i (s.T.nt + 1) } rfl]
    have A1 := A.upd { s.T with nt := w64i (s.T.nt + 1) }
    rw [bop_it_nn, bd_some, bv_bool, if_neg (by decide), A1.rd (by decide), gv11, A1.rd (by decide), gv15, bop_i64_lss, bd_some, bv_bool, e2]
    simp only [Option.isSome_none, Bool.false_and, Bool.false_eq_true, if_false]
    by_cases hc : s.T.rn < pp
    · rw [if_pos (by simpa using hc), if_pos hc, A1.wr0 (by decide) _ _ _ { s.T with nt := w64i (s.T.nt + 1), pc := 20 } rfl]
      exact ⟨_, rfl, A1.upd { s.T with nt := w64i (s.T.nt + 1), pc := 20 }, (Fx.set _).trans (Fx.set _)⟩
    · rw [if_neg (by simpa using hc), if_neg hc, A1.wr0 (by decide) _ _ _ { s.T with nt := w64i (s.T.nt + 1), pc := 40 } rfl]
      exact ⟨_, rfl, A1.upd { s.T with nt := w64i (s.T.nt + 1), pc := 40 }, (Fx.set _).trans (Fx.set _)⟩
  | some x =>
    obtain ⟨b, z, rfl, q1, q2, q3⟩ := A.at hx
    rw [q1, bop_it_neq, bd_some, bv_bool, if_pos rfl, A.rd (by decide), gv13]
    simp only [addp0, bd_some]
    rw [cellsP_rptr q2 (by decide) q3, bd3_some, if_pos (by decide), show (It.c x)[0]? = some (V.int .i64 x.r) from rfl, bd_some, bop_i64_add, bd_some]
    obtain ⟨h1, e, c1, M, F⟩ := ce_store (n + 1) A.mem (w64i (x.r + 0)) 0
    have A1 := A.fr F M
    have e1 : free1 s = { s with l := stL s.l (w64i (x.r + 0)) 0, st := ldS s.l (w64i (x.r + 0)) s.st } := by unfold free1; rw [hx]; rfl
    have e2 : free2 s = { s with l := stL s.l (w64i (x.r + 0)) 0, st := ldS s.l (w64i (x.r + 0)) s.st, T := { s.T with nt := w64i (s.T.nt + 1) } } := by unfold free2; rw [e1]
    rw [show IntKind.i64.wrap (x.r + 0) = w64i (x.r + 0) from rfl, show n + 2 + 1 = (n + 1) + 2 from rfl, c1, clH_ret, one1_one, A1.rd (by decide), gv8, bop_i64_add, bd_some, A1.wr1 (by decide) _ _ _ { s.T with nt := w64i (s.T.nt + 1) } rfl]
    have A2 := A1.upd { s.T with nt := w64i (s.T.nt + 1) }
    rw [<- e2] at A2
    rw [bop_it_neq, bd_some, bv_bool, if_pos rfl, show (n + 1) + 2 = (n + 2) + 1 from rfl]
    have F2 : Fx h (h1.set t (.box 17 (tcl { s.T with nt := w64i (s.T.nt + 1) } (batV (some b) s.xs.length) m o pp dn))) t m rb (some b) (some b) := (Fx.ofFr F (by simp)).trans (Fx.set _)
    have hT2 : (free2 s).T = { s.T with nt := w64i (s.T.nt + 1) } := by rw [e2]
    have hx2 : (free2 s).xs = s.xs := by rw [e2]
    generalize hg : h1.set t (.box 17 (tcl { s.T with nt := w64i (s.T.nt + 1) } (batV (some b) s.xs.length) m o pp dn)) = g at A2 F2
    rw [tn_item (n + 2) A2, cl_ret, one1_one]
    cases hx3 : item (free2 s) with
    | some y =>
      obtain ⟨b', z', hb', p1, p2, p3⟩ := A2.at hx3
      rw [p1, bop_it_neq, bd_some, bv_bool, if_pos rfl, A2.wr0 (by decide) _ _ _ { (free2 s).T with pc := 37 } rfl]
      exact ⟨_, rfl, A2.upd { (free2 s).T with pc := 37 }, F2.trans (Fx.set _)⟩
    | none =>
      rw [itV_none hx3, bop_it_nn, bd_some, bv_bool, if_neg (by decide), A2.rd (by decide), gv11, A2.rd (by decide), gv15, bop_i64_lss, bd_some, bv_bool]
      simp only [Option.isSome_none, Option.isSome_some, Bool.and_false, Bool.false_eq_true, if_false]
      by_cases hc : (free2 s).T.rn < pp
      · rw [if_pos (by simpa using hc), if_pos hc, A2.wr0 (by decide) _ _ _ { (free2 s).T with pc := 20 } rfl]
        exact ⟨_, rfl, A2.upd { (free2 s).T with pc := 20 }, F2.trans (Fx.set _)⟩
      · rw [if_neg (by simpa using hc), if_neg hc, A2.wr0 (by decide) _ _ _ { (free2 s).T with pc := 40 } rfl]
        exact ⟨_, rfl, A2.upd { (free2 s).T with pc := 40 }, F2.trans (Fx.set _)⟩
end
end Go.Proofs.Tryz
