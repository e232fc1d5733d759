/- Lopen2 Pk Pp Pv Ps Ka Lrow Kc Ts Pm Tm Pr Tr Pe Te Po To Tq Ta Tf: what the law needs of these -/
import Derived.SizedLaws
import Derived.Test.YtclhmdhdpejhhaaGreatRcp12
set_option linter.unusedVariables false
namespace Go.L
open Go.ChangeShapes Go.WideShapes Go.Rp
section
variable {H : Type} {enc : TypeId × Value -> H} {P : Program} {w : World} {held : Bool}
end
theorem zbe {H : Type} {enc : TypeId × Value -> H} {P : Program} {w : World} {base : Nat} {spare : Nat -> Bool} {held : Bool} {ts : List TypeId} {ds : List (DataW H)} (hsz : (DataW.weightsEach P ts ds).all (· <= reachBytes) = true) {j : Nat} {t e : TypeId} {d : DataW H} {pl : List MemPlace} {a : Option Addr} {len cap fuel : Nat}
    (ht : ts[j]? = some t) (hd : ds[j]? = some d) (hu : P.underlying t = some (.slice e)) (hb : 1 <= P.bytesOf e) (h : DataW.trod enc P w base spare held fuel t [.slice a len cap] = some (d, pl)) : len <= 140737488355328 := by
 rcases Deep.open_slice hu h with ⟨h1, _⟩ | ⟨ad, len', cap', m, n, D, Pl, h1, _, hle, hm, hmm, hx, _⟩
 · simp at h1; omega
 · simp at h1
   obtain ⟨rfl, rfl, rfl⟩ := h1
   cases hx
   have h2 := sized_slice hsz ht hd hu
   simp only [zA, List.length_range, reachBytes] at h2
   have h3 : len * 1 <= (len + (m - len)) * P.bytesOf e := Qt (by omega) hb
   omega
end Go.L
namespace Go.Proofs.Tryz
open Go.L
set_option maxRecDepth 100000
noncomputable def zfr (n : Nat) (x0 : Int) (x1 : Int) (x2 : List (List V)) (x2b : Bool) (x3 : List (List V)) (x3b : Bool) : Option (Res × ze) :=
 (cl (call n 15 [(V.int .u8 (IntKind.u8.wrap (1 + (Int.tmod x0 3)))), (V.int .i64 (IntKind.i64.wrap (1 + (IntKind.i64.wrap (Int.tmod x1 12))))), (V.bool false)] []) (fun r0 h1 =>
 (Zs r0 fun v3 =>
 (bd (X1 prog h1 .eql 25 v3 (V.val (.pointer none))) fun v4 =>
 (bv v4 fun b5 => if b5 then
 (bd (X1 prog h1 .neq 25 v3 (V.val (.pointer none))) fun v6 =>
 (bv v6 fun b7 => if b7 then
 (cl (call n 18 [] h1) (fun r8 h9 =>
 (Zs r8 fun v11 =>
 some (Res.ret [v11], h9))) (fun z10 h9 => some (Res.pan z10, h9)))
 else
 some (Res.ret [(V.bool false)], h1)))
 else
 (if (decide ((IntKind.i64.wrap (((x2).length : Int) + ((x3).length : Int))) > 150)) then
 (bd (X1 prog h1 .neq 25 v3 (V.val (.pointer none))) fun v12 =>
 (bv v12 fun b13 => if b13 then
 (cl (call n 18 [] h1) (fun r14 h15 =>
 (Zs r14 fun v17 =>
 some (Res.ret [v17], h15))) (fun z16 h15 => some (Res.pan z16, h15)))
 else
 some (Res.ret [(V.bool false)], h1)))
 else
 (cl (call n 23 [v3, (V.sl 1 x2 x2b)] h1) (fun r18 h19 =>
 (cl (call n 14 [(V.sl 1 x2 x2b), (V.int .u8 4)] h19) (fun r21 h22 =>
 (Zs r21 fun v24 =>
 (cl (call n 17 [v3, v24] h22) (fun r25 h26 =>
 (Zs r25 fun v28 =>
 (cl (call n 28 [v3] h26) (fun r29 h30 =>
 (Zs r29 fun v32 =>
 (cl (call n 28 [v3] h30) (fun r33 h34 =>
 (Zs r33 fun v36 =>
 (cl (call n 20 [v32] h34) (fun r37 h38 =>
 (Zs r37 fun v40 =>
 (cl (call n 14 [(V.sl 1 x3 x3b), (V.int .u8 2)] h38) (fun r41 h42 =>
 (Zs r41 fun v44 =>
 (cl (call n 17 [v3, v44] h42) (fun r45 h46 =>
 (Zs r45 fun v48 =>
 (cl (call n 20 [v32] h46) (fun r49 h50 =>
 (Zs r49 fun v52 =>
 (cl (call n 19 [v52, v40] h50) (fun r53 h54 =>
 (Zs r53 fun v56 =>
 (cl (call n 14 [(V.sl 1 x3 x3b), (V.int .u8 4)] h54) (fun r57 h58 =>
 (Zs r57 fun v60 =>
 (cl (call n 17 [v32, v60] h58) (fun r61 h62 =>
 (Zs r61 fun v64 =>
 (cl (call n 14 [(V.sl 1 x3 x3b), (V.int .u8 4)] h62) (fun r65 h66 =>
 (Zs r65 fun v68 =>
 (cl (call n 17 [v36, v68] h66) (fun r69 h70 =>
 (Zs r69 fun v72 =>
 (cl (call n 23 [(V.val (.pointer none)), (V.sl 1 [[(V.int .u8 1)]] false)] h70) (fun r73 h74 =>
 (cl (call n 18 [] h74) (fun r76 h77 =>
 (Zs r76 fun v79 =>
 (bv v79 fun b80 => if b80 then
 (bv v56 fun b81 => if b81 then
 (cl (call n 24 [v64, v72] h77) (fun r82 h83 =>
 (Zs r82 fun v85 =>
 (bv v85 fun b86 => if b86 then
 (cl (call n 29 [v32, (V.int .i64 2)] h83) (fun r87 h88 =>
 (Zs r87 fun v90 =>
 (cl (call n 29 [v36, (V.int .i64 2)] h88) (fun r91 h92 =>
 (Zs r91 fun v94 =>
 (cl (call n 19 [v90, v94] h92) (fun r95 h96 =>
 (Zs r95 fun v98 =>
 (bv v98 fun b99 => if b99 then
 (cl (call n 20 [v32] h96) (fun r100 h101 =>
 (Zs r100 fun v103 =>
 (cl (call n 20 [v36] h101) (fun r104 h105 =>
 (Zs r104 fun v107 =>
 (cl (call n 19 [v103, v107] h105) (fun r108 h109 =>
 (Zs r108 fun v111 =>
 (bv v111 fun b112 => if b112 then
 (cl (call n 17 [(V.val (.pointer none)), (V.sl 2 [[(V.int .u8 1), (V.int .i32 0)]] false)] h109) (fun r113 h114 =>
 (Zs r113 fun v116 =>
 (bd (Xq h114 v116) fun p117 =>
 (if (((p117.2).length : Int) == 0) then
 (cl (call n 30 [(V.val (.pointer none))] h114) (fun r118 h119 =>
 (Zs r118 fun v121 =>
 (bd (bop prog .eql 3 v121 (V.int .i64 0)) fun v122 =>
 (bv v122 fun b123 => if b123 then
 (cl (call n 20 [(V.val (.pointer none))] h119) (fun r124 h125 =>
 (Zs r124 fun v127 =>
 (bd (Xq h125 v127) fun p128 =>
 (if (((p128.2).length : Int) == 0) then
 (cl (call n 29 [(V.val (.pointer none)), (V.int .i64 1)] h125) (fun r129 h130 =>
 (Zs r129 fun v132 =>
 (bd (Xq h130 v132) fun p133 =>
 (if (((p133.2).length : Int) == 0) then
 (cl (call n 28 [(V.val (.pointer none))] h130) (fun r134 h135 =>
 (Zs r134 fun v137 =>
 (bd (X1 prog h135 .eql 25 v137 (V.val (.pointer none))) fun v138 =>
 some (Res.ret [v138], h135)))) (fun z136 h135 => some (Res.pan z136, h135)))
 else
 some (Res.ret [(V.bool false)], h130))))) (fun z131 h130 => some (Res.pan z131, h130)))
 else
 some (Res.ret [(V.bool false)], h125))))) (fun z126 h125 => some (Res.pan z126, h125)))
 else
 some (Res.ret [(V.bool false)], h119))))) (fun z120 h119 => some (Res.pan z120, h119)))
 else
 some (Res.ret [(V.bool false)], h114))))) (fun z115 h114 => some (Res.pan z115, h114)))
 else
 some (Res.ret [(V.bool false)], h109)))) (fun z110 h109 => some (Res.pan z110, h109))))) (fun z106 h105 => some (Res.pan z106, h105))))) (fun z102 h101 => some (Res.pan z102, h101)))
 else
 some (Res.ret [(V.bool false)], h96)))) (fun z97 h96 => some (Res.pan z97, h96))))) (fun z93 h92 => some (Res.pan z93, h92))))) (fun z89 h88 => some (Res.pan z89, h88)))
 else
 some (Res.ret [(V.bool false)], h83)))) (fun z84 h83 => some (Res.pan z84, h83)))
 else
 some (Res.ret [(V.bool false)], h77))
 else
 some (Res.ret [(V.bool false)], h77)))) (fun z78 h77 => some (Res.pan z78, h77)))) (fun z75 h74 => some (Res.pan z75, h74))))) (fun z71 h70 => some (Res.pan z71, h70))))) (fun z67 h66 => some (Res.pan z67, h66))))) (fun z63 h62 => some (Res.pan z63, h62))))) (fun z59 h58 => some (Res.pan z59, h58))))) (fun z55 h54 => some (Res.pan z55, h54))))) (fun z51 h50 => some (Res.pan z51, h50))))) (fun z47 h46 => some (Res.pan z47, h46))))) (fun z43 h42 => some (Res.pan z43, h42))))) (fun z39 h38 => some (Res.pan z39, h38))))) (fun z35 h34 => some (Res.pan z35, h34))))) (fun z31 h30 => some (Res.pan z31, h30))))) (fun z27 h26 => some (Res.pan z27, h26))))) (fun z23 h22 => some (Res.pan z23, h22)))) (fun z20 h19 => some (Res.pan z20, h19)))))))) (fun z2 h1 => some (Res.pan z2, h1)))
theorem zjl (n : Nat) (x0 : Int) (x1 : Int) (x2 : List (List V)) (x2b : Bool) (x3 : List (List V)) (x3b : Bool) (h : ze) : call (n + 1) 7 [(V.int .u8 x0), (V.int .u8 x1), (V.sl 1 x2 x2b), (V.sl 1 x3 x3b)] h = gcw [(V.int .u8 x0), (V.int .u8 x1), (V.sl 1 x2 x2b), (V.sl 1 x3 x3b)] (zfr n x0 x1 x2 x2b x3 x3b) h := by kernel_rfl
end Go.Proofs.Tryz
namespace Go.Proofs.Tryz
open Go.L
set_option maxRecDepth 100000
end Go.Proofs.Tryz
namespace Go.Proofs.Tryz
open Go.L
set_option maxRecDepth 100000
noncomputable def zfs (n : Nat) (s : Nat) (i : Int) (h : ze) : Option (Res × ze) :=
 (bd (X1 prog h .eql 25 (V.ptr s 0) (V.val (.pointer none))) fun v0 =>
 (bv v0 fun b1 => if b1 then
 some (Res.ret [(V.sl 1 [] false)], h)
 else
 (bd3 (zu h (V.ptr s 0)) fun cs3 m2 o4 => if (o4 + 1 <= m2 /\ 0 < 1) then
 (bd (cs3)[o4]? fun v5 =>
 (bd2 (jC prog 120 true v5) fun v6 b7 =>
 (if ((V.cells v6)).length = 1 then
 (if (((V.cells v6)).length <= 1) then
 (if (!b7) then
 some (Res.ret [(V.sl 1 [] false)], h)
 else
 (bd ((setR [(V.val (.pointer none))] 0 (V.cells v6)))[0]? fun v8 =>
 (cl (call n 70 [v8, (V.int .i64 i)] h) (fun r9 h10 =>
 (Zs r9 fun v12 =>
 some (Res.ret [v12], h10))) (fun z11 h10 => some (Res.pan z11, h10))))) else none) else none))) else none)))
theorem zaD (n : Nat) (s : Nat) (i : Int) (h : ze) : call (n + 1) 29 [(V.ptr s 0), (V.int .i64 i)] h = zfs n s i h := by kernel_rfl
end Go.Proofs.Tryz
namespace Go.Proofs.Tryz
open Go.L
set_option maxRecDepth 100000
noncomputable def zql (n : Nat) (x0 : Int) (h : ze) : Option (Res × ze) :=
 some (Res.ret [(V.ptr (h).length 0)], (h ++ [(HB.box 2 [(V.sl 0 [] true), (V.int .i64 (if 0 < (if 1000 < x0 then 1000 else x0) then (if 1000 < x0 then 1000 else x0) else 0))])]))
theorem zlU (n : Nat) (x0 : Int) (h : ze) : call (n + 1) 57 [(V.int .i64 x0)] h = zql n x0 h := by kernel_rfl
noncomputable def zft (n : Nat) (s : Nat) (x : Int) (h : ze) : Option (Res × ze) :=
 (cl (call n 180 [(V.ptr s 0), (V.int .i32 x)] h) (fun r0 h1 =>
 (Zs r0 fun v3 =>
 (bv v3 fun b4 => if b4 then
 some (Res.ret [(V.agg [(V.int .u8 1), (V.int .i32 0)])], h1)
 else
 some (Res.ret [(V.agg [(V.int .u8 3), (V.int .i32 0)])], h1)))) (fun z2 h1 => some (Res.pan z2, h1)))
theorem zcJ (n : Nat) (s : Nat) (x : Int) (h : ze) : call (n + 1) 189 [(V.ptr s 0), (V.int .i32 x)] h = zft n s x h := by kernel_rfl
noncomputable def zjm (n : Nat) (s : Nat) (h : ze) : Option (Res × ze) :=
 (cl (call n 184 [(V.ptr s 0)] h) (fun r0 h1 =>
 (bd (r0)[0]? fun v3 =>
 (bd (r0)[1]? fun v4 =>
 (bv v4 fun b5 => if b5 then
 (bd (Ji prog 35 [(0, (V.int .u8 2)), (1, v3)]) fun cs6 =>
 (if (cs6).length = 2 then
 (if ((cs6).length <= 2) then
 some (Res.ret [(V.agg (((setR [(V.int .u8 0), (V.int .i32 0)] 0 cs6)).drop 0 |>.take 2))], h1) else none) else none))
 else
 some (Res.ret [(V.agg [(V.int .u8 4), (V.int .i32 0)])], h1))))) (fun z2 h1 => some (Res.pan z2, h1)))
noncomputable def zfu (n : Nat) (s : Nat) (x : Int) (h : ze) : Option (Res × ze) :=
 (bd (X1 prog h .eql 109 (V.ptr s 0) (V.val (.pointer none))) fun v0 =>
 (bv v0 fun b1 => if b1 then
 some (Res.ret [(V.bool false)], h)
 else
 (bd3 (zu h (V.ptr s 0)) fun cs3 m2 o4 => if (o4 + 1 <= m2 /\ 0 < 1) then
 (bd (cs3)[o4]? fun v5 =>
 (bd (Xq h v5) fun p6 =>
 (bd3 (zu h (V.ptr s 1)) fun cs8 m7 o9 => if (o9 + 1 <= m7 /\ 0 < 1) then
 (bd (cs8)[o9]? fun v10 =>
 (bd (bop prog .geq 3 (V.int .i64 ((p6.2).length : Int)) v10) fun v11 =>
 (bv v11 fun b12 => if b12 then
 some (Res.ret [(V.bool false)], h)
 else
 (bd3 (zu h (V.ptr s 0)) fun cs14 m13 o15 => if (o15 + 1 <= m13 /\ 0 < 1) then
 (bd (cs14)[o15]? fun v16 =>
 (bd2 (J4 21 1 h [[(V.int .i32 x)]] v16) fun v17 h18 =>
 (if ((V.cells v17)).length = 1 then
 (bd2 (Zp h18 (V.cells v17) (V.ptr s 0)) fun b19 x20 =>
 some (Res.ret [(V.bool true)], ((h18).set b19 x20))) else none))) else none)))) else none))) else none)))
theorem zcK (n : Nat) (s : Nat) (x : Int) (h : ze) : call (n + 1) 180 [(V.ptr s 0), (V.int .i32 x)] h = zfu n s x h := by kernel_rfl
noncomputable def zjn (n : Nat) (s : Nat) (h : ze) : Option (Res × ze) :=
 (cl (call n 169 [(V.ptr s 0)] h) (fun r0 h1 =>
 (Zs r0 fun v3 =>
 (bd (bop prog .eql 3 v3 (V.int .i64 0)) fun v4 =>
 (bv v4 fun b5 => if b5 then
 some (Res.ret [(V.int .i32 0), (V.bool false)], h1)
 else
 (bd3 (zu h1 (V.ptr s 0)) fun cs7 m6 o8 => if (o8 + 1 <= m6 /\ 0 < 1) then
 (bd (cs7)[o8]? fun v9 =>
 (bd (Xq h1 v9) fun p10 =>
 (bd3 (zu h1 (V.ptr s 0)) fun cs12 m11 o13 => if (o13 + 1 <= m11 /\ 0 < 1) then
 (bd (cs12)[o13]? fun v14 =>
 (bdS (nv (V.int .i64 (IntKind.i64.wrap (((p10.2).length : Int) - 1)))) fun n15 =>
 (bd (Xa 1 n15 v14) fun p16 =>
 (bd3 (zu h1 p16) fun cs18 m17 o19 => if (o19 + 1 <= m17 /\ 0 < 1) then
 (bd (cs18)[o19]? fun v20 =>
 (bd3 (zu h1 (V.ptr s 0)) fun cs22 m21 o23 => if (o23 + 1 <= m21 /\ 0 < 1) then
 (bd (cs22)[o23]? fun v24 =>
 (bd (zan v24) fun n25 =>
 (bdS (nv (V.int .i64 (IntKind.i64.wrap (((p10.2).length : Int) - 1)))) fun n26 =>
 (bd (Q7 1 0 n26 (none : Option Nat) true v24) fun v27 =>
 (if ((V.cells v27)).length = 1 then
 (bd2 (Zp h1 (V.cells v27) (V.ptr s 0)) fun b28 x29 =>
 some (Res.ret [v20, (V.bool true)], ((h1).set b28 x29))) else none))))) else none)) else none)))) else none))) else none))))) (fun z2 h1 => some (Res.pan z2, h1)))
theorem zew (n : Nat) (s : Nat) (h : ze) : call (n + 1) 184 [(V.ptr s 0)] h = zjn n s h := by kernel_rfl
noncomputable def zg5 (n : Nat) (s : Nat) (h : ze) : Option (Res × ze) :=
 (bd (X1 prog h .eql 109 (V.ptr s 0) (V.val (.pointer none))) fun v0 =>
 (bv v0 fun b1 => if b1 then
 some (Res.ret [(V.row (h).length 1 0 0)], (h ++ [(HB.row 21 1 [] true)]))
 else
 (bd3 (zu h (V.ptr s 0)) fun cs3 m2 o4 => if (o4 + 1 <= m2 /\ 0 < 1) then
 (bd (cs3)[o4]? fun v5 =>
 (bd (Xq h v5) fun p6 =>
 (if ((p6.1 = 1 \/ (p6.2).isEmpty = true) /\ (p6.2).length < lim) then
 some (Res.ret [(V.row (h).length 1 0 (p6.2).length)], (h ++ [(HB.row 21 1 p6.2 true)])) else none))) else none)))
theorem zg6 (n : Nat) (s : Nat) (h : ze) : call (n + 1) 168 [(V.ptr s 0)] h = zg5 n s h := by kernel_rfl
noncomputable def znk (n : Nat) (s : Nat) (h : ze) : Option (Res × ze) :=
 (bd (X1 prog h .eql 109 (V.ptr s 0) (V.val (.pointer none))) fun v0 =>
 (bv v0 fun b1 => if b1 then
 some (Res.ret [(V.int .i64 0)], h)
 else
 (bd3 (zu h (V.ptr s 0)) fun cs3 m2 o4 => if (o4 + 1 <= m2 /\ 0 < 1) then
 (bd (cs3)[o4]? fun v5 =>
 (bd (Xq h v5) fun p6 =>
 some (Res.ret [(V.int .i64 ((p6.2).length : Int))], h))) else none)))
theorem zlV (n : Nat) (s : Nat) (h : ze) : call (n + 1) 169 [(V.ptr s 0)] h = znk n s h := by kernel_rfl
noncomputable def zkH (n : Nat) (s : Nat) (h : ze) : Option (Res × ze) :=
 (bd (X1 prog h .eql 109 (V.ptr s 0) (V.val (.pointer none))) fun v0 =>
 (bv v0 fun b1 => if b1 then
 some (Res.ret [(V.int .i64 0)], h)
 else
 (bd3 (zu h (V.ptr s 1)) fun cs3 m2 o4 => if (o4 + 1 <= m2 /\ 0 < 1) then
 (bd (cs3)[o4]? fun v5 =>
 some (Res.ret [v5], h)) else none)))
theorem zjo (n : Nat) (s : Nat) (h : ze) : call (n + 1) 178 [(V.ptr s 0)] h = zkH n s h := by kernel_rfl
noncomputable def zkI (n : Nat) (s : Nat) (h : ze) : Option (Res × ze) :=
 (cl (call n 168 [(V.ptr s 0)] h) (fun r0 h1 =>
 (Zs r0 fun v3 =>
 (cl (call n 178 [(V.ptr s 0)] h1) (fun r4 h5 =>
 (Zs r4 fun v7 =>
 (bd (Ji prog 172 [(0, v3), (1, v7)]) fun cs8 =>
 (if (cs8).length = 2 then
 some (Res.ret [(V.ptr (h5).length 0)], (h5 ++ [(HB.box 2 cs8)])) else none)))) (fun z6 h5 => some (Res.pan z6, h5))))) (fun z2 h1 => some (Res.pan z2, h1)))
theorem zjp (n : Nat) (s : Nat) (h : ze) : call (n + 1) 175 [(V.ptr s 0)] h = zkI n s h := by kernel_rfl
noncomputable def znl (n : Nat) (s : Nat) (x : Int) (h : ze) : Option (Res × ze) :=
 (if (decide (0 ≥ 3)) then
 some (Res.ret [(V.agg [(V.int .u8 5), (V.int .i32 0)])], h)
 else
 some (Res.ret [(V.agg [(V.int .u8 5), (V.int .i32 0)])], h))
theorem zlW (n : Nat) (s : Nat) (x : Int) (h : ze) : call (n + 2) 177 [(V.ptr s 0), (V.agg [(V.int .u8 0), (V.int .i32 x)])] h = znl (n + 1) s x h := by kernel_rfl
noncomputable def zjq (n : Nat) (s : Nat) (x : Int) (h : ze) : Option (Res × ze) :=
 (if (decide (1 ≥ 3)) then
 some (Res.ret [(V.agg [(V.int .u8 5), (V.int .i32 0)])], h)
 else
 (cl (call n 189 [(V.ptr s 0), (V.int .i32 x)] h) (fun r3 h4 =>
 (Zs r3 fun v6 =>
 (if ((V.cells v6)).length = 2 then
 (if (((V.cells v6)).length <= 2) then
 some (Res.ret [(V.agg (((setR [(V.int .u8 0), (V.int .i32 0)] 0 (V.cells v6))).drop 0 |>.take 2))], h4) else none) else none))) (fun z5 h4 => none)))
theorem zex (n : Nat) (s : Nat) (x : Int) (h : ze) : call (n + 2) 177 [(V.ptr s 0), (V.agg [(V.int .u8 1), (V.int .i32 x)])] h = zjq (n + 1) s x h := by kernel_rfl
noncomputable def zjr (n : Nat) (s : Nat) (x : Int) (h : ze) : Option (Res × ze) :=
 (if (decide (2 ≥ 3)) then
 some (Res.ret [(V.agg [(V.int .u8 5), (V.int .i32 0)])], h)
 else
 (cl (call n 190 [(V.ptr s 0), (V.int .i32 x)] h) (fun r3 h4 =>
 (Zs r3 fun v6 =>
 (if ((V.cells v6)).length = 2 then
 (if (((V.cells v6)).length <= 2) then
 some (Res.ret [(V.agg (((setR [(V.int .u8 0), (V.int .i32 0)] 0 (V.cells v6))).drop 0 |>.take 2))], h4) else none) else none))) (fun z5 h4 => none)))
theorem zey (n : Nat) (s : Nat) (x : Int) (h : ze) : call (n + 2) 177 [(V.ptr s 0), (V.agg [(V.int .u8 2), (V.int .i32 x)])] h = zjr (n + 1) s x h := by kernel_rfl
end Go.Proofs.Tryz
namespace Go.Proofs.Tryz
open Go.L
set_option maxRecDepth 100000
noncomputable def zo0 (n : Nat) (h : ze) : Option (Res × ze) :=
 some (Res.ret [(V.ptr (h).length 0)], (h ++ [(HB.box 1 [(V.sl 0 [] true)])]))
theorem zjs (n : Nat) (h : ze) : call (n + 1) 62 [] h = zo0 n h := by kernel_rfl
noncomputable def zg7 (n : Nat) (c : Nat) (h : ze) : Option (Res × ze) :=
 (bd (X1 prog h .eql 122 (V.ptr c 0) (V.val (.pointer none))) fun v0 =>
 (bv v0 fun b1 => if b1 then
 some (Res.ret [(V.int .i64 0)], h)
 else
 (bd3 (zu h (V.ptr c 0)) fun cs3 m2 o4 => if (o4 + 1 <= m2 /\ 0 < 1) then
 (bd (cs3)[o4]? fun v5 =>
 (bd (Xq h v5) fun p6 =>
 some (Res.ret [(V.int .i64 ((p6.2).length : Int))], h))) else none)))
theorem zg8 (n : Nat) (c : Nat) (h : ze) : call (n + 1) 243 [(V.ptr c 0)] h = zg7 n c h := by kernel_rfl
noncomputable def zg9 (n : Nat) (c : Nat) (h : ze) : Option (Res × ze) :=
 (cl (call n 243 [(V.ptr c 0)] h) (fun r0 h1 =>
 (Zs r0 fun v3 =>
 (bd (bop prog .eql 3 v3 (V.int .i64 0)) fun v4 =>
 (bv v4 fun b5 => if b5 then
 some (Res.ret [(V.bool false)], h1)
 else
 (bd3 (zu h1 (V.ptr c 0)) fun cs7 m6 o8 => if (o8 + 1 <= m6 /\ 0 < 1) then
 (bd (cs7)[o8]? fun v9 =>
 (bd (Xa 1 0 v9) fun p10 =>
 (bd3 (zu h1 p10) fun cs12 m11 o13 => if (o13 + 1 <= m11 /\ 0 < 1) then
 (bd (cs12)[o13]? fun v14 =>
 (bd3 (zu h1 (V.ptr c 0)) fun cs16 m15 o17 => if (o17 + 1 <= m15 /\ 0 < 1) then
 (bd (cs16)[o17]? fun v18 =>
 (bd (zan v18) fun n19 =>
 (bd (Q7 1 1 n19 (none : Option Nat) true v18) fun v20 =>
 (if ((V.cells v20)).length = 1 then
 (bd2 (Zp h1 (V.cells v20) (V.ptr c 0)) fun b21 x22 =>
 some (Res.ret [v14], ((h1).set b21 x22))) else none)))) else none)) else none))) else none))))) (fun z2 h1 => some (Res.pan z2, h1)))
theorem zha (n : Nat) (c : Nat) (h : ze) : call (n + 1) 236 [(V.ptr c 0)] h = zg9 n c h := by kernel_rfl
noncomputable def Wh (n : Nat) (c : Nat) (st1 : List V) (hh2 : ze) (next3 : List V -> ze -> Option (Res × ze)) : Option (Res × ze) :=
 (bd (bop prog .eql 3 (gv st1 0) (V.int .i64 8)) fun v4 =>
 (bv v4 fun b5 => if b5 then
 some (Res.ret [(gv st1 0)], hh2)
 else
 (cl (call n 236 [(V.ptr c 0)] hh2) (fun r6 h7 =>
 (Zs r6 fun v9 =>
 (bd (uop .not v9) fun v10 =>
 (bv v10 fun b11 => if b11 then
 some (Res.ret [(gv st1 0)], h7)
 else
 (bd (bop prog .add 3 (gv st1 0) (V.int .i64 1)) fun v12 =>
 (next3 [v12] h7)))))) (fun z8 h7 => some (Res.pan z8, h7)))))
noncomputable def zcL (n : Nat) (c : Nat) (h : ze) : Option (Res × ze) :=
 (Ze n (Wh n c) [(V.int .i64 1)] h)
theorem zdG (n : Nat) (c : Nat) (h : ze) : call (n + 1) 227 [(V.ptr c 0)] h = zcL n c h := by kernel_rfl
noncomputable def QY (n : Nat) (c : Nat) (st4 : List V) (next6 : List V -> ze -> Option (Res × ze)) (v14 : V) (st16 : List V) (hh17 : ze) (next18 : List V -> ze -> Option (Res × ze)) : Option (Res × ze) :=
 (bd (bop prog .lss 3 (gv st16 0) (V.int .i64 8)) fun v19 =>
 (bv v19 fun b20 => if b20 then
 (bd3 (zu hh17 (V.ptr c 0)) fun cs22 m21 o23 => if (o23 + 1 <= m21 /\ 0 < 1) then
 (bd (cs22)[o23]? fun v24 =>
 (bd (Xq hh17 v24) fun p25 =>
 (if (((p25.2).length : Int) == 20000) then
 some (Res.ret [], hh17)
 else
 (bd3 (zu hh17 (V.ptr c 0)) fun cs27 m26 o28 => if (o28 + 1 <= m26 /\ 0 < 1) then
 (bd (cs27)[o28]? fun v29 =>
 (bd (bop prog .shr 5 v14 (gv st16 0)) fun v30 =>
 (bd (bop prog .and 5 v30 (V.int .u8 1)) fun v31 =>
 (bd (bop prog .eql 5 v31 (V.int .u8 1)) fun v32 =>
 (bd (jX prog 73 1 [(0, v32)]) fun p33 =>
 (bd2 (J4 4 1 hh17 p33.2 v29) fun v34 h35 =>
 (if ((V.cells v34)).length = 1 then
 (bd2 (Zp h35 (V.cells v34) (V.ptr c 0)) fun b36 x37 =>
 (bd (bop prog .add 3 (gv st16 0) (V.int .i64 1)) fun v38 =>
 (next18 [v38] ((h35).set b36 x37)))) else none))))))) else none)))) else none)
 else
 (bd (bop prog .add 3 (gv st4 0) (V.int .i64 1)) fun v39 =>
 (next6 [v39] hh17))))
noncomputable def JH (n : Nat) (c : Nat) (l : V) (p2 : Nat × List (List V)) (st4 : List V) (hh5 : ze) (next6 : List V -> ze -> Option (Res × ze)) : Option (Res × ze) :=
 (bd (bop prog .lss 3 (gv st4 0) (V.int .i64 ((p2.2).length : Int))) fun v7 =>
 (bv v7 fun b8 => if b8 then
 (bdS (nv (gv st4 0)) fun n9 =>
 (bd (Xa 1 n9 l) fun p10 =>
 (bd3 (zu hh5 p10) fun cs12 m11 o13 => if (o13 + 1 <= m11 /\ 0 < 1) then
 (bd (cs12)[o13]? fun v14 =>
 (Ze n (QY n c st4 next6 v14) [(V.int .i64 0)] hh5)) else none)))
 else
 some (Res.ret [], hh5)))
noncomputable def zhb (n : Nat) (c : Nat) (l : V) (h : ze) : Option (Res × ze) :=
 (bd (X1 prog h .eql 122 (V.ptr c 0) (V.val (.pointer none))) fun v0 =>
 (bv v0 fun b1 => if b1 then
 some (Res.ret [], h)
 else
 (bd (Xq h l) fun p2 =>
 (Ze n (JH n c l p2) [(V.int .i64 0)] h))))
theorem zhc (n : Nat) (c : Nat) (l : V) (h : ze) : call (n + 1) 65 [(V.ptr c 0), l] h = zhb n c l h := by kernel_rfl
noncomputable def zkJ (n : Nat) (x0 : Int) (h : ze) : Option (Res × ze) :=
 some (Res.ret [(V.ptr (h).length 0)], (h ++ [(HB.box 12 [(V.int .i32 0), (V.int .i64 0), (V.val (.pointer none)), (V.val (.pointer none)), (V.val (.pointer none)), (V.val (.pointer none)), (V.val (.pointer none)), (V.val (.pointer none)), (V.val (.pointer none)), (V.val (.pointer none)), (V.int .i64 0), (V.int .i64 (if 0 < (if 1000 < x0 then 1000 else x0) then (if 1000 < x0 then 1000 else x0) else 0))])]))
theorem zjt (n : Nat) (x0 : Int) (h : ze) : call (n + 1) 61 [(V.int .i64 x0)] h = zkJ n x0 h := by kernel_rfl
noncomputable def zhd (n : Nat) (s : Nat) (h : ze) : Option (Res × ze) :=
 (bd (X1 prog h .eql 117 (V.ptr s 0) (V.val (.pointer none))) fun v0 =>
 (bv v0 fun b1 => if b1 then
 some (Res.ret [(V.int .i64 0)], h)
 else
 (bd3 (zu h (V.ptr s 11)) fun cs3 m2 o4 => if (o4 + 1 <= m2 /\ 0 < 1) then
 (bd (cs3)[o4]? fun v5 =>
 some (Res.ret [v5], h)) else none)))
theorem zhe (n : Nat) (s : Nat) (h : ze) : call (n + 1) 226 [(V.ptr s 0)] h = zhd n s h := by kernel_rfl
noncomputable def zkK (n : Nat) (s : Nat) (h : ze) : Option (Res × ze) :=
 (bd (X1 prog h .eql 117 (V.ptr s 0) (V.val (.pointer none))) fun v0 =>
 (bv v0 fun b1 => if b1 then
 some (Res.ret [(V.int .i64 0)], h)
 else
 (bd3 (zu h (V.ptr s 10)) fun cs3 m2 o4 => if (o4 + 1 <= m2 /\ 0 < 1) then
 (bd (cs3)[o4]? fun v5 =>
 some (Res.ret [v5], h)) else none)))
theorem zju (n : Nat) (s : Nat) (h : ze) : call (n + 1) 218 [(V.ptr s 0)] h = zkK n s h := by kernel_rfl
noncomputable def JX (n : Nat) (s : Nat) (st1 : List V) (hh2 : ze) (next3 : List V -> ze -> Option (Res × ze)) : Option (Res × ze) :=
 (bd (bop prog .lss 3 (gv st1 2) (V.int .i64 8)) fun v4 =>
 (bv v4 fun b5 => if b5 then
 (bd (nv (gv st1 2)) fun n6 =>
 (if (n6 < 8) then
 (if (0 = 0 /\ (n6 * 1) + 1 <= 8) then
 (bd (bop prog .add 3 (gv st1 2) (V.int .i64 1)) fun v7 =>
 (next3 [(V.agg (lcs (gv st1 0))), (V.agg (setR (lcs (gv st1 1)) (n6 * 1) [(V.ptr s 0)])), v7] hh2)) else none) else none))
 else
 (if ((((lcs (gv st1 1))).drop 0 |>.take 8)).length = 8 then
 (if (((((lcs (gv st1 1))).drop 0 |>.take 8)).length <= 8) then
 some (Res.ret [(V.agg (((setR (lcs (gv st1 0)) 0 (((lcs (gv st1 1))).drop 0 |>.take 8))).drop 0 |>.take 8))], hh2) else none) else none)))
noncomputable def zez (n : Nat) (s : Nat) (h : ze) : Option (Res × ze) :=
 (Ze n (JX n s) [(V.agg [(V.val (.pointer none)), (V.val (.pointer none)), (V.val (.pointer none)), (V.val (.pointer none)), (V.val (.pointer none)), (V.val (.pointer none)), (V.val (.pointer none)), (V.val (.pointer none))]), (V.agg [(V.val (.pointer none)), (V.val (.pointer none)), (V.val (.pointer none)), (V.val (.pointer none)), (V.val (.pointer none)), (V.val (.pointer none)), (V.val (.pointer none)), (V.val (.pointer none))]), (V.int .i64 0)] h)
theorem zfv (n : Nat) (s : Nat) (h : ze) : call (n + 1) 230 [(V.ptr s 0)] h = zez n s h := by kernel_rfl
noncomputable def zkL (n : Nat) (t : Nat) (o : Nat) (h : ze) : Option (Res × ze) :=
 (bd (X1 prog h .eql 177 (V.ptr t 0) (V.ptr o 0)) fun v0 =>
 (bv v0 fun b1 => if b1 then
 some (Res.ret [(V.bool false)], h)
 else
 (bd3 (zu h (V.ptr t 1)) fun cs3 m2 o4 => if (o4 + 1 <= m2 /\ 0 < 1) then
 (bd (cs3)[o4]? fun v5 =>
 (bd (bop prog .eql 3 v5 (V.int .i64 0)) fun v6 =>
 (bv v6 fun b7 => if b7 then
 some (Res.ret [(V.bool false)], h)
 else
 (bd3 (zu h (V.ptr o 1)) fun cs9 m8 o10 => if (o10 + 1 <= m8 /\ 0 < 1) then
 (bd (cs9)[o10]? fun v11 =>
 (bd (bop prog .eql 3 v11 (V.int .i64 0)) fun v12 =>
 (bv v12 fun b13 => if b13 then
 some (Res.ret [(V.bool true)], h)
 else
 (bd3 (zu h (V.ptr t 0)) fun cs15 m14 o16 => if (o16 + 1 <= m14 /\ 0 < 1) then
 (bd (cs15)[o16]? fun v17 =>
 (bd3 (zu h (V.ptr o 0)) fun cs19 m18 o20 => if (o20 + 1 <= m18 /\ 0 < 1) then
 (bd (cs19)[o20]? fun v21 =>
 (bd (bop prog .geq 21 v17 v21) fun v22 =>
 some (Res.ret [v22], h))) else none)) else none)))) else none)))) else none)))
theorem zjv (n : Nat) (t : Nat) (o : Nat) (h : ze) : call (n + 1) 245 [(V.ptr t 0), (V.ptr o 0)] h = zkL n t o h := by kernel_rfl
noncomputable def tall (n : Nat) (x0 : Int) (x1 : Int) (h : ze) : Option (Res × ze) :=
 some (Res.ret [(V.ptr (h).length 0)], (h ++ [(HB.box 10 [(V.int .i32 x0), (V.int .i64 (if 1 < (if 8 < x1 then 8 else x1) then (if 8 < x1 then 8 else x1) else 1)), (V.val (.pointer none)), (V.val (.pointer none)), (V.val (.pointer none)), (V.val (.pointer none)), (V.val (.pointer none)), (V.val (.pointer none)), (V.val (.pointer none)), (V.val (.pointer none))])]))
theorem zo1 (n : Nat) (x0 : Int) (x1 : Int) (h : ze) : call (n + 1) 232 [(V.int .i32 x0), (V.int .i64 x1)] h = tall n x0 x1 h := by kernel_rfl
noncomputable def X5 (n : Nat) (v : Int) (st1 : List V) (next3 : List V -> ze -> Option (Res × ze)) (st19 : List V) (hh20 : ze) (next21 : List V -> ze -> Option (Res × ze)) : Option (Res × ze) :=
 (bd (X1 prog hh20 .neq 177 (gv st19 3) (V.val (.pointer none))) fun v22 =>
 (bv v22 fun b23 => if b23 then
 (bd (ZN 0 (gv st19 3)) fun p24 =>
 (bd (ZN 0 p24) fun p25 =>
 (bd3 (zu hh20 p25) fun cs27 m26 o28 => if (o28 + 1 <= m26 /\ 0 < 1) then
 (bd (cs27)[o28]? fun v29 =>
 (bd (bop prog .leq 21 v29 (V.int .i32 v)) fun v30 =>
 (bv v30 fun b31 => if b31 then
 (bd (ZN 0 (gv st19 3)) fun p32 =>
 (bd (ZN 2 p32) fun p33 =>
 (bd (nv (gv st1 3)) fun n34 =>
 (if (n34 < 8) then
 (bd (ZN (n34 * 1) p33) fun p35 =>
 (bd3 (zu hh20 p35) fun cs37 m36 o38 => if (o38 + 1 <= m36 /\ 0 < 1) then
 (bd (cs37)[o38]? fun v39 =>
 (next21 [(V.agg (lcs (gv st19 0))), (V.agg (lcs (gv st19 1))), (gv st19 3), v39] hh20)) else none)) else none))))
 else
 (bd (nv (gv st1 3)) fun n40 =>
 (if (n40 < 8) then
 (if ((V.cells (gv st19 2))).length = 1 then
 (if (0 = 0 /\ (n40 * 1) + ((V.cells (gv st19 2))).length <= 8) then
 (bd (bop prog .sub 3 (gv st1 3) (V.int .i64 1)) fun v41 =>
 (next3 [(V.agg (setR (lcs (gv st19 0)) (n40 * 1) (V.cells (gv st19 2)))), (V.agg (lcs (gv st19 1))), (gv st19 2), v41] hh20)) else none) else none) else none))))) else none)))
 else
 (bd (nv (gv st1 3)) fun n42 =>
 (if (n42 < 8) then
 (if ((V.cells (gv st19 2))).length = 1 then
 (if (0 = 0 /\ (n42 * 1) + ((V.cells (gv st19 2))).length <= 8) then
 (bd (bop prog .sub 3 (gv st1 3) (V.int .i64 1)) fun v43 =>
 (next3 [(V.agg (setR (lcs (gv st19 0)) (n42 * 1) (V.cells (gv st19 2)))), (V.agg (lcs (gv st19 1))), (gv st19 2), v43] hh20)) else none) else none) else none))))
noncomputable def zcM (n : Nat) (v : Int) (st1 : List V) (next3 : List V -> ze -> Option (Res × ze)) (st62 : List V) (hh63 : ze) (next64 : List V -> ze -> Option (Res × ze)) : Option (Res × ze) :=
 (bd (X1 prog hh63 .neq 177 (gv st62 3) (V.val (.pointer none))) fun v65 =>
 (bv v65 fun b66 => if b66 then
 (bd (ZN 0 (gv st62 3)) fun p67 =>
 (bd (ZN 0 p67) fun p68 =>
 (bd3 (zu hh63 p68) fun cs70 m69 o71 => if (o71 + 1 <= m69 /\ 0 < 1) then
 (bd (cs70)[o71]? fun v72 =>
 (bd (bop prog .leq 21 v72 (V.int .i32 v)) fun v73 =>
 (bv v73 fun b74 => if b74 then
 (bd (ZN 0 (gv st62 3)) fun p75 =>
 (bd (ZN 2 p75) fun p76 =>
 (bd (nv (gv st1 3)) fun n77 =>
 (if (n77 < 8) then
 (bd (ZN (n77 * 1) p76) fun p78 =>
 (bd3 (zu hh63 p78) fun cs80 m79 o81 => if (o81 + 1 <= m79 /\ 0 < 1) then
 (bd (cs80)[o81]? fun v82 =>
 (next64 [(V.agg (lcs (gv st62 0))), (V.agg (lcs (gv st62 1))), (gv st62 3), v82] hh63)) else none)) else none))))
 else
 (bd (nv (gv st1 3)) fun n83 =>
 (if (n83 < 8) then
 (if ((V.cells (gv st62 2))).length = 1 then
 (if (0 = 0 /\ (n83 * 1) + ((V.cells (gv st62 2))).length <= 8) then
 (bd (bop prog .sub 3 (gv st1 3) (V.int .i64 1)) fun v84 =>
 (next3 [(V.agg (setR (lcs (gv st62 0)) (n83 * 1) (V.cells (gv st62 2)))), (V.agg (lcs (gv st62 1))), (gv st62 2), v84] hh63)) else none) else none) else none))))) else none)))
 else
 (bd (nv (gv st1 3)) fun n85 =>
 (if (n85 < 8) then
 (if ((V.cells (gv st62 2))).length = 1 then
 (if (0 = 0 /\ (n85 * 1) + ((V.cells (gv st62 2))).length <= 8) then
 (bd (bop prog .sub 3 (gv st1 3) (V.int .i64 1)) fun v86 =>
 (next3 [(V.agg (setR (lcs (gv st62 0)) (n85 * 1) (V.cells (gv st62 2)))), (V.agg (lcs (gv st62 1))), (gv st62 2), v86] hh63)) else none) else none) else none))))
noncomputable def zcN (n : Nat) (v : Int) (st1 : List V) (next3 : List V -> ze -> Option (Res × ze)) (st96 : List V) (hh97 : ze) (next98 : List V -> ze -> Option (Res × ze)) : Option (Res × ze) :=
 (bd (X1 prog hh97 .neq 177 (gv st96 3) (V.val (.pointer none))) fun v99 =>
 (bv v99 fun b100 => if b100 then
 (bd (ZN 0 (gv st96 3)) fun p101 =>
 (bd (ZN 0 p101) fun p102 =>
 (bd3 (zu hh97 p102) fun cs104 m103 o105 => if (o105 + 1 <= m103 /\ 0 < 1) then
 (bd (cs104)[o105]? fun v106 =>
 (bd (bop prog .leq 21 v106 (V.int .i32 v)) fun v107 =>
 (bv v107 fun b108 => if b108 then
 (bd (ZN 0 (gv st96 3)) fun p109 =>
 (bd (ZN 2 p109) fun p110 =>
 (bd (nv (gv st1 3)) fun n111 =>
 (if (n111 < 8) then
 (bd (ZN (n111 * 1) p110) fun p112 =>
 (bd3 (zu hh97 p112) fun cs114 m113 o115 => if (o115 + 1 <= m113 /\ 0 < 1) then
 (bd (cs114)[o115]? fun v116 =>
 (next98 [(V.agg (lcs (gv st96 0))), (V.agg (lcs (gv st96 1))), (gv st96 3), v116] hh97)) else none)) else none))))
 else
 (bd (nv (gv st1 3)) fun n117 =>
 (if (n117 < 8) then
 (if ((V.cells (gv st96 2))).length = 1 then
 (if (0 = 0 /\ (n117 * 1) + ((V.cells (gv st96 2))).length <= 8) then
 (bd (bop prog .sub 3 (gv st1 3) (V.int .i64 1)) fun v118 =>
 (next3 [(V.agg (setR (lcs (gv st96 0)) (n117 * 1) (V.cells (gv st96 2)))), (V.agg (lcs (gv st96 1))), (gv st96 2), v118] hh97)) else none) else none) else none))))) else none)))
 else
 (bd (nv (gv st1 3)) fun n119 =>
 (if (n119 < 8) then
 (if ((V.cells (gv st96 2))).length = 1 then
 (if (0 = 0 /\ (n119 * 1) + ((V.cells (gv st96 2))).length <= 8) then
 (bd (bop prog .sub 3 (gv st1 3) (V.int .i64 1)) fun v120 =>
 (next3 [(V.agg (setR (lcs (gv st96 0)) (n119 * 1) (V.cells (gv st96 2)))), (V.agg (lcs (gv st96 1))), (gv st96 2), v120] hh97)) else none) else none) else none))))
noncomputable def JI (n : Nat) (v : Int) (st1 : List V) (hh2 : ze) (next3 : List V -> ze -> Option (Res × ze)) : Option (Res × ze) :=
 (bd (bop prog .geq 3 (gv st1 3) (V.int .i64 0)) fun v4 =>
 (bv v4 fun b5 => if b5 then
 (bd (X1 prog hh2 .eql 177 (gv st1 2) (V.val (.pointer none))) fun v6 =>
 (bv v6 fun b7 => if b7 then
 (bd (nv (gv st1 3)) fun n8 =>
 (if (n8 < 8) then
 (if ((n8 * 1) + 1 <= 8 /\ 0 < 1) then
 (bd ((lcs (gv st1 0)))[(n8 * 1)]? fun v9 =>
 (bd (ZN 0 v9) fun p10 =>
 (bd (ZN 2 p10) fun p11 =>
 (bd (nv (gv st1 3)) fun n12 =>
 (if (n12 < 8) then
 (bd (ZN (n12 * 1) p11) fun p13 =>
 (bd3 (zu hh2 p13) fun cs15 m14 o16 => if (o16 + 1 <= m14 /\ 0 < 1) then
 (bd (cs15)[o16]? fun v17 =>
 (Ze n (X5 n v st1 next3) [(V.agg (lcs (gv st1 0))), (V.agg (lcs (gv st1 1))), v9, v17] hh2)) else none)) else none))))) else none) else none))
 else
 (bd (nv (gv st1 3)) fun n44 =>
 (if (n44 < 8) then
 (if ((n44 * 1) + 1 <= 8 /\ 0 < 1) then
 (bd ((lcs (gv st1 0)))[(n44 * 1)]? fun v45 =>
 (cl (call n 245 [v45, (gv st1 2)] hh2) (fun r46 h47 =>
 (Zs r46 fun v49 =>
 (bv v49 fun b50 => if b50 then
 (bd (nv (gv st1 3)) fun n51 =>
 (if (n51 < 8) then
 (if ((n51 * 1) + 1 <= 8 /\ 0 < 1) then
 (bd ((lcs (gv st1 0)))[(n51 * 1)]? fun v52 =>
 (bd (ZN 0 v52) fun p53 =>
 (bd (ZN 2 p53) fun p54 =>
 (bd (nv (gv st1 3)) fun n55 =>
 (if (n55 < 8) then
 (bd (ZN (n55 * 1) p54) fun p56 =>
 (bd3 (zu h47 p56) fun cs58 m57 o59 => if (o59 + 1 <= m57 /\ 0 < 1) then
 (bd (cs58)[o59]? fun v60 =>
 (Ze n (zcM n v st1 next3) [(V.agg (lcs (gv st1 0))), (V.agg (lcs (gv st1 1))), v52, v60] h47)) else none)) else none))))) else none) else none))
 else
 (bd (ZN 0 (gv st1 2)) fun p87 =>
 (bd (ZN 2 p87) fun p88 =>
 (bd (nv (gv st1 3)) fun n89 =>
 (if (n89 < 8) then
 (bd (ZN (n89 * 1) p88) fun p90 =>
 (bd3 (zu h47 p90) fun cs92 m91 o93 => if (o93 + 1 <= m91 /\ 0 < 1) then
 (bd (cs92)[o93]? fun v94 =>
 (Ze n (zcN n v st1 next3) [(V.agg (lcs (gv st1 0))), (V.agg (lcs (gv st1 1))), (gv st1 2), v94] h47)) else none)) else none))))))) (fun z48 h47 => some (Res.pan z48, h47)))) else none) else none))))
 else
 (if ((((lcs (gv st1 0))).drop 0 |>.take 8)).length = 8 then
 (if (((((lcs (gv st1 0))).drop 0 |>.take 8)).length <= 8) then
 some (Res.ret [(V.agg (((setR (lcs (gv st1 1)) 0 (((lcs (gv st1 0))).drop 0 |>.take 8))).drop 0 |>.take 8))], hh2) else none) else none)))
noncomputable def znm (n : Nat) (p : List V) (v : Int) (h : ze) : Option (Res × ze) :=
 (if (p).length = 8 then
 (Ze n (JI n v) [(V.agg p), (V.agg [(V.val (.pointer none)), (V.val (.pointer none)), (V.val (.pointer none)), (V.val (.pointer none)), (V.val (.pointer none)), (V.val (.pointer none)), (V.val (.pointer none)), (V.val (.pointer none))]), (V.val (.pointer none)), (V.int .i64 7)] h) else none)
theorem zlX (n : Nat) (p : List V) (v : Int) (h : ze) : call (n + 1) 238 [(V.agg p), (V.int .i32 v)] h = znm n p v h := by kernel_rfl
noncomputable def W4 (n : Nat) (t : Nat) (v3 : V) (st5 : List V) (hh6 : ze) (next7 : List V -> ze -> Option (Res × ze)) : Option (Res × ze) :=
 (bd (bop prog .lss 3 (gv st5 2) v3) fun v8 =>
 (bv v8 fun b9 => if b9 then
 (bd (nv (gv st5 2)) fun n10 =>
 (if (n10 < 8) then
 (if ((n10 * 1) + 1 <= 8 /\ 0 < 1) then
 (bd ((lcs (gv st5 0)))[(n10 * 1)]? fun v11 =>
 (bd (ZN 0 v11) fun p12 =>
 (bd (ZN 2 p12) fun p13 =>
 (bd (nv (gv st5 2)) fun n14 =>
 (if (n14 < 8) then
 (bd (ZN (n14 * 1) p13) fun p15 =>
 (bd3 (zu hh6 p15) fun cs17 m16 o18 => if (o18 + 1 <= m16 /\ 0 < 1) then
 (bd (cs17)[o18]? fun v19 =>
 (bd (nv (gv st5 2)) fun n20 =>
 (if (n20 < 8) then
 (if ((V.cells v19)).length = 1 then
 (bd2 (Zp hh6 (V.cells v19) (V.ptr t (2 + (n20 * 1)))) fun b21 x22 =>
 (bd (nv (gv st5 2)) fun n23 =>
 (if (n23 < 8) then
 (if ((n23 * 1) + 1 <= 8 /\ 0 < 1) then
 (bd ((lcs (gv st5 0)))[(n23 * 1)]? fun v24 =>
 (bd (ZN 0 v24) fun p25 =>
 (bd (ZN 2 p25) fun p26 =>
 (bd (nv (gv st5 2)) fun n27 =>
 (if (n27 < 8) then
 (bd (ZN (n27 * 1) p26) fun p28 =>
 (bd2 (Zp ((hh6).set b21 x22) [(V.ptr t 0)] p28) fun b29 x30 =>
 (bd (nv (gv st5 2)) fun n31 =>
 (if (n31 < 8) then
 (if (0 = 0 /\ (n31 * 1) + 1 <= 8) then
 (bd (bop prog .add 3 (gv st5 2) (V.int .i64 1)) fun v32 =>
 (next7 [(V.agg (setR (lcs (gv st5 0)) (n31 * 1) [(V.ptr t 0)])), (V.agg (lcs (gv st5 1))), v32] ((((hh6).set b21 x22)).set b29 x30))) else none) else none)))) else none))))) else none) else none))) else none) else none))) else none)) else none))))) else none) else none))
 else
 (if ((((lcs (gv st5 0))).drop 0 |>.take 8)).length = 8 then
 (if (((((lcs (gv st5 0))).drop 0 |>.take 8)).length <= 8) then
 some (Res.ret [(V.agg (((setR (lcs (gv st5 1)) 0 (((lcs (gv st5 0))).drop 0 |>.take 8))).drop 0 |>.take 8))], hh6) else none) else none)))
noncomputable def zkM (n : Nat) (p : List V) (t : Nat) (h : ze) : Option (Res × ze) :=
 (if (p).length = 8 then
 (bd3 (zu h (V.ptr t 1)) fun cs1 m0 o2 => if (o2 + 1 <= m0 /\ 0 < 1) then
 (bd (cs1)[o2]? fun v3 =>
 (Ze n (W4 n t v3) [(V.agg p), (V.agg [(V.val (.pointer none)), (V.val (.pointer none)), (V.val (.pointer none)), (V.val (.pointer none)), (V.val (.pointer none)), (V.val (.pointer none)), (V.val (.pointer none)), (V.val (.pointer none))]), (V.int .i64 0)] h)) else none) else none)
theorem zjw (n : Nat) (p : List V) (t : Nat) (h : ze) : call (n + 1) 231 [(V.agg p), (V.ptr t 0)] h = zkM n p t h := by kernel_rfl
noncomputable def zcO (n : Nat) (s : Nat) (v : Int) (k : Int) (h : ze) : Option (Res × ze) :=
 (bd (X1 prog h .eql 117 (V.ptr s 0) (V.val (.pointer none))) fun v0 =>
 (bv v0 fun b1 => if b1 then
 some (Res.ret [(V.bool false)], h)
 else
 (bd3 (zu h (V.ptr s 10)) fun cs3 m2 o4 => if (o4 + 1 <= m2 /\ 0 < 1) then
 (bd (cs3)[o4]? fun v5 =>
 (bd3 (zu h (V.ptr s 11)) fun cs7 m6 o8 => if (o8 + 1 <= m6 /\ 0 < 1) then
 (bd (cs7)[o8]? fun v9 =>
 (bd (bop prog .geq 3 v5 v9) fun v10 =>
 (bv v10 fun b11 => if b11 then
 some (Res.ret [(V.bool false)], h)
 else
 (cl (call n 230 [(V.ptr s 0)] h) (fun r12 h13 =>
 (Zs r12 fun v15 =>
 (cl (call n 238 [v15, (V.int .i32 v)] h13) (fun r16 h17 =>
 (Zs r16 fun v19 =>
 (cl (call n 232 [(V.int .i32 v), (V.int .i64 k)] h17) (fun r20 h21 =>
 (Zs r20 fun v23 =>
 (cl (call n 231 [v19, v23] h21) (fun r24 h25 =>
 (Zs r24 fun v27 =>
 (bd3 (zu h25 (V.ptr s 10)) fun cs29 m28 o30 => if (o30 + 1 <= m28 /\ 0 < 1) then
 (bd (cs29)[o30]? fun v31 =>
 (bd (bop prog .add 3 v31 (V.int .i64 1)) fun v32 =>
 (if ((V.cells v32)).length = 1 then
 (bd2 (Zp h25 (V.cells v32) (V.ptr s 10)) fun b33 x34 =>
 some (Res.ret [(V.bool true)], ((h25).set b33 x34))) else none))) else none))) (fun z26 h25 => some (Res.pan z26, h25))))) (fun z22 h21 => some (Res.pan z22, h21))))) (fun z18 h17 => some (Res.pan z18, h17))))) (fun z14 h13 => some (Res.pan z14, h13)))))) else none)) else none)))
theorem zdH (n : Nat) (s : Nat) (v : Int) (k : Int) (h : ze) : call (n + 1) 233 [(V.ptr s 0), (V.int .i32 v), (V.int .i64 k)] h = zcO n s v k h := by kernel_rfl
noncomputable def Ju (n : Nat) (s : Nat) (l : V) (m : V) (p15 : Nat × List (List V)) (st17 : List V) (hh18 : ze) (next19 : List V -> ze -> Option (Res × ze)) : Option (Res × ze) :=
 (bd (bop prog .lss 3 (gv st17 4) (V.int .i64 ((p15.2).length : Int))) fun v20 =>
 (bv v20 fun b21 => if b21 then
 (bdS (nv (gv st17 4)) fun n22 =>
 (bd (Xa 1 n22 l) fun p23 =>
 (bd3 (zu hh18 p23) fun cs25 m24 o26 => if (o26 + 1 <= m24 /\ 0 < 1) then
 (bd (cs25)[o26]? fun v27 =>
 (bd3 (zu hh18 (V.ptr s 10)) fun cs29 m28 o30 => if (o30 + 1 <= m28 /\ 0 < 1) then
 (bd (cs29)[o30]? fun v31 =>
 (bd3 (zu hh18 (V.ptr s 11)) fun cs33 m32 o34 => if (o34 + 1 <= m32 /\ 0 < 1) then
 (bd (cs33)[o34]? fun v35 =>
 (bd (bop prog .geq 3 v31 v35) fun v36 =>
 (bv v36 fun b37 => if b37 then
 some (Res.ret [(V.sl 1 (lsl (gv st17 1)) false)], hh18)
 else
 (bd (Xq hh18 m) fun p38 =>
 (bd (bop prog .lss 3 (gv st17 4) (V.int .i64 ((p38.2).length : Int))) fun v39 =>
 (bv v39 fun b40 => if b40 then
 (bdS (nv (gv st17 4)) fun n41 =>
 (bd (Xa 1 n41 m) fun p42 =>
 (bd3 (zu hh18 p42) fun cs44 m43 o45 => if (o45 + 1 <= m43 /\ 0 < 1) then
 (bd (cs44)[o45]? fun v46 =>
 (cl (call n 238 [(V.agg (((lcs (gv st17 2))).drop 0 |>.take 8)), v27] hh18) (fun r47 h48 =>
 (Zs r47 fun v50 =>
 (cl (call n 232 [v27, v46] h48) (fun r51 h52 =>
 (Zs r51 fun v54 =>
 (cl (call n 231 [v50, v54] h52) (fun r55 h56 =>
 (Zs r55 fun v58 =>
 (if ((V.cells v58)).length = 8 then
 (if (((V.cells v58)).length <= 8) then
 (bd3 (zu h56 (V.ptr s 10)) fun cs60 m59 o61 => if (o61 + 1 <= m59 /\ 0 < 1) then
 (bd (cs60)[o61]? fun v62 =>
 (bd (bop prog .add 3 v62 (V.int .i64 1)) fun v63 =>
 (if ((V.cells v63)).length = 1 then
 (bd2 (Zp h56 (V.cells v63) (V.ptr s 10)) fun b64 x65 =>
 (bdS (nv (gv st17 4)) fun n66 =>
 (if (1 = 1 /\ n66 < ((lsl (gv st17 1))).length /\ (some 65 : Option Nat) ≠ some 7) then
 (bd ((lsl (gv st17 1)))[n66]? fun es67 =>
 (bd (bop prog .add 3 (gv st17 4) (V.int .i64 1)) fun v68 =>
 (next19 [(V.sl 1 (lsl (gv st17 0)) false), (V.sl 1 (((lsl (gv st17 1))).set n66 (setR es67 0 [(V.bool true)])) false), (V.agg (setR (lcs (gv st17 2)) 0 (V.cells v58))), (V.bool false), v68] ((h56).set b64 x65)))) else none))) else none))) else none) else none) else none))) (fun z57 h56 => some (Res.pan z57, h56))))) (fun z53 h52 => some (Res.pan z53, h52))))) (fun z49 h48 => some (Res.pan z49, h48)))) else none)))
 else
 (cl (call n 238 [(V.agg (((lcs (gv st17 2))).drop 0 |>.take 8)), v27] hh18) (fun r69 h70 =>
 (Zs r69 fun v72 =>
 (cl (call n 232 [v27, (V.int .i64 1)] h70) (fun r73 h74 =>
 (Zs r73 fun v76 =>
 (cl (call n 231 [v72, v76] h74) (fun r77 h78 =>
 (Zs r77 fun v80 =>
 (if ((V.cells v80)).length = 8 then
 (if (((V.cells v80)).length <= 8) then
 (bd3 (zu h78 (V.ptr s 10)) fun cs82 m81 o83 => if (o83 + 1 <= m81 /\ 0 < 1) then
 (bd (cs82)[o83]? fun v84 =>
 (bd (bop prog .add 3 v84 (V.int .i64 1)) fun v85 =>
 (if ((V.cells v85)).length = 1 then
 (bd2 (Zp h78 (V.cells v85) (V.ptr s 10)) fun b86 x87 =>
 (bdS (nv (gv st17 4)) fun n88 =>
 (if (1 = 1 /\ n88 < ((lsl (gv st17 1))).length /\ (some 65 : Option Nat) ≠ some 7) then
 (bd ((lsl (gv st17 1)))[n88]? fun es89 =>
 (bd (bop prog .add 3 (gv st17 4) (V.int .i64 1)) fun v90 =>
 (next19 [(V.sl 1 (lsl (gv st17 0)) false), (V.sl 1 (((lsl (gv st17 1))).set n88 (setR es89 0 [(V.bool true)])) false), (V.agg (setR (lcs (gv st17 2)) 0 (V.cells v80))), (V.bool false), v90] ((h78).set b86 x87)))) else none))) else none))) else none) else none) else none))) (fun z79 h78 => some (Res.pan z79, h78))))) (fun z75 h74 => some (Res.pan z75, h74))))) (fun z71 h70 => some (Res.pan z71, h70))))))))) else none)) else none)) else none)))
 else
 some (Res.ret [(V.sl 1 (lsl (gv st17 1)) false)], hh18)))
noncomputable def zeA (n : Nat) (s : Nat) (l : V) (m : V) (h : ze) : Option (Res × ze) :=
 (bd (Xq h l) fun p0 =>
 (bdS (nv (V.int .i64 ((p0.2).length : Int))) fun n1 =>
 (bdS (nv (V.int .i64 ((p0.2).length : Int))) fun n2 =>
 (if (n1 <= n2 /\ n2 < lim /\ 1 = 1) then
 (bd (X1 prog h .eql 117 (V.ptr s 0) (V.val (.pointer none))) fun v3 =>
 (bv v3 fun b4 => if b4 then
 some (Res.ret [(V.sl 1 (List.replicate n1 [(V.bool false)]) false)], h)
 else
 (cl (call n 237 [l] h) (fun r5 h6 =>
 (Zs r5 fun v8 =>
 (bd (uop .not v8) fun v9 =>
 (bv v9 fun b10 => if b10 then
 some (Res.ret [(V.sl 1 (List.replicate n1 [(V.bool false)]) false)], h6)
 else
 (cl (call n 230 [(V.ptr s 0)] h6) (fun r11 h12 =>
 (Zs r11 fun v14 =>
 (if ((V.cells v14)).length = 8 then
 (if (((V.cells v14)).length <= 8) then
 (bd (Xq h12 l) fun p15 =>
 (Ze n (Ju n s l m p15) [(V.sl 1 [] false), (V.sl 1 (List.replicate n1 [(V.bool false)]) false), (V.agg (setR [(V.val (.pointer none)), (V.val (.pointer none)), (V.val (.pointer none)), (V.val (.pointer none)), (V.val (.pointer none)), (V.val (.pointer none)), (V.val (.pointer none)), (V.val (.pointer none))] 0 (V.cells v14))), (V.bool false), (V.int .i64 0)] h12)) else none) else none))) (fun z13 h12 => some (Res.pan z13, h12))))))) (fun z7 h6 => some (Res.pan z7, h6))))) else none))))
theorem zfw (n : Nat) (s : Nat) (l : V) (m : V) (h : ze) : call (n + 1) 228 [(V.ptr s 0), l, m] h = zeA n s l m h := by kernel_rfl
noncomputable def QC (n : Nat) (s : Nat) (v9 : V) (v15 : V) (st17 : List V) (hh18 : ze) (next19 : List V -> ze -> Option (Res × ze)) : Option (Res × ze) :=
 (bd (bop prog .lss 3 (gv st17 0) v15) fun v20 =>
 (bv v20 fun b21 => if b21 then
 (bd (ZN 0 v9) fun p22 =>
 (bd (ZN 2 p22) fun p23 =>
 (bd (nv (gv st17 0)) fun n24 =>
 (if (n24 < 8) then
 (bd (ZN (n24 * 1) p23) fun p25 =>
 (bd3 (zu hh18 p25) fun cs27 m26 o28 => if (o28 + 1 <= m26 /\ 0 < 1) then
 (bd (cs27)[o28]? fun v29 =>
 (bd (nv (gv st17 0)) fun n30 =>
 (if (n30 < 8) then
 (if ((V.cells v29)).length = 1 then
 (bd2 (Zp hh18 (V.cells v29) (V.ptr s (2 + (n30 * 1)))) fun b31 x32 =>
 (bd (bop prog .add 3 (gv st17 0) (V.int .i64 1)) fun v33 =>
 (next19 [v33] ((hh18).set b31 x32)))) else none) else none))) else none)) else none))))
 else
 (bd3 (zu hh18 (V.ptr s 10)) fun cs35 m34 o36 => if (o36 + 1 <= m34 /\ 0 < 1) then
 (bd (cs35)[o36]? fun v37 =>
 (bd (bop prog .sub 3 v37 (V.int .i64 1)) fun v38 =>
 (if ((V.cells v38)).length = 1 then
 (bd2 (Zp hh18 (V.cells v38) (V.ptr s 10)) fun b39 x40 =>
 (bd (ZN 0 v9) fun p41 =>
 (bd (ZN 0 p41) fun p42 =>
 (bd3 (zu ((hh18).set b39 x40) p42) fun cs44 m43 o45 => if (o45 + 1 <= m43 /\ 0 < 1) then
 (bd (cs44)[o45]? fun v46 =>
 some (Res.ret [v46, (V.bool true)], ((hh18).set b39 x40))) else none)))) else none))) else none)))
noncomputable def zfx (n : Nat) (s : Nat) (h : ze) : Option (Res × ze) :=
 (cl (call n 218 [(V.ptr s 0)] h) (fun r0 h1 =>
 (Zs r0 fun v3 =>
 (bd (bop prog .eql 3 v3 (V.int .i64 0)) fun v4 =>
 (bv v4 fun b5 => if b5 then
 some (Res.ret [(V.int .i32 0), (V.bool false)], h1)
 else
 (bd3 (zu h1 (V.ptr s 2)) fun cs7 m6 o8 => if (o8 + 1 <= m6 /\ 0 < 1) then
 (bd (cs7)[o8]? fun v9 =>
 (bd (ZN 0 v9) fun p10 =>
 (bd (ZN 1 p10) fun p11 =>
 (bd3 (zu h1 p11) fun cs13 m12 o14 => if (o14 + 1 <= m12 /\ 0 < 1) then
 (bd (cs13)[o14]? fun v15 =>
 (Ze n (QC n s v9 v15) [(V.int .i64 0)] h1)) else none)))) else none))))) (fun z2 h1 => some (Res.pan z2, h1)))
theorem zcP (n : Nat) (s : Nat) (h : ze) : call (n + 1) 239 [(V.ptr s 0)] h = zfx n s h := by kernel_rfl
noncomputable def zjx (n : Nat) (s : Nat) (k : Int) (h : ze) : Option (Res × ze) :=
 some (Res.ret [(V.fn 132 [(V.ptr (h).length 0), (V.ptr ((h ++ [(HB.box 1 [(V.ptr s 0)])])).length 0)])], ((h ++ [(HB.box 1 [(V.ptr s 0)])]) ++ [(HB.box 1 [(V.int .i64 k)])]))
theorem zeB (n : Nat) (s : Nat) (k : Int) (h : ze) : call (n + 1) 100 [(V.ptr s 0), (V.int .i64 k)] h = zjx n s k h := by kernel_rfl
noncomputable def QD (n : Nat) (b : Nat) (k : Nat) (st19 : List V) (hh20 : ze) (next21 : List V -> ze -> Option (Res × ze)) : Option (Res × ze) :=
 (bd (X1 prog hh20 .neq 177 (gv st19 0) (V.val (.pointer none))) fun v22 =>
 (bv v22 fun b23 => if b23 then
 (bd2 (rnd n b [(gv st19 0)] hh20) fun t24 h25 =>
 (if t24 then
 (bd3 (zu h25 (V.ptr k 0)) fun cs27 m26 o28 => if (o28 + 1 <= m26 /\ 0 < 1) then
 (bd (cs27)[o28]? fun v29 =>
 (bd (bop prog .sub 3 v29 (V.int .i64 1)) fun v30 =>
 (bd (ZN 0 (gv st19 0)) fun p31 =>
 (bd (ZN 2 p31) fun p32 =>
 (bd (nv v30) fun n33 =>
 (if (n33 < 8) then
 (bd (ZN (n33 * 1) p32) fun p34 =>
 (bd3 (zu h25 p34) fun cs36 m35 o37 => if (o37 + 1 <= m35 /\ 0 < 1) then
 (bd (cs36)[o37]? fun v38 =>
 (next21 [v38] h25)) else none)) else none)))))) else none)
 else
 some (Res.ret [], h25)))
 else
 some (Res.ret [], hh20)))
noncomputable def zfy (n : Nat) (b : Nat) (s : Nat) (k : Nat) (h : ze) : Option (Res × ze) :=
 (bd3 (zu h (V.ptr s 0)) fun cs1 m0 o2 => if (o2 + 1 <= m0 /\ 0 < 1) then
 (bd (cs1)[o2]? fun v3 =>
 (bd3 (zu h (V.ptr k 0)) fun cs5 m4 o6 => if (o6 + 1 <= m4 /\ 0 < 1) then
 (bd (cs5)[o6]? fun v7 =>
 (bd (bop prog .sub 3 v7 (V.int .i64 1)) fun v8 =>
 (bd (ZN 0 v3) fun p9 =>
 (bd (ZN 0 p9) fun p10 =>
 (bd (ZN 2 p10) fun p11 =>
 (bd (nv v8) fun n12 =>
 (if (n12 < 8) then
 (bd (ZN (n12 * 1) p11) fun p13 =>
 (bd3 (zu h p13) fun cs15 m14 o16 => if (o16 + 1 <= m14 /\ 0 < 1) then
 (bd (cs15)[o16]? fun v17 =>
 (Ze n (QD n b k) [v17] h)) else none)) else none))))))) else none)) else none)
theorem zcQ (n : Nat) (b : Nat) (s : Nat) (k : Nat) (h : ze) : call (n + 1) 132 [(V.yld b), (V.ptr s 0), (V.ptr k 0)] h = zfy n b s k h := by kernel_rfl
noncomputable def KZ (n : Nat) (x5 : Nat) (b : Nat) (z20 : V) (h : ze) : Option (Bool × ze) :=
 (lpR ((h)[b]?) fun cD cV cF cP cA cB =>
 (bd3 (zu ((h).set b (HB.loop cD cV cF cP cA cB .busy)) (V.ptr x5 0)) fun cs15 m14 o16 => if (o16 + 1 <= m14 /\ 0 < 1) then
 (bd (cs15)[o16]? fun v17 =>
 (bd (ZN 0 z20) fun p18 =>
 (bd (ZN 0 p18) fun p19 =>
 (bd3 (zu ((h).set b (HB.loop cD cV cF cP cA cB .busy)) p19) fun cs21 m20 o22 => if (o22 + 1 <= m20 /\ 0 < 1) then
 (bd (cs21)[o22]? fun v23 =>
 (bd (jX prog 27 1 [(0, v23)]) fun p24 =>
 (bd2 (J4 21 1 ((h).set b (HB.loop cD cV cF cP cA cB .busy)) p24.2 v17) fun v25 h26 =>
 (if ((V.cells v25)).length = 1 then
 (bd2 (Zp h26 (V.cells v25) (V.ptr x5 0)) fun b27 x28 =>
 (lpB ((((h26).set b27 x28))[b]?) fun eD eV eF eP eA eB => some (true, (((h26).set b27 x28)).set b (HB.loop eD eV eF eP eA eB .ready)))) else none)))) else none)))) else none))
theorem zcR (n : Nat) (y0 : Option V) (y1 : Option V) (y4 : Option V) (x5 : Nat) (y7 : Option V) (y8 : Option V) (y9 : Option V) (y10 : Option V) (y11 : Option V) (y12 : Option V) (y13 : Option V) (y14 : Option V) (y15 : Option V) (y16 : Option V) (y17 : Option V) (y18 : Option V) (y19 : Option V) (b : Nat) (z20 : V) (h : ze) : zas prog (call n) X9 Wr n (L.textDraws prog) true [y0, y1, none, none, y4, some (V.ptr x5 0), none, y7, y8, y9, y10, y11, y12, y13, y14, y15, y16, y17, y18, y19, none, none, none, none, none, none, none, none, none] [20] (WM (Xo f70)) (WN (Xo f70)) b [z20] h = KZ n x5 b z20 h := by kernel_rfl
noncomputable def zeC (n : Nat) (s : Nat) (k : Int) (h : ze) : Option (Res × ze) :=
 (bd (X1 prog h .eql 117 (V.ptr s 0) (V.val (.pointer none))) fun v0 =>
 (bv v0 fun b1 => if b1 then
 some (Res.ret [(V.row (h).length 1 0 0)], (h ++ [(HB.row 21 1 [] true)]))
 else
 (if (decide (k < 1)) then
 some (Res.ret [(V.row (h).length 1 0 0)], (h ++ [(HB.row 21 1 [] true)]))
 else
 (if (decide (k > 8)) then
 some (Res.ret [(V.row (h).length 1 0 0)], (h ++ [(HB.row 21 1 [] true)]))
 else
 (cl (call n 100 [(V.ptr s 0), (V.int .i64 k)] h) (fun r2 h3 =>
 (Zs r2 fun v5 =>
 (fnK v5 fun f6 c7 => if ((Wk prog f6).isNone && (XL (WM (Xo f70)) && XL (WN (Xo f70)))) = true then
 (clN (call n f6 ((V.yld ((((h3 ++ [(HB.box 1 [(V.sl 0 [] true)])]) ++ [(HB.row 21 1 [] true)])).length + 1)) :: c7) (((h3 ++ [(HB.box 1 [(V.sl 0 [] true)])]) ++ [(HB.row 21 1 [] true)]) ++ [HB.defb, HB.loop (((h3 ++ [(HB.box 1 [(V.sl 0 [] true)])]) ++ [(HB.row 21 1 [] true)])).length true [some (V.ptr s 0), some (V.int .i64 k), none, none, some (V.row ((h3 ++ [(HB.box 1 [(V.sl 0 [] true)])])).length 1 0 0), some (V.ptr (h3).length 0), none, some (V.ptr s 0), some v0, some (V.bool false), some (V.int .i64 k), some (V.bool (decide (k < 1))), some (V.bool (decide (k < 1))), some (V.bool false), some (V.int .i64 k), some (V.bool (decide (k > 8))), some (V.bool false), some (V.ptr s 0), some (V.int .i64 k), some v5, none, none, none, none, none, none, none, none, none] [20] (WM (Xo f70)) (WN (Xo f70)) .ready])) fun h9 => lpE ((h9)[((((h3 ++ [(HB.box 1 [(V.sl 0 [] true)])]) ++ [(HB.row 21 1 [] true)])).length + 1)]?) (
 (bd3 (zu ((h9).set ((((h3 ++ [(HB.box 1 [(V.sl 0 [] true)])]) ++ [(HB.row 21 1 [] true)])).length + 1) HB.dead) (V.ptr (h3).length 0)) fun cs11 m10 o12 => if (o12 + 1 <= m10 /\ 0 < 1) then
 (bd (cs11)[o12]? fun v13 =>
 (dfB ((((h9).set ((((h3 ++ [(HB.box 1 [(V.sl 0 [] true)])]) ++ [(HB.row 21 1 [] true)])).length + 1) HB.dead))[(((h3 ++ [(HB.box 1 [(V.sl 0 [] true)])]) ++ [(HB.row 21 1 [] true)])).length]?) (
 some (Res.ret [v13], ((((h9).set ((((h3 ++ [(HB.box 1 [(V.sl 0 [] true)])]) ++ [(HB.row 21 1 [] true)])).length + 1) HB.dead)).set (((h3 ++ [(HB.box 1 [(V.sl 0 [] true)])]) ++ [(HB.row 21 1 [] true)])).length HB.dead))))) else none)) (
 (dfB ((((h9).set ((((h3 ++ [(HB.box 1 [(V.sl 0 [] true)])]) ++ [(HB.row 21 1 [] true)])).length + 1) HB.dead))[(((h3 ++ [(HB.box 1 [(V.sl 0 [] true)])]) ++ [(HB.row 21 1 [] true)])).length]?) (
 some (Res.ret [(V.row ((h3 ++ [(HB.box 1 [(V.sl 0 [] true)])])).length 1 0 0)], ((((h9).set ((((h3 ++ [(HB.box 1 [(V.sl 0 [] true)])]) ++ [(HB.row 21 1 [] true)])).length + 1) HB.dead)).set (((h3 ++ [(HB.box 1 [(V.sl 0 [] true)])]) ++ [(HB.row 21 1 [] true)])).length HB.dead)))))) else none))) (fun z4 h3 => some (Res.pan z4, h3)))))))
theorem zfz (n : Nat) (s : Nat) (k : Int) (h : ze) : call (n + 1) 70 [(V.ptr s 0), (V.int .i64 k)] h = zeC n s k h := by kernel_rfl
noncomputable def zeD (n : Nat) (s : Nat) (h : ze) : Option (Res × ze) :=
 (cl (call n 70 [(V.ptr s 0), (V.int .i64 1)] h) (fun r0 h1 =>
 (Zs r0 fun v3 =>
 some (Res.ret [v3], h1))) (fun z2 h1 => some (Res.pan z2, h1)))
theorem zfA (n : Nat) (s : Nat) (h : ze) : call (n + 1) 217 [(V.ptr s 0)] h = zeD n s h := by kernel_rfl
noncomputable def JJ (n : Nat) (l : V) (st2 : List V) (hh3 : ze) (next4 : List V -> ze -> Option (Res × ze)) : Option (Res × ze) :=
 (bd (bop prog .gtr 3 (gv st2 1) (V.int .i64 0)) fun v5 =>
 (bv v5 fun b6 => if b6 then
 (bdS (nv (gv st2 1)) fun n7 =>
 (bd (Xa 1 n7 l) fun p8 =>
 (bd3 (zu hh3 p8) fun cs10 m9 o11 => if (o11 + 1 <= m9 /\ 0 < 1) then
 (bd (cs10)[o11]? fun v12 =>
 (bd (bop prog .sub 3 (gv st2 1) (V.int .i64 1)) fun v13 =>
 (bdS (nv v13) fun n14 =>
 (bd (Xa 1 n14 l) fun p15 =>
 (bd3 (zu hh3 p15) fun cs17 m16 o18 => if (o18 + 1 <= m16 /\ 0 < 1) then
 (bd (cs17)[o18]? fun v19 =>
 (cl (call n 244 [v12, v19] hh3) (fun r20 h21 =>
 (Zs r20 fun v23 =>
 (bv v23 fun b24 => if b24 then
 some (Res.ret [(V.bool false)], h21)
 else
 (bd (bop prog .sub 3 (gv st2 1) (V.int .i64 1)) fun v25 =>
 (next4 [(gv st2 0), v25] h21))))) (fun z22 h21 => none))) else none))))) else none)))
 else
 some (Res.ret [(V.bool true)], hh3)))
noncomputable def zhf (n : Nat) (l : V) (h : ze) : Option (Res × ze) :=
 (bd (Xq h l) fun p0 =>
 (Ze n (JJ n l) [(V.bool false), (V.int .i64 (IntKind.i64.wrap (((p0.2).length : Int) - 1)))] h))
theorem zhg (n : Nat) (l : V) (h : ze) : call (n + 1) 237 [l] h = zhf n l h := by kernel_rfl
noncomputable def zpR (n : Nat) (x0 : Int) (h : ze) : Option (Res × ze) :=
 some (Res.ret [(V.bool (x0 != x0))], h)
theorem znn (n : Nat) (x0 : Int) (h : ze) : call (n + 1) 247 [(V.int .i32 x0)] h = zpR n x0 h := by kernel_rfl
noncomputable def zkN (n : Nat) (x0 : Int) (x1 : Int) (h : ze) : Option (Res × ze) :=
 (cl (call n 247 [(V.int .i32 x0)] h) (fun r0 h1 =>
 (Zs r0 fun v3 =>
 (bv v3 fun b4 => if b4 then
 (cl (call n 247 [(V.int .i32 x1)] h1) (fun r5 h6 =>
 (Zs r5 fun v8 =>
 (bd (uop .not v8) fun v9 =>
 (bv v9 fun b10 => if b10 then
 some (Res.ret [(V.bool true)], h6)
 else
 some (Res.ret [(V.bool (decide (x0 < x1)))], h6))))) (fun z7 h6 => some (Res.pan z7, h6)))
 else
 some (Res.ret [(V.bool (decide (x0 < x1)))], h1)))) (fun z2 h1 => some (Res.pan z2, h1)))
theorem zjy (n : Nat) (x0 : Int) (x1 : Int) (h : ze) : call (n + 1) 244 [(V.int .i32 x0), (V.int .i32 x1)] h = zkN n x0 x1 h := by kernel_rfl
noncomputable def zcS (n : Nat) (x0 : Int) (x1 : Int) (h : ze) : Option (Res × ze) :=
 (cl (call n 247 [(V.int .i32 x0)] h) (fun r0 h1 =>
 (Zs r0 fun v3 =>
 (cl (call n 247 [(V.int .i32 x1)] h1) (fun r4 h5 =>
 (Zs r4 fun v7 =>
 (bv v3 fun b8 => if b8 then
 (bv v7 fun b9 => if b9 then
 some (Res.ret [(V.int .i64 0)], h5)
 else
 some (Res.ret [(V.int .i64 (-1))], h5))
 else
 (bv v7 fun b10 => if b10 then
 some (Res.ret [(V.int .i64 1)], h5)
 else
 (if (decide (x0 < x1)) then
 some (Res.ret [(V.int .i64 (-1))], h5)
 else
 (if (decide (x0 > x1)) then
 some (Res.ret [(V.int .i64 1)], h5)
 else
 some (Res.ret [(V.int .i64 0)], h5))))))) (fun z6 h5 => some (Res.pan z6, h5))))) (fun z2 h1 => some (Res.pan z2, h1)))
theorem zdI (n : Nat) (x0 : Int) (x1 : Int) (h : ze) : call (n + 1) 242 [(V.int .i32 x0), (V.int .i32 x1)] h = zcS n x0 x1 h := by kernel_rfl
end Go.Proofs.Tryz
set_option linter.unusedSimpArgs false
namespace Go.L
theorem zhh {h : ze} {b e sz lo hi : Nat} {l : List (List V)} {z : Bool} (hb : h[b]? = some (.row e sz l z)) (h1 : lo <= hi) (h2 : hi <= l.length) : Yt h b sz lo hi = some ((l.take hi).drop lo) := by
 simp only [Yt, hb]
 rw [if_pos ⟨trivial, h1, h2⟩]
theorem zlY {h : ze} {b e sz : Nat} {l : List (List V)} {z : Bool} (hb : h[b]? = some (.row e sz l z)) : Yt h b sz 0 l.length = some l := by
 rw [zhh hb (Zh _) (zm _), List.take_length, zP]
theorem Qi {h : ze} {b e sz lo hi : Nat} {l : List (List V)} {z : Bool} (hb : h[b]? = some (.row e sz l z)) (h1 : lo <= hi) (h2 : hi <= l.length) : Xq h (.row b sz lo hi) = some (sz, (l.take hi).drop lo) := by
 simp only [Xq, zhh hb h1 h2, ZX]
theorem K0 {h : ze} {b e sz : Nat} {l : List (List V)} {z : Bool} (hb : h[b]? = some (.row e sz l z)) : Xq h (.row b sz 0 l.length) = some (sz, l) := by
 simp only [Xq, zlY hb, ZX]
theorem W5 (b sz lo hi : Nat) : zan (.row b sz lo hi) = some (hi - lo) := rfl
theorem JA {r sz u v a b : Nat} (h1 : a <= b) (h2 : b <= v - u) (ok : Bool) : Q7 sz a b none ok (.row r sz u v) = some (.row r sz (u + a) (u + b)) := by
 simp only [Q7]
 rw [if_pos ⟨⟨h1, h2, trivial⟩, trivial⟩]
theorem XG {b sz lo hi n : Nat} (h : n < hi - lo) : Xa sz n (.row b sz lo hi) = some (.rptr b sz (lo + n) 0) := by
 simp only [Xa]
 rw [if_pos ⟨trivial, h⟩]
theorem Xr {h : ze} {b e sz i c : Nat} {l : List (List V)} {z : Bool} {es : List V} (hb : h[b]? = some (.row e sz l z)) (h0 : 0 < sz) (hi : l[i]? = some es) : zu h (.rptr b sz i c) = some (es, sz, c) := by
 simp only [zu, hb]
 rw [if_pos ⟨trivial, h0⟩]
 simp only [hi]
theorem zlZ (k b sz i c : Nat) : ZN k (.rptr b sz i c) = some (.rptr b sz i (c + k)) := rfl
theorem JK {h : ze} {b e sz i c : Nat} {l : List (List V)} {z : Bool} {es vs : List V} (hb : h[b]? = some (.row e sz l z)) (h0 : 0 < sz) (hc : c + vs.length <= sz) (hi : l[i]? = some es) : Zp h vs (.rptr b sz i c) = some (b, .row e sz (l.set i (setR es c vs)) z) := by
 simp only [Zp, hb]
 rw [if_pos ⟨trivial, h0, hc⟩]
 simp only [hi]
end Go.L
namespace Go.L
theorem ZO {h : ze} {b n o : Nat} {cs vs : List V} (hb : h[b]? = some (.box n cs)) (ho : o + vs.length <= n) : Zp h vs (.ptr b o) = some (b, .box n (setR cs o vs)) := by
 simp only [Zp, hb]
 rw [if_pos ho]
theorem zno {α : Type} {l : List α} {lo hi i : Nat} (h : lo + i < hi) : ((l.take hi).drop lo)[i]? = l[lo + i]? := by
 rw [Zj, zX, if_pos h]
theorem Xf {h : ze} {b : Nat} (hb : b < h.length) (x : HB) : (h.set b x)[b]? = some x := Zq hb
theorem zQ {h : ze} {b : Nat} {x : HB} (hb : h[b]? = some x) : b < h.length := (zh.1 hb).1
end Go.L
namespace Go.Sk
open Go.L
def hgt : Nat -> List Bool -> Nat × List Bool
 | n, [] => (n, [])
 | n, b :: r => if n = 8 then (n, b :: r) else if b then hgt (n + 1) r else (n, r)
def YG (x : Bool) : List V := [.bool x]
theorem zkO : ∀ (l : List Bool) (n : Nat), 1 <= n -> n <= 8 -> 1 <= (hgt n l).1 /\ (hgt n l).1 <= 8
 | [], n, h1, h2 => ⟨h1, h2⟩
 | b :: r, n, h1, h2 => by
   simp only [hgt]
   split
   · exact ⟨h1, h2⟩
   · split
     · exact zkO r (n + 1) (by omega) (by omega)
     · exact ⟨h1, h2⟩
end Go.Sk
namespace Go.Proofs.Tryz
open Go.L Go.Rp Go.Sk
set_option maxRecDepth 100000
def BitsAt (h : ze) (c : Nat) (cb : Option Nat) (bits : List Bool) : Prop := match cb with
 | none => bits = [] /\ h[c]? = some (.box 1 [.sl 0 [] true])
 | some b => b ≠ c /\ ∃ lo l z, h[c]? = some (.box 1 [.row b 1 lo (lo + bits.length)]) /\ h[b]? = some (.row 4 1 l z) /\ lo + bits.length <= l.length /\ (l.take (lo + bits.length)).drop lo = bits.map YG
theorem BitsAt.keep {h h' : ze} {c : Nat} {cb : Option Nat} {bits : List Bool} (hb : BitsAt h c cb bits) (hc : h'[c]? = h[c]?) (hk : ∀ b, cb = some b -> h'[b]? = h[b]?) : BitsAt h' c cb bits := by
 cases cb with
 | none => exact ⟨hb.1, hc.trans hb.2⟩
 | some b =>
   obtain ⟨h1, lo, l, z, h2, h3, h4⟩ := hb
   exact ⟨h1, lo, l, z, hc.trans h2, (hk b rfl).trans h3, h4⟩
theorem Kd (h : ze) (c : Nat) : X1 prog h .eql 122 (V.ptr c 0) (V.val (.pointer none)) = some (.bool false) := by kernel_rfl
theorem zl0 (n : Nat) {h : ze} {c : Nat} {cb : Option Nat} {bits : List Bool} (hb : BitsAt h c cb bits) : call (n + 1) 243 [.ptr c 0] h = some (.ret [.int .i64 (bits.length : Int)], h) := by
 refine (zg8 n c h).trans ?_
 unfold zg7
 rw [Kd, zb, zo, if_neg (by decide)]
 cases cb with
 | none =>
   obtain ⟨rfl, hc⟩ := hb
   rw [zx hc, zl, if_pos (by decide)]
   rfl
 | some b =>
   obtain ⟨h1, lo, l, z, h2, h3, h4, h5⟩ := hb
   rw [zx h2, zl, if_pos (by decide)]
   simp only [za, zb]
   rw [Qi h3 (by omega) h4, zb, h5]
   simp
theorem zeE (n : Nat) {h : ze} {c : Nat} {cb : Option Nat} {bits : List Bool} (hb : BitsAt h c cb bits) :
    ∃ h', call (n + 2) 236 [.ptr c 0] h = some (.ret [.bool (bits.headD false)], h') /\ BitsAt h' c cb bits.tail /\ h'.length = h.length /\ ∀ i, i ≠ c -> h'[i]? = h[i]? := by
 rw [show n + 2 = (n + 1) + 1 from rfl, zha]
 unfold zg9
 rw [zl0 n hb, zK, zw, Xi, zb, zo]
 cases bits with
 | nil =>
   rw [if_pos (by rfl)]
   exact ⟨h, rfl, hb, rfl, fun _ _ => rfl⟩
 | cons x r =>
   rw [if_neg (by simp; omega)]
   cases cb with
   | none => exact absurd hb.1 (by simp)
   | some b =>
     obtain ⟨h1, lo, l, z, h2, h3, h4, h5⟩ := hb
     have hx : l[lo]? = some [.bool x] := by
      have := zno (l := l) (lo := lo) (hi := lo + (x :: r).length) (i := 0) (by simp)
      rw [h5] at this
      simpa [YG] using this.symm
     have hr : (l.take (lo + 1 + r.length)).drop (lo + 1) = r.map YG := by
      have : ((l.take (lo + (x :: r).length)).drop lo).drop 1 = r.map YG := by rw [h5]; rfl
      rw [List.drop_drop] at this
      rw [show lo + 1 + r.length = lo + (x :: r).length by simp; omega]
      exact this
     have hs : Q7 1 1 (x :: r).length none true (.row b 1 lo (lo + (x :: r).length)) = some (.row b 1 (lo + 1) (lo + 1 + r.length)) := by
      rw [JA (by simp) (by omega)]
      congr 2
      simp; omega
     have hcl := zQ h2
     rw [zx h2, zl, if_pos (by decide)]
     simp only [za, zb]
     rw [XG (by simp), zb, zV, Xr h3 (by decide) hx, zl, if_pos (by decide)]
     simp only [za, zb]
     rw [zl, if_pos (by decide)]
     simp only [za, zb]
     rw [W5, zb, Xh, hs, zb]
     simp only [V.cells, zB, zO, zr, if_true]
     rw [ZO h2 (by simp), Zd]
     refine ⟨_, rfl, ⟨h1, lo + 1, l, z, ?_, ?_, ?_, hr⟩, by rw [zp], fun i hi => zd (Ne.symm hi)⟩
     · rw [Xf hcl]; rfl
     · rw [zd (Ne.symm h1)]; exact h3
     · simp at h4 ⊢; omega
theorem zhi (n : Nat) {c : Nat} {cb : Option Nat} : ∀ (bits : List Bool) (k N : Nat) (h : ze), BitsAt h c cb bits -> 1 <= k -> k <= 8 -> 8 < N + k →
    ∃ h', Ze N (Wh (n + 2) c) [.int .i64 (k : Int)] h = some (.ret [.int .i64 ((hgt k bits).1 : Int)], h') /\ BitsAt h' c cb (hgt k bits).2 /\ h'.length = h.length /\ ∀ i, i ≠ c -> h'[i]? = h[i]? := by
 intro bits
 induction bits with
 | nil =>
   intro k N h hb h1 h2 hN
   obtain ⟨N, rfl⟩ : ∃ N', N = N' + 1 := ⟨N - 1, by omega⟩
   rw [zL]
   unfold Wh
   simp only [gv, zg, Xi, zb, zo]
   by_cases h8 : k = 8
   · subst h8
     exact ⟨h, rfl, hb, rfl, fun _ _ => rfl⟩
   · rw [if_neg (by simp; omega)]
     obtain ⟨h', e, b1, b2, b3⟩ := zeE n hb
     rw [e, zK, zw]
     exact ⟨h', rfl, b1, b2, b3⟩
 | cons x r ih =>
   intro k N h hb h1 h2 hN
   obtain ⟨N, rfl⟩ : ∃ N', N = N' + 1 := ⟨N - 1, by omega⟩
   rw [zL]
   unfold Wh
   simp only [gv, zg, Xi, zb, zo]
   by_cases h8 : k = 8
   · subst h8
     exact ⟨h, rfl, by simpa [hgt] using hb, rfl, fun _ _ => rfl⟩
   · rw [if_neg (by simp; omega)]
     obtain ⟨h', e, b1, b2, b3⟩ := zeE n hb
     rw [e, zK, zw]
     simp only [hgt, if_neg h8]
     cases x with
     | false => exact ⟨h', rfl, b1, b2, b3⟩
     | true =>
       simp only [List.headD_cons, zbP, QI, zb, zo, zn, if_false, zM, if_true]
       rw [XF (show k < lim by unfold lim; omega)]
       obtain ⟨h'', e', d1, d2, d3⟩ := ih (k + 1) N h' b1 (by omega) (by omega) (by omega)
       exact ⟨h'', e', d1, d2.trans b2, fun i hi => (d3 i hi).trans (b3 i hi)⟩
theorem zbf (n : Nat) {h : ze} {c : Nat} {cb : Option Nat} {bits : List Bool} (hb : BitsAt h c cb bits) (hn : 8 <= n) :
    ∃ h', call (n + 3) 227 [.ptr c 0] h = some (.ret [.int .i64 ((hgt 1 bits).1 : Int)], h') /\ BitsAt h' c cb (hgt 1 bits).2 /\ h'.length = h.length /\ ∀ i, i ≠ c -> h'[i]? = h[i]? := by
 rw [show n + 3 = (n + 2) + 1 from rfl, zdG]
 unfold zcL
 exact zhi n bits 1 (n + 2) h hb (zm _) (by omega) (by omega)
def Yi (y : Int) (i : Nat) : Bool := decide (y.toNat / 2 ^ i % 2 = 1)
def qg (y : Int) : List Bool := (List.range 8).map (Yi y)
theorem zjz (a : Int) (i : Nat) (hi : i <= 8) : bop prog .shr 5 (.int .u8 a) (.int .i64 (i : Int)) = some (.int .u8 (a.fdiv (2 ^ i))) := by
 have e : bop prog .shr 5 (.int .u8 a) (.int .i64 (i : Int)) = zmG .shr .u8 a (i : Int) := by kernel_rfl
 rw [e]
 unfold zmG
 rw [if_neg (by omega)]
 simp only [XT]
 rw [X0 (by exact hi)]
theorem zcT (a : Int) : bop prog .and 5 (.int .u8 a) (.int .u8 1) = some (.int .u8 (IntKind.u8.wrap (BitVec.ofInt 8 a &&& BitVec.ofInt 8 1).toNat)) := by kernel_rfl
theorem zre : ∀ m : Fin 256, IntKind.u8.wrap ((BitVec.ofInt 8 (m.val : Int) &&& BitVec.ofInt 8 1).toNat : Int) = ((m.val % 2 : Nat) : Int) := by decide +kernel
theorem zbg (a : Int) : bop prog .eql 5 (.int .u8 a) (.int .u8 1) = some (.bool (a == 1)) := by kernel_rfl
theorem znp {y : Int} (h0 : 0 <= y) (h1 : y < 256) (i : Nat) : (IntKind.u8.wrap (BitVec.ofInt 8 (y.fdiv (2 ^ i)) &&& BitVec.ofInt 8 1).toNat == (1 : Int)) = Yi y i := by
 obtain ⟨m, rfl⟩ : ∃ m : Nat, y = (m : Int) := ⟨y.toNat, (ZY h0).symm⟩
 have hp : ((2 : Int) ^ i) = ((2 ^ i : Nat) : Int) := by simp
 have hf : (m : Int).fdiv (2 ^ i) = ((m / 2 ^ i : Nat) : Int) := by rw [hp, Int.fdiv_eq_ediv_of_nonneg _ (Int.natCast_nonneg _)]; rfl
 have hlt : m / 2 ^ i < 256 := Nat.lt_of_le_of_lt (Nat.div_le_self _ _) (by omega)
 have := zre ⟨m / 2 ^ i, hlt⟩
 simp only at this
 rw [hf, this]
 unfold Yi
 rw [XT]
 by_cases h : m / 2 ^ i % 2 = 1
 · simp [h]
 · have h' : m / 2 ^ i % 2 = 0 := by omega
   simp [h']
theorem zhj (b : Bool) : jX prog 73 1 [(0, .bool b)] = some (1, [[.bool b]]) := by kernel_rfl
structure Fed (h h' : ze) (c : Nat) (cb cb' : Option Nat) : Prop where
 len : h.length <= h'.length
 old : ∀ i, i < h.length -> i ≠ c -> cb ≠ some i -> h'[i]? = h[i]?
 own : ∀ b, cb' = some b -> cb = some b \/ h.length <= b
theorem Fed.refl (h : ze) (c : Nat) (cb : Option Nat) : Fed h h c cb cb := ⟨zm _, fun _ _ _ _ => rfl, fun _ h => .inl h⟩
theorem Fed.trans {h h' h'' : ze} {c : Nat} {cb cb' cb'' : Option Nat} (a : Fed h h' c cb cb') (b : Fed h' h'' c cb' cb'') : Fed h h'' c cb cb'' :=
 ⟨Z2 a.len b.len, fun i h1 h2 h3 => (b.old i (by have := a.len; omega) h2 fun e => by rcases a.own i e with h | h; exact h3 h; omega).trans (a.old i h1 h2 h3), fun x hx => by
  rcases b.own x hx with h | h
  · exact a.own x h
  · exact .inr (by have := a.len; omega)⟩
theorem znq (n : Nat) {h : ze} {c : Nat} {cb : Option Nat} {bits : List Bool} (hb : BitsAt h c cb bits) (st4 : List V) (next6 next18 : List V -> ze -> Option (Res × ze)) {y : Int} (y0 : 0 <= y) (y1 : y < 256) (i : Nat) (hi : i < 8) (hl : bits.length < 20000) :
    ∃ h' cb', QY n c st4 next6 (.int .u8 y) [.int .i64 (i : Int)] h next18 = next18 [.int .i64 ((i + 1 : Nat) : Int)] h' /\ BitsAt h' c cb' (bits ++ [Yi y i]) /\ Fed h h' c cb cb' := by
 have hlt : decide ((i : Int) < 8) = true := by simp; omega
 have w1 := zjz y i (by omega)
 have w2 := znp y0 y1 i
 have hne : (((bits.length : Nat) : Int) == 20000) = false := by simp; omega
 unfold QY
 simp only [gv, zg, zC, zb, zo, hlt, if_true]
 cases cb with
 | none =>
   obtain ⟨rfl, hc⟩ := hb
   have hcl := zQ hc
   rw [zx hc, zl, if_pos (by decide)]
   simp only [za, zb]
   rw [QX, zb, if_neg (by decide), zl, if_pos (by decide)]
   simp only [za, zb]
   rw [w1, zb, zcT, zb, zbg, zb, w2, zhj, zb]
   have J5 : J4 4 1 h [[.bool (Yi y i)]] (.sl 0 [] true) = some (.row h.length 1 0 1, h ++ [.row 4 1 [[.bool (Yi y i)]] true]) := rfl
   simp only [J5, Zd, V.cells, zB, zO, zr, if_true]
   have hc' : (h ++ [HB.row 4 1 [[.bool (Yi y i)]] true])[c]? = some (.box 1 [.sl 0 [] true]) := by rw [zj hcl]; exact hc
   rw [ZO hc' (by simp), Zd, zM, zb, XF (show i < lim by unfold lim; omega)]
   refine ⟨_, some h.length, rfl, ⟨by omega, 0, [[.bool (Yi y i)]], true, ?_, ?_, ?_, ?_⟩, ⟨by simp, fun j h1 h2 h3 => ?_, fun b hb => .inr (by cases hb; exact zm _)⟩⟩
   · rw [Xf (by simp; omega)]; rfl
   · rw [zd (by omega)]; exact zD
   · simp
   · simp [YG]
   · rw [zd (by omega), zj h1]
 | some b =>
   obtain ⟨h1, lo, l, z, h2, h3, h4, h5⟩ := hb
   have hcl := zQ h2
   have hbl := zQ h3
   rw [zx h2, zl, if_pos (by decide)]
   simp only [za, zb]
   rw [Qi h3 (by omega) h4, zb, h5]
   simp only [zA, hne, zn, if_false]
   rw [zl, if_pos (by decide)]
   simp only [za, zb]
   rw [w1, zb, zcT, zb, zbg, zb, w2, zhj, zb]
   have J5 : J4 4 1 h [[.bool (Yi y i)]] (.row b 1 lo (lo + bits.length)) = some (.row h.length 1 0 (bits.length + 1), h.set b .dead ++ [.row 4 1 (bits.map YG ++ [[.bool (Yi y i)]]) (z && lo == 0)]) := by
    simp only [J4, h3]
    rw [if_pos (by refine ⟨⟨?_, ?_, ?_⟩, ⟨by omega, h4⟩, by simp [lim]; omega⟩ <;> first | trivial | rfl), h5, Xh]
    rfl
   simp only [J5, Zd, V.cells, zB, zO, zr, if_true]
   have hc' : (h.set b .dead ++ [HB.row 4 1 (bits.map YG ++ [[.bool (Yi y i)]]) (z && lo == 0)])[c]? = some (.box 1 [.row b 1 lo (lo + bits.length)]) := by
    rw [zj (by rw [zp]; exact hcl), zd h1]; exact h2
   rw [ZO hc' (by simp), Zd, zM, zb, XF (show i < lim by unfold lim; omega)]
   refine ⟨_, some h.length, rfl, ⟨by omega, 0, (bits.map YG ++ [[.bool (Yi y i)]]), (z && (lo == 0)), ?_, ?_, ?_, ?_⟩, ⟨by simp, fun j h1 h2 h3 => ?_, fun b hb => .inr (by cases hb; exact zm _)⟩⟩
   · rw [Xf (by simp; omega)]; simp [setR]
   · rw [zd (by omega)]
     have : h.length = (h.set b .dead).length := by rw [zp]
     rw [this]; exact zD
   · simp
   · simp [YG, zN]
   · rw [zd (by omega), zj (by rw [zp]; exact h1), zd (fun e => h3 (by rw [e]))]
theorem zl1 (n : Nat) {c : Nat} (st4 : List V) (next6 : List V -> ze -> Option (Res × ze)) {y : Int} (y0 : 0 <= y) (y1 : y < 256) : ∀ (d i N : Nat) (h : ze) (cb : Option Nat) (bits : List Bool), BitsAt h c cb bits -> i + d = 8 -> d < N -> bits.length + d <= 20000 →
    ∃ h' cb', Ze N (QY n c st4 next6 (.int .u8 y)) [.int .i64 (i : Int)] h = next6 [.int .i64 (IntKind.i64.wrap ((match gv st4 0 with | .int _ k => k | _ => 0) + 1))] h' /\ BitsAt h' c cb' (bits ++ ((List.range 8).drop i).map (Yi y)) /\ Fed h h' c cb cb' \/ (∀ k, gv st4 0 ≠ .int .i64 k) := by
 intro d
 induction d with
 | zero =>
   intro i N h cb bits hb h1 h2 h3
   obtain ⟨N, rfl⟩ : ∃ N', N = N' + 1 := ⟨N - 1, by omega⟩
   obtain rfl : i = 8 := by omega
   rcases Classical.em (∃ k, gv st4 0 = .int .i64 k) with ⟨k, hk⟩ | hk
   · refine ⟨h, cb, .inl ⟨?_, by rw [show (List.range 8).drop 8 = [] from rfl]; simpa using hb, .refl _ _ _⟩⟩
     rw [zL]
     unfold QY
     have hg : gv [V.int .i64 ((8 : Nat) : Int)] 0 = .int .i64 8 := rfl
     rw [hg, zC, zb, zo, if_neg (by decide), hk, zM, zb]
   · exact ⟨h, cb, .inr fun k e => hk ⟨k, e⟩⟩
 | succ d ih =>
   intro i N h cb bits hb h1 h2 h3
   obtain ⟨N, rfl⟩ : ∃ N', N = N' + 1 := ⟨N - 1, by omega⟩
   obtain ⟨h', cb', e, b1, b2⟩ := znq n hb st4 next6 (Ze N (QY n c st4 next6 (.int .u8 y))) y0 y1 i (by omega) (by omega)
   obtain ⟨h'', cb'', e' | e'⟩ := ih (i + 1) N h' cb' (bits ++ [Yi y i]) b1 (by omega) (by omega) (by rw [zE, zB, zO]; omega)
   · obtain ⟨e', d1, d2⟩ := e'
     refine ⟨h'', cb'', .inl ⟨?_, ?_, b2.trans d2⟩⟩
     · rw [zL, e]; exact e'
     · have hd : (List.range 8).drop i = i :: (List.range 8).drop (i + 1) := by
         rw [zW (by simp; omega)]; simp
       rw [hd, zU]
       rwa [List.append_assoc] at d1
   · exact ⟨h'', cb'', .inr e'⟩
theorem zl2 (n : Nat) {c : Nat} (bs : List Int) (bb : Bool) (hs : YF bs = true) (hn : 8 < n) (hlim : bs.length < lim) : ∀ (d k N : Nat) (h : ze) (cb : Option Nat) (bits : List Bool), BitsAt h c cb bits -> k + d = bs.length -> d < N -> bits.length + 8 * d <= 20000 →
    ∃ h' cb', Ze N (JH n c (.sl 1 (bs.map (XA .u8)) bb) (1, bs.map (XA .u8))) [.int .i64 (k : Int)] h = some (.ret [], h') /\ BitsAt h' c cb' (bits ++ (bs.drop k).flatMap qg) /\ Fed h h' c cb cb' := by
 intro d
 induction d with
 | zero =>
   intro k N h cb bits hb h1 h2 h3
   obtain ⟨N, rfl⟩ : ∃ N', N = N' + 1 := ⟨N - 1, by omega⟩
   refine ⟨h, cb, ?_, by rw [Zl (by omega)]; simpa using hb, .refl _ _ _⟩
   rw [zL]
   unfold JH
   simp only [gv, zg, zA, zC, zb, zo]
   rw [if_neg (by simp; omega)]
 | succ d ih =>
   intro k N h cb bits hb h1 h2 h3
   obtain ⟨N, rfl⟩ : ∃ N', N = N' + 1 := ⟨N - 1, by omega⟩
   obtain ⟨y, hy⟩ : ∃ y, bs[k]? = some y := ⟨_, zf (by omega)⟩
   have hyv : (bs.map (XA .u8))[k]? = some [.int .u8 y] := by rw [zcI, hy]; rfl
   have hyb : 0 <= y /\ y < 256 := by
    unfold YF at hs
    have := Zt.1 hs y (zI hy)
    simp at this
    omega
   have hlt : decide ((k : Int) < (bs.length : Int)) = true := by simp; omega
   obtain ⟨h', cb', e | e⟩ := zl1 n (c := c) [.int .i64 (k : Int)] (Ze N (JH n c (.sl 1 (bs.map (XA .u8)) bb) (1, bs.map (XA .u8)))) hyb.1 hyb.2 8 0 n h cb bits hb (by omega) hn (by omega)
   · obtain ⟨e, b1, b2⟩ := e
     obtain ⟨h'', cb'', e', d1, d2⟩ := ih (k + 1) N h' cb' _ b1 (by omega) (by omega) (by simp; omega)
     refine ⟨h'', cb'', ?_, ?_, b2.trans d2⟩
     · have key : ∀ next, JH n c (.sl 1 (bs.map (XA .u8)) bb) (1, bs.map (XA .u8)) [.int .i64 (k : Int)] h next = Ze n (QY n c [.int .i64 (k : Int)] next (.int .u8 y)) [.int .i64 ((0 : Nat) : Int)] h := by
         intro next
         unfold JH
         simp only [gv, zg, zA, zC, zb, zo, hlt, if_true, Zo, zH, QW hyv, XP, zl, zr, zm, Nat.reduceLT, and_self, za]
         rfl
       rw [zL, key]
       refine e.trans ?_
       simp only [gv, zg]
       rw [XF (show k < lim by omega)]
       exact e'
     · have hd : bs.drop k = y :: bs.drop (k + 1) := by
         rw [zW (by omega)]
         rw [zf (by omega)] at hy
         rw [Option.some.inj hy]
       rw [hd, List.flatMap_cons]
       rw [List.append_assoc] at d1
       exact d1
   · exact absurd rfl (e (k : Int))
theorem zl3 (n : Nat) {h : ze} {c : Nat} {cb : Option Nat} {bits : List Bool} (hb : BitsAt h c cb bits) (bs : List Int) (bb : Bool) (hs : YF bs = true) (hl : bits.length + 8 * bs.length <= 20000) (hn : bs.length + 8 < n) :
    ∃ h' cb', call (n + 1) 65 [.ptr c 0, .sl 1 (bs.map (XA .u8)) bb] h = some (.ret [], h') /\ BitsAt h' c cb' (bits ++ bs.flatMap qg) /\ Fed h h' c cb cb' := by
 obtain ⟨h', cb', e, b1, b2⟩ := zl2 n bs bb hs (by omega) (by unfold lim; omega) bs.length 0 n h cb bits hb (by omega) (by omega) hl
 refine ⟨h', cb', (zhc n c _ h).trans ?_, b1, b2⟩
 unfold zhb
 rw [Kd, zb, zo, if_neg (by decide), QX, zb]
 exact e
theorem zdJ (n : Nat) (h : ze) : call (n + 1) 62 [] h = some (.ret [.ptr h.length 0], h ++ [.box 1 [.sl 0 [] true]]) := zjs n h
end Go.Proofs.Tryz
namespace Go.Sk
open Go.L
def WO (x : Int) : List V := [.int .i32 x]
def zhk (c v : Int) : V := .agg [.int .u8 c, .int .i32 v]
def XB (most : Int) (c x : Int) (xs : List Int) : (Int × Int) × List Int :=
 if c = 1 then (if (xs.length : Int) < most then ((1, 0), xs ++ [x]) else ((3, 0), xs))
 else if c = 2 then (match xs.getLast? with | some y => ((2, y), xs.dropLast) | none => ((4, 0), xs))
 else ((5, 0), xs)
end Go.Sk
namespace Go.Proofs.Tryz
open Go.L Go.Rp Go.Sk
set_option maxRecDepth 100000
def StkAt (h : ze) (s : Nat) (sb : Option Nat) (most : Int) (xs : List Int) : Prop := match sb with
 | none => xs = [] /\ h[s]? = some (.box 2 [.sl 0 [] true, .int .i64 most])
 | some b => b ≠ s /\ ∃ l z, h[s]? = some (.box 2 [.row b 1 0 xs.length, .int .i64 most]) /\ h[b]? = some (.row 21 1 l z) /\ xs.length <= l.length /\ l.take xs.length = xs.map WO
theorem StkAt.keep {h h' : ze} {s : Nat} {sb : Option Nat} {most : Int} {xs : List Int} (hb : StkAt h s sb most xs) (hc : h'[s]? = h[s]?) (hk : ∀ b, sb = some b -> h'[b]? = h[b]?) : StkAt h' s sb most xs := by
 cases sb with
 | none => exact ⟨hb.1, hc.trans hb.2⟩
 | some b =>
   obtain ⟨h1, l, z, h2, h3, h4⟩ := hb
   exact ⟨h1, l, z, hc.trans h2, (hk b rfl).trans h3, h4⟩
theorem Ws (h : ze) (c : Nat) : X1 prog h .eql 109 (V.ptr c 0) (V.val (.pointer none)) = some (.bool false) := by kernel_rfl
theorem StkAt.box {h : ze} {s : Nat} {sb : Option Nat} {most : Int} {xs : List Int} (hb : StkAt h s sb most xs) : ∃ v sz, h[s]? = some (.box 2 [v, .int .i64 most]) /\ Xq h v = some (sz, xs.map WO) /\ (sz = 1 \/ xs = []) := by
 cases sb with
 | none =>
   obtain ⟨rfl, hc⟩ := hb
   exact ⟨_, 0, hc, QX .., .inr rfl⟩
 | some b =>
   obtain ⟨h1, l, z, h2, h3, h4, h5⟩ := hb
   refine ⟨_, 1, h2, ?_, .inl rfl⟩
   rw [Qi h3 (Zh _) h4, zP, h5]
theorem Ke (n : Nat) {h : ze} {s : Nat} {sb : Option Nat} {most : Int} {xs : List Int} (hb : StkAt h s sb most xs) : call (n + 1) 169 [.ptr s 0] h = some (.ret [.int .i64 (xs.length : Int)], h) := by
 obtain ⟨v, sz, h1, h2, h3⟩ := hb.box
 refine (zlV n s h).trans ?_
 unfold znk
 rw [Ws, zb, zo, if_neg (by decide), zx h1, zl, if_pos (by decide)]
 simp only [za, zb]
 rw [h2, zb]
 simp
theorem jJ (n : Nat) {h : ze} {s : Nat} {sb : Option Nat} {most : Int} {xs : List Int} (hb : StkAt h s sb most xs) : call (n + 1) 178 [.ptr s 0] h = some (.ret [.int .i64 most], h) := by
 obtain ⟨v, sz, h1, h2, h3⟩ := hb.box
 refine (zjo n s h).trans ?_
 unfold zkH
 rw [Ws, zb, zo, if_neg (by decide), zx h1, zl, if_pos (by decide)]
 rfl
theorem K1 (n : Nat) {h : ze} {s : Nat} {sb : Option Nat} {most : Int} {xs : List Int} (hb : StkAt h s sb most xs) (hl : xs.length < lim) : call (n + 1) 168 [.ptr s 0] h = some (.ret [.row h.length 1 0 xs.length], h ++ [.row 21 1 (xs.map WO) true]) := by
 obtain ⟨v, sz, h1, h2, h3⟩ := hb.box
 refine (zg6 n s h).trans ?_
 unfold zg5
 rw [Ws, zb, zo, if_neg (by decide), zx h1, zl, if_pos (by decide)]
 simp only [za, zb]
 rw [h2, zb, if_pos ⟨h3.imp id (fun e => by rw [e]; rfl), by simpa using hl⟩, zA]
theorem zdK (n : Nat) {h : ze} {s : Nat} {sb : Option Nat} {most : Int} {xs : List Int} (hb : StkAt h s sb most xs) (x : Int) (hm : most <= xs.length) : call (n + 1) 180 [.ptr s 0, .int .i32 x] h = some (.ret [.bool false], h) := by
 obtain ⟨v, sz, h1, h2, h3⟩ := hb.box
 refine (zcK n s x h).trans ?_
 unfold zfu
 rw [Ws, zb, zo, if_neg (by decide), zx h1, zl, if_pos (by decide)]
 simp only [za, zb]
 rw [h2, zb, zx h1, zl, if_pos (by decide)]
 simp only [za, zi, zb]
 rw [Xm, zb, zo, if_pos (by simpa using hm)]
theorem jK (n : Nat) {h : ze} {s : Nat} {sb : Option Nat} {most : Int} {xs : List Int} (hb : StkAt h s sb most xs) (x : Int) (hm : (xs.length : Int) < most) (hl : xs.length + 1 < lim) :
    ∃ h' sb', call (n + 1) 180 [.ptr s 0, .int .i32 x] h = some (.ret [.bool true], h') /\ StkAt h' s sb' most (xs ++ [x]) /\ Fed h h' s sb sb' := by
 rw [zcK n s x h]
 unfold zfu
 rw [Ws, zb, zo, if_neg (by decide)]
 cases sb with
 | none =>
   obtain ⟨rfl, hc⟩ := hb
   have hcl := zQ hc
   rw [zx hc, zl, if_pos (by decide)]
   simp only [za, zb]
   rw [QX, zb, zx hc, zl, if_pos (by decide)]
   simp only [za, zi, zb]
   rw [Xm, zb, zo, if_neg (by simpa using hm), zl, if_pos (by decide)]
   simp only [za, zb]
   have J5 : J4 21 1 h [[.int .i32 x]] (.sl 0 [] true) = some (.row h.length 1 0 1, h ++ [.row 21 1 [[.int .i32 x]] true]) := rfl
   simp only [J5, Zd, V.cells, zB, zO, zr, if_true]
   have hc' : (h ++ [HB.row 21 1 [[.int .i32 x]] true])[s]? = some (.box 2 [.sl 0 [] true, .int .i64 most]) := by rw [zj hcl]; exact hc
   rw [ZO hc' (by simp), Zd]
   refine ⟨_, some h.length, rfl, ⟨by omega, [[.int .i32 x]], true, ?_, ?_, ?_, ?_⟩, ⟨by simp, fun j h1 h2 h3 => ?_, fun b hb => .inr (by cases hb; exact zm _)⟩⟩
   · rw [Xf (by simp; omega)]; rfl
   · rw [zd (by omega)]; exact zD
   · simp
   · simp [WO]
   · rw [zd (by omega), zj h1]
 | some b =>
   obtain ⟨h1, l, z, h2, h3, h4, h5⟩ := hb
   have hcl := zQ h2
   have hbl := zQ h3
   rw [zx h2, zl, if_pos (by decide)]
   simp only [za, zb]
   rw [Qi h3 (Zh _) h4, zb, zx h2, zl, if_pos (by decide)]
   simp only [za, zi, zb]
   rw [Xm, zb, zo, if_neg (by rw [zP, h5]; simpa using hm), zl, if_pos (by decide)]
   simp only [za, zb]
   have J5 : J4 21 1 h [[.int .i32 x]] (.row b 1 0 xs.length) = some (.row h.length 1 0 (xs.length + 1), h.set b .dead ++ [.row 21 1 (xs.map WO ++ [[.int .i32 x]]) z]) := by
    simp only [J4, h3]
    rw [if_pos (by refine ⟨⟨?_, ?_, ?_⟩, ⟨by omega, h4⟩, by simp; omega⟩ <;> first | trivial | rfl), zP, h5]
    simp
   rw [J5, Zd]
   simp only [V.cells, zB, zO, zr, if_true]
   have hc' : (h.set b .dead ++ [HB.row 21 1 (xs.map WO ++ [[.int .i32 x]]) z])[s]? = some (.box 2 [.row b 1 0 xs.length, .int .i64 most]) := by
    rw [zj (by simpa using hcl), zd h1]; exact h2
   rw [ZO hc' (by simp), Zd]
   refine ⟨_, some h.length, rfl, ⟨by omega, xs.map WO ++ [[.int .i32 x]], z, ?_, ?_, ?_, ?_⟩, ⟨by simp, fun j k1 k2 k3 => ?_, fun b hb => .inr (by cases hb; exact zm _)⟩⟩
   · rw [Xf (by simp; omega)]; simp; rfl
   · rw [zd (by omega), zG (by simp)]; simp
   · simp
   · simp [WO, zN]
   · rw [zd (by omega), zj (by simpa using k1), zd (fun e => k3 (by rw [e]))]
theorem zfB (n : Nat) {h : ze} {s : Nat} {sb : Option Nat} {most : Int} (hb : StkAt h s sb most []) : call (n + 2) 184 [.ptr s 0] h = some (.ret [.int .i32 0, .bool false], h) := by
 rw [show n + 2 = (n + 1) + 1 from rfl, zew]
 unfold zjn
 rw [Ke n hb, zK, zw, Xi, zb, zo, if_pos (by rfl)]
theorem qP (n : Nat) {h : ze} {s : Nat} {sb : Option Nat} {most : Int} {xs : List Int} {x : Int} (hb : StkAt h s sb most (xs ++ [x])) (hl : xs.length + 1 < lim) :
    ∃ h', call (n + 2) 184 [.ptr s 0] h = some (.ret [.int .i32 x, .bool true], h') /\ StkAt h' s sb most xs /\ h'.length = h.length /\ ∀ i, i ≠ s -> h'[i]? = h[i]? := by
 rw [show n + 2 = (n + 1) + 1 from rfl, zew]
 unfold zjn
 rw [Ke n hb, zK, zw, Xi, zb, zo, if_neg (by simp; omega)]
 cases sb with
 | none => exact absurd hb.1 (by simp)
 | some b =>
   obtain ⟨h1, l, z, h2, h3, h4, h5⟩ := hb
   rw [zE, ZL] at h2 h4 h5
   have hcl := zQ h2
   have hx : l[xs.length]? = some [.int .i32 x] := by
    have := congrArg (fun t : List (List V) => t[xs.length]?) h5
    simpa [WO, zX] using this
   have hr : l.take xs.length = xs.map WO := by
    have := congrArg (List.take xs.length) h5
    rw [List.take_take, X0 (by omega)] at this
    rw [this, ZC, XC (by simp), zN (by simp)]
   have hw : IntKind.i64.wrap ((((l.take (xs.length + 1)).drop 0).length : Int) - 1) = (xs.length : Int) := by
    rw [zP, h5]
    rw [show (((List.map WO (xs ++ [x])).length : Int) - 1) = (xs.length : Int) by simp]
    unfold lim at hl; rw [w64] <;> omega
   have hn : nv (V.int .i64 (xs.length : Int)) = some xs.length := by simp [nv]
   rw [zx h2, zl, if_pos (by decide)]
   simp only [za, zb]
   rw [Qi h3 (Zh _) h4, zb, zl, if_pos (by decide)]
   simp only [za, zb]
   rw [hw, hn, zH, XG (by omega), zb, zr, Xr h3 (by decide) hx, zl, if_pos (by decide)]
   simp only [za, zb]
   rw [zl, if_pos (by decide)]
   simp only [za, zb]
   rw [W5, zb, zH, JA (Zh _) (by omega), zb]
   simp only [V.cells, zB, zO, zr, if_true]
   rw [ZO h2 (by simp), Zd]
   refine ⟨_, rfl, ⟨h1, l, z, ?_, ?_, by omega, hr⟩, by rw [zp], fun i hi => zd (Ne.symm hi)⟩
   · rw [Xf hcl]; rfl
   · rw [zd (Ne.symm h1)]; exact h3
theorem znr (c v : Int) : Ji prog 35 [(0, .int .u8 c), (1, .int .i32 v)] = some [.int .u8 c, .int .i32 v] := by kernel_rfl
theorem zns {P : Nat -> Prop} {m : Nat} (h : ∀ k, 3 <= k -> k < m -> P k) (hm : P m) : ∀ k, 3 <= k -> k < m + 1 -> P k := fun k h3 hk => by
 rcases ZQ k m with e | e
 · exact h k h3 e
 · obtain rfl : k = m := by omega
   exact hm
theorem zjA (n s : Nat) (x : Int) (h : ze) : ∀ k : Nat, 3 <= k -> k < 256 -> call (n + 2) 177 [.ptr s 0, .agg [.int .u8 (k : Int), .int .i32 x]] h = some (.ret [zhk 5 0], h) := by
 iterate 253 (refine zns (m := _) ?_ (by show call _ _ _ _ = _; kernel_rfl))
 intro k h1 h2
 omega
theorem zhl (n : Nat) {h : ze} {s : Nat} {sb : Option Nat} {most : Int} {xs : List Int} (hb : StkAt h s sb most xs) (hl : xs.length + 1 < lim) (c x : Int) (c0 : 0 <= c) (c1 : c < 256) :
    ∃ h' sb', call (n + 5) 177 [.ptr s 0, .agg [.int .u8 c, .int .i32 x]] h = some (.ret [zhk (XB most c x xs).1.1 (XB most c x xs).1.2], h') /\ StkAt h' s sb' most (XB most c x xs).2 /\ Fed h h' s sb sb' := by
 obtain ⟨k, rfl⟩ : ∃ k : Nat, c = (k : Int) := ⟨c.toNat, (ZY c0).symm⟩
 by_cases k3 : 3 <= k
 · have : XB most (k : Int) x xs = ((5, 0), xs) := by unfold XB; rw [if_neg (by omega), if_neg (by omega)]
   rw [this]
   exact ⟨h, sb, zjA (n + 3) s x h k k3 (by omega), hb, Fed.refl ..⟩
 obtain rfl | rfl | rfl : k = 0 \/ k = 1 \/ k = 2 := by omega
 · exact ⟨h, sb, (zlW (n + 3) s x h).trans (by unfold znl; rw [if_neg (by decide)]; rfl), hb, Fed.refl ..⟩
 · by_cases hm : (xs.length : Int) < most
   · obtain ⟨h', sb', e, b1, b2⟩ := jK (n + 2) hb x hm hl
     have : XB most ((1 : Nat) : Int) x xs = ((1, 0), xs ++ [x]) := by unfold XB; rw [if_pos (by decide), if_pos hm]
     rw [this]
     refine ⟨h', sb', (zex (n + 3) s x h).trans ?_, b1, b2⟩
     unfold zjq
     rw [if_neg (by decide), zcJ]
     unfold zft
     rw [e, zK, zw, zo, if_pos (by rfl)]
     rfl
   · have e := zdK (n + 2) hb x (by omega)
     have : XB most ((1 : Nat) : Int) x xs = ((3, 0), xs) := by unfold XB; rw [if_pos (by decide), if_neg hm]
     rw [this]
     refine ⟨h, sb, (zex (n + 3) s x h).trans ?_, hb, Fed.refl ..⟩
     unfold zjq
     rw [if_neg (by decide), zcJ]
     unfold zft
     rw [e, zK, zw, zo, if_neg (by decide)]
     rfl
 · have e2 : ∀ (m : Nat) (h : ze), call (m + 1) 190 [.ptr s 0, .int .i32 x] h = zjm m s h := fun m h => by kernel_rfl
   rcases ZD xs with rfl | ⟨ys, y, rfl⟩
   · have e := zfB (n + 1) hb
     have : XB most ((2 : Nat) : Int) x [] = ((4, 0), []) := rfl
     rw [this]
     refine ⟨h, sb, (zey (n + 3) s x h).trans ?_, hb, Fed.refl ..⟩
     unfold zjr
     rw [if_neg (by decide), e2]
     unfold zjm
     rw [e, zK]
     rfl
   · rw [X3] at hb hl ⊢
     obtain ⟨h', e, b1, b2, b3⟩ := qP (n + 1) hb (by simp at hl; omega)
     have : XB most ((2 : Nat) : Int) x (ys ++ [y]) = ((2, y), ys) := by unfold XB; rw [if_neg (by decide), if_pos (by decide)]; simp
     rw [this]
     refine ⟨h', sb, (zey (n + 3) s x h).trans ?_, b1, ⟨by omega, fun i h1 h2 h3 => b3 i h2, fun b hb => .inl hb⟩⟩
     unfold zjr
     rw [if_neg (by decide), e2]
     unfold zjm
     rw [e, zK]
     simp only [za, zi, zb, zo, if_true]
     rw [znr, zb]
     rfl
end Go.Proofs.Tryz
namespace Go.Proofs.Tryz
open Go.L
set_option maxRecDepth 100000
noncomputable def zfC (n : Nat) (s : Nat) (i : Int) (h : ze) : Option (Res × ze) :=
 (bd3 (zu h (V.ptr s 1)) fun cs1 m0 o2 => if (o2 + 1 <= m0 /\ 0 < 1) then
 (bd (cs1)[o2]? fun v3 =>
 (bd3 (zu h (V.ptr s 0)) fun cs5 m4 o6 => if (o6 + 1 <= m4 /\ 0 < 1) then
 (bd (cs5)[o6]? fun v7 =>
 (bd (Xq h v7) fun p8 =>
 (bd (bop prog .add 3 v3 (V.int .i64 ((p8.2).length : Int))) fun v9 =>
 (bd3 (zu h (V.ptr s 2)) fun cs11 m10 o12 => if (o12 + 1 <= m10 /\ 0 < 1) then
 (bd (cs11)[o12]? fun v13 =>
 (bd (bop prog .geq 3 v9 v13) fun v14 =>
 (bv v14 fun b15 => if b15 then
 some (Res.ret [(V.bool false)], h)
 else
 (bd3 (zu h (V.ptr s 0)) fun cs17 m16 o18 => if (o18 + 1 <= m16 /\ 0 < 1) then
 (bd (cs17)[o18]? fun v19 =>
 (bd2 (J4 3 1 h [[(V.int .i64 i)]] v19) fun v20 h21 =>
 (if ((V.cells v20)).length = 1 then
 (bd2 (Zp h21 (V.cells v20) (V.ptr s 0)) fun b22 x23 =>
 some (Res.ret [(V.bool true)], ((h21).set b22 x23))) else none))) else none)))) else none)))) else none)) else none)
theorem zcU (n : Nat) (s : Nat) (i : Int) (h : ze) : call (n + 1) 186 [(V.ptr s 0), (V.int .i64 i)] h = zfC n s i h := by kernel_rfl
noncomputable def zjB (n : Nat) (s : Nat) (h : ze) : Option (Res × ze) :=
 (bd3 (zu h (V.ptr s 0)) fun cs1 m0 o2 => if (o2 + 1 <= m0 /\ 0 < 1) then
 (bd (cs1)[o2]? fun v3 =>
 (bd (Xq h v3) fun p4 =>
 (if (decide ((IntKind.i64.wrap (((p4.2).length : Int) - 1)) < 0)) then
 some (Res.ret [(V.int .i64 (-1)), (V.bool false)], h)
 else
 (bd3 (zu h (V.ptr s 0)) fun cs6 m5 o7 => if (o7 + 1 <= m5 /\ 0 < 1) then
 (bd (cs6)[o7]? fun v8 =>
 (bdS (nv (V.int .i64 (IntKind.i64.wrap (((p4.2).length : Int) - 1)))) fun n9 =>
 (bd (Xa 1 n9 v8) fun p10 =>
 (bd3 (zu h p10) fun cs12 m11 o13 => if (o13 + 1 <= m11 /\ 0 < 1) then
 (bd (cs12)[o13]? fun v14 =>
 (bd3 (zu h (V.ptr s 0)) fun cs16 m15 o17 => if (o17 + 1 <= m15 /\ 0 < 1) then
 (bd (cs16)[o17]? fun v18 =>
 (bd (zan v18) fun n19 =>
 (bdS (nv (V.int .i64 (IntKind.i64.wrap (((p4.2).length : Int) - 1)))) fun n20 =>
 (bd (Q7 1 0 n20 (none : Option Nat) true v18) fun v21 =>
 (if ((V.cells v21)).length = 1 then
 (bd2 (Zp h (V.cells v21) (V.ptr s 0)) fun b22 x23 =>
 some (Res.ret [v14, (V.bool true)], ((h).set b22 x23))) else none))))) else none)) else none)))) else none)))) else none)
theorem zeF (n : Nat) (s : Nat) (h : ze) : call (n + 1) 187 [(V.ptr s 0)] h = zjB n s h := by kernel_rfl
noncomputable def zcV (n : Nat) (s : Nat) (h : ze) : Option (Res × ze) :=
 (bd3 (zu h (V.ptr s 1)) fun cs1 m0 o2 => if (o2 + 1 <= m0 /\ 0 < 1) then
 (bd (cs1)[o2]? fun v3 =>
 (bd (bop prog .eql 3 v3 (V.int .i64 0)) fun v4 =>
 (bv v4 fun b5 => if b5 then
 some (Res.ret [(V.bool false)], h)
 else
 (bd3 (zu h (V.ptr s 1)) fun cs7 m6 o8 => if (o8 + 1 <= m6 /\ 0 < 1) then
 (bd (cs7)[o8]? fun v9 =>
 (bd (bop prog .sub 3 v9 (V.int .i64 1)) fun v10 =>
 (if ((V.cells v10)).length = 1 then
 (bd2 (Zp h (V.cells v10) (V.ptr s 1)) fun b11 x12 =>
 some (Res.ret [(V.bool true)], ((h).set b11 x12))) else none))) else none)))) else none)
theorem zbh (n : Nat) (s : Nat) (h : ze) : call (n + 1) 188 [(V.ptr s 0)] h = zcV n s h := by kernel_rfl
noncomputable def zpS (n : Nat) (i : Int) (j : Int) (bo : Nat) (r : Nat) (l : Nat) (h : ze) : Option (Res × ze) :=
 (bd3 (zu h (V.ptr bo 0)) fun cs1 m0 o2 => if (o2 + 1 <= m0 /\ 0 < 1) then
 (bd (cs1)[o2]? fun v3 =>
 (bdS (nv (V.int .i64 j)) fun n4 =>
 (bd (Xa 2 n4 v3) fun p5 =>
 (bd (ZN 1 p5) fun p6 =>
 (bd3 (zu h p6) fun cs8 m7 o9 => if (o9 + 1 <= m7 /\ 0 < 1) then
 (bd (cs8)[o9]? fun v10 =>
 (bdS (nv (V.int .i64 i)) fun n11 =>
 (bd (Xa 1 n11 (V.row r 1 0 l)) fun p12 =>
 (if ((V.cells v10)).length = 1 then
 (bd2 (Zp h (V.cells v10) p12) fun b13 x14 =>
 some (Res.ret [], ((h).set b13 x14))) else none)))) else none))))) else none)
theorem znt (n : Nat) (i : Int) (j : Int) (bo : Nat) (r : Nat) (l : Nat) (h : ze) : call (n + 1) 182 [(V.int .i64 i), (V.int .i64 j), (V.ptr bo 0), (V.iptr 1 [(V.row r 1 0 l)] 0)] h = zpS n i j bo r l h := by kernel_rfl
noncomputable def zpT (n : Nat) (i : Int) (bs : Nat) (r : Nat) (l : Nat) (h : ze) : Option (Res × ze) :=
 (bd3 (zu h (V.ptr bs 0)) fun cs1 m0 o2 => if (o2 + 1 <= m0 /\ 0 < 1) then
 (bd (cs1)[o2]? fun v3 =>
 (clH (call n 184 [v3] h) fun r4 h5 =>
 (bd (r4)[0]? fun v7 =>
 (bd (r4)[1]? fun v8 =>
 (bdS (nv (V.int .i64 i)) fun n9 =>
 (bd (Xa 1 n9 (V.row r 1 0 l)) fun p10 =>
 (if ((V.cells v7)).length = 1 then
 (bd2 (Zp h5 (V.cells v7) (V.rptr r 1 (ixP p10) 0)) fun b11 x12 =>
 some (Res.ret [], ((h5).set b11 x12))) else none))))))) else none)
theorem znu (n : Nat) (i : Int) (bs : Nat) (r : Nat) (l : Nat) (h : ze) : call (n + 1) 183 [(V.int .i64 i), (V.ptr bs 0), (V.iptr 1 [(V.row r 1 0 l)] 0)] h = zpT n i bs r l h := by kernel_rfl
noncomputable def Qy (n : Nat) (s : Nat) (os : List (List V)) (osb : Bool) (bo : Nat) (bs : Nat) (r : Nat) (l : Nat) (st3 : List V) (hh4 : ze) (next5 : List V -> ze -> Option (Res × ze)) : Option (Res × ze) :=
 (bd (bop prog .lss 3 (gv st3 3) (V.int .i64 ((os).length : Int))) fun v6 =>
 (bv v6 fun b7 => if b7 then
 (bdS (nv (gv st3 3)) fun n8 =>
 (bd (Xa 2 n8 (V.sl 2 os osb)) fun p9 =>
 (bd3 (zu hh4 p9) fun cs11 m10 o12 => if (o12 + 2 <= m10 /\ 0 < 2) then
 (if (((cs11).drop o12 |>.take 2)).length = 2 then
 (if ((((cs11).drop o12 |>.take 2)).length <= 2) then
 (bdS (nv (gv st3 3)) fun n13 =>
 (if (2 = 2 /\ n13 < ((lsl (gv st3 1))).length /\ (some 27 : Option Nat) ≠ some 9) then
 (bd ((setR [(V.int .u8 0), (V.int .i32 0)] 0 ((cs11).drop o12 |>.take 2)))[0]? fun v14 =>
 (bd (bop prog .eql 5 v14 (V.int .u8 1)) fun v15 =>
 (bv v15 fun b16 => if b16 then
 (bd ((lsl (gv st3 1)))[n13]? fun es17 =>
 (cl (call n 186 [(V.ptr s 0), (gv st3 3)] hh4) (fun r18 h19 =>
 (Zs r18 fun v21 =>
 (bv v21 fun b22 => if b22 then
 (bd ((((lsl (gv st3 1))).set n13 (setR es17 0 [(V.int .u8 3)])))[n13]? fun es23 =>
 (bd (bop prog .add 3 (gv st3 3) (V.int .i64 1)) fun v24 =>
 (next5 [(V.sl 2 (lsl (gv st3 0)) false), (V.sl 2 (((((lsl (gv st3 1))).set n13 (setR es17 0 [(V.int .u8 3)]))).set n13 (setR es23 0 [(V.int .u8 1)])) false), (V.bool false), v24] h19)))
 else
 (bd (bop prog .add 3 (gv st3 3) (V.int .i64 1)) fun v25 =>
 (next5 [(V.sl 2 (lsl (gv st3 0)) false), (V.sl 2 (((lsl (gv st3 1))).set n13 (setR es17 0 [(V.int .u8 3)])) false), (V.bool false), v25] h19))))) (fun z20 h19 => some (Res.pan z20, h19))))
 else
 (bd (bop prog .eql 5 v14 (V.int .u8 2)) fun v26 =>
 (bv v26 fun b27 => if b27 then
 (bd ((lsl (gv st3 1)))[n13]? fun es28 =>
 (cl (call n 187 [(V.ptr s 0)] hh4) (fun r29 h30 =>
 (bd (r29)[0]? fun v32 =>
 (bd (r29)[1]? fun v33 =>
 (bv v33 fun b34 => if b34 then
 (cl (call n 182 [(gv st3 3), v32, (V.ptr bo 0), (V.iptr 1 [(V.row r 1 0 l)] 0)] h30) (fun r35 h36 =>
 (bd (bop prog .add 3 (gv st3 3) (V.int .i64 1)) fun v38 =>
 (next5 [(V.sl 2 (lsl (gv st3 0)) false), (V.sl 2 (((lsl (gv st3 1))).set n13 (setR es28 0 [(V.int .u8 2)])) false), (V.bool false), v38] h36))) (fun z37 h36 => some (Res.pan z37, h36)))
 else
 (cl (call n 188 [(V.ptr s 0)] h30) (fun r39 h40 =>
 (Zs r39 fun v42 =>
 (bv v42 fun b43 => if b43 then
 (cl (call n 183 [(gv st3 3), (V.ptr bs 0), (V.iptr 1 [(V.row r 1 0 l)] 0)] h40) (fun r44 h45 =>
 (bd (bop prog .add 3 (gv st3 3) (V.int .i64 1)) fun v47 =>
 (next5 [(V.sl 2 (lsl (gv st3 0)) false), (V.sl 2 (((lsl (gv st3 1))).set n13 (setR es28 0 [(V.int .u8 2)])) false), (V.bool false), v47] h45))) (fun z46 h45 => some (Res.pan z46, h45)))
 else
 (bd ((((lsl (gv st3 1))).set n13 (setR es28 0 [(V.int .u8 2)])))[n13]? fun es48 =>
 (bd (bop prog .add 3 (gv st3 3) (V.int .i64 1)) fun v49 =>
 (next5 [(V.sl 2 (lsl (gv st3 0)) false), (V.sl 2 (((((lsl (gv st3 1))).set n13 (setR es28 0 [(V.int .u8 2)]))).set n13 (setR es48 0 [(V.int .u8 4)])) false), (V.bool false), v49] h40)))))) (fun z41 h40 => some (Res.pan z41, h40))))))) (fun z31 h30 => some (Res.pan z31, h30))))
 else
 (bd ((lsl (gv st3 1)))[n13]? fun es50 =>
 (bd (bop prog .add 3 (gv st3 3) (V.int .i64 1)) fun v51 =>
 (next5 [(V.sl 2 (lsl (gv st3 0)) false), (V.sl 2 (((lsl (gv st3 1))).set n13 (setR es50 0 [(V.int .u8 5)])) false), (V.bool false), v51] hh4)))))))) else none)) else none) else none) else none)))
 else
 some (Res.ret [(V.row (hh4).length 2 0 ((lsl (gv st3 1))).length)], (hh4 ++ [(HB.row 35 2 (lsl (gv st3 1)) true)]))))
noncomputable def znv (n : Nat) (s : Nat) (os : List (List V)) (osb : Bool) (bo : Nat) (bs : Nat) (r : Nat) (l : Nat) (h : ze) : Option (Res × ze) :=
 (bdS (nv (V.int .i64 ((os).length : Int))) fun n0 =>
 (bdS (nv (V.int .i64 ((os).length : Int))) fun n1 =>
 (if (n0 <= n1 /\ n1 < lim /\ 2 = 2) then
 (Ze n (Qy n s os osb bo bs r l) [(V.sl 2 [] false), (V.sl 2 (List.replicate n0 [(V.int .u8 0), (V.int .i32 0)]) false), (V.bool false), (V.int .i64 0)] h) else none)))
theorem zl4 (n : Nat) (s : Nat) (os : List (List V)) (osb : Bool) (bo : Nat) (bs : Nat) (r : Nat) (l : Nat) (h : ze) : call (n + 1) 181 [(V.ptr s 0), (V.sl 2 os osb), (V.fn 182 [(V.ptr bo 0), (V.iptr 1 [(V.row r 1 0 l)] 0)]), (V.fn 183 [(V.ptr bs 0), (V.iptr 1 [(V.row r 1 0 l)] 0)])] h = znv n s os osb bo bs r l h := by kernel_rfl
noncomputable def JY (n : Nat) (s : Nat) (os : List (List V)) (osb : Bool) (h5 : ze) (cs8 : List V) (n14 : Nat) (v27 : V) (p28 : Nat × List (List V)) (st30 : List V) (hh31 : ze) (next32 : List V -> ze -> Option (Res × ze)) : Option (Res × ze) :=
 (bd (bop prog .lss 3 (gv st30 1) (V.int .i64 ((p28.2).length : Int))) fun v33 =>
 (bv v33 fun b34 => if b34 then
 (bdS (nv (gv st30 1)) fun n35 =>
 (bd (Xa 1 n35 (V.row (((((h5 ++ [(HB.box 3 cs8)]) ++ [(HB.box 1 [(V.ptr (h5).length 0)])]) ++ [(HB.box 1 [(V.ptr s 0)])]) ++ [(HB.box 1 [(V.sl 2 os osb)])])).length 1 0 ((List.replicate n14 [(V.int .i32 0)])).length)) fun p36 =>
 (bd3 (zu hh31 p36) fun cs38 m37 o39 => if (o39 + 1 <= m37 /\ 0 < 1) then
 (bd (cs38)[o39]? fun v40 =>
 (bdS (nv (gv st30 1)) fun n41 =>
 (bd (Xa 2 n41 v27) fun p42 =>
 (bd (ZN 1 p42) fun p43 =>
 (if ((V.cells v40)).length = 1 then
 (bd2 (Zp hh31 (V.cells v40) p43) fun b44 x45 =>
 (bd (bop prog .add 3 (gv st30 1) (V.int .i64 1)) fun v46 =>
 (next32 [(V.sl 2 (lsl (gv st30 0)) false), v46] ((hh31).set b44 x45)))) else none))))) else none)))
 else
 (bd2 (dcl n 179 [(V.ptr ((h5 ++ [(HB.box 3 cs8)])).length 0), (V.ptr (((h5 ++ [(HB.box 3 cs8)]) ++ [(HB.box 1 [(V.ptr (h5).length 0)])])).length 0), (V.ptr ((((h5 ++ [(HB.box 3 cs8)]) ++ [(HB.box 1 [(V.ptr (h5).length 0)])]) ++ [(HB.box 1 [(V.ptr s 0)])])).length 0)] hh31 none) fun h47 b48 =>
 some (Res.ret [v27], h47))))
noncomputable def zhm (n : Nat) (s : Nat) (os : List (List V)) (osb : Bool) (h : ze) : Option (Res × ze) :=
 (clH (call n 169 [(V.ptr s 0)] h) fun r0 h1 =>
 (Zs r0 fun v3 =>
 (clH (call n 178 [(V.ptr s 0)] h1) fun r4 h5 =>
 (Zs r4 fun v7 =>
 (bd (Ji prog 249 [(1, v3), (2, v7)]) fun cs8 =>
 (if (cs8).length = 3 then
 (bd3 (zu ((((h5 ++ [(HB.box 3 cs8)]) ++ [(HB.box 1 [(V.ptr (h5).length 0)])]) ++ [(HB.box 1 [(V.ptr s 0)])]) ++ [(HB.box 1 [(V.sl 2 os osb)])]) (V.ptr ((((h5 ++ [(HB.box 3 cs8)]) ++ [(HB.box 1 [(V.ptr (h5).length 0)])]) ++ [(HB.box 1 [(V.ptr s 0)])])).length 0)) fun cs10 m9 o11 => if (o11 + 1 <= m9 /\ 0 < 1) then
 (bd (cs10)[o11]? fun v12 =>
 (bd (Xq ((((h5 ++ [(HB.box 3 cs8)]) ++ [(HB.box 1 [(V.ptr (h5).length 0)])]) ++ [(HB.box 1 [(V.ptr s 0)])]) ++ [(HB.box 1 [(V.sl 2 os osb)])]) v12) fun p13 =>
 (bdS (nv (V.int .i64 ((p13.2).length : Int))) fun n14 =>
 (bdS (nv (V.int .i64 ((p13.2).length : Int))) fun n15 =>
 (if (n14 <= n15 /\ n15 < lim /\ 1 = 1) then
 (bd3 (zu (((((h5 ++ [(HB.box 3 cs8)]) ++ [(HB.box 1 [(V.ptr (h5).length 0)])]) ++ [(HB.box 1 [(V.ptr s 0)])]) ++ [(HB.box 1 [(V.sl 2 os osb)])]) ++ [(HB.row 21 1 (List.replicate n14 [(V.int .i32 0)]) true)]) (V.ptr ((h5 ++ [(HB.box 3 cs8)])).length 0)) fun cs17 m16 o18 => if (o18 + 1 <= m16 /\ 0 < 1) then
 (bd (cs17)[o18]? fun v19 =>
 (bd3 (zu (((((h5 ++ [(HB.box 3 cs8)]) ++ [(HB.box 1 [(V.ptr (h5).length 0)])]) ++ [(HB.box 1 [(V.ptr s 0)])]) ++ [(HB.box 1 [(V.sl 2 os osb)])]) ++ [(HB.row 21 1 (List.replicate n14 [(V.int .i32 0)]) true)]) (V.ptr ((((h5 ++ [(HB.box 3 cs8)]) ++ [(HB.box 1 [(V.ptr (h5).length 0)])]) ++ [(HB.box 1 [(V.ptr s 0)])])).length 0)) fun cs21 m20 o22 => if (o22 + 1 <= m20 /\ 0 < 1) then
 (bd (cs21)[o22]? fun v23 =>
 (cl (call n 181 [v19, v23, (V.fn 182 [(V.ptr ((((h5 ++ [(HB.box 3 cs8)]) ++ [(HB.box 1 [(V.ptr (h5).length 0)])]) ++ [(HB.box 1 [(V.ptr s 0)])])).length 0), (V.iptr 1 [(V.row (((((h5 ++ [(HB.box 3 cs8)]) ++ [(HB.box 1 [(V.ptr (h5).length 0)])]) ++ [(HB.box 1 [(V.ptr s 0)])]) ++ [(HB.box 1 [(V.sl 2 os osb)])])).length 1 0 ((List.replicate n14 [(V.int .i32 0)])).length)] 0)]), (V.fn 183 [(V.ptr (((h5 ++ [(HB.box 3 cs8)]) ++ [(HB.box 1 [(V.ptr (h5).length 0)])])).length 0), (V.iptr 1 [(V.row (((((h5 ++ [(HB.box 3 cs8)]) ++ [(HB.box 1 [(V.ptr (h5).length 0)])]) ++ [(HB.box 1 [(V.ptr s 0)])]) ++ [(HB.box 1 [(V.sl 2 os osb)])])).length 1 0 ((List.replicate n14 [(V.int .i32 0)])).length)] 0)])] (((((h5 ++ [(HB.box 3 cs8)]) ++ [(HB.box 1 [(V.ptr (h5).length 0)])]) ++ [(HB.box 1 [(V.ptr s 0)])]) ++ [(HB.box 1 [(V.sl 2 os osb)])]) ++ [(HB.row 21 1 (List.replicate n14 [(V.int .i32 0)]) true)])) (fun r24 h25 =>
 (Zs r24 fun v27 =>
 (bd (Xq h25 (V.row (((((h5 ++ [(HB.box 3 cs8)]) ++ [(HB.box 1 [(V.ptr (h5).length 0)])]) ++ [(HB.box 1 [(V.ptr s 0)])]) ++ [(HB.box 1 [(V.sl 2 os osb)])])).length 1 0 ((List.replicate n14 [(V.int .i32 0)])).length)) fun p28 =>
 (Ze n (JY n s os osb h5 cs8 n14 v27 p28) [(V.sl 2 [] false), (V.int .i64 0)] h25)))) (fun z26 h25 => (bd2 (dcl n 179 [(V.ptr ((h5 ++ [(HB.box 3 cs8)])).length 0), (V.ptr (((h5 ++ [(HB.box 3 cs8)]) ++ [(HB.box 1 [(V.ptr (h5).length 0)])])).length 0), (V.ptr ((((h5 ++ [(HB.box 3 cs8)]) ++ [(HB.box 1 [(V.ptr (h5).length 0)])]) ++ [(HB.box 1 [(V.ptr s 0)])])).length 0)] h25 (some z26)) fun h49 b50 => if b50 then
 some (Res.ret [(V.row (h49).length 2 0 0)], (h49 ++ [(HB.row 35 2 [] true)]))
 else
 some (Res.pan z26, h49))))) else none)) else none) else none))))) else none) else none))))))
theorem zhn (n : Nat) (s : Nat) (os : List (List V)) (osb : Bool) (h : ze) : call (n + 1) 174 [(V.ptr s 0), (V.sl 2 os osb)] h = zhm n s os osb h := by kernel_rfl
noncomputable def YH (n : Nat) (bs : Nat) (bo : Nat) (v9 : V) (p10 : Nat × List (List V)) (st12 : List V) (hh13 : ze) (next14 : List V -> ze -> Option (ze × Bool)) : Option (ze × Bool) :=
 (bd (bop prog .lss 3 (gv st12 0) (V.int .i64 ((p10.2).length : Int))) fun v15 =>
 (bv v15 fun b16 => if b16 then
 (bdS (nv (gv st12 0)) fun n17 =>
 (bd (Xa 1 n17 v9) fun p18 =>
 (bd3 (zu hh13 p18) fun cs20 m19 o21 => if (o21 + 1 <= m19 /\ 0 < 1) then
 (bd (cs20)[o21]? fun v22 =>
 (bd3 (zu hh13 (V.ptr bs 0)) fun cs24 m23 o25 => if (o25 + 1 <= m23 /\ 0 < 1) then
 (bd (cs24)[o25]? fun v26 =>
 (bd3 (zu hh13 (V.ptr bo 0)) fun cs28 m27 o29 => if (o29 + 1 <= m27 /\ 0 < 1) then
 (bd (cs28)[o29]? fun v30 =>
 (bdS (nv v22) fun n31 =>
 (bd (Xa 2 n31 v30) fun p32 =>
 (bd (ZN 1 p32) fun p33 =>
 (bd3 (zu hh13 p33) fun cs35 m34 o36 => if (o36 + 1 <= m34 /\ 0 < 1) then
 (bd (cs35)[o36]? fun v37 =>
 (cl (call n 180 [v26, v37] hh13) (fun r38 h39 =>
 (Zs r38 fun v41 =>
 (bd (bop prog .add 3 (gv st12 0) (V.int .i64 1)) fun v42 =>
 (next14 [v42] h39)))) (fun z40 h39 => none))) else none))))) else none)) else none)) else none)))
 else
 some (hh13, false)))
noncomputable def zpU (n : Nat) (b : Nat) (bs : Nat) (bo : Nat) (h : ze) : Option (ze × Bool) :=
 (bd3 (zu h (V.ptr b 0)) fun cs1 m0 o2 => if (o2 + 1 <= m0 /\ 0 < 1) then
 (bd (cs1)[o2]? fun v3 =>
 (bd (ZN 0 v3) fun p4 =>
 (bd (ZN 0 p4) fun p5 =>
 (bd3 (zu h p5) fun cs7 m6 o8 => if (o8 + 1 <= m6 /\ 0 < 1) then
 (bd (cs7)[o8]? fun v9 =>
 (bd (Xq h v9) fun p10 =>
 (Ze n (YH n bs bo v9 p10) [(V.int .i64 0)] h))) else none)))) else none)
theorem znw (n : Nat) (b : Nat) (bs : Nat) (bo : Nat) (h : ze) : dcl n 179 [(V.ptr b 0), (V.ptr bs 0), (V.ptr bo 0)] h none = zpU n b bs bo h := by kernel_rfl
end Go.Proofs.Tryz
namespace Go.Sk
open Go.L
def JP (x : Nat) : List V := [.int .i64 (x : Int)]
end Go.Sk
namespace Go.Proofs.Tryz
open Go.L Go.Rp Go.Sk
set_option maxRecDepth 100000
def MatAt (h : ze) (s : Nat) (sb : Option Nat) (u m : Nat) (xs : List Nat) : Prop := match sb with
 | none => xs = [] /\ h[s]? = some (.box 3 [.sl 0 [] true, .int .i64 (u : Int), .int .i64 (m : Int)])
 | some b => b ≠ s /\ ∃ l z, h[s]? = some (.box 3 [.row b 1 0 xs.length, .int .i64 (u : Int), .int .i64 (m : Int)]) /\ h[b]? = some (.row 3 1 l z) /\ xs.length <= l.length /\ l.take xs.length = xs.map JP
theorem MatAt.keep {h h' : ze} {s : Nat} {sb : Option Nat} {u m : Nat} {xs : List Nat} (hb : MatAt h s sb u m xs) (hc : h'[s]? = h[s]?) (hk : ∀ b, sb = some b -> h'[b]? = h[b]?) : MatAt h' s sb u m xs := by
 cases sb with
 | none => exact ⟨hb.1, hc.trans hb.2⟩
 | some b =>
   obtain ⟨h1, l, z, h2, h3, h4⟩ := hb
   exact ⟨h1, l, z, hc.trans h2, (hk b rfl).trans h3, h4⟩
theorem MatAt.box {h : ze} {s : Nat} {sb : Option Nat} {u m : Nat} {xs : List Nat} (hb : MatAt h s sb u m xs) : ∃ v sz, h[s]? = some (.box 3 [v, .int .i64 (u : Int), .int .i64 (m : Int)]) /\ Xq h v = some (sz, xs.map JP) := by
 cases sb with
 | none =>
   obtain ⟨rfl, hc⟩ := hb
   exact ⟨_, 0, hc, QX ..⟩
 | some b =>
   obtain ⟨h1, l, z, h2, h3, h4, h5⟩ := hb
   refine ⟨_, 1, h2, ?_⟩
   rw [Qi h3 (Zh _) h4, zP, h5]
theorem zdL (n : Nat) {h : ze} {s : Nat} {sb : Option Nat} {u m : Nat} {xs : List Nat} (hb : MatAt h s sb u m xs) (i : Int) (hm : m <= u + xs.length) (hl : u + xs.length < lim) : call (n + 1) 186 [.ptr s 0, .int .i64 i] h = some (.ret [.bool false], h) := by
 obtain ⟨v, sz, h1, h2⟩ := hb.box
 refine (zcU n s i h).trans ?_
 unfold zfC
 rw [zx h1, zl, if_pos (by decide)]
 simp only [za, zi, zb]
 rw [zx h1, zl, if_pos (by decide)]
 simp only [za, zb]
 rw [h2, zb, zM, zb, zx h1, zl, if_pos (by decide)]
 simp only [za, zi, zb]
 rw [Xm, zb, zo, zA, w64 (by omega) (by unfold lim at hl; omega), if_pos (by simp; omega)]
theorem zdM (n : Nat) {h : ze} {s : Nat} {sb : Option Nat} {u m : Nat} {xs : List Nat} (hb : MatAt h s sb u m xs) (i : Nat) (hm : u + xs.length < m) (hl : u + xs.length + 1 < lim) :
    ∃ h' sb', call (n + 1) 186 [.ptr s 0, .int .i64 (i : Int)] h = some (.ret [.bool true], h') /\ MatAt h' s sb' u m (xs ++ [i]) /\ Fed h h' s sb sb' := by
 rw [zcU n s i h]
 unfold zfC
 obtain ⟨v, sz, k1, k2⟩ := hb.box
 rw [zx k1, zl, if_pos (by decide)]
 simp only [za, zi, zb]
 rw [zx k1, zl, if_pos (by decide)]
 simp only [za, zb]
 rw [k2, zb, zM, zb, zx k1, zl, if_pos (by decide)]
 simp only [za, zi, zb]
 rw [Xm, zb, zo, zA, w64 (by omega) (by unfold lim at hl; omega), if_neg (by simp; omega), zl, if_pos (by decide)]
 simp only [za, zb]
 cases sb with
 | none =>
   obtain ⟨rfl, hc⟩ := hb
   have hcl := zQ hc
   obtain rfl : v = .sl 0 [] true := by rw [hc] at k1; simpa using k1.symm
   have J5 : J4 3 1 h [[.int .i64 (i : Int)]] (.sl 0 [] true) = some (.row h.length 1 0 1, h ++ [.row 3 1 [[.int .i64 (i : Int)]] true]) := rfl
   simp only [J5, Zd, V.cells, zB, zO, zr, if_true]
   have hc' : (h ++ [HB.row 3 1 [[.int .i64 (i : Int)]] true])[s]? = some (.box 3 [.sl 0 [] true, .int .i64 (u : Int), .int .i64 (m : Int)]) := by rw [zj hcl]; exact hc
   rw [ZO hc' (by simp), Zd]
   refine ⟨_, some h.length, rfl, ⟨by omega, [[.int .i64 (i : Int)]], true, ?_, ?_, ?_, ?_⟩, ⟨by simp, fun j h1 h2 h3 => ?_, fun b hb => .inr (by cases hb; exact zm _)⟩⟩
   · rw [Xf (by simp; omega)]; rfl
   · rw [zd (by omega)]; exact zD
   · simp
   · simp [JP]
   · rw [zd (by omega), zj h1]
 | some b =>
   obtain ⟨h1, l, z, h2, h3, h4, h5⟩ := hb
   have hcl := zQ h2
   have hbl := zQ h3
   obtain rfl : v = .row b 1 0 xs.length := by rw [h2] at k1; simpa using k1.symm
   have J5 : J4 3 1 h [[.int .i64 (i : Int)]] (.row b 1 0 xs.length) = some (.row h.length 1 0 (xs.length + 1), h.set b .dead ++ [.row 3 1 (xs.map JP ++ [[.int .i64 (i : Int)]]) z]) := by
    simp only [J4, h3]
    rw [if_pos (by refine ⟨⟨?_, ?_, ?_⟩, ⟨by omega, h4⟩, by simp; omega⟩ <;> first | trivial | rfl), zP, h5]
    simp
   rw [J5, Zd]
   simp only [V.cells, zB, zO, zr, if_true]
   have hc' : (h.set b .dead ++ [HB.row 3 1 (xs.map JP ++ [[.int .i64 (i : Int)]]) z])[s]? = some (.box 3 [.row b 1 0 xs.length, .int .i64 (u : Int), .int .i64 (m : Int)]) := by
    rw [zj (by simpa using hcl), zd h1]; exact h2
   rw [ZO hc' (by simp), Zd]
   refine ⟨_, some h.length, rfl, ⟨by omega, xs.map JP ++ [[.int .i64 (i : Int)]], z, ?_, ?_, ?_, ?_⟩, ⟨by simp, fun j k1 k2 k3 => ?_, fun b hb => .inr (by cases hb; exact zm _)⟩⟩
   · rw [Xf (by simp; omega)]; simp; rfl
   · rw [zd (by omega), zG (by simp)]; simp
   · simp
   · simp [JP, zN]
   · rw [zd (by omega), zj (by simpa using k1), zd (fun e => k3 (by rw [e]))]
theorem zcW (n : Nat) {h : ze} {s : Nat} {sb : Option Nat} {m : Nat} {xs : List Nat} (hb : MatAt h s sb 0 m xs) : call (n + 1) 188 [.ptr s 0] h = some (.ret [.bool false], h) := by
 obtain ⟨v, sz, h1, h2⟩ := hb.box
 refine (zbh n s h).trans ?_
 unfold zcV
 rw [zx h1, zl, if_pos (by decide)]
 simp only [za, zi, zb]
 rw [Xi, zb, zo, if_pos (by rfl)]
theorem zcX (n : Nat) {h : ze} {s : Nat} {sb : Option Nat} {u m : Nat} {xs : List Nat} (hb : MatAt h s sb (u + 1) m xs) (hu : u < lim) :
    ∃ h', call (n + 1) 188 [.ptr s 0] h = some (.ret [.bool true], h') /\ MatAt h' s sb u m xs /\ h'.length = h.length /\ ∀ i, i ≠ s -> h'[i]? = h[i]? := by
 have hw : IntKind.i64.wrap (((u + 1 : Nat) : Int) - 1) = (u : Int) := by unfold lim at hu; rw [w64] <;> omega
 rw [zbh n s h]
 unfold zcV
 cases sb with
 | none =>
   obtain ⟨rfl, hc⟩ := hb
   rw [zx hc, zl, if_pos (by decide)]
   simp only [za, zi, zb]
   rw [Xi, zb, zo, if_neg (by simp; omega), zl, if_pos (by decide)]
   simp only [za, zi, zb]
   rw [ZH, zb, hw, if_pos (by rfl), ZO hc (by simp [V.cells]), Zd]
   refine ⟨_, rfl, ⟨rfl, ?_⟩, by rw [zp], fun i hi => zd (Ne.symm hi)⟩
   rw [Xf (zQ hc)]; rfl
 | some b =>
   obtain ⟨h1, l, z, h2, h3, h4, h5⟩ := hb
   rw [zx h2, zl, if_pos (by decide)]
   simp only [za, zi, zb]
   rw [Xi, zb, zo, if_neg (by simp; omega), zl, if_pos (by decide)]
   simp only [za, zi, zb]
   rw [ZH, zb, hw, if_pos (by rfl), ZO h2 (by simp [V.cells]), Zd]
   refine ⟨_, rfl, ⟨h1, l, z, ?_, ?_, h4, h5⟩, by rw [zp], fun i hi => zd (Ne.symm hi)⟩
   · rw [Xf (zQ h2)]; rfl
   · rw [zd (Ne.symm h1)]; exact h3
theorem zfD (n : Nat) {h : ze} {s : Nat} {sb : Option Nat} {u m : Nat} (hb : MatAt h s sb u m []) : call (n + 1) 187 [.ptr s 0] h = some (.ret [.int .i64 (-1), .bool false], h) := by
 obtain ⟨v, sz, h1, h2⟩ := hb.box
 refine (zeF n s h).trans ?_
 unfold zjB
 rw [zx h1, zl, if_pos (by decide)]
 simp only [za, zb]
 rw [h2, zb, if_pos (by show decide (IntKind.i64.wrap (((0 : Nat) : Int) - 1) < 0) = true; decide)]
theorem zfE (n : Nat) {h : ze} {s : Nat} {sb : Option Nat} {u m : Nat} {xs : List Nat} {x : Nat} (hb : MatAt h s sb u m (xs ++ [x])) (hl : xs.length + 1 < lim) :
    ∃ h', call (n + 1) 187 [.ptr s 0] h = some (.ret [.int .i64 (x : Int), .bool true], h') /\ MatAt h' s sb u m xs /\ h'.length = h.length /\ ∀ i, i ≠ s -> h'[i]? = h[i]? := by
 rw [zeF]
 unfold zjB
 cases sb with
 | none => exact absurd hb.1 (by simp)
 | some b =>
   obtain ⟨h1, l, z, h2, h3, h4, h5⟩ := hb
   rw [zE, ZL] at h2 h4 h5
   have hcl := zQ h2
   have hx : l[xs.length]? = some [.int .i64 (x : Int)] := by
    have := congrArg (fun t : List (List V) => t[xs.length]?) h5
    simpa [JP, zX] using this
   have hr : l.take xs.length = xs.map JP := by
    have := congrArg (List.take xs.length) h5
    rw [List.take_take, X0 (by omega)] at this
    rw [this, ZC, XC (by simp), zN (by simp)]
   have hw : IntKind.i64.wrap ((((l.take (xs.length + 1)).drop 0).length : Int) - 1) = (xs.length : Int) := by
    rw [zP, h5]
    rw [show (((List.map JP (xs ++ [x])).length : Int) - 1) = (xs.length : Int) by simp]
    unfold lim at hl; rw [w64] <;> omega
   have hn : nv (V.int .i64 (xs.length : Int)) = some xs.length := by simp [nv]
   rw [zx h2, zl, if_pos (by decide)]
   simp only [za, zb]
   rw [Qi h3 (Zh _) h4, zb, hw, if_neg (by simp), zl, if_pos (by decide)]
   simp only [za, zb]
   rw [hn, zH, XG (by omega), zb, zr, Xr h3 (by decide) hx, zl, if_pos (by decide)]
   simp only [za, zb]
   rw [zl, if_pos (by decide)]
   simp only [za, zb]
   rw [W5, zb, zH, JA (Zh _) (by omega), zb]
   simp only [V.cells, zB, zO, zr, if_true]
   rw [ZO h2 (by simp), Zd]
   refine ⟨_, rfl, ⟨h1, l, z, ?_, ?_, by omega, hr⟩, by rw [zp], fun i hi => zd (Ne.symm hi)⟩
   · rw [Xf hcl]; rfl
   · rw [zd (Ne.symm h1)]; exact h3
theorem zho (n : Nat) {h : ze} {bo r : Nat} {os : List O} {osb : Bool} {l : List (List V)} {z : Bool} {i j : Nat} (ho : h[bo]? = some (.box 1 [.sl 2 (os.map O.w) osb])) (hr : h[r]? = some (.row 21 1 l z)) (hl : ∀ es ∈ l, es.length = 1) (hi : i < l.length) (hj : j < os.length) :
    call (n + 1) 182 [.int .i64 (i : Int), .int .i64 (j : Int), .ptr bo 0, .iptr 1 [.row r 1 0 l.length] 0] h = some (.ret [], h.set r (.row 21 1 (l.set i [.int .i32 os[j].v]) z)) := by
 refine (znt n _ _ bo r _ h).trans ?_
 unfold zpS
 have hx : l[i]? = some l[i] := zf hi
 have h1 : l[i].length = 1 := hl _ (Xl hi)
 rw [zx ho, zl, if_pos (by decide)]
 simp only [za, zb]
 rw [Zo, zH, QW (es := O.w os[j]) (by rw [zJ, zf hj]; rfl), zb]
 simp only [ZN, zb]
 rw [XP, zl, if_pos (by decide)]
 simp only [O.w, zr, zi, za, zb]
 rw [Zo, zH, XG (by omega), zb, zr]
 simp only [V.cells, zB, zO, zr, if_true]
 have hw : Zp h [V.int .i32 os[j].v] (.rptr r 1 i 0) = some (r, .row 21 1 (l.set i [.int .i32 os[j].v]) z) := by
  obtain ⟨e, he⟩ : ∃ e, l[i] = [e] := ZR.1 h1
  simp [Zp, hr, hx, he, setR]
 rw [hw, Zd]
theorem zhp (n : Nat) {h : ze} {bs r s : Nat} {sb : Option Nat} {most : Int} {xs : List Int} {x : Int} {l : List (List V)} {z : Bool} {i : Nat} (hbs : h[bs]? = some (.box 1 [.ptr s 0])) (hs : StkAt h s sb most (xs ++ [x])) (hm : xs.length + 1 < lim) (hr : h[r]? = some (.row 21 1 l z)) (hrs : r ≠ s) (hrb : sb ≠ some r) (hl : ∀ es ∈ l, es.length = 1) (hi : i < l.length) :
    ∃ h', call (n + 3) 183 [.int .i64 (i : Int), .ptr bs 0, .iptr 1 [.row r 1 0 l.length] 0] h = some (.ret [], h') /\ StkAt h' s sb most xs /\ h'[r]? = some (.row 21 1 (l.set i [.int .i32 x]) z) /\ h'.length = h.length /\ ∀ j, j ≠ s -> j ≠ r -> h'[j]? = h[j]? := by
 obtain ⟨h1, e, b1, b2, b3⟩ := qP n hs hm
 have hr1 : h1[r]? = some (.row 21 1 l z) := (b3 r hrs).trans hr
 have hx : l[i]? = some l[i] := zf hi
 have hw : Zp h1 [V.int .i32 x] (.rptr r 1 i 0) = some (r, .row 21 1 (l.set i [.int .i32 x]) z) := by
  obtain ⟨e, he⟩ : ∃ e, l[i] = [e] := ZR.1 (hl _ (Xl hi))
  simp [Zp, hr1, hx, he, setR]
 rw [znu]
 unfold zpT
 rw [zx hbs, zl, if_pos (by decide)]
 simp only [za, zb]
 rw [e]
 simp only [clH, za, zi, zb]
 rw [Zo, zH, XG (by omega), zb, zr]
 simp only [V.cells, ixP, zB, zO, zr, if_true]
 rw [hw, Zd]
 refine ⟨_, rfl, b1.keep (zd hrs) (fun b hb => zd (fun e => hrb (by rw [hb, e]))), Xf (zQ hr1) _, by rw [zp]; exact b2, fun j h2 h3 => ?_⟩
 rw [zd (Ne.symm h3)]
 exact b3 j h2
end Go.Proofs.Tryz
namespace Go.Proofs.Tryz
open Go.L
set_option maxRecDepth 100000
noncomputable def znx (n : Nat) (x0 : Int) (h : ze) : Option (Res × ze) :=
 (bdS (nv (V.int .i64 (if 0 < (if 1000 < x0 then 1000 else x0) then (if 1000 < x0 then 1000 else x0) else 0))) fun n0 =>
 (bdS (nv (V.int .i64 (if 0 < (if 1000 < x0 then 1000 else x0) then (if 1000 < x0 then 1000 else x0) else 0))) fun n1 =>
 (if (n0 <= n1 /\ n1 < lim /\ 1 = 1) then
 some (Res.ret [(V.ptr ((h ++ [(HB.row 21 1 (List.replicate n0 [(V.int .i32 0)]) true)])).length 0)], ((h ++ [(HB.row 21 1 (List.replicate n0 [(V.int .i32 0)]) true)]) ++ [(HB.box 3 [(V.row (h).length 1 0 ((List.replicate n0 [(V.int .i32 0)])).length), (V.int .i64 0), (V.int .i64 0)])])) else none)))
theorem zl5 (n : Nat) (x0 : Int) (h : ze) : call (n + 1) 59 [(V.int .i64 x0)] h = znx n x0 h := by kernel_rfl
noncomputable def qh (n : Nat) (x3 : Nat) (b : Nat) (z17 : V) (h : ze) : Option (Bool × ze) :=
 (lpR ((h)[b]?) fun cD cV cF cP cA cB =>
 (bd3 (zu ((h).set b (HB.loop cD cV cF cP cA cB .busy)) (V.ptr x3 0)) fun cs20 m19 o21 => if (o21 + 1 <= m19 /\ 0 < 1) then
 (bd (cs20)[o21]? fun v22 =>
 (bd (jX prog 27 1 [(0, z17)]) fun p23 =>
 (bd2 (J4 21 1 ((h).set b (HB.loop cD cV cF cP cA cB .busy)) p23.2 v22) fun v24 h25 =>
 (if ((V.cells v24)).length = 1 then
 (bd2 (Zp h25 (V.cells v24) (V.ptr x3 0)) fun b26 x27 =>
 (lpB ((((h25).set b26 x27))[b]?) fun eD eV eF eP eA eB => some (true, (((h25).set b26 x27)).set b (HB.loop eD eV eF eP eA eB .ready)))) else none)))) else none))
theorem zdN (n : Nat) (y0 : Option V) (y2 : Option V) (x3 : Nat) (y5 : Option V) (y6 : Option V) (y7 : Option V) (y8 : Option V) (y9 : Option V) (y10 : Option V) (y11 : Option V) (y12 : Option V) (y13 : Option V) (y14 : Option V) (y15 : Option V) (y16 : Option V) (b : Nat) (z17 : V) (h : ze) : zas prog (call n) X9 Wr n (L.textDraws prog) true [y0, none, y2, some (V.ptr x3 0), none, y5, y6, y7, y8, y9, y10, y11, y12, y13, y14, y15, y16, none, none, none, none, none, none] [17] (WM (Xo f191)) (WN (Xo f191)) b [z17] h = qh n x3 b z17 h := by kernel_rfl
noncomputable def zhq (n : Nat) (s : Nat) (h : ze) : Option (Res × ze) :=
 (bd (X1 prog h .eql 113 (V.ptr s 0) (V.val (.pointer none))) fun v0 =>
 (bv v0 fun b1 => if b1 then
 some (Res.ret [(V.row (h).length 1 0 0)], (h ++ [(HB.row 21 1 [] true)]))
 else
 (bd3 (zu h (V.ptr s 2)) fun cs3 m2 o4 => if (o4 + 1 <= m2 /\ 0 < 1) then
 (bd (cs3)[o4]? fun v5 =>
 (bdS (nv v5) fun n6 =>
 (if (0 <= n6 /\ n6 < lim /\ 1 = 1) then
 (cl (call n 193 [(V.ptr s 0)] (h ++ [(HB.row 21 1 (List.replicate 0 [(V.int .i32 0)]) true)])) (fun r7 h8 =>
 (Zs r7 fun v10 =>
 (fnK v10 fun f11 c12 => if ((Wk prog f11).isNone && (XL (WM (Xo f191)) && XL (WN (Xo f191)))) = true then
 (clN (call n f11 ((V.yld ((((h8 ++ [(HB.box 1 [(V.row (h).length 1 0 ((List.replicate 0 [(V.int .i32 0)])).length)])]) ++ [(HB.row 21 1 [] true)])).length + 1)) :: c12) (((h8 ++ [(HB.box 1 [(V.row (h).length 1 0 ((List.replicate 0 [(V.int .i32 0)])).length)])]) ++ [(HB.row 21 1 [] true)]) ++ [HB.defb, HB.loop (((h8 ++ [(HB.box 1 [(V.row (h).length 1 0 ((List.replicate 0 [(V.int .i32 0)])).length)])]) ++ [(HB.row 21 1 [] true)])).length true [some (V.ptr s 0), none, some (V.row ((h8 ++ [(HB.box 1 [(V.row (h).length 1 0 ((List.replicate 0 [(V.int .i32 0)])).length)])])).length 1 0 0), some (V.ptr (h8).length 0), none, some (V.ptr s 0), some (V.bool false), some (V.ptr s 0), some (V.ptr s 0), some (V.ptr s 0), some (V.ptr s 2), some v5, some (V.row (h).length 1 0 ((List.replicate 0 [(V.int .i32 0)])).length), some (V.ptr s 0), some (V.ptr s 0), some (V.ptr s 0), some v10, none, none, none, none, none, none] [17] (WM (Xo f191)) (WN (Xo f191)) .ready])) fun h14 => lpE ((h14)[((((h8 ++ [(HB.box 1 [(V.row (h).length 1 0 ((List.replicate 0 [(V.int .i32 0)])).length)])]) ++ [(HB.row 21 1 [] true)])).length + 1)]?) (
 (bd3 (zu ((h14).set ((((h8 ++ [(HB.box 1 [(V.row (h).length 1 0 ((List.replicate 0 [(V.int .i32 0)])).length)])]) ++ [(HB.row 21 1 [] true)])).length + 1) HB.dead) (V.ptr (h8).length 0)) fun cs16 m15 o17 => if (o17 + 1 <= m15 /\ 0 < 1) then
 (bd (cs16)[o17]? fun v18 =>
 (dfB ((((h14).set ((((h8 ++ [(HB.box 1 [(V.row (h).length 1 0 ((List.replicate 0 [(V.int .i32 0)])).length)])]) ++ [(HB.row 21 1 [] true)])).length + 1) HB.dead))[(((h8 ++ [(HB.box 1 [(V.row (h).length 1 0 ((List.replicate 0 [(V.int .i32 0)])).length)])]) ++ [(HB.row 21 1 [] true)])).length]?) (
 some (Res.ret [v18], ((((h14).set ((((h8 ++ [(HB.box 1 [(V.row (h).length 1 0 ((List.replicate 0 [(V.int .i32 0)])).length)])]) ++ [(HB.row 21 1 [] true)])).length + 1) HB.dead)).set (((h8 ++ [(HB.box 1 [(V.row (h).length 1 0 ((List.replicate 0 [(V.int .i32 0)])).length)])]) ++ [(HB.row 21 1 [] true)])).length HB.dead))))) else none)) (
 (dfB ((((h14).set ((((h8 ++ [(HB.box 1 [(V.row (h).length 1 0 ((List.replicate 0 [(V.int .i32 0)])).length)])]) ++ [(HB.row 21 1 [] true)])).length + 1) HB.dead))[(((h8 ++ [(HB.box 1 [(V.row (h).length 1 0 ((List.replicate 0 [(V.int .i32 0)])).length)])]) ++ [(HB.row 21 1 [] true)])).length]?) (
 some (Res.ret [(V.row ((h8 ++ [(HB.box 1 [(V.row (h).length 1 0 ((List.replicate 0 [(V.int .i32 0)])).length)])])).length 1 0 0)], ((((h14).set ((((h8 ++ [(HB.box 1 [(V.row (h).length 1 0 ((List.replicate 0 [(V.int .i32 0)])).length)])]) ++ [(HB.row 21 1 [] true)])).length + 1) HB.dead)).set (((h8 ++ [(HB.box 1 [(V.row (h).length 1 0 ((List.replicate 0 [(V.int .i32 0)])).length)])]) ++ [(HB.row 21 1 [] true)])).length HB.dead)))))) else none))) (fun z9 h8 => some (Res.pan z9, h8))) else none))) else none)))
theorem zhr (n : Nat) (s : Nat) (h : ze) : call (n + 1) 191 [(V.ptr s 0)] h = zhq n s h := by kernel_rfl
noncomputable def zny (n : Nat) (s : Nat) (h : ze) : Option (Res × ze) :=
 (bd (X1 prog h .eql 113 (V.ptr s 0) (V.val (.pointer none))) fun v0 =>
 (bv v0 fun b1 => if b1 then
 some (Res.ret [(V.int .i64 0)], h)
 else
 (bd3 (zu h (V.ptr s 2)) fun cs3 m2 o4 => if (o4 + 1 <= m2 /\ 0 < 1) then
 (bd (cs3)[o4]? fun v5 =>
 some (Res.ret [v5], h)) else none)))
theorem zl6 (n : Nat) (s : Nat) (h : ze) : call (n + 1) 192 [(V.ptr s 0)] h = zny n s h := by kernel_rfl
noncomputable def zkP (n : Nat) (s : Nat) (h : ze) : Option (Res × ze) :=
 (bd (X1 prog h .eql 113 (V.ptr s 0) (V.val (.pointer none))) fun v0 =>
 (bv v0 fun b1 => if b1 then
 some (Res.ret [(V.int .i64 0)], h)
 else
 (bd3 (zu h (V.ptr s 0)) fun cs3 m2 o4 => if (o4 + 1 <= m2 /\ 0 < 1) then
 (bd (cs3)[o4]? fun v5 =>
 (bd (Xq h v5) fun p6 =>
 some (Res.ret [(V.int .i64 ((p6.2).length : Int))], h))) else none)))
theorem zjC (n : Nat) (s : Nat) (h : ze) : call (n + 1) 202 [(V.ptr s 0)] h = zkP n s h := by kernel_rfl
noncomputable def zpV (n : Nat) (s : Nat) (c : Int) (x : Int) (h : ze) : Option (Res × ze) :=
 (if (c == 1) then
 (cl (call n 205 [(V.ptr s 0), (V.int .i32 x)] h) (fun r0 h1 =>
 (Zs r0 fun v3 =>
 (cl (call n 209 [v3] h1) (fun r4 h5 =>
 (Zs r4 fun v7 =>
 (if ((V.cells v7)).length = 2 then
 (if (((V.cells v7)).length <= 2) then
 some (Res.ret [(V.agg (((setR [(V.int .u8 0), (V.int .i32 0)] 0 (V.cells v7))).drop 0 |>.take 2))], h5) else none) else none))) (fun z6 h5 => some (Res.pan z6, h5))))) (fun z2 h1 => some (Res.pan z2, h1)))
 else
 (if (c == 2) then
 (cl (call n 206 [(V.ptr s 0), (V.int .i32 x)] h) (fun r8 h9 =>
 (Zs r8 fun v11 =>
 (cl (call n 209 [v11] h9) (fun r12 h13 =>
 (Zs r12 fun v15 =>
 (if ((V.cells v15)).length = 2 then
 (if (((V.cells v15)).length <= 2) then
 some (Res.ret [(V.agg (((setR [(V.int .u8 0), (V.int .i32 0)] 0 (V.cells v15))).drop 0 |>.take 2))], h13) else none) else none))) (fun z14 h13 => some (Res.pan z14, h13))))) (fun z10 h9 => some (Res.pan z10, h9)))
 else
 (if (c == 3) then
 (cl (call n 203 [(V.ptr s 0)] h) (fun r16 h17 =>
 (bd (r16)[0]? fun v19 =>
 (bd (r16)[1]? fun v20 =>
 (cl (call n 210 [v19, v20] h17) (fun r21 h22 =>
 (Zs r21 fun v24 =>
 (if ((V.cells v24)).length = 2 then
 (if (((V.cells v24)).length <= 2) then
 some (Res.ret [(V.agg (((setR [(V.int .u8 0), (V.int .i32 0)] 0 (V.cells v24))).drop 0 |>.take 2))], h22) else none) else none))) (fun z23 h22 => some (Res.pan z23, h22)))))) (fun z18 h17 => some (Res.pan z18, h17)))
 else
 (if (c == 4) then
 (cl (call n 204 [(V.ptr s 0)] h) (fun r25 h26 =>
 (bd (r25)[0]? fun v28 =>
 (bd (r25)[1]? fun v29 =>
 (cl (call n 210 [v28, v29] h26) (fun r30 h31 =>
 (Zs r30 fun v33 =>
 (if ((V.cells v33)).length = 2 then
 (if (((V.cells v33)).length <= 2) then
 some (Res.ret [(V.agg (((setR [(V.int .u8 0), (V.int .i32 0)] 0 (V.cells v33))).drop 0 |>.take 2))], h31) else none) else none))) (fun z32 h31 => some (Res.pan z32, h31)))))) (fun z27 h26 => some (Res.pan z27, h26)))
 else
 some (Res.ret [(V.agg [(V.int .u8 5), (V.int .i32 0)])], h)))))
theorem znz (n : Nat) (s : Nat) (c : Int) (x : Int) (h : ze) : call (n + 1) 201 [(V.ptr s 0), (V.agg [(V.int .u8 c), (V.int .i32 x)])] h = zpV n s c x h := by kernel_rfl
noncomputable def zfF (n : Nat) (s : Nat) (h : ze) : Option (Res × ze) :=
 (cl (call n 192 [(V.ptr s 0)] h) (fun r0 h1 =>
 (Zs r0 fun v3 =>
 (bd (bop prog .eql 3 v3 (V.int .i64 0)) fun v4 =>
 (bv v4 fun b5 => if b5 then
 some (Res.ret [(V.int .i32 0), (V.bool false)], h1)
 else
 (cl (call n 195 [(V.ptr s 0), (V.int .i64 0)] h1) (fun r6 h7 =>
 (Zs r6 fun v9 =>
 (bd (ZN 0 v9) fun p10 =>
 (bd3 (zu h7 p10) fun cs12 m11 o13 => if (o13 + 1 <= m11 /\ 0 < 1) then
 (bd (cs12)[o13]? fun v14 =>
 (cl (call n 211 [(V.ptr s 0), (V.int .i64 1)] h7) (fun r15 h16 =>
 (bd3 (zu h16 (V.ptr s 2)) fun cs19 m18 o20 => if (o20 + 1 <= m18 /\ 0 < 1) then
 (bd (cs19)[o20]? fun v21 =>
 (bd (bop prog .sub 3 v21 (V.int .i64 1)) fun v22 =>
 (if ((V.cells v22)).length = 1 then
 (bd2 (Zp h16 (V.cells v22) (V.ptr s 2)) fun b23 x24 =>
 some (Res.ret [v14, (V.bool true)], ((h16).set b23 x24))) else none))) else none)) (fun z17 h16 => some (Res.pan z17, h16)))) else none)))) (fun z8 h7 => some (Res.pan z8, h7))))))) (fun z2 h1 => some (Res.pan z2, h1)))
theorem zcY (n : Nat) (s : Nat) (h : ze) : call (n + 1) 203 [(V.ptr s 0)] h = zfF n s h := by kernel_rfl
noncomputable def zfG (n : Nat) (s : Nat) (h : ze) : Option (Res × ze) :=
 (cl (call n 192 [(V.ptr s 0)] h) (fun r0 h1 =>
 (Zs r0 fun v3 =>
 (bd (bop prog .eql 3 v3 (V.int .i64 0)) fun v4 =>
 (bv v4 fun b5 => if b5 then
 some (Res.ret [(V.int .i32 0), (V.bool false)], h1)
 else
 (bd3 (zu h1 (V.ptr s 2)) fun cs7 m6 o8 => if (o8 + 1 <= m6 /\ 0 < 1) then
 (bd (cs7)[o8]? fun v9 =>
 (bd (bop prog .sub 3 v9 (V.int .i64 1)) fun v10 =>
 (if ((V.cells v10)).length = 1 then
 (bd2 (Zp h1 (V.cells v10) (V.ptr s 2)) fun b11 x12 =>
 (bd3 (zu ((h1).set b11 x12) (V.ptr s 2)) fun cs14 m13 o15 => if (o15 + 1 <= m13 /\ 0 < 1) then
 (bd (cs14)[o15]? fun v16 =>
 (clH (call n 195 [(V.ptr s 0), v16] ((h1).set b11 x12)) fun r17 h18 =>
 (Zs r17 fun v20 =>
 (bd (ZN 0 v20) fun p21 =>
 (bd3 (zu h18 p21) fun cs23 m22 o24 => if (o24 + 1 <= m22 /\ 0 < 1) then
 (bd (cs23)[o24]? fun v25 =>
 some (Res.ret [v25, (V.bool true)], h18)) else none))))) else none)) else none))) else none))))) (fun z2 h1 => some (Res.pan z2, h1)))
theorem zcZ (n : Nat) (s : Nat) (h : ze) : call (n + 1) 204 [(V.ptr s 0)] h = zfG n s h := by kernel_rfl
noncomputable def zc0 (n : Nat) (s : Nat) (x : Int) (h : ze) : Option (Res × ze) :=
 (cl (call n 192 [(V.ptr s 0)] h) (fun r0 h1 =>
 (Zs r0 fun v3 =>
 (cl (call n 202 [(V.ptr s 0)] h1) (fun r4 h5 =>
 (Zs r4 fun v7 =>
 (bd (bop prog .geq 3 v3 v7) fun v8 =>
 (bv v8 fun b9 => if b9 then
 some (Res.ret [(V.bool false)], h5)
 else
 (cl (call n 211 [(V.ptr s 0), (V.int .i64 (-1))] h5) (fun r10 h11 =>
 (cl (call n 195 [(V.ptr s 0), (V.int .i64 0)] h11) (fun r13 h14 =>
 (Zs r13 fun v16 =>
 (bd (ZN 0 v16) fun p17 =>
 (bd2 (Zp h14 [(V.int .i32 x)] p17) fun b18 x19 =>
 (bd3 (zu ((h14).set b18 x19) (V.ptr s 2)) fun cs21 m20 o22 => if (o22 + 1 <= m20 /\ 0 < 1) then
 (bd (cs21)[o22]? fun v23 =>
 (bd (bop prog .add 3 v23 (V.int .i64 1)) fun v24 =>
 (if ((V.cells v24)).length = 1 then
 (bd2 (Zp ((h14).set b18 x19) (V.cells v24) (V.ptr s 2)) fun b25 x26 =>
 some (Res.ret [(V.bool true)], ((((h14).set b18 x19)).set b25 x26))) else none))) else none))))) (fun z15 h14 => some (Res.pan z15, h14)))) (fun z12 h11 => some (Res.pan z12, h11))))))) (fun z6 h5 => some (Res.pan z6, h5))))) (fun z2 h1 => some (Res.pan z2, h1)))
theorem zbi (n : Nat) (s : Nat) (x : Int) (h : ze) : call (n + 1) 205 [(V.ptr s 0), (V.int .i32 x)] h = zc0 n s x h := by kernel_rfl
noncomputable def zc1 (n : Nat) (s : Nat) (x : Int) (h : ze) : Option (Res × ze) :=
 (cl (call n 192 [(V.ptr s 0)] h) (fun r0 h1 =>
 (Zs r0 fun v3 =>
 (cl (call n 202 [(V.ptr s 0)] h1) (fun r4 h5 =>
 (Zs r4 fun v7 =>
 (bd (bop prog .geq 3 v3 v7) fun v8 =>
 (bv v8 fun b9 => if b9 then
 some (Res.ret [(V.bool false)], h5)
 else
 (bd3 (zu h5 (V.ptr s 2)) fun cs11 m10 o12 => if (o12 + 1 <= m10 /\ 0 < 1) then
 (bd (cs11)[o12]? fun v13 =>
 (clH (call n 195 [(V.ptr s 0), v13] h5) fun r14 h15 =>
 (Zs r14 fun v17 =>
 (bd (ZN 0 v17) fun p18 =>
 (bd2 (Zp h15 [(V.int .i32 x)] p18) fun b19 x20 =>
 (bd3 (zu ((h15).set b19 x20) (V.ptr s 2)) fun cs22 m21 o23 => if (o23 + 1 <= m21 /\ 0 < 1) then
 (bd (cs22)[o23]? fun v24 =>
 (bd (bop prog .add 3 v24 (V.int .i64 1)) fun v25 =>
 (if ((V.cells v25)).length = 1 then
 (bd2 (Zp ((h15).set b19 x20) (V.cells v25) (V.ptr s 2)) fun b26 x27 =>
 some (Res.ret [(V.bool true)], ((((h15).set b19 x20)).set b26 x27))) else none))) else none)))))) else none))))) (fun z6 h5 => some (Res.pan z6, h5))))) (fun z2 h1 => some (Res.pan z2, h1)))
theorem zbj (n : Nat) (s : Nat) (x : Int) (h : ze) : call (n + 1) 206 [(V.ptr s 0), (V.int .i32 x)] h = zc1 n s x h := by kernel_rfl
noncomputable def znA (n : Nat) (s : Nat) (h : ze) : Option (Res × ze) :=
 some (Res.ret [(V.fn 194 [(V.ptr (h).length 0)])], (h ++ [(HB.box 1 [(V.ptr s 0)])]))
theorem zl7 (n : Nat) (s : Nat) (h : ze) : call (n + 1) 193 [(V.ptr s 0)] h = znA n s h := by kernel_rfl
noncomputable def Wt (n : Nat) (y : Nat) (b : Nat) (v9 : V) (st11 : List V) (hh12 : ze) (next13 : List V -> ze -> Option (Res × ze)) : Option (Res × ze) :=
 (bd (bop prog .lss 3 (gv st11 0) v9) fun v14 =>
 (bv v14 fun b15 => if b15 then
 (bd3 (zu hh12 (V.ptr b 0)) fun cs17 m16 o18 => if (o18 + 1 <= m16 /\ 0 < 1) then
 (bd (cs17)[o18]? fun v19 =>
 (cl (call n 195 [v19, (gv st11 0)] hh12) (fun r20 h21 =>
 (Zs r20 fun v23 =>
 (bd (ZN 0 v23) fun p24 =>
 (bd3 (zu h21 p24) fun cs26 m25 o27 => if (o27 + 1 <= m25 /\ 0 < 1) then
 (bd (cs26)[o27]? fun v28 =>
 (bd2 (rnd n y [v28] h21) fun t29 h30 =>
 (if (!t29) then
 some (Res.ret [], h30)
 else
 (bd (bop prog .add 3 (gv st11 0) (V.int .i64 1)) fun v31 =>
 (next13 [v31] h30))))) else none)))) (fun z22 h21 => some (Res.pan z22, h21)))) else none)
 else
 some (Res.ret [], hh12)))
noncomputable def zkQ (n : Nat) (y : Nat) (b : Nat) (h : ze) : Option (Res × ze) :=
 (bd3 (zu h (V.ptr b 0)) fun cs1 m0 o2 => if (o2 + 1 <= m0 /\ 0 < 1) then
 (bd (cs1)[o2]? fun v3 =>
 (bd (ZN 0 v3) fun p4 =>
 (bd (ZN 2 p4) fun p5 =>
 (bd3 (zu h p5) fun cs7 m6 o8 => if (o8 + 1 <= m6 /\ 0 < 1) then
 (bd (cs7)[o8]? fun v9 =>
 (Ze n (Wt n y b v9) [(V.int .i64 0)] h)) else none)))) else none)
theorem zjD (n : Nat) (y : Nat) (b : Nat) (h : ze) : call (n + 1) 194 [(V.yld y), (V.ptr b 0)] h = zkQ n y b h := by kernel_rfl
noncomputable def zpW (n : Nat) (s : Nat) (i : Int) (h : ze) : Option (Res × ze) :=
 (bd3 (zu h (V.ptr s 0)) fun cs1 m0 o2 => if (o2 + 1 <= m0 /\ 0 < 1) then
 (bd (cs1)[o2]? fun v3 =>
 (bd3 (zu h (V.ptr s 1)) fun cs5 m4 o6 => if (o6 + 1 <= m4 /\ 0 < 1) then
 (bd (cs5)[o6]? fun v7 =>
 (bd (bop prog .add 3 v7 (V.int .i64 i)) fun v8 =>
 (bd3 (zu h (V.ptr s 0)) fun cs10 m9 o11 => if (o11 + 1 <= m9 /\ 0 < 1) then
 (bd (cs10)[o11]? fun v12 =>
 (bd (Xq h v12) fun p13 =>
 (bd (bop prog .add 3 v8 (V.int .i64 ((p13.2).length : Int))) fun v14 =>
 (bd3 (zu h (V.ptr s 0)) fun cs16 m15 o17 => if (o17 + 1 <= m15 /\ 0 < 1) then
 (bd (cs16)[o17]? fun v18 =>
 (bd (Xq h v18) fun p19 =>
 (bd (bop prog .rem 3 v14 (V.int .i64 ((p19.2).length : Int))) fun v20 =>
 (bdS (nv v20) fun n21 =>
 (bd (Xa 1 n21 v3) fun p22 =>
 some (Res.ret [(zmH v3 p22)], h)))))) else none)))) else none))) else none)) else none)
theorem znB (n : Nat) (s : Nat) (i : Int) (h : ze) : call (n + 1) 195 [(V.ptr s 0), (V.int .i64 i)] h = zpW n s i h := by kernel_rfl
noncomputable def zkR (n : Nat) (s : Nat) (i : Int) (h : ze) : Option (Res × ze) :=
 (bd3 (zu h (V.ptr s 1)) fun cs1 m0 o2 => if (o2 + 1 <= m0 /\ 0 < 1) then
 (bd (cs1)[o2]? fun v3 =>
 (bd (bop prog .add 3 v3 (V.int .i64 i)) fun v4 =>
 (bd3 (zu h (V.ptr s 0)) fun cs6 m5 o7 => if (o7 + 1 <= m5 /\ 0 < 1) then
 (bd (cs6)[o7]? fun v8 =>
 (bd (Xq h v8) fun p9 =>
 (bd (bop prog .add 3 v4 (V.int .i64 ((p9.2).length : Int))) fun v10 =>
 (bd3 (zu h (V.ptr s 0)) fun cs12 m11 o13 => if (o13 + 1 <= m11 /\ 0 < 1) then
 (bd (cs12)[o13]? fun v14 =>
 (bd (Xq h v14) fun p15 =>
 (bd (bop prog .rem 3 v10 (V.int .i64 ((p15.2).length : Int))) fun v16 =>
 (if ((V.cells v16)).length = 1 then
 (bd2 (Zp h (V.cells v16) (V.ptr s 1)) fun b17 x18 =>
 some (Res.ret [], ((h).set b17 x18))) else none)))) else none)))) else none))) else none)
theorem zjE (n : Nat) (s : Nat) (i : Int) (h : ze) : call (n + 1) 211 [(V.ptr s 0), (V.int .i64 i)] h = zkR n s i h := by kernel_rfl
noncomputable def zeG (n : Nat) (x0 : Bool) (h : ze) : Option (Res × ze) :=
 (if x0 then
 some (Res.ret [(V.agg [(V.int .u8 1), (V.int .i32 0)])], h)
 else
 some (Res.ret [(V.agg [(V.int .u8 3), (V.int .i32 0)])], h))
theorem zfH (n : Nat) (x0 : Bool) (h : ze) : call (n + 1) 209 [(V.bool x0)] h = zeG n x0 h := by kernel_rfl
noncomputable def zeH (n : Nat) (x0 : Int) (x1 : Bool) (h : ze) : Option (Res × ze) :=
 (if x1 then
 some (Res.ret [(V.agg [(V.int .u8 2), (V.int .i32 x0)])], h)
 else
 some (Res.ret [(V.agg [(V.int .u8 4), (V.int .i32 0)])], h))
theorem zfI (n : Nat) (x0 : Int) (x1 : Bool) (h : ze) : call (n + 1) 210 [(V.int .i32 x0), (V.bool x1)] h = zeH n x0 x1 h := by kernel_rfl
end Go.Proofs.Tryz
namespace Go.Sk
open Go.L
def Xd (most : Int) (c x : Int) (xs : List Int) : (Int × Int) × List Int :=
 if c = 1 then (if (xs.length : Int) < most then ((1, 0), x :: xs) else ((3, 0), xs))
 else if c = 2 then (if (xs.length : Int) < most then ((1, 0), xs ++ [x]) else ((3, 0), xs))
 else if c = 3 then (match xs with | y :: r => ((2, y), r) | [] => ((4, 0), xs))
 else if c = 4 then (match xs.getLast? with | some y => ((2, y), xs.dropLast) | none => ((4, 0), xs))
 else ((5, 0), xs)
theorem znC {f c i : Nat} (hc : 0 < c) : ((f + 1) % c + i) % c = (f + (i + 1)) % c := by
 rw [Nat.mod_add_mod]; congr 1; omega
theorem znD {f c i : Nat} (hc : 0 < c) (hf : f < c) : ((f + c - 1) % c + (i + 1)) % c = (f + i) % c := by
 rw [Nat.mod_add_mod, show f + c - 1 + (i + 1) = f + i + c by omega, Nat.add_mod_right]
theorem znE {f c i j : Nat} (hi : i < c) (hj : j < c) (h : i ≠ j) : (f + i) % c ≠ (f + j) % c := by
 intro e
 have h1 := Nat.div_add_mod (f + i) c
 have h2 := Nat.div_add_mod (f + j) c
 rw [e] at h1
 have h3 : c * ((f + i) / c) + j = c * ((f + j) / c) + i := by omega
 rcases Nat.lt_trichotomy ((f + i) / c) ((f + j) / c) with hlt | heq | hgt
 · have : c * ((f + i) / c + 1) <= c * ((f + j) / c) := Nat.mul_le_mul_left c hlt
   rw [Nat.mul_add] at this; omega
 · rw [heq] at h3; omega
 · have : c * ((f + j) / c + 1) <= c * ((f + i) / c) := Nat.mul_le_mul_left c hgt
   rw [Nat.mul_add] at this; omega
end Go.Sk
namespace Go.Proofs.Tryz
open Go.L Go.Rp Go.Sk
set_option maxRecDepth 100000
def RngAt (h : ze) (s b : Nat) (c : Nat) (xs : List Int) : Prop :=
 b ≠ s /\ ∃ l z f, h[s]? = some (.box 3 [.row b 1 0 c, .int .i64 ((f : Nat) : Int), .int .i64 (xs.length : Int)]) /\ h[b]? = some (.row 21 1 l z) /\ l.length = c /\ (f < c \/ (c = 0 /\ f = 0)) /\ xs.length <= c /\ (∀ i (hi : i < xs.length), l[(f + i) % c]? = some (WO xs[i])) /\ ∀ es ∈ l, es.length = 1
theorem RngAt.keep {h h' : ze} {s b c : Nat} {xs : List Int} (hb : RngAt h s b c xs) (h1 : h'[s]? = h[s]?) (h2 : h'[b]? = h[b]?) : RngAt h' s b c xs := by
 obtain ⟨k, l, z, f, e1, e2, e3⟩ := hb
 exact ⟨k, l, z, f, h1.trans e1, h2.trans e2, e3⟩
theorem Yj (h : ze) (c : Nat) : X1 prog h .eql 113 (V.ptr c 0) (V.val (.pointer none)) = some (.bool false) := by kernel_rfl
theorem zbk {a b : Nat} (h : b ≠ 0) : bop prog .rem 3 (.int .i64 (a : Int)) (.int .i64 (b : Int)) = some (.int .i64 ((a % b : Nat) : Int)) := by
 have : bop prog .rem 3 (.int .i64 (a : Int)) (.int .i64 (b : Int)) = if (b : Int) = 0 then none else some (.int .i64 ((a : Int).tmod b)) := by kernel_rfl
 rw [this, if_neg (by omega)]; rfl
theorem Qj (n : Nat) {h : ze} {s b c : Nat} {xs : List Int} (hb : RngAt h s b c xs) : call (n + 1) 192 [.ptr s 0] h = some (.ret [.int .i64 (xs.length : Int)], h) := by
 obtain ⟨k, l, z, f, e1, e2, e3, e4, e5, e6, e7⟩ := hb
 refine (zl6 n s h).trans ?_
 unfold zny
 rw [Yj, zb, zo, if_neg (by decide), zx e1, zl, if_pos (by decide)]
 rfl
theorem Jv (n : Nat) {h : ze} {s b c : Nat} {xs : List Int} (hb : RngAt h s b c xs) : call (n + 1) 202 [.ptr s 0] h = some (.ret [.int .i64 (c : Int)], h) := by
 obtain ⟨k, l, z, f, e1, e2, e3, e4, e5, e6, e7⟩ := hb
 refine (zjC n s h).trans ?_
 unfold zkP
 rw [Yj, zb, zo, if_neg (by decide), zx e1, zl, if_pos (by decide)]
 simp only [za, zb]
 rw [Qi e2 (Zh _) (by omega), zb]
 simp [e3]
theorem Wu (n : Nat) {h : ze} {s b c f m : Nat} {l : List (List V)} {z : Bool} {w : V} (e1 : h[s]? = some (.box 3 [.row b 1 0 c, .int .i64 (f : Int), w])) (e2 : h[b]? = some (.row 21 1 l z)) (e3 : l.length = c) (hf : f < c) (hm : m <= c) (hc : c < 100000) :
    call (n + 1) 195 [.ptr s 0, .int .i64 (m : Int)] h = some (.ret [.rptr b 1 ((f + m) % c) 0], h) := by
 refine (znB n s _ h).trans ?_
 unfold zpW
 rw [zx e1, zl, if_pos (by decide)]
 simp only [za, zb]
 rw [zx e1, zl, if_pos (by decide)]
 simp only [za, zi, zb]
 rw [zM, zb, zl, if_pos (by decide)]
 simp only [za, zb]
 rw [Qi e2 (Zh _) (by omega), zb, zM, zb, zl, if_pos (by decide)]
 simp only [za, zb]
 have hl : ((l.take c).drop 0).length = c := by simp [e3]
 rw [Qi e2 (Zh _) (by omega), zb, hl, w64 (n := (f : Int) + (m : Int)) (by omega) (by omega), w64 (by omega) (by omega), show ((f : Int) + (m : Int) + (c : Int)) = ((f + m + c : Nat) : Int) by omega, zbk (by omega), zb, Zo, zH, Nat.add_mod_right]
 have hlt : (f + m) % c < c := Nat.mod_lt _ (by omega)
 rw [XG (by omega), zb, zr]
 rfl
theorem jL (n : Nat) {h : ze} {s b c f y : Nat} {i : Int} {l : List (List V)} {z : Bool} {w : V} (e1 : h[s]? = some (.box 3 [.row b 1 0 c, .int .i64 (f : Int), w])) (e2 : h[b]? = some (.row 21 1 l z)) (e3 : l.length = c) (hf : f < c) (hy : (f : Int) + i + c = (y : Int)) (hi : -10 <= i /\ i <= 10) (hc : c < 100000) :
    call (n + 1) 211 [.ptr s 0, .int .i64 i] h = some (.ret [], h.set s (.box 3 [.row b 1 0 c, .int .i64 ((y % c : Nat) : Int), w])) := by
 refine (zjE n s _ h).trans ?_
 unfold zkR
 rw [zx e1, zl, if_pos (by decide)]
 simp only [za, zi, zb]
 rw [zM, zb, zx e1, zl, if_pos (by decide)]
 simp only [za, zb]
 rw [Qi e2 (Zh _) (by omega), zb, zM, zb, zl, if_pos (by decide)]
 simp only [za, zb]
 have hl : ((l.take c).drop 0).length = c := by simp [e3]
 rw [Qi e2 (Zh _) (by omega), zb, hl, w64 (n := (f : Int) + i) (by omega) (by omega), w64 (by omega) (by omega), hy, zbk (by omega), zb, if_pos (by rfl), ZO e1 (by simp [V.cells]), Zd]
 rfl
theorem zc2 (n : Nat) {h : ze} {s b c : Nat} {xs : List Int} (hb : RngAt h s b c xs) (x : Int) (hm : c <= xs.length) : call (n + 2) 205 [.ptr s 0, .int .i32 x] h = some (.ret [.bool false], h) := by
 refine (zbi (n + 1) s x h).trans ?_
 unfold zc0
 rw [Qj n hb, zK, zw, Jv n hb, zK, zw, Xm, zb, zo, if_pos (by simp; omega)]
theorem zc3 (n : Nat) {h : ze} {s b c : Nat} {xs : List Int} (hb : RngAt h s b c xs) (x : Int) (hm : c <= xs.length) : call (n + 2) 206 [.ptr s 0, .int .i32 x] h = some (.ret [.bool false], h) := by
 refine (zbj (n + 1) s x h).trans ?_
 unfold zc1
 rw [Qj n hb, zK, zw, Jv n hb, zK, zw, Xm, zb, zo, if_pos (by simp; omega)]
theorem zdO (n : Nat) {h : ze} {s b c : Nat} (hb : RngAt h s b c []) : call (n + 2) 203 [.ptr s 0] h = some (.ret [.int .i32 0, .bool false], h) := by
 refine (zcY (n + 1) s h).trans ?_
 unfold zfF
 rw [Qj n hb, zK, zw, Xi, zb, zo, if_pos (by rfl)]
theorem zdP (n : Nat) {h : ze} {s b c : Nat} (hb : RngAt h s b c []) : call (n + 2) 204 [.ptr s 0] h = some (.ret [.int .i32 0, .bool false], h) := by
 refine (zcZ (n + 1) s h).trans ?_
 unfold zfG
 rw [Qj n hb, zK, zw, Xi, zb, zo, if_pos (by rfl)]
structure RFed (h h' : ze) (s b : Nat) : Prop where
 len : h'.length = h.length
 old : ∀ i, i ≠ s -> i ≠ b -> h'[i]? = h[i]?
theorem RFed.refl (h : ze) (s b : Nat) : RFed h h s b := ⟨rfl, fun _ _ _ => rfl⟩
theorem RFed.trans {h h' h'' : ze} {s b : Nat} (x : RFed h h' s b) (y : RFed h' h'' s b) : RFed h h'' s b := ⟨y.len.trans x.len, fun i h1 h2 => (y.old i h1 h2).trans (x.old i h1 h2)⟩
theorem K2 (n : Nat) {h : ze} {s b c : Nat} {xs : List Int} (hb : RngAt h s b c xs) (x : Int) (hm : xs.length < c) (hc : c < 100000) :
    ∃ h', call (n + 2) 205 [.ptr s 0, .int .i32 x] h = some (.ret [.bool true], h') /\ RngAt h' s b c (x :: xs) /\ RFed h h' s b := by
 have hb0 := hb
 obtain ⟨k, l, z, f, e1, e2, e3, e4, e5, e6, e7⟩ := hb
 have hf : f < c := by omega
 have hcl := zQ e1
 have hbl := zQ e2
 rw [show n + 2 = (n + 1) + 1 from rfl, zbi]
 unfold zc0
 rw [Qj n hb0, zK, zw, Jv n hb0, zK, zw, Xm, zb, zo, if_neg (by simp; omega)]
 have hy : (f : Int) + (-1) + c = ((f + c - 1 : Nat) : Int) := by omega
 rw [jL n e1 e2 e3 hf hy (by omega) hc, zK]
 have hg : (f + c - 1) % c < c := Nat.mod_lt _ (by omega)
 generalize hgd : (f + c - 1) % c = g at hg ⊢
 have m1 : (h.set s (HB.box 3 [V.row b 1 0 c, V.int .i64 (g : Int), V.int .i64 (xs.length : Int)]))[s]? = some (.box 3 [V.row b 1 0 c, V.int .i64 (g : Int), V.int .i64 (xs.length : Int)]) := Xf hcl _
 have m2 : (h.set s (HB.box 3 [V.row b 1 0 c, V.int .i64 (g : Int), V.int .i64 (xs.length : Int)]))[b]? = some (.row 21 1 l z) := by rw [zd (Ne.symm k)]; exact e2
 have hgl : g < l.length := by omega
 have ea := Wu n (m := 0) m1 m2 e3 hg (by omega) hc
 rw [show (g + 0) % c = g by rw [zV]; exact Nat.mod_eq_of_lt hg] at ea
 have hx : l[g]? = some l[g] := zf hgl
 rw [show ((0 : Nat) : Int) = 0 from rfl] at ea
 rw [ea, zK, zw]
 simp only [ZN, zb, zV]
 rw [JK m2 (by decide) (by simp) hx, Zd]
 have m3 : ((h.set s (HB.box 3 [V.row b 1 0 c, V.int .i64 (g : Int), V.int .i64 (xs.length : Int)])).set b (.row 21 1 (l.set g (setR l[g] 0 [V.int .i32 x])) z))[s]? = some (.box 3 [V.row b 1 0 c, V.int .i64 (g : Int), V.int .i64 (xs.length : Int)]) := by rw [zd k]; exact m1
 rw [zx m3, zl, if_pos (by decide)]
 simp only [za, zi, zb]
 rw [zM, zb, w64 (by omega) (by omega)]
 simp only [V.cells, zB, zO, zr, if_true]
 rw [ZO m3 (by simp), Zd]
 have hone : setR l[g] 0 [V.int .i32 x] = WO x := by
  obtain ⟨e, he⟩ : ∃ e, l[g] = [e] := ZR.1 (e7 _ (Xl hgl))
  rw [he]; rfl
 refine ⟨_, rfl, ⟨k, l.set g (WO x), z, g, ?_, ?_, by simpa using e3, .inl hg, by simp; omega, ?_, ?_⟩, ⟨by simp, fun i h1 h2 => ?_⟩⟩
 · rw [Xf (by simpa using hcl)]
   simp [setR]
 · rw [zd (Ne.symm k), Xf (by simpa using hbl), hone]
 · intro i hi
   cases i with
   | zero =>
     rw [zV, Nat.mod_eq_of_lt hg, Zq hgl]; rfl
   | succ j =>
     have hj : j < xs.length := by simpa using hi
     have q1 : (g + (j + 1)) % c = (f + j) % c := by rw [<- hgd]; exact znD (by omega) hf
     have q2 : (f + j) % c ≠ g := by rw [<- hgd, show f + c - 1 = f + (c - 1) by omega]; exact znE (by omega) (by omega) (by omega)
     rw [q1, zd (Ne.symm q2), e6 j hj]; rfl
 · intro es hes
   rcases Xy hes with h1 | rfl
   · exact e7 es h1
   · rfl
 · rw [zd (Ne.symm h1), zd (Ne.symm h2), zd (Ne.symm h1)]
theorem K3 (n : Nat) {h : ze} {s b c : Nat} {xs : List Int} (hb : RngAt h s b c xs) (x : Int) (hm : xs.length < c) (hc : c < 100000) :
    ∃ h', call (n + 2) 206 [.ptr s 0, .int .i32 x] h = some (.ret [.bool true], h') /\ RngAt h' s b c (xs ++ [x]) /\ RFed h h' s b := by
 have hb0 := hb
 obtain ⟨k, l, z, f, e1, e2, e3, e4, e5, e6, e7⟩ := hb
 have hf : f < c := by omega
 have hcl := zQ e1
 have hbl := zQ e2
 rw [show n + 2 = (n + 1) + 1 from rfl, zbj]
 unfold zc1
 rw [Qj n hb0, zK, zw, Jv n hb0, zK, zw, Xm, zb, zo, if_neg (by simp; omega), zx e1, zl, if_pos (by decide)]
 simp only [za, zi, zb]
 have hg : (f + xs.length) % c < c := Nat.mod_lt _ (by omega)
 rw [Wu n e1 e2 e3 hf e5 hc]
 generalize hgd : (f + xs.length) % c = g at hg ⊢
 have hgl : g < l.length := by omega
 have hx : l[g]? = some l[g] := zf hgl
 simp only [clH, ZN, zb, zV]
 rw [zw, zb, JK e2 (by decide) (by simp) hx, Zd]
 have m3 : (h.set b (.row 21 1 (l.set g (setR l[g] 0 [V.int .i32 x])) z))[s]? = some (.box 3 [V.row b 1 0 c, V.int .i64 (f : Int), V.int .i64 (xs.length : Int)]) := by rw [zd k]; exact e1
 rw [zx m3, zl, if_pos (by decide)]
 simp only [za, zi, zb]
 rw [zM, zb, w64 (by omega) (by omega)]
 simp only [V.cells, zB, zO, zr, if_true]
 rw [ZO m3 (by simp), Zd]
 have hone : setR l[g] 0 [V.int .i32 x] = WO x := by
  obtain ⟨e, he⟩ : ∃ e, l[g] = [e] := ZR.1 (e7 _ (Xl hgl))
  rw [he]; rfl
 refine ⟨_, rfl, ⟨k, l.set g (WO x), z, f, ?_, ?_, by simpa using e3, .inl hf, by simp; omega, ?_, ?_⟩, ⟨by simp, fun i h1 h2 => ?_⟩⟩
 · rw [Xf (by simpa using hcl)]
   simp [setR]
 · rw [zd (Ne.symm k), Xf (by simpa using hbl), hone]
 · intro i hi
   rw [zE, ZL] at hi
   rcases ZQ i xs.length with h1 | h1
   · have q2 : (f + i) % c ≠ g := by rw [<- hgd]; exact znE (by omega) (by omega) (by omega)
     rw [zd (Ne.symm q2), e6 i h1, List.getElem_append_left h1]
   · obtain rfl : i = xs.length := by omega
     rw [hgd, Zq hgl]; simp
 · intro es hes
   rcases Xy hes with h1 | rfl
   · exact e7 es h1
   · rfl
 · rw [zd (Ne.symm h1), zd (Ne.symm h2)]
theorem jM (n : Nat) {h : ze} {s b c : Nat} {x : Int} {xs : List Int} (hb : RngAt h s b c (x :: xs)) (hc : c < 100000) :
    ∃ h', call (n + 2) 203 [.ptr s 0] h = some (.ret [.int .i32 x, .bool true], h') /\ RngAt h' s b c xs /\ RFed h h' s b := by
 have hb0 := hb
 obtain ⟨k, l, z, f, e1, e2, e3, e4, e5, e6, e7⟩ := hb
 simp only [zB] at e1 e5 e6
 have hf : f < c := by omega
 have hcl := zQ e1
 have hbl := zQ e2
 rw [show n + 2 = (n + 1) + 1 from rfl, zcY]
 unfold zfF
 rw [Qj n hb0, zK, zw, Xi, zb, zo, if_neg (by simp; omega)]
 have ea := Wu n (m := 0) e1 e2 e3 hf (by omega) hc
 rw [show ((0 : Nat) : Int) = 0 from rfl] at ea
 rw [ea, zK, zw]
 simp only [ZN, zb, zV]
 have h0 := e6 0 (by omega)
 rw [zV] at h0
 rw [Xr e2 (by decide) h0, zl, if_pos (by decide)]
 simp only [WO, za, zb, List.getElem_cons_zero]
 have hy : (f : Int) + 1 + c = ((f + 1 + c : Nat) : Int) := by omega
 rw [jL n e1 e2 e3 hf hy (by omega) hc, zK, Nat.add_mod_right]
 have hg : (f + 1) % c < c := Nat.mod_lt _ (by omega)
 generalize hgd : (f + 1) % c = g at hg ⊢
 have m1 : (h.set s (HB.box 3 [V.row b 1 0 c, V.int .i64 (g : Int), V.int .i64 ((xs.length + 1 : Nat) : Int)]))[s]? = some (.box 3 [V.row b 1 0 c, V.int .i64 (g : Int), V.int .i64 ((xs.length + 1 : Nat) : Int)]) := Xf hcl _
 rw [zx m1, zl, if_pos (by decide)]
 simp only [za, zi, zb]
 rw [ZH, zb, w64 (by omega) (by omega)]
 simp only [V.cells, zB, zO, zr, if_true]
 rw [ZO m1 (by simp), Zd]
 refine ⟨_, rfl, ⟨k, l, z, g, ?_, ?_, e3, .inl hg, by omega, ?_, e7⟩, ⟨by simp, fun i h1 h2 => ?_⟩⟩
 · rw [Xf (by simpa using hcl)]
   simp [setR]
 · rw [zd (Ne.symm k), zd (Ne.symm k)]; exact e2
 · intro i hi
   have q := e6 (i + 1) (by omega)
   rw [<- hgd, znC (by omega), q]; rfl
 · rw [zd (Ne.symm h1), zd (Ne.symm h1)]
theorem jN (n : Nat) {h : ze} {s b c : Nat} {x : Int} {xs : List Int} (hb : RngAt h s b c (xs ++ [x])) (hc : c < 100000) :
    ∃ h', call (n + 2) 204 [.ptr s 0] h = some (.ret [.int .i32 x, .bool true], h') /\ RngAt h' s b c xs /\ RFed h h' s b := by
 have hb0 := hb
 obtain ⟨k, l, z, f, e1, e2, e3, e4, e5, e6, e7⟩ := hb
 rw [zE, ZL] at e1 e5
 have hf : f < c := by omega
 have hcl := zQ e1
 have hbl := zQ e2
 rw [show n + 2 = (n + 1) + 1 from rfl, zcZ]
 unfold zfG
 rw [Qj n hb0, zK, zw, Xi, zb, zo, if_neg (by simp; omega), zx e1, zl, if_pos (by decide)]
 simp only [za, zi, zb]
 rw [ZH, zb, w64 (by omega) (by omega)]
 simp only [V.cells, zB, zO, zr, if_true]
 rw [ZO e1 (by simp), Zd]
 have m1 : (h.set s (HB.box 3 [V.row b 1 0 c, V.int .i64 (f : Int), V.int .i64 (xs.length : Int)]))[s]? = some (.box 3 [V.row b 1 0 c, V.int .i64 (f : Int), V.int .i64 (xs.length : Int)]) := Xf hcl _
 have m2 : (h.set s (HB.box 3 [V.row b 1 0 c, V.int .i64 (f : Int), V.int .i64 (xs.length : Int)]))[b]? = some (.row 21 1 l z) := by rw [zd (Ne.symm k)]; exact e2
 have hset : setR [V.row b 1 0 c, V.int .i64 (f : Int), V.int .i64 ((xs.length + 1 : Nat) : Int)] 2 [V.int .i64 (((xs.length + 1 : Nat) : Int) - 1)] = [V.row b 1 0 c, V.int .i64 (f : Int), V.int .i64 (xs.length : Int)] := by
  rw [show (((xs.length + 1 : Nat) : Int) - 1) = (xs.length : Int) by omega]; rfl
 rw [hset, zx m1, zl, if_pos (by decide)]
 simp only [za, zi, zb]
 rw [Wu n m1 m2 e3 hf (by omega) hc]
 have hl0 := e6 xs.length (by simp)
 simp only [clH, ZN, zb, zV]
 rw [zw, zb, Xr m2 (by decide) hl0, zl, if_pos (by decide)]
 simp only [WO, za, zb]
 refine ⟨_, by simp, ⟨k, l, z, f, m1, m2, e3, .inl hf, by omega, ?_, e7⟩, ⟨by simp, fun i h1 h2 => ?_⟩⟩
 · intro i hi
   have q := e6 i (by simp; omega)
   rw [q, List.getElem_append_left hi]
 · rw [zd (Ne.symm h1)]
theorem zhs (n : Nat) {h : ze} {s b c : Nat} {xs : List Int} (hb : RngAt h s b c xs) (hc : c < 100000) (k x : Int) :
    ∃ h', call (n + 3) 201 [.ptr s 0, .agg [.int .u8 k, .int .i32 x]] h = some (.ret [zhk (Xd c k x xs).1.1 (Xd c k x xs).1.2], h') /\ RngAt h' s b c (Xd c k x xs).2 /\ RFed h h' s b := by
 rw [show n + 3 = (n + 2) + 1 from rfl, znz]
 unfold zpV
 have ep : ∀ (w : Bool) (h : ze), call (n + 2) 209 [.bool w] h = some (.ret [zhk (if w then 1 else 3) 0], h) := fun w h => by
  rw [show n + 2 = (n + 1) + 1 from rfl, zfH]; unfold zeG; cases w <;> rfl
 have eq : ∀ (y : Int) (w : Bool) (h : ze), call (n + 2) 210 [.int .i32 y, .bool w] h = some (.ret [if w then zhk 2 y else zhk 4 0], h) := fun y w h => by
  rw [show n + 2 = (n + 1) + 1 from rfl, zfI]; unfold zeH; cases w <;> rfl
 by_cases k1 : k = 1
 · rw [if_pos (by simp [k1])]
   by_cases hm : xs.length < c
   · obtain ⟨h', e, b1, b2⟩ := K2 n hb x hm hc
     have ht : Xd c k x xs = ((1, 0), x :: xs) := by unfold Xd; rw [if_pos k1, if_pos (by omega)]
     refine ⟨h', ?_, by rw [ht]; exact b1, b2⟩
     rw [e, zK, zw, ep, zK, zw, ht]
     rfl
   · have ht : Xd c k x xs = ((3, 0), xs) := by unfold Xd; rw [if_pos k1, if_neg (by omega)]
     refine ⟨h, ?_, by rw [ht]; exact hb, RFed.refl ..⟩
     rw [zc2 n hb x (by omega), zK, zw, ep, zK, zw, ht]
     rfl
 rw [if_neg (by simp [k1])]
 by_cases k2 : k = 2
 · rw [if_pos (by simp [k2])]
   by_cases hm : xs.length < c
   · obtain ⟨h', e, b1, b2⟩ := K3 n hb x hm hc
     have ht : Xd c k x xs = ((1, 0), xs ++ [x]) := by unfold Xd; rw [if_neg k1, if_pos k2, if_pos (by omega)]
     refine ⟨h', ?_, by rw [ht]; exact b1, b2⟩
     rw [e, zK, zw, ep, zK, zw, ht]
     rfl
   · have ht : Xd c k x xs = ((3, 0), xs) := by unfold Xd; rw [if_neg k1, if_pos k2, if_neg (by omega)]
     refine ⟨h, ?_, by rw [ht]; exact hb, RFed.refl ..⟩
     rw [zc3 n hb x (by omega), zK, zw, ep, zK, zw, ht]
     rfl
 rw [if_neg (by simp [k2])]
 by_cases k3 : k = 3
 · rw [if_pos (by simp [k3])]
   cases xs with
   | nil =>
     have ht : Xd c k x [] = ((4, 0), []) := by unfold Xd; rw [if_neg k1, if_neg k2, if_pos k3]
     refine ⟨h, ?_, by rw [ht]; exact hb, RFed.refl ..⟩
     rw [zdO n hb, zK]
     simp only [za, zi, zb]
     rw [eq, zK, zw, ht]
     rfl
   | cons y xs =>
     obtain ⟨h', e, b1, b2⟩ := jM n hb hc
     have ht : Xd c k x (y :: xs) = ((2, y), xs) := by unfold Xd; rw [if_neg k1, if_neg k2, if_pos k3]
     refine ⟨h', ?_, by rw [ht]; exact b1, b2⟩
     rw [e, zK]
     simp only [za, zi, zb]
     rw [eq, zK, zw, ht]
     rfl
 rw [if_neg (by simp [k3])]
 by_cases k4 : k = 4
 · rw [if_pos (by simp [k4])]
   rcases ZD xs with rfl | ⟨ys, y, rfl⟩
   · have ht : Xd c k x [] = ((4, 0), []) := by unfold Xd; rw [if_neg k1, if_neg k2, if_neg k3, if_pos k4]; rfl
     refine ⟨h, ?_, by rw [ht]; exact hb, RFed.refl ..⟩
     rw [zdP n hb, zK]
     simp only [za, zi, zb]
     rw [eq, zK, zw, ht]
     rfl
   · rw [X3] at hb ⊢
     obtain ⟨h', e, b1, b2⟩ := jN n hb hc
     have ht : Xd c k x (ys ++ [y]) = ((2, y), ys) := by unfold Xd; rw [if_neg k1, if_neg k2, if_neg k3, if_pos k4]; simp
     refine ⟨h', ?_, by rw [ht]; exact b1, b2⟩
     rw [e, zK]
     simp only [za, zi, zb]
     rw [eq, zK, zw, ht]
     rfl
 rw [if_neg (by simp [k4])]
 have ht : Xd c k x xs = ((5, 0), xs) := by unfold Xd; rw [if_neg k1, if_neg k2, if_neg k3, if_neg k4]
 exact ⟨h, by rw [ht]; rfl, by rw [ht]; exact hb, RFed.refl ..⟩
end Go.Proofs.Tryz
namespace Go.Proofs.Tryz
open Go.L
set_option maxRecDepth 100000
noncomputable def zkS (n : Nat) (h : ze) : Option (Res × ze) :=
 (zgX ((h ++ [(HB.map [])]))[(h).length]? fun es0 => (bd (kds prog 12 5) fun ksr1 => bd (QJ ksr1 (V.int .u8 1) es0 0) fun r1 => if (((V.int .u8 1)).one = !false /\ ((V.int .u8 1)).cells.length = ksr1.length) then
 (zgX ((((h ++ [(HB.map [])])).set (h).length (HB.map (upd es0 (V.int .u8 1) (V.agg [(V.bool true), (V.int .i64 0)]) r1))))[(h).length]? fun es3 => (bd (kds prog 12 5) fun ksr4 => bd (QJ ksr4 (V.int .u8 2) es3 0) fun r4 => if (((V.int .u8 2)).one = !false /\ ((V.int .u8 2)).cells.length = ksr4.length) then
 (zgX ((((((h ++ [(HB.map [])])).set (h).length (HB.map (upd es0 (V.int .u8 1) (V.agg [(V.bool true), (V.int .i64 0)]) r1)))).set (h).length (HB.map (upd es3 (V.int .u8 2) (V.agg [(V.bool true), (V.int .i64 1)]) r4))))[(h).length]? fun es6 => (bd (kds prog 12 5) fun ksr7 => bd (QJ ksr7 (V.int .u8 3) es6 0) fun r7 => if (((V.int .u8 3)).one = !false /\ ((V.int .u8 3)).cells.length = ksr7.length) then
 (zgX ((((((((h ++ [(HB.map [])])).set (h).length (HB.map (upd es0 (V.int .u8 1) (V.agg [(V.bool true), (V.int .i64 0)]) r1)))).set (h).length (HB.map (upd es3 (V.int .u8 2) (V.agg [(V.bool true), (V.int .i64 1)]) r4)))).set (h).length (HB.map (upd es6 (V.int .u8 3) (V.agg [(V.bool false), (V.int .i64 0)]) r7))))[(h).length]? fun es9 => (bd (kds prog 12 5) fun ksr10 => bd (QJ ksr10 (V.int .u8 4) es9 0) fun r10 => if (((V.int .u8 4)).one = !false /\ ((V.int .u8 4)).cells.length = ksr10.length) then
 some (Res.ret [(V.map (h).length)], (((((((((h ++ [(HB.map [])])).set (h).length (HB.map (upd es0 (V.int .u8 1) (V.agg [(V.bool true), (V.int .i64 0)]) r1)))).set (h).length (HB.map (upd es3 (V.int .u8 2) (V.agg [(V.bool true), (V.int .i64 1)]) r4)))).set (h).length (HB.map (upd es6 (V.int .u8 3) (V.agg [(V.bool false), (V.int .i64 0)]) r7)))).set (h).length (HB.map (upd es9 (V.int .u8 4) (V.agg [(V.bool false), (V.int .i64 1)]) r10)))) else none)) else none)) else none)) else none))
theorem zjF (n : Nat) (h : ze) : call (n + 1) 212 [] h = zkS n h := by kernel_rfl
noncomputable def zfJ (n : Nat) (s : Nat) (d : Int) (i : Int) (h : ze) : Option (Res × ze) :=
 (bd3 (zu h (V.ptr s 2)) fun cs1 m0 o2 => if (o2 + 1 <= m0 /\ 0 < 1) then
 (bd (cs1)[o2]? fun v3 =>
 (bd3 (zu h (V.ptr s 0)) fun cs5 m4 o6 => if (o6 + 1 <= m4 /\ 0 < 1) then
 (bd (cs5)[o6]? fun v7 =>
 (bd (Xq h v7) fun p8 =>
 (bd (bop prog .add 3 v3 (V.int .i64 ((p8.2).length : Int))) fun v9 =>
 (bd3 (zu h (V.ptr s 1)) fun cs11 m10 o12 => if (o12 + 1 <= m10 /\ 0 < 1) then
 (bd (cs11)[o12]? fun v13 =>
 (bd (Xq h v13) fun p14 =>
 (bd (bop prog .add 3 v9 (V.int .i64 ((p14.2).length : Int))) fun v15 =>
 (bd3 (zu h (V.ptr s 3)) fun cs17 m16 o18 => if (o18 + 1 <= m16 /\ 0 < 1) then
 (bd (cs17)[o18]? fun v19 =>
 (bd (bop prog .geq 3 v15 v19) fun v20 =>
 (bv v20 fun b21 => if b21 then
 some (Res.ret [(V.bool false)], h)
 else
 (bd (nv (V.int .i64 d)) fun n22 =>
 (if (n22 < 2) then
 (bd3 (zu h (V.ptr s ((0 + (n22 * 1)) + 0))) fun cs24 m23 o25 => if (o25 + 1 <= m23 /\ 0 < 1) then
 (bd (cs24)[o25]? fun v26 =>
 (bd2 (J4 3 1 h [[(V.int .i64 i)]] v26) fun v27 h28 =>
 (bd (nv (V.int .i64 d)) fun n29 =>
 (if (n29 < 2) then
 (if ((V.cells v27)).length = 1 then
 (bd2 (Zp h28 (V.cells v27) (V.ptr s ((0 + (n29 * 1)) + 0))) fun b30 x31 =>
 some (Res.ret [(V.bool true)], ((h28).set b30 x31))) else none) else none)))) else none) else none))))) else none)))) else none)))) else none)) else none)
theorem zc4 (n : Nat) (s : Nat) (d : Int) (i : Int) (h : ze) : call (n + 1) 213 [(V.ptr s 0), (V.int .i64 d), (V.int .i64 i)] h = zfJ n s d i h := by kernel_rfl
noncomputable def zc5 (n : Nat) (s : Nat) (d : Int) (h : ze) : Option (Res × ze) :=
 (bd (nv (V.int .i64 d)) fun n0 =>
 (if (n0 < 2) then
 (bd (nv (V.int .i64 (IntKind.i64.wrap (1 - d)))) fun n1 =>
 (if (n1 < 2) then
 (bd3 (zu h (V.ptr s (((0 + (n0 * 1)) + 0) + 0))) fun cs3 m2 o4 => if (o4 + 1 <= m2 /\ 0 < 1) then
 (bd (cs3)[o4]? fun v5 =>
 (bd (Xq h v5) fun p6 =>
 (if (decide (((p6.2).length : Int) > 0)) then
 (cl (call n 215 [(V.ptr s (0 + (n0 * 1)))] h) (fun r7 h8 =>
 (Zs r7 fun v10 =>
 some (Res.ret [v10, (V.bool true)], h8))) (fun z9 h8 => some (Res.pan z9, h8)))
 else
 (bd3 (zu h (V.ptr s 2)) fun cs12 m11 o13 => if (o13 + 1 <= m11 /\ 0 < 1) then
 (bd (cs12)[o13]? fun v14 =>
 (bd (bop prog .gtr 3 v14 (V.int .i64 0)) fun v15 =>
 (bv v15 fun b16 => if b16 then
 (bd3 (zu h (V.ptr s 2)) fun cs18 m17 o19 => if (o19 + 1 <= m17 /\ 0 < 1) then
 (bd (cs18)[o19]? fun v20 =>
 (bd (bop prog .sub 3 v20 (V.int .i64 1)) fun v21 =>
 (if ((V.cells v21)).length = 1 then
 (bd2 (Zp h (V.cells v21) (V.ptr s 2)) fun b22 x23 =>
 some (Res.ret [(V.int .i64 (-1)), (V.bool true)], ((h).set b22 x23))) else none))) else none)
 else
 (bd3 (zu h (V.ptr s (((0 + (n1 * 1)) + 0) + 0))) fun cs25 m24 o26 => if (o26 + 1 <= m24 /\ 0 < 1) then
 (bd (cs25)[o26]? fun v27 =>
 (bd (Xq h v27) fun p28 =>
 (if (decide (((p28.2).length : Int) > 0)) then
 (cl (call n 216 [(V.ptr s (0 + (n1 * 1)))] h) (fun r29 h30 =>
 (Zs r29 fun v32 =>
 some (Res.ret [v32, (V.bool true)], h30))) (fun z31 h30 => some (Res.pan z31, h30)))
 else
 some (Res.ret [(V.int .i64 0), (V.bool false)], h)))) else none)))) else none)))) else none) else none)) else none))
theorem jr (n : Nat) (s : Nat) (d : Int) (h : ze) : call (n + 1) 214 [(V.ptr s 0), (V.int .i64 d)] h = zc5 n s d h := by kernel_rfl
noncomputable def zht (n : Nat) (x0 : V) (h : ze) : Option (Res × ze) :=
 (bd (ZN 0 x0) fun p0 =>
 (bd (ZN 0 p0) fun p1 =>
 (bd3 (zu h p1) fun cs3 m2 o4 => if (o4 + 1 <= m2 /\ 0 < 1) then
 (bd (cs3)[o4]? fun v5 =>
 (bd (ZN 0 x0) fun p6 =>
 (bd (ZN 0 p6) fun p7 =>
 (bd3 (zu h p7) fun cs9 m8 o10 => if (o10 + 1 <= m8 /\ 0 < 1) then
 (bd (cs9)[o10]? fun v11 =>
 (bd (Xq h v11) fun p12 =>
 (bdS (nv (V.int .i64 (IntKind.i64.wrap (((p12.2).length : Int) - 1)))) fun n13 =>
 (bd (Xa 1 n13 v5) fun p14 =>
 (bd3 (zu h (zmH v5 p14)) fun cs16 m15 o17 => if (o17 + 1 <= m15 /\ 0 < 1) then
 (bd (cs16)[o17]? fun v18 =>
 (bd (ZN 0 x0) fun p19 =>
 (bd (ZN 0 p19) fun p20 =>
 (bd3 (zu h p20) fun cs22 m21 o23 => if (o23 + 1 <= m21 /\ 0 < 1) then
 (bd (cs22)[o23]? fun v24 =>
 (bd (ZN 0 x0) fun p25 =>
 (bd (ZN 0 p25) fun p26 =>
 (bd3 (zu h p26) fun cs28 m27 o29 => if (o29 + 1 <= m27 /\ 0 < 1) then
 (bd (cs28)[o29]? fun v30 =>
 (bd (Xq h v30) fun p31 =>
 (bd (zan v24) fun n32 =>
 (bdS (nv (V.int .i64 (IntKind.i64.wrap (((p31.2).length : Int) - 1)))) fun n33 =>
 (bd (Q7 1 0 n33 (none : Option Nat) true v24) fun v34 =>
 (bd (ZN 0 x0) fun p35 =>
 (bd (ZN 0 p35) fun p36 =>
 (if ((V.cells v34)).length = 1 then
 (bd2 (Zp h (V.cells v34) p36) fun b37 x38 =>
 some (Res.ret [v18], ((h).set b37 x38))) else none)))))))) else none)))) else none)))) else none))))) else none)))) else none)))
theorem zhu (n : Nat) (x0 : V) (h : ze) : call (n + 1) 215 [x0] h = zht n x0 h := by kernel_rfl
noncomputable def zhv (n : Nat) (x0 : V) (h : ze) : Option (Res × ze) :=
 (bd (ZN 0 x0) fun p0 =>
 (bd (ZN 0 p0) fun p1 =>
 (bd3 (zu h p1) fun cs3 m2 o4 => if (o4 + 1 <= m2 /\ 0 < 1) then
 (bd (cs3)[o4]? fun v5 =>
 (bd (Xa 1 0 v5) fun p6 =>
 (bd3 (zu h p6) fun cs8 m7 o9 => if (o9 + 1 <= m7 /\ 0 < 1) then
 (bd (cs8)[o9]? fun v10 =>
 (bd (ZN 0 x0) fun p11 =>
 (bd (ZN 0 p11) fun p12 =>
 (bd3 (zu h p12) fun cs14 m13 o15 => if (o15 + 1 <= m13 /\ 0 < 1) then
 (bd (cs14)[o15]? fun v16 =>
 (bd (zan v16) fun n17 =>
 (bd (Q7 1 1 n17 (none : Option Nat) true v16) fun v18 =>
 (bd (ZN 0 x0) fun p19 =>
 (bd (ZN 0 p19) fun p20 =>
 (if ((V.cells v18)).length = 1 then
 (bd2 (Zp h (V.cells v18) p20) fun b21 x22 =>
 some (Res.ret [v10], ((h).set b21 x22))) else none)))))) else none)))) else none))) else none)))
theorem zhw (n : Nat) (x0 : V) (h : ze) : call (n + 1) 216 [x0] h = zhv n x0 h := by kernel_rfl
noncomputable def znF (n : Nat) (i : Int) (j : Int) (q : Nat) (r : Nat) (l : Nat) (os : List (List V)) (osb : Bool) (h : ze) : Option (Res × ze) :=
 (if (decide (j < 0)) then
 (clH (call n 203 [(V.ptr q 0)] h) fun r0 h1 =>
 (bd (r0)[0]? fun v3 =>
 (bd (r0)[1]? fun v4 =>
 (bdS (nv (V.int .i64 i)) fun n5 =>
 (bd (Xa 1 n5 (V.row r 1 0 l)) fun p6 =>
 (if ((V.cells v3)).length = 1 then
 (bd2 (Zp h1 (V.cells v3) (V.rptr r 1 (ixP p6) 0)) fun b7 x8 =>
 some (Res.ret [], ((h1).set b7 x8))) else none))))))
 else
 (bdS (nv (V.int .i64 j)) fun n9 =>
 (bd (Xa 2 n9 (V.sl 2 os osb)) fun p10 =>
 (bd (ZN 1 p10) fun p11 =>
 (bd3 (zu h p11) fun cs13 m12 o14 => if (o14 + 1 <= m12 /\ 0 < 1) then
 (bd (cs13)[o14]? fun v15 =>
 (bdS (nv (V.int .i64 i)) fun n16 =>
 (bd (Xa 1 n16 (V.row r 1 0 l)) fun p17 =>
 (if ((V.cells v15)).length = 1 then
 (bd2 (Zp h (V.cells v15) p17) fun b18 x19 =>
 some (Res.ret [], ((h).set b18 x19))) else none)))) else none)))))
theorem zhx (n : Nat) (i : Int) (j : Int) (q : Nat) (r : Nat) (l : Nat) (os : List (List V)) (osb : Bool) (h : ze) : call (n + 1) 208 [(V.int .i64 i), (V.int .i64 0), (V.int .i64 j), (V.iptr 2 [(V.bf 203 [(V.ptr q 0)]), (V.bf 204 [(V.ptr q 0)])] 0), (V.iptr 1 [(V.row r 1 0 l)] 0), (V.iptr 1 [(V.sl 2 os osb)] 0)] h = znF n i j q r l os osb h := by kernel_rfl
noncomputable def znG (n : Nat) (i : Int) (j : Int) (q : Nat) (r : Nat) (l : Nat) (os : List (List V)) (osb : Bool) (h : ze) : Option (Res × ze) :=
 (if (decide (j < 0)) then
 (clH (call n 204 [(V.ptr q 0)] h) fun r0 h1 =>
 (bd (r0)[0]? fun v3 =>
 (bd (r0)[1]? fun v4 =>
 (bdS (nv (V.int .i64 i)) fun n5 =>
 (bd (Xa 1 n5 (V.row r 1 0 l)) fun p6 =>
 (if ((V.cells v3)).length = 1 then
 (bd2 (Zp h1 (V.cells v3) (V.rptr r 1 (ixP p6) 0)) fun b7 x8 =>
 some (Res.ret [], ((h1).set b7 x8))) else none))))))
 else
 (bdS (nv (V.int .i64 j)) fun n9 =>
 (bd (Xa 2 n9 (V.sl 2 os osb)) fun p10 =>
 (bd (ZN 1 p10) fun p11 =>
 (bd3 (zu h p11) fun cs13 m12 o14 => if (o14 + 1 <= m12 /\ 0 < 1) then
 (bd (cs13)[o14]? fun v15 =>
 (bdS (nv (V.int .i64 i)) fun n16 =>
 (bd (Xa 1 n16 (V.row r 1 0 l)) fun p17 =>
 (if ((V.cells v15)).length = 1 then
 (bd2 (Zp h (V.cells v15) p17) fun b18 x19 =>
 some (Res.ret [], ((h).set b18 x19))) else none)))) else none)))))
theorem zhy (n : Nat) (i : Int) (j : Int) (q : Nat) (r : Nat) (l : Nat) (os : List (List V)) (osb : Bool) (h : ze) : call (n + 1) 208 [(V.int .i64 i), (V.int .i64 1), (V.int .i64 j), (V.iptr 2 [(V.bf 203 [(V.ptr q 0)]), (V.bf 204 [(V.ptr q 0)])] 0), (V.iptr 1 [(V.row r 1 0 l)] 0), (V.iptr 1 [(V.sl 2 os osb)] 0)] h = znG n i j q r l os osb h := by kernel_rfl
noncomputable def QO (n : Nat) (s : Nat) (os : List (List V)) (osb : Bool) (q : Nat) (r : Nat) (l : Nat) (v5 : V) (st7 : List V) (hh8 : ze) (next9 : List V -> ze -> Option (Res × ze)) : Option (Res × ze) :=
 (bd (bop prog .lss 3 (gv st7 3) (V.int .i64 ((os).length : Int))) fun v10 =>
 (bv v10 fun b11 => if b11 then
 (bdS (nv (gv st7 3)) fun n12 =>
 (bd (Xa 2 n12 (V.sl 2 os osb)) fun p13 =>
 (bd3 (zu hh8 p13) fun cs15 m14 o16 => if (o16 + 2 <= m14 /\ 0 < 2) then
 (if (((cs15).drop o16 |>.take 2)).length = 2 then
 (if ((((cs15).drop o16 |>.take 2)).length <= 2) then
 (bd ((setR [(V.int .u8 0), (V.int .i32 0)] 0 ((cs15).drop o16 |>.take 2)))[0]? fun v17 =>
 (bdS (Yu hh8 v5) fun es18 =>
 (bd (kds prog 12 5) fun ksr19 => bdS (QJ ksr19 v17 es18 0) fun r19 => bd (Wx es18 (V.agg [(V.bool false), (V.int .i64 0)]) r19) fun v20 => if ((v17).one = !false /\ (v17).cells.length = ksr19.length /\ true = true) then
 (if ((V.cells v20)).length = 2 then
 (if (((V.cells v20)).length <= 2) then
 (if (!r19.isSome) then
 (bdS (nv (gv st7 3)) fun n21 =>
 (if (2 = 2 /\ n21 < ((lsl (gv st7 1))).length /\ (some 60 : Option Nat) ≠ some 7) then
 (bd ((lsl (gv st7 1)))[n21]? fun es22 =>
 (bd (bop prog .add 3 (gv st7 3) (V.int .i64 1)) fun v23 =>
 (next9 [(V.sl 2 (lsl (gv st7 0)) false), (V.sl 2 (((lsl (gv st7 1))).set n21 (setR es22 0 [(V.int .u8 5)])) false), (V.bool false), v23] hh8))) else none))
 else
 (bd ((setR [(V.bool false), (V.int .i64 0)] 0 (V.cells v20)))[0]? fun v24 =>
 (bv v24 fun b25 => if b25 then
 (bd ((setR [(V.bool false), (V.int .i64 0)] 0 (V.cells v20)))[1]? fun v26 =>
 (cl (call n 213 [(V.ptr s 0), v26, (gv st7 3)] hh8) (fun r27 h28 =>
 (Zs r27 fun v30 =>
 (bv v30 fun b31 => if b31 then
 (bdS (nv (gv st7 3)) fun n32 =>
 (if (2 = 2 /\ n32 < ((lsl (gv st7 1))).length /\ (some 74 : Option Nat) ≠ some 7) then
 (bd ((lsl (gv st7 1)))[n32]? fun es33 =>
 (bd (bop prog .add 3 (gv st7 3) (V.int .i64 1)) fun v34 =>
 (next9 [(V.sl 2 (lsl (gv st7 0)) false), (V.sl 2 (((lsl (gv st7 1))).set n32 (setR es33 0 [(V.int .u8 1)])) false), (V.bool false), v34] h28))) else none))
 else
 (bd ((setR [(V.bool false), (V.int .i64 0)] 0 (V.cells v20)))[0]? fun v35 =>
 (bv v35 fun b36 => if b36 then
 (bdS (nv (gv st7 3)) fun n37 =>
 (if (2 = 2 /\ n37 < ((lsl (gv st7 1))).length /\ (some 81 : Option Nat) ≠ some 7) then
 (bd ((lsl (gv st7 1)))[n37]? fun es38 =>
 (bd (bop prog .add 3 (gv st7 3) (V.int .i64 1)) fun v39 =>
 (next9 [(V.sl 2 (lsl (gv st7 0)) false), (V.sl 2 (((lsl (gv st7 1))).set n37 (setR es38 0 [(V.int .u8 3)])) false), (V.bool false), v39] h28))) else none))
 else
 (bdS (nv (gv st7 3)) fun n40 =>
 (if (2 = 2 /\ n40 < ((lsl (gv st7 1))).length /\ (some 35 : Option Nat) ≠ some 7) then
 (bd ((lsl (gv st7 1)))[n40]? fun es41 =>
 (bd ((setR [(V.bool false), (V.int .i64 0)] 0 (V.cells v20)))[1]? fun v42 =>
 (cl (call n 214 [(V.ptr s 0), v42] h28) (fun r43 h44 =>
 (bd (r43)[0]? fun v46 =>
 (bd (r43)[1]? fun v47 =>
 (bv v47 fun b48 => if b48 then
 (bdS (nv (gv st7 3)) fun n49 =>
 (if (2 = 2 /\ n49 < ((((lsl (gv st7 1))).set n40 (setR es41 0 [(V.int .u8 4)]))).length /\ (some 47 : Option Nat) ≠ some 7) then
 (bd ((((lsl (gv st7 1))).set n40 (setR es41 0 [(V.int .u8 4)])))[n49]? fun es50 =>
 (bd ((setR [(V.bool false), (V.int .i64 0)] 0 (V.cells v20)))[1]? fun v51 =>
 (cl (call n 208 [(gv st7 3), v51, v46, (V.iptr 2 [(V.bf 203 [(V.ptr q 0)]), (V.bf 204 [(V.ptr q 0)])] 0), (V.iptr 1 [(V.row r 1 0 l)] 0), (V.iptr 1 [(V.sl 2 os osb)] 0)] h44) (fun r52 h53 =>
 (bd (bop prog .add 3 (gv st7 3) (V.int .i64 1)) fun v55 =>
 (next9 [(V.sl 2 (lsl (gv st7 0)) false), (V.sl 2 (((((lsl (gv st7 1))).set n40 (setR es41 0 [(V.int .u8 4)]))).set n49 (setR es50 0 [(V.int .u8 2)])) false), (V.bool false), v55] h53))) (fun z54 h53 => some (Res.pan z54, h53))))) else none))
 else
 (bd (bop prog .add 3 (gv st7 3) (V.int .i64 1)) fun v56 =>
 (next9 [(V.sl 2 (lsl (gv st7 0)) false), (V.sl 2 (((lsl (gv st7 1))).set n40 (setR es41 0 [(V.int .u8 4)])) false), (V.bool false), v56] h44)))))) (fun z45 h44 => some (Res.pan z45, h44))))) else none))))))) (fun z29 h28 => some (Res.pan z29, h28))))
 else
 (bd ((setR [(V.bool false), (V.int .i64 0)] 0 (V.cells v20)))[0]? fun v57 =>
 (bv v57 fun b58 => if b58 then
 (bdS (nv (gv st7 3)) fun n59 =>
 (if (2 = 2 /\ n59 < ((lsl (gv st7 1))).length /\ (some 81 : Option Nat) ≠ some 7) then
 (bd ((lsl (gv st7 1)))[n59]? fun es60 =>
 (bd (bop prog .add 3 (gv st7 3) (V.int .i64 1)) fun v61 =>
 (next9 [(V.sl 2 (lsl (gv st7 0)) false), (V.sl 2 (((lsl (gv st7 1))).set n59 (setR es60 0 [(V.int .u8 3)])) false), (V.bool false), v61] hh8))) else none))
 else
 (bdS (nv (gv st7 3)) fun n62 =>
 (if (2 = 2 /\ n62 < ((lsl (gv st7 1))).length /\ (some 35 : Option Nat) ≠ some 7) then
 (bd ((lsl (gv st7 1)))[n62]? fun es63 =>
 (bd ((setR [(V.bool false), (V.int .i64 0)] 0 (V.cells v20)))[1]? fun v64 =>
 (cl (call n 214 [(V.ptr s 0), v64] hh8) (fun r65 h66 =>
 (bd (r65)[0]? fun v68 =>
 (bd (r65)[1]? fun v69 =>
 (bv v69 fun b70 => if b70 then
 (bdS (nv (gv st7 3)) fun n71 =>
 (if (2 = 2 /\ n71 < ((((lsl (gv st7 1))).set n62 (setR es63 0 [(V.int .u8 4)]))).length /\ (some 47 : Option Nat) ≠ some 7) then
 (bd ((((lsl (gv st7 1))).set n62 (setR es63 0 [(V.int .u8 4)])))[n71]? fun es72 =>
 (bd ((setR [(V.bool false), (V.int .i64 0)] 0 (V.cells v20)))[1]? fun v73 =>
 (cl (call n 208 [(gv st7 3), v73, v68, (V.iptr 2 [(V.bf 203 [(V.ptr q 0)]), (V.bf 204 [(V.ptr q 0)])] 0), (V.iptr 1 [(V.row r 1 0 l)] 0), (V.iptr 1 [(V.sl 2 os osb)] 0)] h66) (fun r74 h75 =>
 (bd (bop prog .add 3 (gv st7 3) (V.int .i64 1)) fun v77 =>
 (next9 [(V.sl 2 (lsl (gv st7 0)) false), (V.sl 2 (((((lsl (gv st7 1))).set n62 (setR es63 0 [(V.int .u8 4)]))).set n71 (setR es72 0 [(V.int .u8 2)])) false), (V.bool false), v77] h75))) (fun z76 h75 => some (Res.pan z76, h75))))) else none))
 else
 (bd (bop prog .add 3 (gv st7 3) (V.int .i64 1)) fun v78 =>
 (next9 [(V.sl 2 (lsl (gv st7 0)) false), (V.sl 2 (((lsl (gv st7 1))).set n62 (setR es63 0 [(V.int .u8 4)])) false), (V.bool false), v78] h66)))))) (fun z67 h66 => some (Res.pan z67, h66))))) else none))))))) else none) else none) else none))) else none) else none) else none)))
 else
 some (Res.ret [(V.row (hh8).length 2 0 ((lsl (gv st7 1))).length)], (hh8 ++ [(HB.row 35 2 (lsl (gv st7 1)) true)]))))
noncomputable def znH (n : Nat) (s : Nat) (os : List (List V)) (osb : Bool) (q : Nat) (r : Nat) (l : Nat) (h : ze) : Option (Res × ze) :=
 (bdS (nv (V.int .i64 ((os).length : Int))) fun n0 =>
 (bdS (nv (V.int .i64 ((os).length : Int))) fun n1 =>
 (if (n0 <= n1 /\ n1 < lim /\ 2 = 2) then
 (cl (call n 212 [] h) (fun r2 h3 =>
 (Zs r2 fun v5 =>
 (Ze n (QO n s os osb q r l v5) [(V.sl 2 [] false), (V.sl 2 (List.replicate n0 [(V.int .u8 0), (V.int .i32 0)]) false), (V.bool false), (V.int .i64 0)] h3))) (fun z4 h3 => some (Res.pan z4, h3))) else none)))
theorem zl8 (n : Nat) (s : Nat) (os : List (List V)) (osb : Bool) (q : Nat) (r : Nat) (l : Nat) (h : ze) : call (n + 1) 207 [(V.ptr s 0), (V.sl 2 os osb), (V.fn 208 [(V.iptr 2 [(V.bf 203 [(V.ptr q 0)]), (V.bf 204 [(V.ptr q 0)])] 0), (V.iptr 1 [(V.row r 1 0 l)] 0), (V.iptr 1 [(V.sl 2 os osb)] 0)])] h = znH n s os osb q r l h := by kernel_rfl
noncomputable def Jn (n : Nat) (os : List (List V)) (osb : Bool) (st19 : List V) (next21 : List V -> ze -> Option (Res × ze)) (v25 : V) (p26 : Nat × List (List V)) (st28 : List V) (hh29 : ze) (next30 : List V -> ze -> Option (Res × ze)) : Option (Res × ze) :=
 (bd (bop prog .lss 3 (gv st28 3) (V.int .i64 ((p26.2).length : Int))) fun v31 =>
 (bv v31 fun b32 => if b32 then
 (bdS (nv (gv st28 3)) fun n33 =>
 (bd (Xa 1 n33 v25) fun p34 =>
 (bd3 (zu hh29 p34) fun cs36 m35 o37 => if (o37 + 1 <= m35 /\ 0 < 1) then
 (bd (cs36)[o37]? fun v38 =>
 (bd (nv (gv st19 2)) fun n39 =>
 (if (n39 < 2) then
 (if ((n39 * 1) + 1 <= 2 /\ 0 < 1) then
 (bd ((lcs (gv st28 1)))[(n39 * 1)]? fun v40 =>
 (bdS (nv v38) fun n41 =>
 (bd (Xa 2 n41 (V.sl 2 os osb)) fun p42 =>
 (bd (ZN 1 p42) fun p43 =>
 (bd3 (zu hh29 p43) fun cs45 m44 o46 => if (o46 + 1 <= m44 /\ 0 < 1) then
 (bd (cs45)[o46]? fun v47 =>
 (zqH v40 (fun f48 c49 => if (okV prog 4 f48 = true) then (if X9 f48 then
 (cl (call n f48 ([v47] ++ c49) hh29) (fun r50 h51 =>
 (Zs r50 fun v53 =>
 (bd (bop prog .add 3 (gv st28 3) (V.int .i64 1)) fun v54 =>
 (next30 [(V.sl 2 (lsl (gv st28 0)) false), (V.agg (lcs (gv st28 1))), (V.agg (lcs (gv st28 2))), v54] h51)))) (fun z52 h51 => none))
 else if Wr f48 then
 (bd (qO [(YR hh29 v47)]) fun a55 => cl (call n f48 (a55 ++ c49) hh29) (fun r50 h51 => if V.simple.simpleL r50 then
 (Zs r50 fun v56 =>
 (bd (bop prog .add 3 (gv st28 3) (V.int .i64 1)) fun v57 =>
 (next30 [(V.sl 2 (lsl (gv st28 0)) false), (V.agg (lcs (gv st28 1))), (V.agg (lcs (gv st28 2))), v57] h51))) else none) (fun z52 h51 => if z52.simple then none else none))
 else none) else none) (fun f58 c59 => if (X9 f58 = true /\ okV prog 4 f58 = true) then
 (cl (call n f58 (c59 ++ [v47]) hh29) (fun r60 h61 =>
 (Zs r60 fun v63 =>
 (bd (bop prog .add 3 (gv st28 3) (V.int .i64 1)) fun v64 =>
 (next30 [(V.sl 2 (lsl (gv st28 0)) false), (V.agg (lcs (gv st28 1))), (V.agg (lcs (gv st28 2))), v64] h61)))) (fun z62 h61 => none)) else none) (fun t67 s68 => if (zb4 prog t67 = false /\ (prog.underlying t67).isSome = true) then bd2 (Qq prog t67 v47 s68) fun f65 w66 => if (X9 f65 = true /\ okV prog 4 f65 = true) then
 (cl (call n f65 ([w66] ++ []) hh29) (fun r69 h70 =>
 (Zs r69 fun v72 =>
 (bd (bop prog .add 3 (gv st28 3) (V.int .i64 1)) fun v73 =>
 (next30 [(V.sl 2 (lsl (gv st28 0)) false), (V.agg (lcs (gv st28 1))), (V.agg (lcs (gv st28 2))), v73] h70)))) (fun z71 h70 => none)) else none else none))) else none))))) else none) else none))) else none)))
 else
 (bd (bop prog .add 3 (gv st19 2) (V.int .i64 1)) fun v74 =>
 (next21 [(V.sl 2 (lsl (gv st28 0)) false), (V.agg (lcs (gv st28 1))), v74] hh29))))
noncomputable def JZ (n : Nat) (h5 : ze) (n9 : Nat) (v14 : V) (p75 : Nat × List (List V)) (st77 : List V) (hh78 : ze) (next79 : List V -> ze -> Option (Res × ze)) : Option (Res × ze) :=
 (bd (bop prog .lss 3 (gv st77 2) (V.int .i64 ((p75.2).length : Int))) fun v80 =>
 (bv v80 fun b81 => if b81 then
 (bdS (nv (gv st77 2)) fun n82 =>
 (bd (Xa 1 n82 (V.row (h5).length 1 0 ((List.replicate n9 [(V.int .i32 0)])).length)) fun p83 =>
 (bd3 (zu hh78 p83) fun cs85 m84 o86 => if (o86 + 1 <= m84 /\ 0 < 1) then
 (bd (cs85)[o86]? fun v87 =>
 (bdS (nv (gv st77 2)) fun n88 =>
 (bd (Xa 2 n88 v14) fun p89 =>
 (bd (ZN 1 p89) fun p90 =>
 (if ((V.cells v87)).length = 1 then
 (bd2 (Zp hh78 (V.cells v87) p90) fun b91 x92 =>
 (bd (bop prog .add 3 (gv st77 2) (V.int .i64 1)) fun v93 =>
 (next79 [(V.sl 2 (lsl (gv st77 0)) false), (V.agg (lcs (gv st77 1))), v93] ((hh78).set b91 x92)))) else none))))) else none)))
 else
 some (Res.ret [v14], hh78)))
noncomputable def QZ (n : Nat) (os : List (List V)) (osb : Bool) (h5 : ze) (n9 : Nat) (v14 : V) (cs16 : List V) (o17 : Nat) (st19 : List V) (hh20 : ze) (next21 : List V -> ze -> Option (Res × ze)) : Option (Res × ze) :=
 (bd (bop prog .lss 3 (gv st19 2) (V.int .i64 2)) fun v22 =>
 (bv v22 fun b23 => if b23 then
 (bdS (nv (gv st19 2)) fun n24 =>
 (if (n24 < 2 /\ (n24 * 1) + 1 <= (((cs16).drop o17 |>.take 2)).length) then
 (if (((((cs16).drop o17 |>.take 2)).drop (n24 * 1) |>.take 1)).length = 1 then
 (if ((((((cs16).drop o17 |>.take 2)).drop (n24 * 1) |>.take 1)).length <= 1) then
 (bd ((setR [(V.sl 0 [] true)] 0 ((((cs16).drop o17 |>.take 2)).drop (n24 * 1) |>.take 1)))[0]? fun v25 =>
 (bd (Xq hh20 v25) fun p26 =>
 (Ze n (Jn n os osb st19 next21 v25 p26) [(V.sl 2 (lsl (gv st19 0)) false), (V.agg (lcs (gv st19 1))), (V.agg (setR [(V.sl 0 [] true)] 0 ((((cs16).drop o17 |>.take 2)).drop (n24 * 1) |>.take 1))), (V.int .i64 0)] hh20))) else none) else none) else none))
 else
 (bd (Xq hh20 (V.row (h5).length 1 0 ((List.replicate n9 [(V.int .i32 0)])).length)) fun p75 =>
 (Ze n (JZ n h5 n9 v14 p75) [(V.sl 2 (lsl (gv st19 0)) false), (V.agg (lcs (gv st19 1))), (V.int .i64 0)] hh20))))
noncomputable def zhz (n : Nat) (s : Nat) (os : List (List V)) (osb : Bool) (h : ze) : Option (Res × ze) :=
 (cl (call n 192 [(V.ptr s 0)] h) (fun r0 h1 =>
 (Zs r0 fun v3 =>
 (cl (call n 202 [(V.ptr s 0)] h1) (fun r4 h5 =>
 (Zs r4 fun v7 =>
 (bd (Ji prog 274 [(1, v3), (2, v7)]) fun cs8 =>
 (if (cs8).length = 4 then
 (bdS (nv (V.int .i64 ((os).length : Int))) fun n9 =>
 (bdS (nv (V.int .i64 ((os).length : Int))) fun n10 =>
 (if (n9 <= n10 /\ n10 < lim /\ 1 = 1) then
 (cl (call n 207 [(V.ptr ((h5 ++ [(HB.row 21 1 (List.replicate n9 [(V.int .i32 0)]) true)])).length 0), (V.sl 2 os osb), (V.fn 208 [(V.iptr 2 [(V.bf 203 [(V.ptr s 0)]), (V.bf 204 [(V.ptr s 0)])] 0), (V.iptr 1 [(V.row (h5).length 1 0 ((List.replicate n9 [(V.int .i32 0)])).length)] 0), (V.iptr 1 [(V.sl 2 os osb)] 0)])] ((h5 ++ [(HB.row 21 1 (List.replicate n9 [(V.int .i32 0)]) true)]) ++ [(HB.box 4 cs8)])) (fun r11 h12 =>
 (Zs r11 fun v14 =>
 (bd3 (zu h12 (V.ptr ((h5 ++ [(HB.row 21 1 (List.replicate n9 [(V.int .i32 0)]) true)])).length 0)) fun cs16 m15 o17 => if (o17 + 2 <= m15 /\ 0 < 2) then
 (Ze n (QZ n os osb h5 n9 v14 cs16 o17) [(V.sl 2 [] false), (V.agg [(V.bf 205 [(V.ptr s 0)]), (V.bf 206 [(V.ptr s 0)])]), (V.int .i64 0)] h12) else none))) (fun z13 h12 => some (Res.pan z13, h12))) else none))) else none)))) (fun z6 h5 => some (Res.pan z6, h5))))) (fun z2 h1 => some (Res.pan z2, h1)))
theorem zhA (n : Nat) (s : Nat) (os : List (List V)) (osb : Bool) (h : ze) : call (n + 1) 199 [(V.ptr s 0), (V.sl 2 os osb)] h = zhz n s os osb h := by kernel_rfl
end Go.Proofs.Tryz
namespace Go.Sk
open Go.L Go.Rp
def JQ {α : Type} (d : Nat) (x : α) (v : Nat -> α) : Nat -> α := fun j => if j = d then x else v j
theorem Jo {α : Type} (d : Nat) (x : α) (v : Nat -> α) : JQ d x v d = x := if_pos rfl
theorem WP {α : Type} {d e : Nat} (x : α) (v : Nat -> α) (h : e ≠ d) : JQ d x v e = v e := if_neg h
end Go.Sk
namespace Go.Proofs.Tryz
open Go.L Go.Rp Go.Sk
set_option maxRecDepth 100000
def SideV (h : ze) (v : V) (ob : Option Nat) (ws : List Nat) : Prop := match ob with
 | none => v = .sl 0 [] true /\ ws = []
 | some b => ∃ lo l z, v = .row b 1 lo (lo + ws.length) /\ h[b]? = some (.row 3 1 l z) /\ lo + ws.length <= l.length /\ (l.take (lo + ws.length)).drop lo = ws.map JP
theorem SideV.keep {h h' : ze} {v : V} {ob : Option Nat} {ws : List Nat} (hv : SideV h v ob ws) (hk : ∀ b, ob = some b -> h'[b]? = h[b]?) : SideV h' v ob ws := by
 cases ob with
 | none => exact hv
 | some b =>
   obtain ⟨lo, l, z, h1, h2, h3⟩ := hv
   exact ⟨lo, l, z, h1, (hk b rfl).trans h2, h3⟩
theorem SideV.lt {h : ze} {v : V} {b : Nat} {ws : List Nat} (hv : SideV h v (some b) ws) : b < h.length := by
 obtain ⟨lo, l, z, h1, h2, h3⟩ := hv
 exact zQ h2
theorem SideV.slc {h : ze} {v : V} {ob : Option Nat} {ws : List Nat} (hv : SideV h v ob ws) : ∃ sz, Xq h v = some (sz, ws.map JP) := by
 cases ob with
 | none =>
   obtain ⟨rfl, rfl⟩ := hv
   exact ⟨0, QX ..⟩
 | some b =>
   obtain ⟨lo, l, z, rfl, h2, h3, h4⟩ := hv
   exact ⟨1, by rw [Qi h2 (Nat.le_add_right _ _) h3, h4]⟩
theorem SideV.one {h : ze} {v : V} {ob : Option Nat} {ws : List Nat} (hv : SideV h v ob ws) : V.cells v = [v] := by
 cases ob with
 | none =>
   obtain ⟨rfl, rfl⟩ := hv
   rfl
 | some b =>
   obtain ⟨lo, l, z, rfl, h2, h3, h4⟩ := hv
   rfl
theorem SideV.app {h : ze} {v : V} {ob : Option Nat} {ws : List Nat} (hv : SideV h v ob ws) (i : Nat) (hl : ws.length + 1 < lim) : ∃ v' h', J4 3 1 h [[.int .i64 (i : Int)]] v = some (v', h') /\ SideV h' v' (some h.length) (ws ++ [i]) /\ h'.length = h.length + 1 /\ ∀ j, j < h.length -> ob ≠ some j -> h'[j]? = h[j]? := by
 cases ob with
 | none =>
   obtain ⟨rfl, rfl⟩ := hv
   exact ⟨.row h.length 1 0 1, h ++ [.row 3 1 [[.int .i64 (i : Int)]] true], rfl, ⟨0, _, _, rfl, zD, by simp, by simp [JP]⟩, by simp, fun j h1 h2 => zj h1⟩
 | some b =>
   obtain ⟨lo, l, z, rfl, h2, h3, h4⟩ := hv
   have hbl := zQ h2
   have J5 : J4 3 1 h [[.int .i64 (i : Int)]] (.row b 1 lo (lo + ws.length)) = some (.row h.length 1 0 (ws.length + 1), h.set b .dead ++ [.row 3 1 (ws.map JP ++ [[.int .i64 (i : Int)]]) (z && lo == 0)]) := by
    simp only [J4, h2]
    rw [if_pos (by refine ⟨⟨?_, ?_, ?_⟩, ⟨by omega, h3⟩, by simp; omega⟩ <;> first | trivial | rfl), h4]
    simp
   refine ⟨_, _, J5, ⟨0, ws.map JP ++ [[.int .i64 (i : Int)]], (z && lo == 0), by simp, ?_, by simp, ?_⟩, by simp, fun j h1 h2 => ?_⟩
   · rw [zG (by simp)]; simp
   · simp [JP, zN]
   · rw [zj (by simpa using h1), zd (fun e => h2 (by rw [e]))]
theorem SideV.outer {h : ze} {v : V} {ob : Option Nat} {w0 : List Nat} {w : Nat} (hv : SideV h v ob (w0 ++ [w])) : ∃ p cs m o v', Xa 1 w0.length v = some p /\ zmH v p = p /\ zu h p = some (cs, m, o) /\ (o + 1 <= m /\ 0 < 1) /\ cs[o]? = some (.int .i64 (w : Int)) /\ zan v = some (w0.length + 1) /\ Q7 1 0 w0.length none true v = some v' /\ SideV h v' ob w0 := by
 cases ob with
 | none => exact absurd hv.2 (by simp)
 | some b =>
   obtain ⟨lo, l, z, rfl, h2, h3, h4⟩ := hv
   rw [zE, ZL] at h3 h4 ⊢
   have hx : l[lo + w0.length]? = some [.int .i64 (w : Int)] := by
    have := congrArg (fun t : List (List V) => t[w0.length]?) h4
    simpa [JP, zX] using this
   have hr : (l.take (lo + w0.length)).drop lo = w0.map JP := by
    have := congrArg (List.take w0.length) h4
    rw [List.take_drop, List.take_take, X0 (by omega)] at this
    rw [this, ZC, XC (by simp), zN (by simp)]
   exact ⟨_, _, _, _, _, XG (by omega), rfl, Xr h2 (by decide) hx, by decide, rfl, by rw [W5]; congr 1; omega, JA (Zh _) (by omega) true, ⟨lo, l, z, rfl, h2, by omega, hr⟩⟩
theorem SideV.inner {h : ze} {v : V} {ob : Option Nat} {w0 : List Nat} {w : Nat} (hv : SideV h v ob (w :: w0)) : ∃ p cs m o v', Xa 1 0 v = some p /\ zu h p = some (cs, m, o) /\ (o + 1 <= m /\ 0 < 1) /\ cs[o]? = some (.int .i64 (w : Int)) /\ zan v = some (w0.length + 1) /\ Q7 1 1 (w0.length + 1) none true v = some v' /\ SideV h v' ob w0 := by
 cases ob with
 | none => exact absurd hv.2 (by simp)
 | some b =>
   obtain ⟨lo, l, z, rfl, h2, h3, h4⟩ := hv
   rw [zB] at h3 h4 ⊢
   have hx : l[lo]? = some [.int .i64 (w : Int)] := by
    have := congrArg (fun t : List (List V) => t[0]?) h4
    simpa [JP, zX] using this
   have hr : (l.take (lo + (w0.length + 1))).drop (lo + 1) = w0.map JP := by
    have := congrArg (List.drop 1) h4
    rw [List.drop_drop] at this
    rw [this]; rfl
   exact ⟨_, _, _, _, _, XG (by omega), Xr h2 (by decide) (by rw [zV]; exact hx), by decide, rfl, by rw [W5]; congr 1; omega, JA (by omega) (by omega) true, ⟨lo + 1, l, z, by congr 1; omega, h2, by omega, by rw [show lo + 1 + w0.length = lo + (w0.length + 1) by omega]; exact hr⟩⟩
structure EndAt (h : ze) (s : Nat) (sb : Nat -> Option Nat) (u m : Nat) (ws : Nat -> List Nat) (v : Nat -> V) : Prop where
 box : h[s]? = some (.box 4 [v 0, v 1, .int .i64 (u : Int), .int .i64 (m : Int)])
 side : ∀ d, d < 2 -> SideV h (v d) (sb d) (ws d)
 own : ∀ d, d < 2 -> sb d ≠ some s
 apart : ∀ b, sb 0 = some b -> sb 1 ≠ some b
structure EFed (h h' : ze) (s : Nat) (sb sb' : Nat -> Option Nat) : Prop where
 len : h.length <= h'.length
 old : ∀ j, j < h.length -> j ≠ s -> sb 0 ≠ some j -> sb 1 ≠ some j -> h'[j]? = h[j]?
 new : ∀ d b, d < 2 -> sb' d = some b -> sb d = some b \/ h.length <= b
theorem EFed.of {h h' : ze} {s : Nat} {sb : Nat -> Option Nat} (h1 : h'.length = h.length) (h2 : ∀ j, j ≠ s -> h'[j]? = h[j]?) : EFed h h' s sb sb := ⟨by omega, fun j _ k _ _ => h2 j k, fun _ _ _ e => .inl e⟩
theorem QP {v : Nat -> V} {a b : V} {d : Nat} (hd : d < 2) : [v 0, v 1, a, b][d]? = some (v d) := by
 obtain rfl | rfl : d = 0 \/ d = 1 := by omega
 · rfl
 · rfl
theorem znI {v : Nat -> V} {a b x : V} {d : Nat} (hd : d < 2) : setR [v 0, v 1, a, b] d [x] = [JQ d x v 0, JQ d x v 1, a, b] := by
 obtain rfl | rfl : d = 0 \/ d = 1 := by omega
 · rfl
 · rfl
theorem EndAt.write {h h' h2 : ze} {s : Nat} {sb : Nat -> Option Nat} {u m : Nat} {ws : Nat -> List Nat} {v : Nat -> V} (E : EndAt h s sb u m ws v) {d : Nat} (hd : d < 2) {x : V} {ob : Option Nat} {w : List Nat} (hx : SideV h2 x ob w) (ho : ob ≠ some s) (ha : ∀ e, e < 2 -> e ≠ d -> ∀ b, sb e = some b -> ob ≠ some b)
    (hk : ∀ e, e < 2 -> e ≠ d -> ∀ b, sb e = some b -> h2[b]? = h[b]?) (hs : s < h2.length) (he : h' = h2.set s (.box 4 (setR [v 0, v 1, .int .i64 (u : Int), .int .i64 (m : Int)] d [x]))) : EndAt h' s (JQ d ob sb) u m (JQ d w ws) (JQ d x v) := by
 subst he
 refine ⟨?_, fun e he => ?_, fun e he => ?_, fun b hb hb1 => ?_⟩
 · rw [Xf hs, znI hd]
 · by_cases k : e = d
   · subst k
     rw [Jo, Jo, Jo]
     exact hx.keep (fun b hb => zd (fun k => ho (by rw [hb, k])))
   · rw [WP _ _ k, WP _ _ k, WP _ _ k]
     exact (E.side e he).keep (fun b hb => (zd (fun k2 => E.own e he (by rw [hb, k2]))).trans (hk e he k b hb))
 · by_cases k : e = d
   · subst k; rw [Jo]; exact ho
   · rw [WP _ _ k]; exact E.own e he
 · obtain rfl | rfl : d = 0 \/ d = 1 := by omega
   · rw [Jo] at hb
     rw [WP _ _ (by decide)] at hb1
     exact ha 1 (by decide) (by decide) b hb1 hb
   · rw [Jo] at hb1
     rw [WP _ _ (by decide)] at hb
     exact ha 0 (by decide) (by decide) b hb hb1
theorem zdQ (n : Nat) {h : ze} {s : Nat} {sb : Nat -> Option Nat} {u m : Nat} {ws : Nat -> List Nat} {v : Nat -> V} (E : EndAt h s sb u m ws v) (d i : Int) (hm : m <= u + (ws 0).length + (ws 1).length) (hl : u + (ws 0).length + (ws 1).length < lim) : call (n + 1) 213 [.ptr s 0, .int .i64 d, .int .i64 i] h = some (.ret [.bool false], h) := by
 obtain ⟨z0, k0⟩ := (E.side 0 (by decide)).slc
 obtain ⟨z1, k1⟩ := (E.side 1 (by decide)).slc
 unfold lim at hl
 refine (zc4 n s d i h).trans ?_
 unfold zfJ
 rw [zx E.box, zl, if_pos (by decide)]
 simp only [za, zi, zb]
 rw [zx E.box, zl, if_pos (by decide)]
 simp only [za, zi, zb]
 rw [k0, zb, zM, zb, zx E.box, zl, if_pos (by decide)]
 simp only [za, zi, zb]
 rw [k1, zb, zM, zb, zx E.box, zl, if_pos (by decide)]
 simp only [za, zi, zb]
 rw [Xm, zb, zo, zA, zA, w64 (n := (u : Int) + _) (by omega) (by omega), w64 (by omega) (by omega), if_pos (by simp; omega)]
theorem zdR (n : Nat) {h : ze} {s : Nat} {sb : Nat -> Option Nat} {u m : Nat} {ws : Nat -> List Nat} {v : Nat -> V} (E : EndAt h s sb u m ws v) {d : Nat} (hd : d < 2) (i : Nat) (hm : u + (ws 0).length + (ws 1).length < m) (hl : u + (ws 0).length + (ws 1).length + 1 < lim) :
    ∃ h' v', call (n + 1) 213 [.ptr s 0, .int .i64 (d : Int), .int .i64 (i : Int)] h = some (.ret [.bool true], h') /\ EndAt h' s (JQ d (some h.length) sb) u m (JQ d (ws d ++ [i]) ws) v' /\ EFed h h' s sb (JQ d (some h.length) sb) := by
 obtain ⟨z0, k0⟩ := (E.side 0 (by decide)).slc
 obtain ⟨z1, k1⟩ := (E.side 1 (by decide)).slc
 have hwd : (ws d).length <= (ws 0).length + (ws 1).length := by
  obtain rfl | rfl : d = 0 \/ d = 1 := by omega
  · omega
  · omega
 obtain ⟨x, h2, a1, a2, a3, a4⟩ := (E.side d hd).app i (by omega)
 have hcl := zQ E.box
 have e2 : h2[s]? = some (.box 4 [v 0, v 1, .int .i64 (u : Int), .int .i64 (m : Int)]) := (a4 s hcl (E.own d hd)).trans E.box
 have hds : ∀ e, e < 2 -> e ≠ d -> ∀ b, sb e = some b -> sb d ≠ some b := by
  intro e he hed b hb hb'
  obtain rfl | rfl : d = 0 \/ d = 1 := by omega
  · obtain rfl : e = 1 := by omega
    exact E.apart b hb' hb
  · obtain rfl : e = 0 := by omega
    exact E.apart b hb hb'
 refine ⟨_, _, ?_, E.write (h2 := h2) hd a2 (fun e => by cases e; omega) (fun e he hed b hb e2 => by have := (hb ▸ E.side e he : SideV h (v e) (some b) (ws e)).lt; cases e2; omega) (fun e he hed b hb => a4 b (hb ▸ E.side e he : SideV h (v e) (some b) (ws e)).lt (fun e2 => hds e he hed b hb e2)) (by omega) rfl, ⟨by rw [zp]; omega, fun j h1 h3 h4 h5 => ?_, fun e b he hb => ?_⟩⟩
 · unfold lim at hl
   rw [zc4]
   unfold zfJ
   rw [zx E.box, zl, if_pos (by decide)]
   simp only [za, zi, zb]
   rw [zx E.box, zl, if_pos (by decide)]
   simp only [za, zi, zb]
   rw [k0, zb, zM, zb, zx E.box, zl, if_pos (by decide)]
   simp only [za, zi, zb]
   rw [k1, zb, zM, zb, zx E.box, zl, if_pos (by decide)]
   simp only [za, zi, zb]
   rw [Xm, zb, zo, zA, zA, w64 (n := (u : Int) + _) (by omega) (by omega), w64 (by omega) (by omega), if_neg (by simp; omega), Zo, zb, if_pos hd]
   simp only [zr, Z3, zV]
   rw [zx E.box, zl, if_pos (by omega), QP hd, zb, a1, Zd, zb, if_pos hd, a2.one, if_pos (by rfl), ZO e2 (by simp; omega), Zd]
 · rw [zd (Ne.symm h3)]
   have hdj : sb d ≠ some j := by
    rcases (show d = 0 \/ d = 1 by omega) with rfl | rfl
    · exact h4
    · exact h5
   exact a4 j h1 hdj
 · by_cases k : e = d
   · subst k; rw [Jo] at hb; cases hb; exact .inr (zm _)
   · rw [WP _ _ k] at hb; exact .inl hb
theorem Kf {d : Nat} (hd : d < 2) : IntKind.i64.wrap (1 - (d : Int)) = ((1 - d : Nat) : Int) := by rw [w64] <;> omega
theorem zc6 (n : Nat) {h : ze} {s : Nat} {sb : Nat -> Option Nat} {u m : Nat} {ws : Nat -> List Nat} {v : Nat -> V} (E : EndAt h s sb u m ws v) {d : Nat} (hd : d < 2) {w0 : List Nat} {w : Nat} (hw : ws d = w0 ++ [w]) (hl : w0.length + 1 < lim) :
    ∃ h' v', call (n + 1) 215 [.ptr s d] h = some (.ret [.int .i64 (w : Int)], h') /\ EndAt h' s sb u m (JQ d w0 ws) v' /\ h'.length = h.length /\ ∀ j, j ≠ s -> h'[j]? = h[j]? := by
 have hs := E.side d hd
 rw [hw] at hs
 obtain ⟨z, k⟩ := hs.slc
 obtain ⟨p, cs, m', o, v', a1, a2, a3, a4, a5, a6, a7, a8⟩ := hs.outer
 have hcl := zQ E.box
 have hds : ∀ e, e < 2 -> e ≠ d -> ∀ b, sb e = some b -> sb d ≠ some b := by
  intro e he hed b hb hb'
  obtain rfl | rfl : d = 0 \/ d = 1 := by omega
  · obtain rfl : e = 1 := by omega
    exact E.apart b hb' hb
  · obtain rfl : e = 0 := by omega
    exact E.apart b hb hb'
 have W := E.write (h2 := h) hd a8 (E.own d hd) hds (fun e he hed b hb => rfl) hcl rfl
 have hp : JQ d (sb d) sb = sb := by funext j; unfold JQ; split <;> simp_all
 rw [hp] at W
 refine ⟨_, _, ?_, W, by rw [zp], fun j hj => zd (Ne.symm hj)⟩
 unfold lim at hl
 have hlen : IntKind.i64.wrap ((((w0 ++ [w]).map JP).length : Int) - 1) = (w0.length : Int) := by
  rw [zA, zE, ZL, w64 (by omega) (by omega)]; omega
 rw [zhu]
 unfold zht
 simp only [ZN, zV, zb]
 rw [zx E.box, zl, if_pos (by omega), QP hd, zb, zl, if_pos (by omega), QP hd, zb, k, zb, hlen, Zo, zH, a1, zb, a2, a3, zl, if_pos a4, a5, zb, zl, if_pos (by omega), QP hd, zb, zl, if_pos (by omega), QP hd, zb, k, zb, a6, zb, hlen, Zo, zH, a7, zb, a8.one, if_pos (by rfl), ZO E.box (by simp; omega), Zd]
theorem zc7 (n : Nat) {h : ze} {s : Nat} {sb : Nat -> Option Nat} {u m : Nat} {ws : Nat -> List Nat} {v : Nat -> V} (E : EndAt h s sb u m ws v) {d : Nat} (hd : d < 2) {w0 : List Nat} {w : Nat} (hw : ws d = w :: w0) :
    ∃ h' v', call (n + 1) 216 [.ptr s d] h = some (.ret [.int .i64 (w : Int)], h') /\ EndAt h' s sb u m (JQ d w0 ws) v' /\ h'.length = h.length /\ ∀ j, j ≠ s -> h'[j]? = h[j]? := by
 have hs := E.side d hd
 rw [hw] at hs
 obtain ⟨p, cs, m', o, v', a1, a3, a4, a5, a6, a7, a8⟩ := hs.inner
 have hcl := zQ E.box
 have hds : ∀ e, e < 2 -> e ≠ d -> ∀ b, sb e = some b -> sb d ≠ some b := by
  intro e he hed b hb hb'
  obtain rfl | rfl : d = 0 \/ d = 1 := by omega
  · obtain rfl : e = 1 := by omega
    exact E.apart b hb' hb
  · obtain rfl : e = 0 := by omega
    exact E.apart b hb hb'
 have W := E.write (h2 := h) hd a8 (E.own d hd) hds (fun e he hed b hb => rfl) hcl rfl
 have hp : JQ d (sb d) sb = sb := by funext j; unfold JQ; split <;> simp_all
 rw [hp] at W
 refine ⟨_, _, ?_, W, by rw [zp], fun j hj => zd (Ne.symm hj)⟩
 rw [zhw]
 unfold zhv
 simp only [ZN, zV, zb]
 rw [zx E.box, zl, if_pos (by omega), QP hd, zb, a1, zb, a3, zl, if_pos a4, a5, zb, zl, if_pos (by omega), QP hd, zb, a6, zb, a7, zb, a8.one, if_pos (by rfl), ZO E.box (by simp; omega), Zd]
theorem zfK (n : Nat) {h : ze} {s : Nat} {sb : Nat -> Option Nat} {u m : Nat} {ws : Nat -> List Nat} {v : Nat -> V} (E : EndAt h s sb u m ws v) {d : Nat} (hd : d < 2) {w0 : List Nat} {w : Nat} (hw : ws d = w0 ++ [w]) (hl : w0.length + 1 < lim) :
    ∃ h' v', call (n + 2) 214 [.ptr s 0, .int .i64 (d : Int)] h = some (.ret [.int .i64 (w : Int), .bool true], h') /\ EndAt h' s sb u m (JQ d w0 ws) v' /\ h'.length = h.length /\ ∀ j, j ≠ s -> h'[j]? = h[j]? := by
 obtain ⟨h', v', e, b1, b2, b3⟩ := zc6 n E hd hw hl
 obtain ⟨z, k⟩ := (E.side d hd).slc
 refine ⟨h', v', ?_, b1, b2, b3⟩
 rw [show n + 2 = (n + 1) + 1 from rfl, jr]
 unfold zc5
 rw [Zo, zb, if_pos hd, Kf hd, Zo, zb, if_pos (by omega)]
 simp only [zr, Z3, zV]
 rw [zx E.box, zl, if_pos (by omega), QP hd, zb, k, zb, if_pos (by rw [hw]; simp), e, zK, zw]
theorem zhB (n : Nat) {h : ze} {s : Nat} {sb : Nat -> Option Nat} {u m : Nat} {ws : Nat -> List Nat} {v : Nat -> V} (E : EndAt h s sb (u + 1) m ws v) {d : Nat} (hd : d < 2) (hw : ws d = []) (hu : u + 1 < lim) :
    ∃ h' v', call (n + 2) 214 [.ptr s 0, .int .i64 (d : Int)] h = some (.ret [.int .i64 (-1), .bool true], h') /\ EndAt h' s sb u m ws v' /\ h'.length = h.length /\ ∀ j, j ≠ s -> h'[j]? = h[j]? := by
 obtain ⟨z, k⟩ := (E.side d hd).slc
 have hcl := zQ E.box
 refine ⟨h.set s (.box 4 [v 0, v 1, .int .i64 (u : Int), .int .i64 (m : Int)]), v, ?_, ⟨Xf hcl _, fun e he => (E.side e he).keep (fun b hb => zd (fun k2 => E.own e he (by rw [hb, k2]))), E.own, E.apart⟩, by rw [zp], fun j hj => zd (Ne.symm hj)⟩
 unfold lim at hu
 rw [show n + 2 = (n + 1) + 1 from rfl, jr]
 unfold zc5
 rw [Zo, zb, if_pos hd, Kf hd, Zo, zb, if_pos (by omega)]
 simp only [zr, Z3, zV]
 rw [zx E.box, zl, if_pos (by omega), QP hd, zb, k, zb, if_neg (by rw [hw]; simp), zx E.box, zl, if_pos (by decide)]
 simp only [za, zi, zb]
 rw [XO, zb, zo, if_pos (by simp), zl, if_pos (by decide)]
 simp only [za, zi, zb]
 rw [ZH, zb, if_pos (by rfl), ZO E.box (by simp [V.cells]), Zd, w64 (by omega) (by omega), show (((u + 1 : Nat) : Int) - 1) = (u : Int) by omega]
 rfl
theorem zhC (n : Nat) {h : ze} {s : Nat} {sb : Nat -> Option Nat} {m : Nat} {ws : Nat -> List Nat} {v : Nat -> V} (E : EndAt h s sb 0 m ws v) {d : Nat} (hd : d < 2) (hw : ws d = []) {w0 : List Nat} {w : Nat} (hw2 : ws (1 - d) = w :: w0) :
    ∃ h' v', call (n + 2) 214 [.ptr s 0, .int .i64 (d : Int)] h = some (.ret [.int .i64 (w : Int), .bool true], h') /\ EndAt h' s sb 0 m (JQ (1 - d) w0 ws) v' /\ h'.length = h.length /\ ∀ j, j ≠ s -> h'[j]? = h[j]? := by
 have hd' : 1 - d < 2 := by omega
 obtain ⟨h', v', e, b1, b2, b3⟩ := zc7 n E hd' hw2
 obtain ⟨z, k⟩ := (E.side d hd).slc
 obtain ⟨z', k'⟩ := (E.side (1 - d) hd').slc
 refine ⟨h', v', ?_, b1, b2, b3⟩
 rw [show n + 2 = (n + 1) + 1 from rfl, jr]
 unfold zc5
 rw [Zo, zb, if_pos hd, Kf hd, Zo, zb, if_pos (by omega)]
 simp only [zr, Z3, zV]
 rw [zx E.box, zl, if_pos (by omega), QP hd, zb, k, zb, if_neg (by rw [hw]; simp), zx E.box, zl, if_pos (by decide)]
 simp only [za, zi, zb]
 rw [XO, zb, zo, if_neg (by decide), zx E.box, zl, if_pos (by omega), QP hd', zb, k', zb, if_pos (by rw [hw2]; simp), e, zK, zw]
theorem zfL (n : Nat) {h : ze} {s : Nat} {sb : Nat -> Option Nat} {m : Nat} {ws : Nat -> List Nat} {v : Nat -> V} (E : EndAt h s sb 0 m ws v) {d : Nat} (hd : d < 2) (hw : ws d = []) (hw2 : ws (1 - d) = []) :
    call (n + 2) 214 [.ptr s 0, .int .i64 (d : Int)] h = some (.ret [.int .i64 0, .bool false], h) := by
 have hd' : 1 - d < 2 := by omega
 obtain ⟨z, k⟩ := (E.side d hd).slc
 obtain ⟨z', k'⟩ := (E.side (1 - d) hd').slc
 rw [show n + 2 = (n + 1) + 1 from rfl, jr]
 unfold zc5
 rw [Zo, zb, if_pos hd, Kf hd, Zo, zb, if_pos (by omega)]
 simp only [zr, Z3, zV]
 rw [zx E.box, zl, if_pos (by omega), QP hd, zb, k, zb, if_neg (by rw [hw]; simp), zx E.box, zl, if_pos (by decide)]
 simp only [za, zi, zb]
 rw [XO, zb, zo, if_neg (by decide), zx E.box, zl, if_pos (by omega), QP hd', zb, k', zb, if_neg (by rw [hw2]; simp)]
end Go.Proofs.Tryz
namespace Go.Proofs.Tryz
open Go.L
set_option maxRecDepth 100000
noncomputable def zkT (n : Nat) (x0 : Int) (h : ze) : Option (Res × ze) :=
 (cl (call n 57 [(V.int .i64 x0)] h) (fun r0 h1 =>
 (Zs r0 fun v3 =>
 (bd (Ji prog 112 [(0, v3)]) fun cs4 =>
 some (Res.ret [(V.iface 112 (V.agg cs4))], h1)))) (fun z2 h1 => some (Res.pan z2, h1)))
theorem zjG (n : Nat) (x0 : Int) (h : ze) : call (n + 1) 56 [(V.int .i64 x0)] h = zkT n x0 h := by kernel_rfl
noncomputable def zkU (n : Nat) (x0 : Int) (h : ze) : Option (Res × ze) :=
 (cl (call n 59 [(V.int .i64 x0)] h) (fun r0 h1 =>
 (Zs r0 fun v3 =>
 (bd (Ji prog 116 [(0, v3)]) fun cs4 =>
 some (Res.ret [(V.iface 116 (V.agg cs4))], h1)))) (fun z2 h1 => some (Res.pan z2, h1)))
theorem zjH (n : Nat) (x0 : Int) (h : ze) : call (n + 1) 58 [(V.int .i64 x0)] h = zkU n x0 h := by kernel_rfl
noncomputable def zkV (n : Nat) (x0 : Int) (h : ze) : Option (Res × ze) :=
 (cl (call n 61 [(V.int .i64 x0)] h) (fun r0 h1 =>
 (Zs r0 fun v3 =>
 (bd (Ji prog 120 [(0, v3)]) fun cs4 =>
 some (Res.ret [(V.iface 120 (V.agg cs4))], h1)))) (fun z2 h1 => some (Res.pan z2, h1)))
theorem zjI (n : Nat) (x0 : Int) (h : ze) : call (n + 1) 60 [(V.int .i64 x0)] h = zkV n x0 h := by kernel_rfl
noncomputable def zpX (n : Nat) (s : Nat) (os : List (List V)) (osb : Bool) (h : ze) : Option (Res × ze) :=
 (bd (X1 prog h .eql 25 (V.ptr s 0) (V.val (.pointer none))) fun v0 =>
 (bv v0 fun b1 => if b1 then
 some (Res.ret [(V.sl 2 [] false)], h)
 else
 (bd3 (zu h (V.ptr s 2)) fun cs3 m2 o4 => if (o4 + 1 <= m2 /\ 0 < 1) then
 (bd (cs3)[o4]? fun v5 =>
 (bv v5 fun b6 => if b6 then
 (bd3 (zu h (V.ptr s 0)) fun cs8 m7 o9 => if (o9 + 1 <= m7 /\ 0 < 1) then
 (bd (cs8)[o9]? fun v10 =>
 (bd3 (zu h (V.ptr s 1)) fun cs12 m11 o13 => if (o13 + 1 <= m11 /\ 0 < 1) then
 (bd (cs12)[o13]? fun v14 =>
 (if (zlr v10 = true) then
 (ifK v10 fun t15 w16 => bd2 (Qq prog t15 w16 "reaper/object.plain") fun f17 w18 => if (X9 f17 = true /\ okV prog 28 f17 = true) then
 (clH (call n f17 ([w18] ++ [v14, (V.sl 2 os osb)]) h) fun r19 h20 =>
 (Zs r19 fun v22 =>
 some (Res.ret [v22], h20))) else none) else none)) else none)) else none)
 else
 (bd3 (zu h (V.ptr s 0)) fun cs24 m23 o25 => if (o25 + 1 <= m23 /\ 0 < 1) then
 (bd (cs24)[o25]? fun v26 =>
 (bd3 (zu h (V.ptr s 1)) fun cs28 m27 o29 => if (o29 + 1 <= m27 /\ 0 < 1) then
 (bd (cs28)[o29]? fun v30 =>
 (if (zlr v26 = true) then
 (ifK v26 fun t31 w32 => bd2 (Qq prog t31 w32 "reaper/object.batch") fun f33 w34 => if (X9 f33 = true /\ okV prog 28 f33 = true) then
 (clH (call n f33 ([w34] ++ [v30, (V.sl 2 os osb)]) h) fun r35 h36 =>
 (Zs r35 fun v38 =>
 some (Res.ret [v38], h36))) else none) else none)) else none)) else none))) else none)))
theorem znJ (n : Nat) (s : Nat) (os : List (List V)) (osb : Bool) (h : ze) : call (n + 1) 17 [(V.ptr s 0), (V.sl 2 os osb)] h = zpX n s os osb h := by kernel_rfl
noncomputable def zkW (n : Nat) (s : Nat) (bs : List (List V)) (bsb : Bool) (h : ze) : Option (Res × ze) :=
 (bd (X1 prog h .neq 25 (V.ptr s 0) (V.val (.pointer none))) fun v0 =>
 (bv v0 fun b1 => if b1 then
 (bd3 (zu h (V.ptr s 1)) fun cs3 m2 o4 => if (o4 + 1 <= m2 /\ 0 < 1) then
 (bd (cs3)[o4]? fun v5 =>
 (cl (call n 65 [v5, (V.sl 1 bs bsb)] h) (fun r6 h7 =>
 some (Res.ret [], h7)) (fun z8 h7 => some (Res.pan z8, h7)))) else none)
 else
 some (Res.ret [], h)))
theorem zjJ (n : Nat) (s : Nat) (bs : List (List V)) (bsb : Bool) (h : ze) : call (n + 1) 23 [(V.ptr s 0), (V.sl 1 bs bsb)] h = zkW n s bs bsb h := by kernel_rfl
noncomputable def zhD (n : Nat) (s : Nat) (h : ze) : Option (Res × ze) :=
 (bd (X1 prog h .eql 25 (V.ptr s 0) (V.val (.pointer none))) fun v0 =>
 (bv v0 fun b1 => if b1 then
 some (Res.ret [(V.sl 1 [] false)], h)
 else
 (bd3 (zu h (V.ptr s 0)) fun cs3 m2 o4 => if (o4 + 1 <= m2 /\ 0 < 1) then
 (bd (cs3)[o4]? fun v5 =>
 (ifK v5 fun t6 w7 => bd2 (Qq prog t6 w7 "Items") fun f8 w9 => if (X9 f8 = true /\ okV prog 27 f8 = true) then
 (cl (call n f8 ([w9] ++ []) h) (fun r10 h11 =>
 (Zs r10 fun v13 =>
 some (Res.ret [v13], h11))) (fun z12 h11 => some (Res.pan z12, h11))) else none)) else none)))
theorem zhE (n : Nat) (s : Nat) (h : ze) : call (n + 1) 20 [(V.ptr s 0)] h = zhD n s h := by kernel_rfl
noncomputable def W6 (n : Nat) (s : Nat) (os : List (List V)) (osb : Bool) (st3 : List V) (hh4 : ze) (next5 : List V -> ze -> Option (Res × ze)) : Option (Res × ze) :=
 (bd (bop prog .lss 3 (gv st3 3) (V.int .i64 ((os).length : Int))) fun v6 =>
 (bv v6 fun b7 => if b7 then
 (bdS (nv (gv st3 3)) fun n8 =>
 (bd (Xa 2 n8 (V.sl 2 os osb)) fun p9 =>
 (bd3 (zu hh4 p9) fun cs11 m10 o12 => if (o12 + 2 <= m10 /\ 0 < 2) then
 (if (((cs11).drop o12 |>.take 2)).length = 2 then
 (if ((((cs11).drop o12 |>.take 2)).length <= 2) then
 (cl (call n 177 [(V.ptr s 0), (V.agg (((setR [(V.int .u8 0), (V.int .i32 0)] 0 ((cs11).drop o12 |>.take 2))).drop 0 |>.take 2))] hh4) (fun r13 h14 =>
 (Zs r13 fun v16 =>
 (bdS (nv (gv st3 3)) fun n17 =>
 (if (2 = 2 /\ n17 < ((lsl (gv st3 1))).length /\ (some 23 : Option Nat) ≠ some 5) then
 (if ((V.cells v16)).length = 2 then
 (if (2 = 2 /\ 0 < 2 /\ 0 + ((V.cells v16)).length <= 2) then
 (bd ((lsl (gv st3 1)))[n17]? fun es18 =>
 (bd (bop prog .add 3 (gv st3 3) (V.int .i64 1)) fun v19 =>
 (next5 [(V.sl 2 (lsl (gv st3 0)) false), (V.sl 2 (((lsl (gv st3 1))).set n17 (setR es18 0 (V.cells v16))) false), (V.bool false), v19] h14))) else none) else none) else none)))) (fun z15 h14 => some (Res.pan z15, h14))) else none) else none) else none)))
 else
 some (Res.ret [(V.row (hh4).length 2 0 ((lsl (gv st3 1))).length)], (hh4 ++ [(HB.row 35 2 (lsl (gv st3 1)) true)]))))
noncomputable def zkX (n : Nat) (s : Nat) (os : List (List V)) (osb : Bool) (h : ze) : Option (Res × ze) :=
 (bdS (nv (V.int .i64 ((os).length : Int))) fun n0 =>
 (bdS (nv (V.int .i64 ((os).length : Int))) fun n1 =>
 (if (n0 <= n1 /\ n1 < lim /\ 2 = 2) then
 (Ze n (W6 n s os osb) [(V.sl 2 [] false), (V.sl 2 (List.replicate n0 [(V.int .u8 0), (V.int .i32 0)]) false), (V.bool false), (V.int .i64 0)] h) else none)))
theorem zjK (n : Nat) (s : Nat) (os : List (List V)) (osb : Bool) (h : ze) : call (n + 1) 176 [(V.bf 177 [(V.ptr s 0)]), (V.sl 2 os osb)] h = zkX n s os osb h := by kernel_rfl
noncomputable def W7 (n : Nat) (s : Nat) (os : List (List V)) (osb : Bool) (st3 : List V) (hh4 : ze) (next5 : List V -> ze -> Option (Res × ze)) : Option (Res × ze) :=
 (bd (bop prog .lss 3 (gv st3 3) (V.int .i64 ((os).length : Int))) fun v6 =>
 (bv v6 fun b7 => if b7 then
 (bdS (nv (gv st3 3)) fun n8 =>
 (bd (Xa 2 n8 (V.sl 2 os osb)) fun p9 =>
 (bd3 (zu hh4 p9) fun cs11 m10 o12 => if (o12 + 2 <= m10 /\ 0 < 2) then
 (if (((cs11).drop o12 |>.take 2)).length = 2 then
 (if ((((cs11).drop o12 |>.take 2)).length <= 2) then
 (cl (call n 201 [(V.ptr s 0), (V.agg (((setR [(V.int .u8 0), (V.int .i32 0)] 0 ((cs11).drop o12 |>.take 2))).drop 0 |>.take 2))] hh4) (fun r13 h14 =>
 (Zs r13 fun v16 =>
 (bdS (nv (gv st3 3)) fun n17 =>
 (if (2 = 2 /\ n17 < ((lsl (gv st3 1))).length /\ (some 23 : Option Nat) ≠ some 5) then
 (if ((V.cells v16)).length = 2 then
 (if (2 = 2 /\ 0 < 2 /\ 0 + ((V.cells v16)).length <= 2) then
 (bd ((lsl (gv st3 1)))[n17]? fun es18 =>
 (bd (bop prog .add 3 (gv st3 3) (V.int .i64 1)) fun v19 =>
 (next5 [(V.sl 2 (lsl (gv st3 0)) false), (V.sl 2 (((lsl (gv st3 1))).set n17 (setR es18 0 (V.cells v16))) false), (V.bool false), v19] h14))) else none) else none) else none)))) (fun z15 h14 => some (Res.pan z15, h14))) else none) else none) else none)))
 else
 some (Res.ret [(V.row (hh4).length 2 0 ((lsl (gv st3 1))).length)], (hh4 ++ [(HB.row 35 2 (lsl (gv st3 1)) true)]))))
noncomputable def zkY (n : Nat) (s : Nat) (os : List (List V)) (osb : Bool) (h : ze) : Option (Res × ze) :=
 (bdS (nv (V.int .i64 ((os).length : Int))) fun n0 =>
 (bdS (nv (V.int .i64 ((os).length : Int))) fun n1 =>
 (if (n0 <= n1 /\ n1 < lim /\ 2 = 2) then
 (Ze n (W7 n s os osb) [(V.sl 2 [] false), (V.sl 2 (List.replicate n0 [(V.int .u8 0), (V.int .i32 0)]) false), (V.bool false), (V.int .i64 0)] h) else none)))
theorem zjL (n : Nat) (s : Nat) (os : List (List V)) (osb : Bool) (h : ze) : call (n + 1) 176 [(V.bf 201 [(V.ptr s 0)]), (V.sl 2 os osb)] h = zkY n s os osb h := by kernel_rfl
noncomputable def zhF (n : Nat) (s : Nat) (c : Nat) (os : List (List V)) (osb : Bool) (h : ze) : Option (Res × ze) :=
 (cl (call n 174 [(V.ptr s 0), (V.sl 2 os osb)] h) (fun r0 h1 =>
 (Zs r0 fun v3 =>
 some (Res.ret [v3], h1))) (fun z2 h1 => some (Res.pan z2, h1)))
theorem zhG (n : Nat) (s : Nat) (c : Nat) (os : List (List V)) (osb : Bool) (h : ze) : call (n + 1) 171 [(V.agg [(V.ptr s 0)]), (V.ptr c 0), (V.sl 2 os osb)] h = zhF n s c os osb h := by kernel_rfl
noncomputable def zhH (n : Nat) (s : Nat) (c : Nat) (os : List (List V)) (osb : Bool) (h : ze) : Option (Res × ze) :=
 (cl (call n 176 [(V.bf 177 [(V.ptr s 0)]), (V.sl 2 os osb)] h) (fun r0 h1 =>
 (Zs r0 fun v3 =>
 some (Res.ret [v3], h1))) (fun z2 h1 => some (Res.pan z2, h1)))
theorem zhI (n : Nat) (s : Nat) (c : Nat) (os : List (List V)) (osb : Bool) (h : ze) : call (n + 1) 173 [(V.agg [(V.ptr s 0)]), (V.ptr c 0), (V.sl 2 os osb)] h = zhH n s c os osb h := by kernel_rfl
noncomputable def zhJ (n : Nat) (s : Nat) (h : ze) : Option (Res × ze) :=
 (cl (call n 175 [(V.ptr s 0)] h) (fun r0 h1 =>
 (Zs r0 fun v3 =>
 (bd (Ji prog 112 [(0, v3)]) fun cs4 =>
 some (Res.ret [(V.iface 112 (V.agg cs4))], h1)))) (fun z2 h1 => some (Res.pan z2, h1)))
theorem zhK (n : Nat) (s : Nat) (h : ze) : call (n + 1) 172 [(V.agg [(V.ptr s 0)])] h = zhJ n s h := by kernel_rfl
noncomputable def zhL (n : Nat) (s : Nat) (c : Nat) (os : List (List V)) (osb : Bool) (h : ze) : Option (Res × ze) :=
 (cl (call n 199 [(V.ptr s 0), (V.sl 2 os osb)] h) (fun r0 h1 =>
 (Zs r0 fun v3 =>
 some (Res.ret [v3], h1))) (fun z2 h1 => some (Res.pan z2, h1)))
theorem zhM (n : Nat) (s : Nat) (c : Nat) (os : List (List V)) (osb : Bool) (h : ze) : call (n + 1) 196 [(V.agg [(V.ptr s 0)]), (V.ptr c 0), (V.sl 2 os osb)] h = zhL n s c os osb h := by kernel_rfl
noncomputable def zhN (n : Nat) (s : Nat) (c : Nat) (os : List (List V)) (osb : Bool) (h : ze) : Option (Res × ze) :=
 (cl (call n 176 [(V.bf 201 [(V.ptr s 0)]), (V.sl 2 os osb)] h) (fun r0 h1 =>
 (Zs r0 fun v3 =>
 some (Res.ret [v3], h1))) (fun z2 h1 => some (Res.pan z2, h1)))
theorem zhO (n : Nat) (s : Nat) (c : Nat) (os : List (List V)) (osb : Bool) (h : ze) : call (n + 1) 198 [(V.agg [(V.ptr s 0)]), (V.ptr c 0), (V.sl 2 os osb)] h = zhN n s c os osb h := by kernel_rfl
noncomputable def zhP (n : Nat) (s : Nat) (h : ze) : Option (Res × ze) :=
 (cl (call n 200 [(V.ptr s 0)] h) (fun r0 h1 =>
 (Zs r0 fun v3 =>
 (bd (Ji prog 116 [(0, v3)]) fun cs4 =>
 some (Res.ret [(V.iface 116 (V.agg cs4))], h1)))) (fun z2 h1 => some (Res.pan z2, h1)))
theorem zhQ (n : Nat) (s : Nat) (h : ze) : call (n + 1) 197 [(V.agg [(V.ptr s 0)])] h = zhP n s h := by kernel_rfl
noncomputable def zhR (n : Nat) (s : Nat) (c : Nat) (os : List (List V)) (osb : Bool) (h : ze) : Option (Res × ze) :=
 (cl (call n 222 [(V.ptr s 0), (V.ptr c 0), (V.sl 2 os osb)] h) (fun r0 h1 =>
 (Zs r0 fun v3 =>
 some (Res.ret [v3], h1))) (fun z2 h1 => some (Res.pan z2, h1)))
theorem zhS (n : Nat) (s : Nat) (c : Nat) (os : List (List V)) (osb : Bool) (h : ze) : call (n + 1) 219 [(V.agg [(V.ptr s 0)]), (V.ptr c 0), (V.sl 2 os osb)] h = zhR n s c os osb h := by kernel_rfl
noncomputable def zhT (n : Nat) (s : Nat) (c : Nat) (os : List (List V)) (osb : Bool) (h : ze) : Option (Res × ze) :=
 (cl (call n 224 [(V.ptr s 0), (V.ptr c 0), (V.sl 2 os osb)] h) (fun r0 h1 =>
 (Zs r0 fun v3 =>
 some (Res.ret [v3], h1))) (fun z2 h1 => some (Res.pan z2, h1)))
theorem zhU (n : Nat) (s : Nat) (c : Nat) (os : List (List V)) (osb : Bool) (h : ze) : call (n + 1) 221 [(V.agg [(V.ptr s 0)]), (V.ptr c 0), (V.sl 2 os osb)] h = zhT n s c os osb h := by kernel_rfl
noncomputable def zhV (n : Nat) (s : Nat) (h : ze) : Option (Res × ze) :=
 (cl (call n 223 [(V.ptr s 0)] h) (fun r0 h1 =>
 (Zs r0 fun v3 =>
 (bd (Ji prog 120 [(0, v3)]) fun cs4 =>
 some (Res.ret [(V.iface 120 (V.agg cs4))], h1)))) (fun z2 h1 => some (Res.pan z2, h1)))
theorem zhW (n : Nat) (s : Nat) (h : ze) : call (n + 1) 220 [(V.agg [(V.ptr s 0)])] h = zhV n s h := by kernel_rfl
end Go.Proofs.Tryz
namespace Go.Sk
open Go.L Go.Rp
def zhX (most : Int) (o : O) (xs : List Int) : R := ⟨(XB most o.k o.v xs).1.1, (XB most o.k o.v xs).1.2⟩
def Qx (most : Int) : List O -> List Int -> List R × List Int
 | [], xs => ([], xs)
 | o :: r, xs => (zhX most o xs :: (Qx most r (XB most o.k o.v xs).2).1, (Qx most r (XB most o.k o.v xs).2).2)
theorem zc8 (most : Int) : ∀ (l : List O) (xs : List Int), (Qx most l xs).1.length = l.length
 | [], _ => rfl
 | o :: r, xs => by simp [Qx, zc8 most r]
theorem zhY (most c x : Int) (xs : List Int) : (XB most c x xs).2.length <= xs.length + 1 := by
 unfold XB
 split
 · split <;> simp
 · split
   · split <;> simp <;> omega
   · simp
end Go.Sk
namespace Go.Proofs.Tryz
open Go.L Go.Rp Go.Sk
set_option maxRecDepth 100000
theorem zfM (n s : Nat) (osb : Bool) (most : Int) (os : List O) (hk : ∀ o ∈ os, 0 <= o.k /\ o.k < 256) (hos : os.length < lim) : ∀ (d i N : Nat) (h : ze) (sb : Option Nat) (xs : List Int) (done : List R), StkAt h s sb most xs -> i + d = os.length -> done.length = i -> d < N -> xs.length + d < lim →
    ∃ h' sb', Ze N (W6 (n + 5) s (os.map O.w) osb) [.sl 2 [] false, .sl 2 (done.map R.w ++ List.replicate d [.int .u8 0, .int .i32 0]) false, .bool false, .int .i64 (i : Int)] h = some (.ret [.row h'.length 2 0 os.length], h' ++ [.row 35 2 ((done ++ (Qx most (os.drop i) xs).1).map R.w) true]) /\ StkAt h' s sb' most (Qx most (os.drop i) xs).2 /\ Fed h h' s sb sb' := by
 intro d
 induction d with
 | zero =>
   intro i N h sb xs done hb h1 h2 h3 h4
   obtain ⟨N, rfl⟩ : ∃ N', N = N' + 1 := ⟨N - 1, by omega⟩
   rw [zL]
   unfold W6
   simp only [gv, zg, zk]
   rw [zC, zb, zo, if_neg (by simp; omega), Z9 (by omega)]
   refine ⟨h, sb, ?_, hb, Fed.refl ..⟩
   simp only [lsl, Qx, Zn, QK, zA]
   rw [show done.length = os.length by omega]
 | succ d ih =>
   intro i N h sb xs done hb h1 h2 h3 h4
   obtain ⟨N, rfl⟩ : ∃ N', N = N' + 1 := ⟨N - 1, by omega⟩
   have hi : i < os.length := by omega
   obtain ⟨h', sb', e, b1, b2⟩ := zhl n hb (by omega) os[i].k os[i].v (hk _ (Xl hi)).1 (hk _ (Xl hi)).2
   obtain ⟨h'', sb'', e', d1, d2⟩ := ih (i + 1) N h' sb' _ (done ++ [zhX most os[i] xs]) b1 (by omega) (by simp; omega) (by omega) (by have := zhY most os[i].k os[i].v xs; omega)
   have hd : os.drop i = os[i] :: os.drop (i + 1) := zW hi
   refine ⟨h'', sb'', ?_, by rw [hd]; exact d1, b2.trans d2⟩
   rw [hd]
   simp only [Qx]
   rw [show done ++ (zhX most os[i] xs :: (Qx most (os.drop (i + 1)) (XB most os[i].k os[i].v xs).2).1) = done ++ [zhX most os[i] xs] ++ (Qx most (os.drop (i + 1)) (XB most os[i].k os[i].v xs).2).1 by simp, <- e', zL]
   have hix : Xa 2 i (.sl 2 (os.map O.w) osb) = some (.iptr 2 (O.w os[i]) 0) := by
    simp [Xa, zf hi]
   have key : ∀ next, W6 (n + 5) s (os.map O.w) osb [.sl 2 [] false, .sl 2 (done.map R.w ++ List.replicate (d + 1) [.int .u8 0, .int .i32 0]) false, .bool false, .int .i64 (i : Int)] h next = next [.sl 2 [] false, .sl 2 ((done ++ [zhX most os[i] xs]).map R.w ++ List.replicate d [.int .u8 0, .int .i32 0]) false, .bool false, .int .i64 ((i + 1 : Nat) : Int)] h' := by
    intro next
    unfold W6
    simp only [gv, zg, zk]
    rw [zC, zb, zo, if_pos (by simp; omega), Zo, zH, hix, zb]
    simp only [zu]
    rw [zl, if_pos (by decide), zP, QB, if_pos (XR _), if_pos (by rw [XR]; decide), W3, zP, QB]
    show cl (call (n + 5) _ [.ptr s 0, .agg [.int .u8 os[i].k, .int .i32 os[i].v]] h) _ _ = _
    rw [e, zK, zw, zH]
    have hlen : i < (done.map R.w ++ List.replicate (d + 1) [V.int .u8 0, V.int .i32 0]).length := by simp; omega
    have hget : (done.map R.w ++ List.replicate (d + 1) [V.int .u8 0, V.int .i32 0])[i]? = some [.int .u8 0, .int .i32 0] := by
     rw [zG (by simp; omega)]; simp [h2]
    rw [if_pos (by refine ⟨?_, hlen, by decide⟩; first | trivial | rfl), if_pos (by rfl), if_pos (by refine ⟨?_, by decide, zm 2⟩; first | trivial | rfl)]
    simp only [lsl, zhk, V.cells]
    rw [hget, zb, zM, zb, XF (by omega)]
    have hset : (done.map R.w ++ List.replicate (d + 1) [V.int .u8 0, V.int .i32 0]).set i (setR [V.int .u8 0, V.int .i32 0] 0 [V.int .u8 (XB most os[i].k os[i].v xs).1.1, V.int .i32 (XB most os[i].k os[i].v xs).1.2]) = (done ++ [zhX most os[i] xs]).map R.w ++ List.replicate d [V.int .u8 0, V.int .i32 0] := by
     rw [Zw _ _ (by simp; omega)]
     simp [h2, Xn, R.w, setR, zhX]
    rw [hset]
   rw [key]
theorem zfN (n s : Nat) {h : ze} {sb : Option Nat} {most : Int} {xs : List Int} (hb : StkAt h s sb most xs) (os : List O) (osb : Bool) (hk : ∀ o ∈ os, 0 <= o.k /\ o.k < 256) (hos : xs.length + os.length < lim) (hn : os.length < n) :
    ∃ h' sb', call (n + 6) 176 [.bf 177 [.ptr s 0], .sl 2 (os.map O.w) osb] h = some (.ret [.row h'.length 2 0 os.length], h' ++ [.row 35 2 ((Qx most os xs).1.map R.w) true]) /\ StkAt h' s sb' most (Qx most os xs).2 /\ Fed h h' s sb sb' := by
 obtain ⟨h', sb', e, b1, b2⟩ := zfM n s osb most os hk (by omega) os.length 0 (n + 5) h sb xs [] hb (by omega) rfl (by omega) hos
 refine ⟨h', sb', (zjK (n + 5) s _ osb h).trans ?_, b1, b2⟩
 unfold zkX
 rw [zA, Zo, zH, zH, if_pos ⟨zm _, by omega, rfl⟩]
 exact e
end Go.Proofs.Tryz
namespace Go.Sk
open Go.L Go.Rp
def Ql (most : Int) (vals : Nat -> Int) (i : Nat) (c : Int) (ws : List Nat) (xs : List Int) : (Int × Int) × List Nat × List Int :=
 if c = 1 then (if ((xs.length + ws.length : Nat) : Int) < most then ((1, 0), ws ++ [i], xs) else ((3, 0), ws, xs))
 else if c = 2 then (match ws.getLast? with
  | some w => ((2, vals w), ws.dropLast, xs)
  | none => (match xs.getLast? with | some y => ((2, y), ws, xs.dropLast) | none => ((4, 0), ws, xs)))
 else ((5, 0), ws, xs)
theorem zl9 (most : Int) (vals : Nat -> Int) (i : Nat) (c : Int) (ws : List Nat) (xs : List Int) :
    XB most c (vals i) (xs ++ ws.map vals) = ((Ql most vals i c ws xs).1, (Ql most vals i c ws xs).2.2 ++ (Ql most vals i c ws xs).2.1.map vals) := by
 unfold XB Ql
 by_cases h1 : c = 1
 · rw [if_pos h1, if_pos h1, zE, zA]
   by_cases h : ((xs.length + ws.length : Nat) : Int) < most
   · rw [if_pos h, if_pos h]; simp
   · rw [if_neg h, if_neg h]
 · rw [if_neg h1, if_neg h1]
   by_cases h2 : c = 2
   · rw [if_pos h2, if_pos h2]
     rcases ZD ws with rfl | ⟨w0, w, rfl⟩
     · rcases ZD xs with rfl | ⟨x0, x, rfl⟩
       · simp
       · simp
     · simp [<- List.append_assoc]
   · rw [if_neg h2, if_neg h2]
end Go.Sk
namespace Go.Sk
open Go.L Go.Rp
def cdC (t : R) : List V := [.int .u8 t.c, .int .i32 0]
def vlC (t : R) : List V := [.int .i32 t.v]
def KE (most : Int) (vals : Nat -> Int) : List O -> Nat -> List Nat -> List Int -> List R × List Nat × List Int
 | [], i, ws, xs => ([], ws, xs)
 | o :: l, i, ws, xs =>
   let t := Ql most vals i o.k ws xs
   let z := KE most vals l (i + 1) t.2.1 t.2.2
   (⟨t.1.1, t.1.2⟩ :: z.1, z.2)
theorem zhZ (most : Int) (vals : Nat -> Int) : ∀ (l : List O) (i : Nat) (ws : List Nat) (xs : List Int), (KE most vals l i ws xs).1.length = l.length
 | [], _, _, _ => rfl
 | o :: l, i, ws, xs => by simp [KE, zhZ most vals l]
theorem zh0 (most : Int) (vals : Nat -> Int) : ∀ (l : List O) (i : Nat) (ws : List Nat) (xs : List Int), (∀ j o, l[j]? = some o -> vals (i + j) = o.v) →
    Qx most l (xs ++ ws.map vals) = ((KE most vals l i ws xs).1, (KE most vals l i ws xs).2.2 ++ (KE most vals l i ws xs).2.1.map vals)
 | [], i, ws, xs, hv => rfl
 | o :: l, i, ws, xs, hv => by
   have h0 : vals i = o.v := hv 0 o rfl
   have hs := zl9 most vals i o.k ws xs
   rw [h0] at hs
   have ih := zh0 most vals l (i + 1) (Ql most vals i o.k ws xs).2.1 (Ql most vals i o.k ws xs).2.2 (fun j p hj => by rw [show i + 1 + j = i + (j + 1) by omega]; exact hv (j + 1) p hj)
   simp only [Qx, KE, zhX, hs, ih]
theorem zh1 (most : Int) (vals : Nat -> Int) (i : Nat) (c : Int) (ws : List Nat) (xs : List Int) (h : ∀ w ∈ ws, w < i) : ∀ w ∈ (Ql most vals i c ws xs).2.1, w < i + 1 := by
 have h' : ∀ w ∈ ws, w < i + 1 := fun w hw => Nat.lt_succ_of_lt (h w hw)
 unfold Ql
 split
 · split
   · intro w hw
     rcases Zm.1 hw with hw | hw
     · exact h' w hw
     · rw [ZP.1 hw]; exact Nat.lt_succ_self i
   · exact h'
 · split
   · split
     · exact fun w hw => h' w (List.dropLast_subset _ hw)
     · split <;> exact h'
   · exact h'
theorem zma (most : Int) (vals : Nat -> Int) (i : Nat) (c : Int) (ws : List Nat) (xs : List Int) : (Ql most vals i c ws xs).2.1.length + (Ql most vals i c ws xs).2.2.length <= ws.length + xs.length + 1 := by
 unfold Ql
 split
 · split <;> simp <;> omega
 · split
   · split
     · simp; omega
     · split <;> simp; omega
   · simp
structure Lay (B s q bo bs r : Nat) (qb : Option Nat) : Prop where
 s1 : s < B
 q1 : q < B
 o1 : bo < B
 b1 : bs < B
 r1 : r < B
 sq : s ≠ q
 so : s ≠ bo
 sb : s ≠ bs
 sr : s ≠ r
 qo : q ≠ bo
 qb' : q ≠ bs
 qr : q ≠ r
 ro : r ≠ bo
 rb : r ≠ bs
 own : ∀ b, qb = some b -> b < B /\ b ≠ s /\ b ≠ q /\ b ≠ r
end Go.Sk
namespace Go.Proofs.Tryz
open Go.L Go.Rp Go.Sk
set_option maxRecDepth 100000
structure MInv (B s q r : Nat) (qb : Option Nat) (m : Nat) (h0 h : ze) (sb : Option Nat) (ws : List Nat) (xs : List Int) (done : List R) (d : Nat) : Prop where
 mt : MatAt h s sb xs.length m ws
 fr : ∀ b, sb = some b -> B <= b
 le : B <= h.length
 st : StkAt h q qb (m : Int) xs
 row : h[r]? = some (.row 21 1 (done.map vlC ++ List.replicate d [.int .i32 0]) true)
 rest : ∀ j, j < B -> j ≠ s -> j ≠ q -> j ≠ r -> h[j]? = h0[j]?
theorem MInv.meet {B s q bo bs r : Nat} {qb : Option Nat} {m : Nat} {h0 h h' : ze} {sb sb' : Option Nat} {ws ws' : List Nat} {xs : List Int} {done : List R} {d : Nat} (L : Lay B s q bo bs r qb) (I : MInv B s q r qb m h0 h sb ws xs done d)
    (b1 : MatAt h' s sb' xs.length m ws') (b2 : Fed h h' s sb sb') : MInv B s q r qb m h0 h' sb' ws' xs done d := by
 have hk : ∀ j, j < B -> j ≠ s -> h'[j]? = h[j]? := fun j h1 h2 => b2.old j (ZW h1 I.le) h2 (fun e => by have := I.fr j e; omega)
 exact ⟨b1, fun b hb => by rcases b2.own b hb with e | e; exact I.fr b e; exact Z2 I.le e, Z2 I.le b2.len, I.st.keep (hk q L.q1 L.sq.symm) (fun b hb => hk b (L.own b hb).1 (L.own b hb).2.1), (hk r L.r1 L.sr.symm).trans I.row, fun j h1 h2 h3 h4 => (hk j h1 h2).trans (I.rest j h1 h2 h3 h4)⟩
theorem MInv.told {B s q r : Nat} {qb : Option Nat} {m : Nat} {h0 h : ze} {sb : Option Nat} {ws : List Nat} {xs : List Int} {done : List R} {d : Nat} (I : MInv B s q r qb m h0 h sb ws xs done (d + 1)) (c : Int) : MInv B s q r qb m h0 h sb ws xs (done ++ [⟨c, 0⟩]) d :=
 ⟨I.mt, I.fr, I.le, I.st, by rw [I.row]; simp [Xn, vlC], I.rest⟩
theorem qQ {done : List R} {d : Nat} : ∀ es ∈ done.map vlC ++ List.replicate d [V.int .i32 0], es.length = 1 := by
 intro es hes
 rcases Zm.1 hes with h | h
 · obtain ⟨t, _, rfl⟩ := ZF.1 h; rfl
 · rw [(List.mem_replicate.1 h).2]; rfl
theorem zbQ (done : List R) (d : Nat) (c v : Int) : (done.map vlC ++ List.replicate (d + 1) [V.int .i32 0]).set done.length [.int .i32 v] = (done ++ [(⟨c, v⟩ : R)]).map vlC ++ List.replicate d [.int .i32 0] := by
 rw [Zw _ _ (by simp)]
 simp [Xn, vlC]
theorem X2 (done : List R) (d : Nat) (a : Int) : (done.map cdC ++ ([V.int .u8 a, V.int .i32 0] :: List.replicate d [V.int .u8 0, V.int .i32 0]))[done.length]? = some [.int .u8 a, .int .i32 0] := by
 rw [zG (by simp)]; simp
theorem XE (done : List R) (d : Nat) (c a : Int) : (done.map cdC ++ ([V.int .u8 a, V.int .i32 0] :: List.replicate d [V.int .u8 0, V.int .i32 0])).set done.length (setR [V.int .u8 a, .int .i32 0] 0 [V.int .u8 c]) = done.map cdC ++ ([V.int .u8 c, V.int .i32 0] :: List.replicate d [V.int .u8 0, V.int .i32 0]) := by
 rw [Zw _ _ (by simp)]
 simp [setR]
theorem QQ (done : List R) (d : Nat) (c v : Int) : done.map cdC ++ ([V.int .u8 c, V.int .i32 0] :: List.replicate d [V.int .u8 0, V.int .i32 0]) = (done ++ [(⟨c, v⟩ : R)]).map cdC ++ List.replicate d [.int .u8 0, .int .i32 0] := by simp [cdC]
def valsOf (os : List O) (j : Nat) : Int := (os[j]?.map O.v).getD 0
theorem zfO (n s q bo bs r B : Nat) (osb : Bool) (m : Nat) (os : List O) {qb sb : Option Nat} {h0 h : ze} {ws : List Nat} {xs : List Int} {done : List R} {d : Nat} (L : Lay B s q bo bs r qb) (I : MInv B s q r qb m h0 h sb ws xs done (d + 1))
    (hbo : h0[bo]? = some (.box 1 [.sl 2 (os.map O.w) osb])) (hbs : h0[bs]? = some (.box 1 [.ptr q 0])) (hd : done.length + (d + 1) = os.length) (hw : ∀ w ∈ ws, w < done.length) (hl : ws.length + xs.length + 1 < lim) (hos : os.length < lim) (o : O) (ho : os[done.length]? = some o) :
    ∃ h' sb' t, t = Ql (m : Int) (valsOf os) done.length o.k ws xs /\ (∀ next, Qy (n + 3) s (os.map O.w) osb bo bs r os.length [.sl 2 [] false, .sl 2 (done.map cdC ++ List.replicate (d + 1) [.int .u8 0, .int .i32 0]) false, .bool false, .int .i64 (done.length : Int)] h next = next [.sl 2 [] false, .sl 2 ((done ++ [(⟨t.1.1, t.1.2⟩ : R)]).map cdC ++ List.replicate d [.int .u8 0, .int .i32 0]) false, .bool false, .int .i64 ((done.length + 1 : Nat) : Int)] h') /\ MInv B s q r qb m h0 h' sb' t.2.1 t.2.2 (done ++ [⟨t.1.1, t.1.2⟩]) d := by
 have hlt : done.length < os.length := by omega
 have hix : Xa 2 done.length (.sl 2 (os.map O.w) osb) = some (.iptr 2 (O.w o) 0) := by simp [Xa, ho]
 have hbo' := (I.rest bo L.o1 L.so.symm L.qo.symm L.ro.symm).trans hbo
 have hbs' := (I.rest bs L.b1 L.sb.symm L.qb'.symm L.rb.symm).trans hbs
 have hwrap : IntKind.i64.wrap ((done.length : Int) + 1) = ((done.length + 1 : Nat) : Int) := XF (by omega)
 have front : ∀ next, Qy (n + 3) s (os.map O.w) osb bo bs r os.length [.sl 2 [] false, .sl 2 (done.map cdC ++ List.replicate (d + 1) [.int .u8 0, .int .i32 0]) false, .bool false, .int .i64 (done.length : Int)] h next = Qy (n + 3) s (os.map O.w) osb bo bs r os.length [.sl 2 [] false, .sl 2 (done.map cdC ++ ([.int .u8 0, .int .i32 0] :: List.replicate d [.int .u8 0, .int .i32 0])) false, .bool false, .int .i64 (done.length : Int)] h next := fun next => by rw [Xn]
 have hlen : done.length < (done.map cdC ++ ([V.int .u8 0, V.int .i32 0] :: List.replicate d [V.int .u8 0, V.int .i32 0])).length := by simp
 have hput : ∀ k : Int, setR [V.int .u8 0, V.int .i32 0] 0 (O.w o) = O.w o := fun _ => rfl
 have hll : (done.map vlC ++ List.replicate (d + 1) [V.int .i32 0]).length = os.length := by simp; omega
 by_cases k1 : o.k = 1
 · by_cases hm : xs.length + ws.length < m
   · obtain ⟨h', sb', e, c1, c2⟩ := zdM (n + 2) I.mt done.length hm (by omega)
     have ht : Ql (m : Int) (valsOf os) done.length o.k ws xs = ((1, 0), ws ++ [done.length], xs) := by unfold Ql; rw [if_pos k1, if_pos (by omega)]
     refine ⟨h', sb', _, rfl, ?_, ?_⟩
     · intro next
       rw [ht]
       rw [front]
       unfold Qy
       simp only [gv, zg, zk, lsl]
       rw [zC, zb, zo, if_pos (by simp; omega), Zo, zH, hix, zb]
       simp only [zu]
       rw [zl, if_pos (by decide), zP, QB, if_pos (XR _), if_pos (by rw [XR]; decide), zH, if_pos ⟨trivial, hlen, by decide⟩, W3]
       simp only [O.w, za, zb]
       rw [QG, zb, zo, if_pos (by simp [k1]), X2, zb, e, zK, zw, zo, if_pos rfl, XE, X2, zb, zM, zb, hwrap, XE, QQ (v := 0)]
     · rw [ht]
       exact (I.meet L c1 c2).told 1
   · have e := zdL (n + 2) I.mt (done.length : Int) (by omega) (by omega)
     have ht : Ql (m : Int) (valsOf os) done.length o.k ws xs = ((3, 0), ws, xs) := by unfold Ql; rw [if_pos k1, if_neg (by omega)]
     refine ⟨h, sb, _, rfl, ?_, ?_⟩
     · intro next
       rw [ht]
       rw [front]
       unfold Qy
       simp only [gv, zg, zk, lsl]
       rw [zC, zb, zo, if_pos (by simp; omega), Zo, zH, hix, zb]
       simp only [zu]
       rw [zl, if_pos (by decide), zP, QB, if_pos (XR _), if_pos (by rw [XR]; decide), zH, if_pos ⟨trivial, hlen, by decide⟩, W3]
       simp only [O.w, za, zb]
       rw [QG, zb, zo, if_pos (by simp [k1]), X2, zb, e, zK, zw, zo, if_neg (by decide), zM, zb, hwrap, XE, QQ (v := 0)]
     · rw [ht]
       exact I.told 3
 by_cases k2 : o.k = 2
 · rcases ZD ws with rfl | ⟨w0, w, rfl⟩
   · have e := zfD (n + 2) I.mt
     rcases ZD xs with rfl | ⟨x0, x, rfl⟩
     · have e2 := zcW (n + 2) I.mt
       have ht : Ql (m : Int) (valsOf os) done.length o.k [] [] = ((4, 0), [], []) := by unfold Ql; rw [if_neg k1, if_pos k2]; rfl
       refine ⟨h, sb, _, rfl, ?_, ?_⟩
       · intro next
         rw [ht]
         rw [front]
         unfold Qy
         simp only [gv, zg, zk, lsl]
         rw [zC, zb, zo, if_pos (by simp; omega), Zo, zH, hix, zb]
         simp only [zu]
         rw [zl, if_pos (by decide), zP, QB, if_pos (XR _), if_pos (by rw [XR]; decide), zH, if_pos ⟨trivial, hlen, by decide⟩, W3]
         simp only [O.w, za, zb]
         rw [QG, zb, zo, if_neg (by simp [k1]), QG, zb, zo, if_pos (by simp [k2]), X2, zb, e, zK]
         simp only [za, zi, zb]
         rw [zo, if_neg (by decide), e2, zK, zw, zo, if_neg (by decide), XE, X2, zb, zM, zb, hwrap, XE, QQ (v := 0)]
       · rw [ht]
         exact I.told 4
     · rw [X3] at I hl ⊢
       have hmt := I.mt
       rw [zE, ZL] at hmt
       obtain ⟨h1, e2, c1, c2, c3⟩ := zcX (n + 2) hmt (by simp at hl; omega)
       have hq1 : StkAt h1 q qb (m : Int) (x0 ++ [x]) := I.st.keep (c3 q L.sq.symm) (fun b hb => c3 b (L.own b hb).2.1)
       have hr1 := (c3 r L.sr.symm).trans I.row
       obtain ⟨h2, e3, d1, d2, d3, d4⟩ := zhp n (i := done.length) ((c3 bs L.sb.symm).trans hbs') hq1 (by simp at hl; omega) hr1 L.qr.symm (fun e => (L.own r e).2.2.2 rfl) qQ (by rw [hll]; exact hlt)
       rw [hll] at e3
       have ht : Ql (m : Int) (valsOf os) done.length o.k [] (x0 ++ [x]) = ((2, x), [], x0) := by unfold Ql; rw [if_neg k1, if_pos k2]; simp
       refine ⟨h2, sb, _, rfl, ?_, ?_⟩
       · intro next
         rw [ht]
         rw [front]
         unfold Qy
         simp only [gv, zg, zk, lsl]
         rw [zC, zb, zo, if_pos (by simp; omega), Zo, zH, hix, zb]
         simp only [zu]
         rw [zl, if_pos (by decide), zP, QB, if_pos (XR _), if_pos (by rw [XR]; decide), zH, if_pos ⟨trivial, hlen, by decide⟩, W3]
         simp only [O.w, za, zb]
         rw [QG, zb, zo, if_neg (by simp [k1]), QG, zb, zo, if_pos (by simp [k2]), X2, zb, e, zK]
         simp only [za, zi, zb]
         rw [zo, if_neg (by decide), e2, zK, zw, zo, if_pos rfl, e3, zK, zM, zb, hwrap, XE, QQ (v := x)]
       · rw [ht]
         refine ⟨c1.keep (d4 s L.sq L.sr) (fun b hb => d4 b (fun e => by have := I.fr b hb; have := L.q1; omega) (fun e => by have := I.fr b hb; have := L.r1; omega)), I.fr, by rw [d3, c2]; exact I.le, d1, by rw [d2, zbQ done d 2 x], fun j j1 j2 j3 j4 => (d4 j j3 j4).trans ((c3 j j2).trans (I.rest j j1 j2 j3 j4))⟩
   · rw [X3] at I hl hw ⊢
     obtain ⟨h1, e, c1, c2, c3⟩ := zfE (n + 2) I.mt (by simp at hl; omega)
     have hwl : w < os.length := by have := hw w (by simp); omega
     have I1 := I.meet L c1 ⟨by omega, fun j _ j2 _ => c3 j j2, fun b hb => .inl hb⟩
     have e2 := zho (n + 2) (j := w) (i := done.length) ((c3 bo L.so.symm).trans hbo') I1.row qQ (by rw [hll]; exact hlt) hwl
     rw [hll] at e2
     have hv : valsOf os w = os[w].v := by simp [valsOf, zf hwl]
     have ht : Ql (m : Int) (valsOf os) done.length o.k (w0 ++ [w]) xs = ((2, os[w].v), w0, xs) := by unfold Ql; rw [if_neg k1, if_pos k2, <- hv]; simp
     refine ⟨h1.set r (.row 21 1 ((done.map vlC ++ List.replicate (d + 1) [V.int .i32 0]).set done.length [.int .i32 os[w].v]) true), sb, _, rfl, ?_, ?_⟩
     · intro next
       rw [ht]
       rw [front]
       unfold Qy
       simp only [gv, zg, zk, lsl]
       rw [zC, zb, zo, if_pos (by simp; omega), Zo, zH, hix, zb]
       simp only [zu]
       rw [zl, if_pos (by decide), zP, QB, if_pos (XR _), if_pos (by rw [XR]; decide), zH, if_pos ⟨trivial, hlen, by decide⟩, W3]
       simp only [O.w, za, zb]
       rw [QG, zb, zo, if_neg (by simp [k1]), QG, zb, zo, if_pos (by simp [k2]), X2, zb, e, zK]
       simp only [za, zi, zb]
       rw [zo, if_pos rfl, e2, zK, zM, zb, hwrap, XE, QQ (v := os[w].v)]
     · rw [ht]
       refine ⟨I1.mt.keep (zd L.sr.symm) (fun b hb => zd (fun e => by have := I1.fr b hb; have := L.r1; omega)), I1.fr, by rw [zp]; exact I1.le, I1.st.keep (zd L.qr.symm) (fun b hb => zd (L.own b hb).2.2.2.symm), ?_, fun j j1 j2 j3 j4 => (zd j4.symm).trans (I1.rest j j1 j2 j3 j4)⟩
       rw [Xf (zQ I1.row), zbQ done d 2]
 · have ht : Ql (m : Int) (valsOf os) done.length o.k ws xs = ((5, 0), ws, xs) := by unfold Ql; rw [if_neg k1, if_neg k2]
   refine ⟨h, sb, _, rfl, ?_, ?_⟩
   · intro next
     rw [ht]
     rw [front]
     unfold Qy
     simp only [gv, zg, zk, lsl]
     rw [zC, zb, zo, if_pos (by simp; omega), Zo, zH, hix, zb]
     simp only [zu]
     rw [zl, if_pos (by decide), zP, QB, if_pos (XR _), if_pos (by rw [XR]; decide), zH, if_pos ⟨trivial, hlen, by decide⟩, W3]
     simp only [O.w, za, zb]
     rw [QG, zb, zo, if_neg (by simp [k1]), QG, zb, zo, if_neg (by simp [k2]), X2, zb, zM, zb, hwrap, XE, QQ (v := 0)]
   · rw [ht]
     exact I.told 5
theorem zfP (n s q bo bs r B : Nat) (osb : Bool) (m : Nat) (os : List O) {qb : Option Nat} {h0 : ze} (L : Lay B s q bo bs r qb)
    (hbo : h0[bo]? = some (.box 1 [.sl 2 (os.map O.w) osb])) (hbs : h0[bs]? = some (.box 1 [.ptr q 0])) (hos : os.length < lim) : ∀ (d N : Nat) (h : ze) (sb : Option Nat) (ws : List Nat) (xs : List Int) (done : List R), MInv B s q r qb m h0 h sb ws xs done d -> done.length + d = os.length -> d < N -> (∀ w ∈ ws, w < done.length) -> ws.length + xs.length + d < lim →
    ∃ h' sb' z, z = KE (m : Int) (valsOf os) (os.drop done.length) done.length ws xs /\ Ze N (Qy (n + 3) s (os.map O.w) osb bo bs r os.length) [.sl 2 [] false, .sl 2 (done.map cdC ++ List.replicate d [.int .u8 0, .int .i32 0]) false, .bool false, .int .i64 (done.length : Int)] h = some (.ret [.row h'.length 2 0 os.length], h' ++ [.row 35 2 ((done ++ z.1).map cdC) true]) /\ MInv B s q r qb m h0 h' sb' z.2.1 z.2.2 (done ++ z.1) 0 := by
 intro d
 induction d with
 | zero =>
   intro N h sb ws xs done I h1 h2 hw hl
   obtain ⟨N, rfl⟩ : ∃ N', N = N' + 1 := ⟨N - 1, by omega⟩
   refine ⟨h, sb, _, rfl, ?_, ?_⟩
   · rw [zL]
     unfold Qy
     simp only [gv, zg, zk]
     rw [zC, zb, zo, if_neg (by simp; omega), Z9 (by omega)]
     simp only [lsl, KE, Zn, QK, zA]
     rw [show done.length = os.length by omega]
   · rw [Z9 (by omega)]
     simp only [KE, Zn]
     exact I
 | succ d ih =>
   intro N h sb ws xs done I h1 h2 hw hl
   obtain ⟨N, rfl⟩ : ∃ N', N = N' + 1 := ⟨N - 1, by omega⟩
   have hi : done.length < os.length := by omega
   obtain ⟨h', sb', t, rfl, key, I'⟩ := zfO n s q bo bs r B osb m os L I hbo hbs h1 hw (by omega) hos os[done.length] (zf hi)
   have hlen := zma (m : Int) (valsOf os) done.length os[done.length].k ws xs
   have hws := zh1 (m : Int) (valsOf os) done.length os[done.length].k ws xs hw
   obtain ⟨h'', sb'', z, hz, e', I''⟩ := ih N h' sb' _ _ _ I' (by simp; omega) (by omega) (by simpa using hws) (by omega)
   have hd : os.drop done.length = os[done.length] :: os.drop (done.length + 1) := zW hi
   rw [zE, ZL] at hz e'
   refine ⟨h'', sb'', _, rfl, ?_, ?_⟩
   · rw [hd, zL, key, e', hz]
     simp [KE]
   · rw [hd]
     rw [hz] at I''
     simpa [KE] using I''
theorem zfQ (n s q bo bs r B : Nat) (osb : Bool) (m : Nat) (os : List O) {qb : Option Nat} {h : ze} (L : Lay B s q bo bs r qb)
    (hbo : h[bo]? = some (.box 1 [.sl 2 (os.map O.w) osb])) (hbs : h[bs]? = some (.box 1 [.ptr q 0])) {xs : List Int} (hos : os.length + xs.length < lim) (hn : os.length < n) (I : MInv B s q r qb m h h none [] xs [] os.length) :
    ∃ h' sb' z, z = KE (m : Int) (valsOf os) os 0 [] xs /\ call (n + 4) 181 [.ptr s 0, .sl 2 (os.map O.w) osb, .fn 182 [.ptr bo 0, .iptr 1 [.row r 1 0 os.length] 0], .fn 183 [.ptr bs 0, .iptr 1 [.row r 1 0 os.length] 0]] h = some (.ret [.row h'.length 2 0 os.length], h' ++ [.row 35 2 (z.1.map cdC) true]) /\ MInv B s q r qb m h h' sb' z.2.1 z.2.2 z.1 0 := by
 obtain ⟨h', sb', z, hz, e, I'⟩ := zfP n s q bo bs r B osb m os L hbo hbs (by omega) os.length (n + 3) h none [] xs [] I (by simp) (by omega) (by simp) (by simp; omega)
 refine ⟨h', sb', z, by simpa using hz, (zl4 (n + 3) s _ osb bo bs r _ h).trans ?_, by simpa using I'⟩
 unfold znv
 rw [zA, Zo, zH, zH, if_pos ⟨zm _, by omega, rfl⟩]
 simpa using e
end Go.Proofs.Tryz
namespace Go.Sk
open Go.L Go.Rp
def Yk (d : Nat) (xs : List Int) : Option (Int × List Int) :=
 if d = 0 then (match xs with | y :: r => some (y, r) | [] => none) else (match xs.getLast? with | some y => some (y, xs.dropLast) | none => none)
def WE (most : Int) (i d : Nat) (ws : Nat -> List Nat) (xs : List Int) : (Int × Int) × (Nat -> List Nat) × List Int :=
 if ((xs.length + (ws 0).length + (ws 1).length : Nat) : Int) < most then ((1, 0), JQ d (ws d ++ [i]) ws, xs) else ((3, 0), ws, xs)
def qR (vals : Nat -> Int) (d : Nat) (ws : Nat -> List Nat) (xs : List Int) : (Int × Int) × (Nat -> List Nat) × List Int :=
 match (ws d).getLast? with
 | some w => ((2, vals w), JQ d (ws d).dropLast ws, xs)
 | none => (match Yk d xs with
   | some p => ((2, p.1), ws, p.2)
   | none => (match ws (1 - d) with | w :: r => ((2, vals w), JQ (1 - d) r ws, xs) | [] => ((4, 0), ws, xs)))
def JL (most : Int) (vals : Nat -> Int) (i : Nat) (c : Int) (ws : Nat -> List Nat) (xs : List Int) : (Int × Int) × (Nat -> List Nat) × List Int :=
 if c = 1 then WE most i 0 ws xs else if c = 2 then WE most i 1 ws xs else if c = 3 then qR vals 0 ws xs else if c = 4 then qR vals 1 ws xs else ((5, 0), ws, xs)
def Kg (vals : Nat -> Int) (ws : Nat -> List Nat) (xs : List Int) : List Int := (ws 0).reverse.map vals ++ xs ++ (ws 1).map vals
theorem zmb (most : Int) (vals : Nat -> Int) (i : Nat) (c : Int) (ws : Nat -> List Nat) (xs : List Int) :
    Xd most c (vals i) (Kg vals ws xs) = ((JL most vals i c ws xs).1, Kg vals (JL most vals i c ws xs).2.1 (JL most vals i c ws xs).2.2) := by
 have hl : (Kg vals ws xs).length = xs.length + (ws 0).length + (ws 1).length := by simp [Kg]; omega
 unfold Xd JL
 by_cases h1 : c = 1
 · rw [if_pos h1, if_pos h1, hl]
   unfold WE
   by_cases h : ((xs.length + (ws 0).length + (ws 1).length : Nat) : Int) < most
   · rw [if_pos h, if_pos h]; simp [Kg, JQ]
   · rw [if_neg h, if_neg h]
 rw [if_neg h1, if_neg h1]
 by_cases h2 : c = 2
 · rw [if_pos h2, if_pos h2, hl]
   unfold WE
   by_cases h : ((xs.length + (ws 0).length + (ws 1).length : Nat) : Int) < most
   · rw [if_pos h, if_pos h]; simp [Kg, JQ]
   · rw [if_neg h, if_neg h]
 rw [if_neg h2, if_neg h2]
 by_cases h3 : c = 3
 · rw [if_pos h3, if_pos h3]
   unfold qR
   rcases ZD (ws 0) with e0 | ⟨w0, w, e0⟩
   · cases xs with
     | nil =>
       cases e1 : ws 1 with
       | nil => simp [Kg, e0, e1, Yk]
       | cons w r => simp [Kg, e0, e1, Yk, JQ]
     | cons y r => simp [Kg, e0, Yk]
   · simp [Kg, e0, JQ]
 rw [if_neg h3, if_neg h3]
 by_cases h4 : c = 4
 · rw [if_pos h4, if_pos h4]
   unfold qR
   rcases ZD (ws 1) with e0 | ⟨w0, w, e0⟩
   · rcases ZD xs with rfl | ⟨x0, x, rfl⟩
     · cases e1 : ws 0 with
       | nil => simp [Kg, e0, e1, Yk]
       | cons w r => simp [Kg, e0, e1, Yk, JQ]
     · simp [Kg, e0, Yk, <- List.append_assoc]
   · simp [Kg, e0, JQ, <- List.append_assoc]
 rw [if_neg h4, if_neg h4]
def jz (most : Int) (vals : Nat -> Int) : List O -> Nat -> (Nat -> List Nat) -> List Int -> List R × (Nat -> List Nat) × List Int
 | [], i, ws, xs => ([], ws, xs)
 | o :: l, i, ws, xs =>
   let t := JL most vals i o.k ws xs
   let z := jz most vals l (i + 1) t.2.1 t.2.2
   (⟨t.1.1, t.1.2⟩ :: z.1, z.2)
theorem zh2 (most : Int) (vals : Nat -> Int) : ∀ (l : List O) (i : Nat) (ws : Nat -> List Nat) (xs : List Int), (jz most vals l i ws xs).1.length = l.length
 | [], _, _, _ => rfl
 | o :: l, i, ws, xs => by simp [jz, zh2 most vals l]
def zh3 (most : Int) (o : O) (xs : List Int) : R := ⟨(Xd most o.k o.v xs).1.1, (Xd most o.k o.v xs).1.2⟩
def QH (most : Int) : List O -> List Int -> List R × List Int
 | [], xs => ([], xs)
 | o :: r, xs => (zh3 most o xs :: (QH most r (Xd most o.k o.v xs).2).1, (QH most r (Xd most o.k o.v xs).2).2)
theorem zc9 (most : Int) : ∀ (l : List O) (xs : List Int), (QH most l xs).1.length = l.length
 | [], _ => rfl
 | o :: r, xs => by simp [QH, zc9 most r]
theorem zh4 (most : Int) (vals : Nat -> Int) : ∀ (l : List O) (i : Nat) (ws : Nat -> List Nat) (xs : List Int), (∀ j o, l[j]? = some o -> vals (i + j) = o.v) →
    QH most l (Kg vals ws xs) = ((jz most vals l i ws xs).1, Kg vals (jz most vals l i ws xs).2.1 (jz most vals l i ws xs).2.2)
 | [], i, ws, xs, hv => rfl
 | o :: l, i, ws, xs, hv => by
   have h0 : vals i = o.v := hv 0 o rfl
   have hs := zmb most vals i o.k ws xs
   rw [h0] at hs
   have ih := zh4 most vals l (i + 1) (JL most vals i o.k ws xs).2.1 (JL most vals i o.k ws xs).2.2 (fun j p hj => by rw [show i + 1 + j = i + (j + 1) by omega]; exact hv (j + 1) p hj)
   simp only [QH, jz, zh3, hs, ih]
def Below2 (i : Nat) (ws : Nat -> List Nat) : Prop := ∀ d, d < 2 -> ∀ w ∈ ws d, w < i
def tot (ws : Nat -> List Nat) (xs : List Int) : Nat := xs.length + (ws 0).length + (ws 1).length
theorem Below2.mono {i j : Nat} {ws : Nat -> List Nat} (h : Below2 i ws) (hij : i <= j) : Below2 j ws := fun d hd w hw => ZW (h d hd w hw) hij
theorem Below2.put {i : Nat} {ws : Nat -> List Nat} (h : Below2 i ws) (d : Nat) {l : List Nat} (hl : ∀ w ∈ l, w < i) : Below2 i (JQ d l ws) := fun e he w hw => by
 unfold JQ at hw
 split at hw
 · exact hl w hw
 · exact h e he w hw
theorem zfR {d : Nat} (hd : d < 2) (l : List Nat) (ws : Nat -> List Nat) (xs : List Int) : tot (JQ d l ws) xs + (ws d).length = tot ws xs + l.length := by
 obtain rfl | rfl : d = 0 \/ d = 1 := by omega
 · simp only [tot, Jo, WP l ws (show (1 : Nat) ≠ 0 by decide)]; omega
 · simp only [tot, Jo, WP l ws (show (0 : Nat) ≠ 1 by decide)]; omega
theorem zeI {d : Nat} {xs : List Int} {p : Int × List Int} (h : Yk d xs = some p) : p.2.length + 1 = xs.length := by
 unfold Yk at h
 split at h
 · cases xs with
   | nil => cases h
   | cons y r => cases h; rfl
 · rcases ZD xs with rfl | ⟨x0, x, rfl⟩
   · cases h
   · simp at h; subst h; simp
theorem zkZ (vals : Nat -> Int) {d : Nat} (hd : d < 2) {i : Nat} {ws : Nat -> List Nat} {xs : List Int} (h : Below2 i ws) : Below2 i (qR vals d ws xs).2.1 /\ tot (qR vals d ws xs).2.1 (qR vals d ws xs).2.2 <= tot ws xs := by
 unfold qR
 split
 · rename_i w e
   refine ⟨h.put d (fun w hw => h d hd w (List.dropLast_subset _ hw)), ?_⟩
   have := zfR hd (ws d).dropLast ws xs
   simp at this ⊢; omega
 · split
   · rename_i p e
     have := zeI e
     exact ⟨h, by simp only [tot]; omega⟩
   · split
     · rename_i w r e
       refine ⟨h.put (1 - d) (fun x hx => h (1 - d) (by omega) x (by rw [e]; exact zq _ hx)), ?_⟩
       have := zfR (d := 1 - d) (by omega) r ws xs
       rw [e] at this
       simp at this ⊢; omega
     · exact ⟨h, zm _⟩
theorem zh5 (most : Nat) {d : Nat} (hd : d < 2) {i : Nat} {ws : Nat -> List Nat} {xs : List Int} (h : Below2 i ws) (hm : tot ws xs <= most) : Below2 (i + 1) (WE (most : Int) i d ws xs).2.1 /\ tot (WE (most : Int) i d ws xs).2.1 (WE (most : Int) i d ws xs).2.2 <= most /\ tot (WE (most : Int) i d ws xs).2.1 (WE (most : Int) i d ws xs).2.2 <= tot ws xs + 1 := by
 unfold WE
 split
 · rename_i e
   refine ⟨(h.mono (JO i)).put d (fun w hw => ?_), ?_⟩
   · rcases Zm.1 hw with hw | hw
     · exact Nat.lt_succ_of_lt (h d hd w hw)
     · rw [ZP.1 hw]; exact Nat.lt_succ_self i
   · have := zfR hd (ws d ++ [i]) ws xs
     simp only [zE, ZL] at this
     unfold tot at this hm ⊢
     simp only
     omega
 · exact ⟨h.mono (JO i), hm, JO _⟩
theorem zh6 (most : Nat) (vals : Nat -> Int) (i : Nat) (c : Int) {ws : Nat -> List Nat} {xs : List Int} (h : Below2 i ws) (hm : tot ws xs <= most) : Below2 (i + 1) (JL (most : Int) vals i c ws xs).2.1 /\ tot (JL (most : Int) vals i c ws xs).2.1 (JL (most : Int) vals i c ws xs).2.2 <= most /\ tot (JL (most : Int) vals i c ws xs).2.1 (JL (most : Int) vals i c ws xs).2.2 <= tot ws xs + 1 := by
 unfold JL
 split
 · exact zh5 most (by decide) h hm
 split
 · exact zh5 most (by decide) h hm
 split
 · have := zkZ vals (d := 0) (by decide) (xs := xs) h
   exact ⟨this.1.mono (JO i), by omega, by omega⟩
 split
 · have := zkZ vals (d := 1) (by decide) (xs := xs) h
   exact ⟨this.1.mono (JO i), by omega, by omega⟩
 · exact ⟨h.mono (JO i), hm, JO _⟩
theorem zk0 (most : Nat) (vals : Nat -> Int) : ∀ (l : List O) (i : Nat) (ws : Nat -> List Nat) (xs : List Int), Below2 i ws -> tot ws xs <= most -> Below2 (i + l.length) (jz (most : Int) vals l i ws xs).2.1 /\ tot (jz (most : Int) vals l i ws xs).2.1 (jz (most : Int) vals l i ws xs).2.2 <= most
 | [], _, _, _, h, hm => ⟨h, hm⟩
 | o :: l, i, ws, xs, h, hm => by
   have h1 := zh6 most vals i o.k h hm
   have h2 := zk0 most vals l (i + 1) _ _ h1.1 h1.2.1
   refine ⟨h2.1.mono (by simp; omega), h2.2⟩
structure ELay (B s q qb r mp : Nat) : Prop where
 s1 : s < B
 q1 : q < B
 b1 : qb < B
 r1 : r < B
 m1 : mp < B
 sq : s ≠ q
 sb : s ≠ qb
 sr : s ≠ r
 sm : s ≠ mp
 qr : q ≠ r
 qm : q ≠ mp
 br : qb ≠ r
 bm : qb ≠ mp
 rm : r ≠ mp
end Go.Sk
namespace Go.Proofs.Tryz
open Go.L Go.Rp Go.Sk
set_option maxRecDepth 100000
def YI : List (V × V) := [(.int .u8 1, .agg [.bool true, .int .i64 0]), (.int .u8 2, .agg [.bool true, .int .i64 1]), (.int .u8 3, .agg [.bool false, .int .i64 0]), (.int .u8 4, .agg [.bool false, .int .i64 1])]
theorem K4 : kds prog 12 5 = some [0] := by kernel_rfl
theorem znK (a n : Int) : keq [0] (.int .u8 a) (.int .u8 n) = some (a == n) := by
 show some (a == n && true) = _
 rw [Bool.and_true]
theorem znL (n : Nat) (h : ze) : call (n + 1) 212 [] h = some (.ret [.map h.length], h ++ [.map YI]) := by
 rw [zjF]
 unfold zkS
 have g : ∀ es, (h ++ [HB.map es])[h.length]? = some (.map es) := fun es => zD
 have st : ∀ es es', (h ++ [HB.map es]).set h.length (HB.map es') = h ++ [HB.map es'] := fun es es' => by rw [Zw _ _ (zm _)]; simp
 simp only [g, st, zev]
 rw [K4, zb]
 simp only [QJ, zb]
 rw [if_pos (by decide)]
 simp only [g, st, zev, upd, zT, QJ, znK]
 rfl
theorem znM (c : Int) : QJ [0] (.int .u8 c) YI 0 = some (if c = 1 then some 0 else if c = 2 then some 1 else if c = 3 then some 2 else if c = 4 then some 3 else none) := by
 unfold YI
 simp only [QJ, znK]
 by_cases h1 : c = 1
 · simp [h1]
 by_cases h2 : c = 2
 · simp [h2]
 by_cases h3 : c = 3
 · simp [h3]
 by_cases h4 : c = 4
 · simp [h4]
 have e1 : (c == 1) = false := by simpa using h1
 have e2 : (c == 2) = false := by simpa using h2
 have e3 : (c == 3) = false := by simpa using h3
 have e4 : (c == 4) = false := by simpa using h4
 simp only [e1, e2, e3, e4, if_neg h1, if_neg h2, if_neg h3, if_neg h4]
structure EInv (B s q qb r : Nat) (m : Nat) (h0 h : ze) (sb : Nat -> Option Nat) (ws : Nat -> List Nat) (v : Nat -> V) (xs : List Int) (done : List R) (d : Nat) : Prop where
 mt : EndAt h s sb xs.length m ws v
 fr : ∀ e b, e < 2 -> sb e = some b -> B <= b
 le : B <= h.length
 st : RngAt h q qb m xs
 row : h[r]? = some (.row 21 1 (done.map vlC ++ List.replicate d [.int .i32 0]) true)
 rest : ∀ j, j < B -> j ≠ s -> j ≠ q -> j ≠ qb -> j ≠ r -> h[j]? = h0[j]?
theorem EInv.meet {B s q qb r mp : Nat} {m : Nat} {h0 h h' : ze} {sb sb' : Nat -> Option Nat} {ws ws' : Nat -> List Nat} {v v' : Nat -> V} {xs : List Int} {done : List R} {d : Nat} (L : ELay B s q qb r mp) (I : EInv B s q qb r m h0 h sb ws v xs done d)
    (b1 : EndAt h' s sb' xs.length m ws' v') (b2 : EFed h h' s sb sb') : EInv B s q qb r m h0 h' sb' ws' v' xs done d := by
 have hk : ∀ j, j < B -> j ≠ s -> h'[j]? = h[j]? := fun j h1 h2 => b2.old j (ZW h1 I.le) h2 (fun e => by have := I.fr 0 j (by decide) e; omega) (fun e => by have := I.fr 1 j (by decide) e; omega)
 exact ⟨b1, fun e b he hb => by rcases b2.new e b he hb with k | k; exact I.fr e b he k; exact Z2 I.le k, Z2 I.le b2.len, I.st.keep (hk q L.q1 L.sq.symm) (hk qb L.b1 L.sb.symm), (hk r L.r1 L.sr.symm).trans I.row, fun j h1 h2 h3 h4 h5 => (hk j h1 h2).trans (I.rest j h1 h2 h3 h4 h5)⟩
theorem EInv.told {B s q qb r : Nat} {m : Nat} {h0 h : ze} {sb : Nat -> Option Nat} {ws : Nat -> List Nat} {v : Nat -> V} {xs : List Int} {done : List R} {d : Nat} (I : EInv B s q qb r m h0 h sb ws v xs done (d + 1)) (c : Int) : EInv B s q qb r m h0 h sb ws v xs (done ++ [⟨c, 0⟩]) d :=
 ⟨I.mt, I.fr, I.le, I.st, by rw [I.row]; simp [Xn, vlC], I.rest⟩
theorem EInv.num {B s q qb r mp : Nat} {m : Nat} {h0 h h' : ze} {sb : Nat -> Option Nat} {ws : Nat -> List Nat} {v : Nat -> V} {xs xs' : List Int} {done : List R} {d : Nat} (L : ELay B s q qb r mp) (I : EInv B s q qb r m h0 h sb ws v xs done (d + 1)) (c x : Int) (b1 : EndAt h' s sb xs'.length m ws v) (b2 : RngAt h' q qb m xs') (b3 : h'.length = h.length) (b4 : h'[r]? = some (.row 21 1 ((done.map vlC ++ List.replicate (d + 1) [V.int .i32 0]).set done.length [.int .i32 x]) true)) (b5 : ∀ j, j ≠ q -> j ≠ qb -> j ≠ r -> h'[j]? = h[j]?) : EInv B s q qb r m h0 h' sb ws v xs' (done ++ [⟨c, x⟩]) d :=
 ⟨b1, I.fr, by rw [b3]; exact I.le, b2, by rw [b4, zbQ done d c x], fun j h1 h2 h3 h4 h5 => (b5 j h3 h4 h5).trans (I.rest j h1 h2 h3 h4 h5)⟩
theorem EndAt.keep {h h' : ze} {s : Nat} {sb : Nat -> Option Nat} {u m : Nat} {ws : Nat -> List Nat} {v : Nat -> V} (E : EndAt h s sb u m ws v) (h1 : h'[s]? = h[s]?) (h2 : ∀ e b, e < 2 -> sb e = some b -> h'[b]? = h[b]?) : EndAt h' s sb u m ws v :=
 ⟨h1.trans E.box, fun e he => (E.side e he).keep (fun b hb => h2 e b he hb), E.own, E.apart⟩
theorem zeJ (n : Nat) {h : ze} {q r d : Nat} {os : List O} {osb : Bool} {l : List (List V)} {z : Bool} {i j : Nat} (hd : d < 2) (hr : h[r]? = some (.row 21 1 l z)) (hl : ∀ es ∈ l, es.length = 1) (hi : i < l.length) (hj : j < os.length) :
    call (n + 1) 208 [.int .i64 (i : Int), .int .i64 (d : Int), .int .i64 (j : Int), .iptr 2 [.bf 203 [.ptr q 0], .bf 204 [.ptr q 0]] 0, .iptr 1 [.row r 1 0 l.length] 0, .iptr 1 [.sl 2 (os.map O.w) osb] 0] h = some (.ret [], h.set r (.row 21 1 (l.set i [.int .i32 os[j].v]) z)) := by
 have hx : l[i]? = some l[i] := zf hi
 have hw : Zp h [V.int .i32 os[j].v] (.rptr r 1 i 0) = some (r, .row 21 1 (l.set i [.int .i32 os[j].v]) z) := by
  obtain ⟨e, he⟩ : ∃ e, l[i] = [e] := ZR.1 (hl _ (Xl hi))
  simp [Zp, hr, hx, he, setR]
 obtain rfl | rfl : d = 0 \/ d = 1 := by omega
 · refine (zhx n _ _ q r _ _ osb h).trans ?_
   unfold znF
   rw [if_neg (by simp), Zo, zH, QW (es := O.w os[j]) (by rw [zJ, zf hj]; rfl), zb]
   simp only [ZN, zb]
   rw [XP, zl, if_pos (by decide)]
   simp only [O.w, zr, zi, za, zb]
   rw [Zo, zH, XG (by omega), zb, zr]
   simp only [V.cells, zB, zO, zr, if_true]
   rw [hw, Zd]
 · refine (zhy n _ _ q r _ _ osb h).trans ?_
   unfold znG
   rw [if_neg (by simp), Zo, zH, QW (es := O.w os[j]) (by rw [zJ, zf hj]; rfl), zb]
   simp only [ZN, zb]
   rw [XP, zl, if_pos (by decide)]
   simp only [O.w, zr, zi, za, zb]
   rw [Zo, zH, XG (by omega), zb, zr]
   simp only [V.cells, zB, zO, zr, if_true]
   rw [hw, Zd]
theorem zdS (n : Nat) {h : ze} {q qb c d : Nat} {xs : List Int} (hb : RngAt h q qb c xs) (hc : c < 100000) {p : Int × List Int} (hp : Yk d xs = some p) :
    ∃ h', call (n + 2) (if d = 0 then 203 else 204) [.ptr q 0] h = some (.ret [.int .i32 p.1, .bool true], h') /\ RngAt h' q qb c p.2 /\ RFed h h' q qb := by
 unfold Yk at hp
 split at hp
 · rename_i hd
   rw [if_pos hd]
   cases xs with
   | nil => cases hp
   | cons y r => cases hp; exact jM n hb hc
 · rename_i hd
   rw [if_neg hd]
   rcases ZD xs with rfl | ⟨x0, x, rfl⟩
   · cases hp
   · simp at hp; subst hp
     rw [X3] at hb
     exact jN n hb hc
theorem zjM (n : Nat) {h : ze} {q qb r c d : Nat} {os : List (List V)} {osb : Bool} {l : List (List V)} {z : Bool} {i : Nat} {xs : List Int} (hd : d < 2) (hr : h[r]? = some (.row 21 1 l z)) (hl : ∀ es ∈ l, es.length = 1) (hi : i < l.length) (hb : RngAt h q qb c xs) (hc : c < 100000) (qr : r ≠ q) (br : r ≠ qb) {p : Int × List Int} (hp : Yk d xs = some p) :
    ∃ h', call (n + 3) 208 [.int .i64 (i : Int), .int .i64 (d : Int), .int .i64 (-1), .iptr 2 [.bf 203 [.ptr q 0], .bf 204 [.ptr q 0]] 0, .iptr 1 [.row r 1 0 l.length] 0, .iptr 1 [.sl 2 os osb] 0] h = some (.ret [], h') /\ RngAt h' q qb c p.2 /\ h'[r]? = some (.row 21 1 (l.set i [.int .i32 p.1]) z) /\ h'.length = h.length /\ ∀ j, j ≠ q -> j ≠ qb -> j ≠ r -> h'[j]? = h[j]? := by
 obtain ⟨h1, e, b1, b2⟩ := zdS n hb hc hp
 have hr1 : h1[r]? = some (.row 21 1 l z) := (b2.old r qr br).trans hr
 have hx : l[i]? = some l[i] := zf hi
 have hw : Zp h1 [V.int .i32 p.1] (.rptr r 1 i 0) = some (r, .row 21 1 (l.set i [.int .i32 p.1]) z) := by
  obtain ⟨e, he⟩ : ∃ e, l[i] = [e] := ZR.1 (hl _ (Xl hi))
  simp [Zp, hr1, hx, he, setR]
 refine ⟨h1.set r (.row 21 1 (l.set i [.int .i32 p.1]) z), ?_, b1.keep (zd qr) (zd br), Xf (zQ hr1) _, by rw [zp]; exact b2.len, fun j h1 h2 h3 => (zd (Ne.symm h3)).trans (b2.old j h1 h2)⟩
 obtain rfl | rfl : d = 0 \/ d = 1 := by omega
 · rw [if_pos rfl] at e
   refine (zhx (n + 2) _ _ q r _ _ osb h).trans ?_
   unfold znF
   rw [if_pos (by decide), e]
   simp only [clH, za, zi, zb]
   rw [Zo, zH, XG (by omega), zb, zr]
   simp only [V.cells, ixP, zB, zO, zr, if_true]
   rw [hw, Zd]
 · rw [if_neg (by decide)] at e
   refine (zhy (n + 2) _ _ q r _ _ osb h).trans ?_
   unfold znG
   rw [if_pos (by decide), e]
   simp only [clH, za, zi, zb]
   rw [Zo, zH, XG (by omega), zb, zr]
   simp only [V.cells, ixP, zB, zO, zr, if_true]
   rw [hw, Zd]
end Go.Proofs.Tryz
