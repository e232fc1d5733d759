import Derived.Test.YtodgpfffnnlbhaaLset
import Derived.Test.YtodgpfffnnlbhaaLwd
import Derived.Test.YtodgpfffnnlbhaaKv
/-! sorted, of no operations (nil): PRINTED BY A PROGRAM OF MINE (lift6.lean) -/
set_option linter.unusedVariables false
namespace Go.Proofs.Try
open Go.L
set_option maxRecDepth 100000
noncomputable def srtByN (n : Nat) (b : Nat) (hi : Nat) (h : Heap) : Option (Res × Heap) :=
 (rwT ((h)[b]?) fun el0 sl0 l0 => if ((el0 = 3 ∧ 1 = 1 ∧ sl0 = 1) ∧ (0 = 0 ∧ hi = l0.length)) then (clr (call n 80 (V.sl 1 l0 false :: [(V.fn 81 [(V.iptr 1 [(V.fn 61 [])] 0), (V.iptr 1 [(V.sl 0 [] true)] 0)])]) ((h).set b HB.dead)) fun sl1 l1 r2 h3 => if sl1 = 1 ∧ l1.length = l0.length then
 some (Res.ret [(V.row b 1 0 hi)], ((h3).set b (HB.row 3 1 l1 true))) else none) else none)
theorem srtByN_eq (n : Nat) (b : Nat) (hi : Nat) (h : Heap) : call (n + 1) 60 [(V.sl 0 [] true), (V.row b 1 0 hi), (V.fn 61 [])] h = srtByN n b hi h := by kernel_rfl
noncomputable def partedN_l0 (n : Nat)  (st1 : List V) (hh2 : Heap) (next3 : List V → Heap → Option (Res × Heap)) : Option (Res × Heap) :=
 (bd (bop prog .lss 3 (gv st1 2) (V.int .i64 (0 : Int))) fun v4 =>
 (bv v4 fun b5 => if b5 then
 (bdS (nv (gv st1 2)) fun n6 =>
 (bd (idxP 2 n6 (V.sl 0 [] true)) fun p7 =>
 (bd3 (cellsP hh2 p7) fun cs9 m8 o10 => if (o10 + 2 ≤ m8 ∧ 0 < 2) then
 (if (((cs9).drop o10 |>.take 2)).length = 2 then
 (if ((((cs9).drop o10 |>.take 2)).length ≤ 2) then
 (bd ((setR [(V.int .u8 0), (V.int .i32 0)] 0 ((cs9).drop o10 |>.take 2)))[0]? fun v11 =>
 (bd (bop prog .eql 5 v11 (V.int .u8 1)) fun v12 =>
 (bv v12 fun b13 => if b13 then
 (bd (bslV prog 43 1 [(0, (gv st1 2))]) fun p14 =>
 (bd (app 3 1 (S.own 3 1 (lsl (gv st1 0))) p14.2) fun l15 =>
 (bd (bop prog .add 3 (gv st1 2) (V.int .i64 1)) fun v16 =>
 (next3 [(V.sl 1 l15 false), (V.sl 1 (lsl (gv st1 1)) false), v16] hh2))))
 else
 (bd (bslV prog 43 1 [(0, (gv st1 2))]) fun p17 =>
 (bd (app 3 1 (S.own 3 1 (lsl (gv st1 1))) p17.2) fun l18 =>
 (bd (bop prog .add 3 (gv st1 2) (V.int .i64 1)) fun v19 =>
 (next3 [(V.sl 1 (lsl (gv st1 0)) false), (V.sl 1 l18 false), v19] hh2))))))) else none) else none) else none)))
 else
 (cl (call n 60 [(V.sl 0 [] true), (V.row (hh2).length 1 0 ((lsl (gv st1 0))).length), (V.fn 61 [])] (hh2 ++ [(HB.row 3 1 (lsl (gv st1 0)) true)])) (fun r20 h21 =>
 (one1 r20 fun v23 =>
 some (Res.ret [v23, (V.row (h21).length 1 0 ((lsl (gv st1 1))).length)], (h21 ++ [(HB.row 3 1 (lsl (gv st1 1)) true)])))) (fun z22 h21 => some (Res.pan z22, h21)))))
noncomputable def partedN (n : Nat) (h : Heap) : Option (Res × Heap) :=
 (loopx n (partedN_l0 n ) [(V.sl 1 [] false), (V.sl 1 [] false), (V.int .i64 0)] h)
theorem partedN_eq (n : Nat) (h : Heap) : call (n + 1) 34 [(V.sl 0 [] true)] h = partedN n h := by kernel_rfl
noncomputable def srtRestN_l1 (n : Nat) (s : Nat) (o : V) (t : V) (p0 : Nat × List (List V)) (st2 : List V) (hh3 : Heap) (next4 : List V → Heap → Option (Res × Heap)) : Option (Res × Heap) :=
 (bd (bop prog .lss 3 (gv st2 1) (V.int .i64 ((p0.2).length : Int))) fun v5 =>
 (bv v5 fun b6 => if b6 then
 (bdS (nv (gv st2 1)) fun n7 =>
 (bd (idxP 1 n7 o) fun p8 =>
 (bd3 (cellsP hh3 p8) fun cs10 m9 o11 => if (o11 + 1 ≤ m9 ∧ 0 < 1) then
 (bd (cs10)[o11]? fun v12 =>
 (bdS (nv v12) fun n13 =>
 (bd (idxP 2 n13 t) fun p14 =>
 (bd (addP 0 p14) fun p15 =>
 (bd2 (writeB hh3 [(V.int .u8 5)] p15) fun b16 x17 =>
 (bdS (nv v12) fun n18 =>
 (bd (idxP 2 n18 (V.sl 0 [] true)) fun p19 =>
 (bd (addP 0 p19) fun p20 =>
 (bd3 (cellsP ((hh3).set b16 x17) p20) fun cs22 m21 o23 => if (o23 + 1 ≤ m21 ∧ 0 < 1) then
 (bd (cs22)[o23]? fun v24 =>
 (bd (bop prog .neq 5 v24 (V.int .u8 2)) fun v25 =>
 (bv v25 fun b26 => if b26 then
 (bd (bop prog .add 3 (gv st2 1) (V.int .i64 1)) fun v27 =>
 (next4 [(V.sl 2 (lsl (gv st2 0)) false), v27] ((hh3).set b16 x17)))
 else
 (bdS (nv v12) fun n28 =>
 (bd (idxP 2 n28 t) fun p29 =>
 (bd (addP 0 p29) fun p30 =>
 (bd2 (writeB ((hh3).set b16 x17) [(V.int .u8 4)] p30) fun b31 x32 =>
 (cl (call n 63 [(V.ptr s 0)] ((((hh3).set b16 x17)).set b31 x32)) (fun r33 h34 =>
 (bd (r33)[0]? fun v36 =>
 (bd (r33)[1]? fun v37 =>
 (bv v37 fun b38 => if b38 then
 (bd (bldV prog 34 [(0, (V.int .u8 2)), (1, v36)]) fun cs39 =>
 (bdS (nv v12) fun n40 =>
 (bd (idxP 2 n40 t) fun p41 =>
 (if (cs39).length = 2 then
 (bd2 (writeB h34 cs39 p41) fun b42 x43 =>
 (bd (bop prog .add 3 (gv st2 1) (V.int .i64 1)) fun v44 =>
 (next4 [(V.sl 2 (lsl (gv st2 0)) false), v44] ((h34).set b42 x43)))) else none))))
 else
 (bd (bop prog .add 3 (gv st2 1) (V.int .i64 1)) fun v45 =>
 (next4 [(V.sl 2 (lsl (gv st2 0)) false), v45] h34)))))) (fun z35 h34 => some (Res.pan z35, h34)))))))))) else none))))))))) else none)))
 else
 some (Res.ret [t], hh3)))
noncomputable def srtRestN (n : Nat) (s : Nat) (o : V) (t : V) (h : Heap) : Option (Res × Heap) :=
 (bd (slcH h o) fun p0 =>
 (loopx n (srtRestN_l1 n s o t p0) [(V.sl 2 [] false), (V.int .i64 0)] h))
theorem srtRestN_eq (n : Nat) (s : Nat) (o : V) (t : V) (h : Heap) : call (n + 1) 38 [(V.ptr s 0), (V.sl 0 [] true), o, t] h = srtRestN n s o t h := by kernel_rfl
noncomputable def srtApplyN_l61 (n : Nat) (s : Nat) (v6 : V) (v59 : V) (p60 : Nat × List (List V)) (st62 : List V) (hh63 : Heap) (next64 : List V → Heap → Option (Res × Heap)) : Option (Res × Heap) :=
 (bd (bop prog .lss 3 (gv st62 3) (V.int .i64 ((p60.2).length : Int))) fun v65 =>
 (bv v65 fun b66 => if b66 then
 (bdS (nv (gv st62 3)) fun n67 =>
 (bd (idxP 1 n67 v59) fun p68 =>
 (bd3 (cellsP hh63 p68) fun cs70 m69 o71 => if (o71 + 1 ≤ m69 ∧ 0 < 1) then
 (bd (cs70)[o71]? fun v72 =>
 (bdS (nv v72) fun n73 =>
 (if (2 = 2 ∧ n73 < ((lsl (gv st62 1))).length ∧ (some 73 : Option Nat) ≠ some 7) then
 (bd ((lsl (gv st62 1)))[n73]? fun es74 =>
 (bd (bop prog .add 3 (gv st62 3) (V.int .i64 1)) fun v75 =>
 (next64 [(V.sl 2 (lsl (gv st62 0)) false), (V.sl 2 (((lsl (gv st62 1))).set n73 (setR es74 0 [(V.int .u8 3)])) false), (V.bool false), v75] hh63))) else none))) else none)))
 else
 (cl (call n 38 [(V.ptr s 0), (V.sl 0 [] true), v6, (V.row (hh63).length 2 0 ((lsl (gv st62 1))).length)] (hh63 ++ [(HB.row 34 2 (lsl (gv st62 1)) true)])) (fun r76 h77 =>
 (one1 r76 fun v79 =>
 some (Res.ret [v79], h77))) (fun z78 h77 => some (Res.pan z78, h77)))))
noncomputable def srtApplyN_l23 (n : Nat) (s : Nat) (c : Nat) (v5 : V) (v6 : V) (v18 : V) (v21 : V) (p22 : Nat × List (List V)) (st24 : List V) (hh25 : Heap) (next26 : List V → Heap → Option (Res × Heap)) : Option (Res × Heap) :=
 (bd (bop prog .lss 3 (gv st24 5) (V.int .i64 ((p22.2).length : Int))) fun v27 =>
 (bv v27 fun b28 => if b28 then
 (bdS (nv (gv st24 5)) fun n29 =>
 (bd (idxP 1 n29 v21) fun p30 =>
 (bd3 (cellsP hh25 p30) fun cs32 m31 o33 => if (o33 + 1 ≤ m31 ∧ 0 < 1) then
 (bd (cs32)[o33]? fun v34 =>
 (bdS (nv v34) fun n35 =>
 (bd (idxP 2 n35 (V.sl 0 [] true)) fun p36 =>
 (bd (addP 1 p36) fun p37 =>
 (bd3 (cellsP hh25 p37) fun cs39 m38 o40 => if (o40 + 1 ≤ m38 ∧ 0 < 1) then
 (bd (cs39)[o40]? fun v41 =>
 (bd (bslV prog 39 1 [(0, v41)]) fun p42 =>
 (bd (app 21 1 (S.own 21 1 (lsl (gv st24 2))) p42.2) fun l43 =>
 (cl (call n 19 [(V.ptr c 0)] hh25) (fun r44 h45 =>
 (one1 r44 fun v47 =>
 (bd (bslV prog 43 1 [(0, v47)]) fun p48 =>
 (bd (app 3 1 (S.own 3 1 (lsl (gv st24 3))) p48.2) fun l49 =>
 (bdS (nv v34) fun n50 =>
 (if (2 = 2 ∧ n50 < ((lsl (gv st24 1))).length ∧ (some 56 : Option Nat) ≠ some 7) then
 (bd ((lsl (gv st24 1)))[n50]? fun es51 =>
 (bd (bop prog .add 3 (gv st24 5) (V.int .i64 1)) fun v52 =>
 (next26 [(V.sl 2 (lsl (gv st24 0)) false), (V.sl 2 (((lsl (gv st24 1))).set n50 (setR es51 0 [(V.int .u8 1)])) false), (V.sl 1 l43 false), (V.sl 1 l49 false), (V.bool false), v52] h45))) else none)))))) (fun z46 h45 => some (Res.pan z46, h45)))))) else none))))) else none)))
 else
 (cl (call n 37 [(V.ptr s 0), (V.row (hh25).length 1 0 ((lsl (gv st24 2))).length), (V.row ((hh25 ++ [(HB.row 21 1 (lsl (gv st24 2)) true)])).length 1 0 ((lsl (gv st24 3))).length)] ((hh25 ++ [(HB.row 21 1 (lsl (gv st24 2)) true)]) ++ [(HB.row 3 1 (lsl (gv st24 3)) true)])) (fun r53 h54 =>
 (one1 r53 fun v56 =>
 (bd (lenP v5) fun n57 =>
 (bdS (nv v18) fun n58 =>
 (bd (sliceP 1 n58 n57 (none : Option Nat) true v5) fun v59 =>
 (bd (slcH h54 v59) fun p60 =>
 (loopx n (srtApplyN_l61 n s v6 v59 p60) [(V.sl 2 (lsl (gv st24 0)) false), (V.sl 2 (lsl (gv st24 1)) false), (V.bool false), (V.int .i64 0)] h54))))))) (fun z55 h54 => some (Res.pan z55, h54)))))
noncomputable def srtApplyN (n : Nat) (s : Nat) (c : Nat) (h : Heap) : Option (Res × Heap) :=
 (bdS (nv (V.int .i64 (0 : Int))) fun n0 =>
 (bdS (nv (V.int .i64 (0 : Int))) fun n1 =>
 (if (n0 = n1 ∧ n0 < lim ∧ 2 = 2) then
 (cl (call n 34 [(V.sl 0 [] true)] h) (fun r2 h3 =>
 (bd (r2)[0]? fun v5 =>
 (bd (r2)[1]? fun v6 =>
 (bd (slcH h3 v5) fun p7 =>
 (cl (call n 35 [(V.ptr s 0)] h3) (fun r8 h9 =>
 (one1 r8 fun v11 =>
 (cl (call n 36 [(V.ptr s 0)] h9) (fun r12 h13 =>
 (one1 r12 fun v15 =>
 (bd (bop prog .sub 3 v11 v15) fun v16 =>
 (bd (evBsL [(some (V.int .i64 ((p7.2).length : Int))), (valB h13 v16)]) fun a17 => bd (mm false a17) fun v18 =>
 (bd (lenP v5) fun n19 =>
 (bdS (nv v18) fun n20 =>
 (bd (sliceP 1 0 n20 (none : Option Nat) true v5) fun v21 =>
 (bd (slcH h13 v21) fun p22 =>
 (loopx n (srtApplyN_l23 n s c v5 v6 v18 v21 p22) [(V.sl 2 [] false), (V.sl 2 (List.replicate n0 [(V.int .u8 0), (V.int .i32 0)]) false), (V.sl 1 [] false), (V.sl 1 [] false), (V.bool false), (V.int .i64 0)] h13))))))))) (fun z14 h13 => some (Res.pan z14, h13))))) (fun z10 h9 => some (Res.pan z10, h9))))))) (fun z4 h3 => some (Res.pan z4, h3))) else none)))
theorem srtApplyN_eq (n : Nat) (s : Nat) (c : Nat) (h : Heap) : call (n + 1) 18 [(V.ptr s 0), (V.ptr c 0), (V.sl 0 [] true)] h = srtApplyN n s c h := by kernel_rfl
end Go.Proofs.Try
/-! sorted by contract: Apply of no operations (nil) -/
set_option linter.unusedVariables false
set_option linter.unusedSimpArgs false
namespace Go.Proofs.Try
open Go.L Go.Rp Go.Sk
set_option maxRecDepth 100000
theorem sortN_call (n : Nat) (h : Heap) : call (n + 10) 80 [.sl 1 [] false, .fn 81 [.iptr 1 [.fn 61 []] 0, .iptr 1 [.sl 0 [] true] 0]] h = some (.ret [.sl 1 [] false], h) := by kernel_rfl
theorem byN_call (n : Nat) {h : Heap} {b : Nat} (hb : h[b]? = some (.row 3 1 [] true)) : call (n + 11) 60 [.sl 0 [] true, .row b 1 0 0, .fn 61 []] h = some (.ret [.row b 1 0 0], (h.set b .dead).set b (.row 3 1 [] true)) := by
  refine (srtByN_eq (n + 10) b 0 h).trans ?_
  unfold srtByN
  rw [hb]
  simp only [rwT]
  rw [if_pos (by refine ⟨⟨?_, ?_, ?_⟩, ?_, ?_⟩ <;> first | trivial | rfl), sortN_call]
  simp only [clr]
  rw [if_pos (And.intro (by first | trivial | rfl) (by first | trivial | rfl))]
theorem partedN_call (n : Nat) (h : Heap) : call (n + 12) 34 [.sl 0 [] true] h = some (.ret [.row h.length 1 0 0, .row (h.length + 1) 1 0 0], partH h []) := by
  refine (partedN_eq (n + 11) h).trans ?_
  unfold partedN
  rw [loopx_succ]
  have hb := byN_call n (h := h ++ [.row 3 1 [] true]) (b := h.length) List.getElem?_concat_length
  have hset : ((h ++ [HB.row 3 1 [] true]).set h.length .dead).set h.length (.row 3 1 [] true) = h ++ [.row 3 1 [] true] := by
    rw [List.set_set, List.set_append_right _ _ (Nat.le_refl _), Nat.sub_self]; rfl
  rw [hset] at hb
  unfold partedN_l0
  simp only [gv, List.getD_cons_zero, List.getD_cons_succ, bop_i64_lss, bd_some, bv_bool]
  rw [if_neg (by simp)]
  simp only [lsl, List.length_nil]
  rw [hb, cl_ret, one1_one]
  have hsp : sPuts [] = [] := List.length_eq_zero_iff.1 ((sPuts_len []).trans rfl)
  simp [partH, hsp, others, restTo, iL]
/-- Apply of nil -/
theorem applyN_call (n : Nat) {h : Heap} {s : Nat} {ts : List Tw} {most : Int} {c : Nat} {cb : Option Nat} {bits : List Bool} (S : ∃ N, SkAt h s ts most N) (B : BitsAt h c cb bits) (nc : c ∉ skB s ts) (ncb : ∀ b, cb = some b → b ∉ skB s ts) (hroom : (ts.length : Int) ≤ most) (hmost : most ≤ 1000) (hl : ts.length + 100 < lim) (hn : ts.length + 50 ≤ n) :
    ∃ h' ts' tb, call (n + 4) 18 [.ptr s 0, .ptr c 0, .sl 0 [] true] h = some (.ret [.row tb 2 0 0], h') ∧ Did h h' s ts ts' most c cb bits tb [] ∧ itT ts' = itT ts := by
  have E0 : Env (partH h []) s ts most c cb bits h.length [] (h.length + 1) [] := part_env [] S B nc ncb
  have hlf : (partH h []).length = h.length + 2 := by simp [partH]
  have E2 := E0.push [.row 21 1 [] true, .row 3 1 [] true]
  have hrow1 : RowI (partH h [] ++ [HB.row 21 1 [] true, HB.row 3 1 [] true]) (partH h []).length .i32 21 [] := ⟨true, by rw [List.getElem?_append_right (Nat.le_refl _), Nat.sub_self]; rfl⟩
  have hrow2 : RowI (partH h [] ++ [HB.row 21 1 [] true, HB.row 3 1 [] true]) ((partH h []).length + 1) .i64 3 [] := ⟨true, by rw [List.getElem?_append_right (by omega), Nat.add_sub_cancel_left]; rfl⟩
  obtain ⟨N1, S1⟩ := E0.sk
  obtain ⟨h2, ts2, tb2, e2, G2, I2⟩ := batch_call n E2.sk (partH h []).length ((partH h []).length + 1) [] [] rfl .nil hrow1 hrow2 (fun hm => by have := S1.lt _ hm; omega) (fun hm => by have := S1.lt _ hm; omega) (by simpa using hroom) (by simp; omega) (by simp; omega)
  have I3 : itT ts2 = itT ts := I2
  have hlen2 : ts2.length = ts.length := by have := congrArg List.length I3; rwa [itT_len, itT_len] at this
  have E3 := E2.grew G2
  have E4 := E3.push [.row 34 2 [] true]
  have hF : Frm h h2 (c :: skB s ts) := by
    have a : Frm h (partH h []) (c :: skB s ts) := Frm.push h _ _
    have c' : Frm (partH h []) (partH h [] ++ [HB.row 21 1 [] true, HB.row 3 1 [] true]) [] := Frm.push _ _ _
    exact ((a.trans c' fun y hy => by cases hy).trans G2.frm fun y hy => .inl (List.mem_cons_of_mem _ hy))
  refine ⟨h2 ++ [.row 34 2 [] true], ts2, h2.length, ?_, ⟨E4.sk, E4.bt, ⟨true, List.getElem?_concat_length⟩, hF.len, hF.trans (Frm.push h2 _ []) fun y hy => (by cases hy), fun b hb => (G2.new b hb).imp id fun hh => (by rw [List.length_append, hlf] at hh; omega), by rw [hlen2]; exact hroom⟩, I3⟩
  refine (srtApplyN_eq (n + 3) s c h).trans ?_
  unfold srtApplyN
  have f0 : nv (V.int .i64 0) = some 0 := nv_nat _ _
  have hpc : call (n + 3) 34 [.sl 0 [] true] h = some (.ret [.row h.length 1 0 0, .row (h.length + 1) 1 0 0], partH h []) := by
    obtain ⟨m, rfl⟩ : ∃ m, n = m + 9 := ⟨n - 9, by omega⟩
    exact partedN_call m h
  have hm1 := most_call (n + 2) S1
  have hl1 := len_call (n + 2) S1
  have hsub : IntKind.i64.wrap (most - (ts.length : Int)) = most - (ts.length : Int) := by rw [w64] <;> omega
  have hs0 : sliceP 1 0 0 none true (.row h.length 1 0 0) = some (.row h.length 1 0 0) := by simpa using sliceP_row (r := h.length) (sz := 1) (u := 0) (v := 0) (Nat.zero_le 0) (by omega) true
  have hc0 : slcH (partH h []) (.row h.length 1 0 0) = some (1, []) := E0.r1.slc
  have hc3 : slcH h2 (.row h.length 1 0 0) = some (1, []) := E3.r1.slc
  have hc4 : slcH (h2 ++ [.row 34 2 [] true]) (.row (h.length + 1) 1 0 0) = some (1, []) := E4.r2.slc
  have hmin : (if most - (ts.length : Int) < (0 : Int) then most - (ts.length : Int) else (0 : Int)) = 0 := if_neg (by omega)
  have key1 : ∀ next, srtApplyN_l23 (n + 3) s c (.row h.length 1 0 0) (.row (h.length + 1) 1 0 0) (.int .i64 0) (.row h.length 1 0 0) (1, []) [.sl 2 [] false, .sl 2 [] false, .sl 1 [] false, .sl 1 [] false, .bool false, .int .i64 0] (partH h []) next = loopx (n + 3) (srtApplyN_l61 (n + 3) s (.row (h.length + 1) 1 0 0) (.row h.length 1 0 0) (1, [])) [.sl 2 [] false, .sl 2 [] false, .bool false, .int .i64 0] h2 := by
    intro next
    unfold srtApplyN_l23
    simp only [gv, List.getD_cons_zero, List.getD_cons_succ, List.length_nil, bop_i64_lss, bd_some, bv_bool]
    rw [if_neg (by simp)]
    simp only [lsl, List.length_nil]
    rw [show (partH h [] ++ [HB.row 21 1 [] true]).length = (partH h []).length + 1 by simp, List.append_assoc]
    rw [show ([HB.row 21 1 [] true] ++ [HB.row 3 1 [] true]) = [HB.row 21 1 [] true, HB.row 3 1 [] true] from rfl]
    rw [show call (n + 3) 37 [.ptr s 0, .row (partH h []).length 1 0 0, .row ((partH h []).length + 1) 1 0 0] (partH h [] ++ [HB.row 21 1 [] true, HB.row 3 1 [] true]) = _ from e2, cl_ret, one1_one, lenP_row, bd_some, f0, bdS_some, Nat.sub_zero, hs0, bd_some, hc3, bd_some]
  have key2 : ∀ next, srtApplyN_l61 (n + 3) s (.row (h.length + 1) 1 0 0) (.row h.length 1 0 0) (1, []) [.sl 2 [] false, .sl 2 [] false, .bool false, .int .i64 0] h2 next = some (.ret [.row h2.length 2 0 0], h2 ++ [.row 34 2 [] true]) := by
    intro next
    unfold srtApplyN_l61
    simp only [gv, List.getD_cons_zero, List.getD_cons_succ, List.length_nil, bop_i64_lss, bd_some, bv_bool]
    rw [if_neg (by simp)]
    simp only [lsl, List.length_nil]
    have hr : call (n + 3) 38 [.ptr s 0, .sl 0 [] true, .row (h.length + 1) 1 0 0, .row h2.length 2 0 0] (h2 ++ [.row 34 2 [] true]) = some (.ret [.row h2.length 2 0 0], h2 ++ [.row 34 2 [] true]) := by
      refine (srtRestN_eq (n + 2) s _ _ _).trans ?_
      unfold srtRestN
      rw [hc4, bd_some, loopx_succ]
      unfold srtRestN_l1
      simp only [gv, List.getD_cons_zero, List.getD_cons_succ, List.length_nil, bop_i64_lss, bd_some, bv_bool]
      rw [if_neg (by simp)]
    rw [hr, cl_ret, one1_one]
  rw [f0, bdS_some, bdS_some, if_pos (by first | exact ⟨rfl, by decide, rfl⟩ | exact ⟨trivial, by decide, trivial⟩), hpc, cl_ret]
  simp only [List.getElem?_cons_zero, List.getElem?_cons_succ, bd_some]
  rw [hc0, bd_some, hm1, cl_ret, one1_one, hl1, cl_ret, one1_one, bop_i64_sub, bd_some, hsub]
  simp only [List.length_nil, valB, evBsL, bd_some]
  rw [mm_min, bd_some, show ((0 : Nat) : Int) = 0 from rfl, hmin, lenP_row, bd_some, f0, bdS_some, hs0, bd_some, hc0, bd_some, List.replicate_zero, loopx_succ, key1, loopx_succ, key2]
end Go.Proofs.Try
