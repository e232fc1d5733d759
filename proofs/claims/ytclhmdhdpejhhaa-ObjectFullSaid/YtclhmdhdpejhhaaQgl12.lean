/- Lwd Pf Ps Ka Lmw Lrow Kc Ts Pm Splain Ow Tm Pr Tr Pe Te Po To Tq Ta Tf Tg: what the law needs of these -/
import Derived.Laws.BitsLemmas
import Derived.Test.YtclhmdhdpejhhaaQgl11
set_option linter.unusedVariables false
namespace Go.Proofs.Try
open Go.L Go.Rp
@[simp] theorem bop_i64_lss (a b : Int) : bop prog .lss 3 (.int .i64 a) (.int .i64 b) = some (.bool (decide (a < b))) := by kernel_rfl
@[simp] theorem bop_i64_leq (a b : Int) : bop prog .leq 3 (.int .i64 a) (.int .i64 b) = some (.bool (decide (a <= b))) := by kernel_rfl
@[simp] theorem bop_i64_gtr (a b : Int) : bop prog .gtr 3 (.int .i64 a) (.int .i64 b) = some (.bool (decide (a > b))) := by kernel_rfl
@[simp] theorem bop_i64_geq (a b : Int) : bop prog .geq 3 (.int .i64 a) (.int .i64 b) = some (.bool (decide (a ≥ b))) := by kernel_rfl
@[simp] theorem bop_i64_eql (a b : Int) : bop prog .eql 3 (.int .i64 a) (.int .i64 b) = some (.bool (a == b)) := by kernel_rfl
@[simp] theorem bop_i64_neq (a b : Int) : bop prog .neq 3 (.int .i64 a) (.int .i64 b) = some (.bool (a != b)) := by kernel_rfl
@[simp] theorem bop_i64_add (a b : Int) : bop prog .add 3 (.int .i64 a) (.int .i64 b) = some (.int .i64 (IntKind.i64.wrap (a + b))) := by kernel_rfl
@[simp] theorem bop_i64_sub (a b : Int) : bop prog .sub 3 (.int .i64 a) (.int .i64 b) = some (.int .i64 (IntKind.i64.wrap (a - b))) := by kernel_rfl
@[simp] theorem bop_i32_lss (a b : Int) : bop prog .lss 21 (.int .i32 a) (.int .i32 b) = some (.bool (decide (a < b))) := by kernel_rfl
@[simp] theorem bop_i32_leq (a b : Int) : bop prog .leq 21 (.int .i32 a) (.int .i32 b) = some (.bool (decide (a <= b))) := by kernel_rfl
@[simp] theorem bop_i32_gtr (a b : Int) : bop prog .gtr 21 (.int .i32 a) (.int .i32 b) = some (.bool (decide (a > b))) := by kernel_rfl
@[simp] theorem bop_i32_geq (a b : Int) : bop prog .geq 21 (.int .i32 a) (.int .i32 b) = some (.bool (decide (a ≥ b))) := by kernel_rfl
@[simp] theorem bop_i32_eql (a b : Int) : bop prog .eql 21 (.int .i32 a) (.int .i32 b) = some (.bool (a == b)) := by kernel_rfl
@[simp] theorem bop_i32_neq (a b : Int) : bop prog .neq 21 (.int .i32 a) (.int .i32 b) = some (.bool (a != b)) := by kernel_rfl
@[simp] theorem bop_i32_add (a b : Int) : bop prog .add 21 (.int .i32 a) (.int .i32 b) = some (.int .i32 (IntKind.i32.wrap (a + b))) := by kernel_rfl
@[simp] theorem bop_i32_sub (a b : Int) : bop prog .sub 21 (.int .i32 a) (.int .i32 b) = some (.int .i32 (IntKind.i32.wrap (a - b))) := by kernel_rfl
@[simp] theorem bop_u8_lss (a b : Int) : bop prog .lss 5 (.int .u8 a) (.int .u8 b) = some (.bool (decide (a < b))) := by kernel_rfl
@[simp] theorem bop_u8_leq (a b : Int) : bop prog .leq 5 (.int .u8 a) (.int .u8 b) = some (.bool (decide (a <= b))) := by kernel_rfl
@[simp] theorem bop_u8_gtr (a b : Int) : bop prog .gtr 5 (.int .u8 a) (.int .u8 b) = some (.bool (decide (a > b))) := by kernel_rfl
@[simp] theorem bop_u8_geq (a b : Int) : bop prog .geq 5 (.int .u8 a) (.int .u8 b) = some (.bool (decide (a ≥ b))) := by kernel_rfl
@[simp] theorem bop_u8_eql (a b : Int) : bop prog .eql 5 (.int .u8 a) (.int .u8 b) = some (.bool (a == b)) := by kernel_rfl
@[simp] theorem bop_u8_neq (a b : Int) : bop prog .neq 5 (.int .u8 a) (.int .u8 b) = some (.bool (a != b)) := by kernel_rfl
@[simp] theorem bop_u8_add (a b : Int) : bop prog .add 5 (.int .u8 a) (.int .u8 b) = some (.int .u8 (IntKind.u8.wrap (a + b))) := by kernel_rfl
@[simp] theorem bop_u8_sub (a b : Int) : bop prog .sub 5 (.int .u8 a) (.int .u8 b) = some (.int .u8 (IntKind.u8.wrap (a - b))) := by kernel_rfl
@[simp] theorem uop_not (b : Bool) : uop .not (.bool b) = some (.bool !b) := rfl
@[simp] theorem bop_bool_eql (a b : Bool) : bop prog .eql 4 (.bool a) (.bool b) = some (.bool (a == b)) := by kernel_rfl
@[simp] theorem bld_got (x : Int) : bldV prog 34 [(0, .int .u8 2), (1, .int .i32 x)] = some [.int .u8 2, .int .i32 x] := by kernel_rfl
@[simp] theorem kds_int : kds prog 12 3 = some [0] := by kernel_rfl
theorem w64 {n : Int} (h1 : -9223372036854775808 <= n) (h2 : n < 9223372036854775808) : IntKind.i64.wrap n = n := by rw [IntKind.wrap_i64]; omega
theorem w8 {n : Int} (h1 : 0 <= n) (h2 : n < 256) : IntKind.u8.wrap n = n := by rw [IntKind.wrap_u8]; omega
theorem step64 {k : Nat} (h : k < lim) : IntKind.i64.wrap ((k : Int) + 1) = ((k + 1 : Nat) : Int) := by unfold lim at h; rw [w64] <;> omega
@[simp] theorem boxAt_box {R : Type} (n : Nat) (cs : List V) (k : Nat -> List V -> Option R) : boxAt (some (.box n cs)) k = k n cs := rfl
@[simp] theorem mapAt_map {R : Type} (es : List (V × V)) (k : List (V × V) -> Option R) : mapAt (some (.map es)) k = k es := rfl
@[simp] theorem free_int (k : IntKind) (n : Int) : V.free (.int k n) = true := rfl
@[simp] theorem free_bool (b : Bool) : V.free (.bool b) = true := rfl
@[simp] theorem free_val (v : Value) : V.free (.val v) = true := rfl
@[simp] theorem free_sl (s : Nat) (l : List (List V)) (x : Bool) : V.free (.sl s l x) = V.free.freeLL l := rfl
@[simp] theorem free_agg (l : List V) : V.free (.agg l) = V.free.freeL l := rfl
@[simp] theorem freeL_nil : V.free.freeL [] = true := rfl
@[simp] theorem freeL_cons (v : V) (l : List V) : V.free.freeL (v :: l) = (v.free && V.free.freeL l) := rfl
@[simp] theorem freeLL_nil : V.free.freeLL [] = true := rfl
@[simp] theorem freeLL_cons (v : List V) (l : List (List V)) : V.free.freeLL (v :: l) = (V.free.freeL v && V.free.freeLL l) := rfl
theorem free_map {α : Type} (v : α -> List V) (hv : ∀ x, V.free.freeL (v x) = true) : ∀ l : List α, V.free.freeLL (l.map v) = true
  | [] => rfl
  | x :: l => by rw [List.map_cons, freeLL_cons, hv, free_map v hv l]; rfl
@[simp] theorem free_ints (k : IntKind) (l : List Int) : V.free.freeLL (l.map (intV k)) = true := free_map _ (fun _ => rfl) l
@[simp] theorem simple_one_int (k : IntKind) (n : Int) : V.simple.simpleL [.int k n] = true := rfl
@[simp] theorem simple_one_bool (b : Bool) : V.simple.simpleL [.bool b] = true := rfl
theorem gcw_ret {args : List V} {vs : List V} {h' h : Heap} (ha : V.free.freeL args = true) (hv : V.free.freeL vs = true) : gcw args (some (.ret vs, h')) h = some (.ret vs, h) := by
  simp [gcw, ha, hv]
@[simp] theorem get_ints (k : IntKind) (l : List Int) (n : Nat) : (l.map (intV k))[n]? = (l[n]?).map (intV k) := List.getElem?_map
end Go.Proofs.Try
set_option linter.unusedVariables false
namespace Go.Proofs.Try
open Go.L
set_option maxRecDepth 100000
noncomputable def lawFull12_l39 (n : Nat) (x1 : Int) (v3 : V) (v17 : V) (st19 : List V) (v38 : V) (st40 : List V) (hh41 : Heap) (next42 : List V -> Heap -> Option (Res × Heap)) : Option (Res × Heap) :=
 (bd (slcH hh41 v38) fun p43 =>
 (bd (bop prog .lss 3 (gv st40 1) (V.int .i64 ((p43.2).length : Int))) fun v44 =>
 (bv v44 fun b45 => if b45 then
 (bdS (nv (gv st40 1)) fun n46 =>
 (bd (idxP 2 n46 v38) fun p47 =>
 (bd (addP 0 p47) fun p48 =>
 (bd3 (cellsP hh41 p48) fun cs50 m49 o51 => if (o51 + 1 <= m49 /\ 0 < 1) then
 (bd (cs50)[o51]? fun v52 =>
 (bd (bop prog .neq 5 v52 (V.int .u8 5)) fun v53 =>
 (bv v53 fun b54 => if b54 then
 (bdS (nv (gv st40 1)) fun n55 =>
 (bd (idxP 2 n55 v38) fun p56 =>
 (bd (addP 0 p56) fun p57 =>
 (bd3 (cellsP hh41 p57) fun cs59 m58 o60 => if (o60 + 1 <= m58 /\ 0 < 1) then
 (bd (cs59)[o60]? fun v61 =>
 (bd (bop prog .neq 5 v61 (V.int .u8 3)) fun v62 =>
 (bv v62 fun b63 => if b63 then
 some (Res.ret [(V.bool false)], hh41)
 else
 (bd (bop prog .add 3 (gv st40 1) (V.int .i64 1)) fun v64 =>
 (next42 [(gv st40 0), v64] hh41))))) else none))))
 else
 (bd (bop prog .add 3 (gv st40 1) (V.int .i64 1)) fun v65 =>
 (next42 [(gv st40 0), v65] hh41))))) else none))))
 else
 (cl (call n 8 [] hh41) (fun r66 h67 =>
 (one1 r66 fun v69 =>
 (bv v69 fun b70 => if b70 then
 (bd (slcH h67 v38) fun p71 =>
 (if (((p71.2).length : Int) == (((lsl (gv st19 0))).length : Int)) then
 (cl (call n 7 [v3] h67) (fun r72 h73 =>
 (one1 r72 fun v75 =>
 (cl (call n 9 [v75, v17] h73) (fun r76 h77 =>
 (one1 r76 fun v79 =>
 (bv v79 fun b80 => if b80 then
 (bd (slcH h77 v17) fun p81 =>
 (if (decide (((p81.2).length : Int) <= (IntKind.i64.wrap (Int.tmod x1 6)))) then
 (cl (call n 10 [v3] h77) (fun r82 h83 =>
 (one1 r82 fun v85 =>
 (bd (slcH h83 v17) fun p86 =>
 (bd (bop prog .eql 3 v85 (V.int .i64 ((p86.2).length : Int))) fun v87 =>
 some (Res.ret [v87], h83))))) (fun z84 h83 => some (Res.pan z84, h83)))
 else
 some (Res.ret [(V.bool false)], h77)))
 else
 some (Res.ret [(V.bool false)], h77)))) (fun z78 h77 => some (Res.pan z78, h77))))) (fun z74 h73 => some (Res.pan z74, h73)))
 else
 some (Res.ret [(V.bool false)], h67)))
 else
 some (Res.ret [(V.bool false)], h67)))) (fun z68 h67 => some (Res.pan z68, h67))))))
noncomputable def lawFull12_l18 (n : Nat) (x1 : Int) (x3 : Int) (v3 : V) (v17 : V) (st19 : List V) (hh20 : Heap) (next21 : List V -> Heap -> Option (Res × Heap)) : Option (Res × Heap) :=
 (bd (bop prog .lss 3 (gv st19 1) (V.int .i64 (IntKind.i64.wrap (Int.tmod x3 9)))) fun v22 =>
 (bv v22 fun b23 => if b23 then
 (bd (cvt prog 3 21 (gv st19 1)) fun v24 =>
 (bd (bldV prog 32 [(0, (V.int .u8 9)), (1, v24)]) fun cs25 =>
 (bd (bslV prog 27 1 [(0, (V.agg cs25))]) fun p26 =>
 (bd (app 32 2 (S.own 32 2 (lsl (gv st19 0))) p26.2) fun l27 =>
 (bd (slcH hh20 v17) fun p28 =>
 (if (((p28.2).length : Int) == (IntKind.i64.wrap (Int.tmod x1 6))) then
 (bd (cvt prog 3 21 (gv st19 1)) fun v29 =>
 (bd (bldV prog 32 [(0, (V.int .u8 1)), (1, v29)]) fun cs30 =>
 (bd (bslV prog 27 1 [(0, (V.agg cs30))]) fun p31 =>
 (bd (app 32 2 (S.own 32 2 l27) p31.2) fun l32 =>
 (bd (bop prog .add 3 (gv st19 1) (V.int .i64 1)) fun v33 =>
 (next21 [(V.sl 2 l32 false), v33] hh20))))))
 else
 (bd (bop prog .add 3 (gv st19 1) (V.int .i64 1)) fun v34 =>
 (next21 [(V.sl 2 l27 false), v34] hh20))))))))
 else
 (cl (call n 5 [v3, (V.sl 2 (lsl (gv st19 0)) false)] hh20) (fun r35 h36 =>
 (one1 r35 fun v38 =>
 (loopx n (lawFull12_l39 n x1 v3 v17 st19 v38) [(V.bool false), (V.int .i64 0)] h36))) (fun z37 h36 => some (Res.pan z37, h36)))))
noncomputable def lawFull12 (n : Nat) (x0 : Int) (x1 : Int) (x2 : List (List V)) (x2b : Bool) (x3 : Int) : Option (Res × Heap) :=
 (cl (call n 4 [(V.int .u8 (IntKind.u8.wrap (1 + (Int.tmod x0 3)))), (V.int .i64 (IntKind.i64.wrap (Int.tmod x1 6))), (V.bool false)] []) (fun r0 h1 =>
 (one1 r0 fun v3 =>
 (bd (bopH prog h1 .eql 23 v3 (V.val (.pointer none))) fun v4 =>
 (bv v4 fun b5 => if b5 then
 some (Res.ret [(V.bool false)], h1)
 else
 (cl (call n 6 [(V.sl 1 x2 x2b), (V.int .u8 2)] h1) (fun r6 h7 =>
 (one1 r6 fun v9 =>
 (cl (call n 5 [v3, v9] h7) (fun r10 h11 =>
 (one1 r10 fun v13 =>
 (cl (call n 7 [v3] h11) (fun r14 h15 =>
 (one1 r14 fun v17 =>
 (loopx n (lawFull12_l18 n x1 x3 v3 v17) [(V.sl 2 [] false), (V.int .i64 0)] h15))) (fun z16 h15 => some (Res.pan z16, h15))))) (fun z12 h11 => some (Res.pan z12, h11))))) (fun z8 h7 => some (Res.pan z8, h7))))))) (fun z2 h1 => some (Res.pan z2, h1)))
theorem lawFull12_eq (n : Nat) (x0 : Int) (x1 : Int) (x2 : List (List V)) (x2b : Bool) (x3 : Int) (h : Heap) : call (n + 1) 3 [(V.int .u8 x0), (V.int .u8 x1), (V.sl 1 x2 x2b), (V.int .u8 x3)] h = gcw [(V.int .u8 x0), (V.int .u8 x1), (V.sl 1 x2 x2b), (V.int .u8 x3)] (lawFull12 n x0 x1 x2 x2b x3) h := by kernel_rfl
end Go.Proofs.Try
set_option linter.unusedVariables false
namespace Go.Proofs.Try
open Go.L
set_option maxRecDepth 100000
noncomputable def stkNew (n : Nat) (x0 : Int) (h : Heap) : Option (Res × Heap) :=
 some (Res.ret [(V.ptr (h).length 0)], (h ++ [(HB.box 2 [(V.sl 0 [] true), (V.int .i64 (if 0 < (if 1000 < x0 then 1000 else x0) then (if 1000 < x0 then 1000 else x0) else 0))])]))
theorem stkNew_eq (n : Nat) (x0 : Int) (h : Heap) : call (n + 1) 12 [(V.int .i64 x0)] h = stkNew n x0 h := by kernel_rfl
noncomputable def stkpush (n : Nat) (s : Nat) (x : Int) (h : Heap) : Option (Res × Heap) :=
 (cl (call n 46 [(V.ptr s 0), (V.int .i32 x)] h) (fun r0 h1 =>
 (one1 r0 fun v3 =>
 (bv v3 fun b4 => if b4 then
 some (Res.ret [(V.agg [(V.int .u8 1), (V.int .i32 0)])], h1)
 else
 some (Res.ret [(V.agg [(V.int .u8 3), (V.int .i32 0)])], h1)))) (fun z2 h1 => some (Res.pan z2, h1)))
theorem stkpush_eq (n : Nat) (s : Nat) (x : Int) (h : Heap) : call (n + 1) 55 [(V.ptr s 0), (V.int .i32 x)] h = stkpush n s x h := by kernel_rfl
noncomputable def stkpop (n : Nat) (s : Nat) (h : Heap) : Option (Res × Heap) :=
 (cl (call n 50 [(V.ptr s 0)] h) (fun r0 h1 =>
 (bd (r0)[0]? fun v3 =>
 (bd (r0)[1]? fun v4 =>
 (bv v4 fun b5 => if b5 then
 (bd (bldV prog 34 [(0, (V.int .u8 2)), (1, v3)]) fun cs6 =>
 (if (cs6).length = 2 then
 (if ((cs6).length <= 2) then
 some (Res.ret [(V.agg (((setR [(V.int .u8 0), (V.int .i32 0)] 0 cs6)).drop 0 |>.take 2))], h1) else none) else none))
 else
 some (Res.ret [(V.agg [(V.int .u8 4), (V.int .i32 0)])], h1))))) (fun z2 h1 => some (Res.pan z2, h1)))
noncomputable def stkPush (n : Nat) (s : Nat) (x : Int) (h : Heap) : Option (Res × Heap) :=
 (bd (bopH prog h .eql 42 (V.ptr s 0) (V.val (.pointer none))) fun v0 =>
 (bv v0 fun b1 => if b1 then
 some (Res.ret [(V.bool false)], h)
 else
 (bd3 (cellsP h (V.ptr s 0)) fun cs3 m2 o4 => if (o4 + 1 <= m2 /\ 0 < 1) then
 (bd (cs3)[o4]? fun v5 =>
 (bd (slcH h v5) fun p6 =>
 (bd3 (cellsP h (V.ptr s 1)) fun cs8 m7 o9 => if (o9 + 1 <= m7 /\ 0 < 1) then
 (bd (cs8)[o9]? fun v10 =>
 (bd (bop prog .geq 3 (V.int .i64 ((p6.2).length : Int)) v10) fun v11 =>
 (bv v11 fun b12 => if b12 then
 some (Res.ret [(V.bool false)], h)
 else
 (bd3 (cellsP h (V.ptr s 0)) fun cs14 m13 o15 => if (o15 + 1 <= m13 /\ 0 < 1) then
 (bd (cs14)[o15]? fun v16 =>
 (bd2 (appP 21 1 h [[(V.int .i32 x)]] v16) fun v17 h18 =>
 (if ((V.cells v17)).length = 1 then
 (bd2 (writeB h18 (V.cells v17) (V.ptr s 0)) fun b19 x20 =>
 some (Res.ret [(V.bool true)], ((h18).set b19 x20))) else none))) else none)))) else none))) else none)))
theorem stkPush_eq (n : Nat) (s : Nat) (x : Int) (h : Heap) : call (n + 1) 46 [(V.ptr s 0), (V.int .i32 x)] h = stkPush n s x h := by kernel_rfl
noncomputable def stkPop (n : Nat) (s : Nat) (h : Heap) : Option (Res × Heap) :=
 (cl (call n 36 [(V.ptr s 0)] h) (fun r0 h1 =>
 (one1 r0 fun v3 =>
 (bd (bop prog .eql 3 v3 (V.int .i64 0)) fun v4 =>
 (bv v4 fun b5 => if b5 then
 some (Res.ret [(V.int .i32 0), (V.bool false)], h1)
 else
 (bd3 (cellsP h1 (V.ptr s 0)) fun cs7 m6 o8 => if (o8 + 1 <= m6 /\ 0 < 1) then
 (bd (cs7)[o8]? fun v9 =>
 (bd (slcH h1 v9) fun p10 =>
 (bd3 (cellsP h1 (V.ptr s 0)) fun cs12 m11 o13 => if (o13 + 1 <= m11 /\ 0 < 1) then
 (bd (cs12)[o13]? fun v14 =>
 (bdS (nv (V.int .i64 (IntKind.i64.wrap (((p10.2).length : Int) - 1)))) fun n15 =>
 (bd (idxP 1 n15 v14) fun p16 =>
 (bd3 (cellsP h1 p16) fun cs18 m17 o19 => if (o19 + 1 <= m17 /\ 0 < 1) then
 (bd (cs18)[o19]? fun v20 =>
 (bd3 (cellsP h1 (V.ptr s 0)) fun cs22 m21 o23 => if (o23 + 1 <= m21 /\ 0 < 1) then
 (bd (cs22)[o23]? fun v24 =>
 (bd (lenP v24) fun n25 =>
 (bdS (nv (V.int .i64 (IntKind.i64.wrap (((p10.2).length : Int) - 1)))) fun n26 =>
 (bd (sliceP 1 0 n26 (none : Option Nat) true v24) fun v27 =>
 (if ((V.cells v27)).length = 1 then
 (bd2 (writeB h1 (V.cells v27) (V.ptr s 0)) fun b28 x29 =>
 some (Res.ret [v20, (V.bool true)], ((h1).set b28 x29))) else none))))) else none)) else none)))) else none))) else none))))) (fun z2 h1 => some (Res.pan z2, h1)))
theorem stkPop_eq (n : Nat) (s : Nat) (h : Heap) : call (n + 1) 50 [(V.ptr s 0)] h = stkPop n s h := by kernel_rfl
noncomputable def stkItems (n : Nat) (s : Nat) (h : Heap) : Option (Res × Heap) :=
 (bd (bopH prog h .eql 42 (V.ptr s 0) (V.val (.pointer none))) fun v0 =>
 (bv v0 fun b1 => if b1 then
 some (Res.ret [(V.sl 1 [] false)], h)
 else
 (bd3 (cellsP h (V.ptr s 0)) fun cs3 m2 o4 => if (o4 + 1 <= m2 /\ 0 < 1) then
 (bd (cs3)[o4]? fun v5 =>
 (bd (slcH h v5) fun p6 =>
 (if ((p6.1 = 1 \/ (p6.2).isEmpty = true) /\ (p6.2).length < lim) then
 some (Res.ret [(V.sl 1 p6.2 false)], h) else none))) else none)))
theorem stkItems_eq (n : Nat) (s : Nat) (h : Heap) : call (n + 1) 35 [(V.ptr s 0)] h = stkItems n s h := by kernel_rfl
noncomputable def stkLen (n : Nat) (s : Nat) (h : Heap) : Option (Res × Heap) :=
 (bd (bopH prog h .eql 42 (V.ptr s 0) (V.val (.pointer none))) fun v0 =>
 (bv v0 fun b1 => if b1 then
 some (Res.ret [(V.int .i64 0)], h)
 else
 (bd3 (cellsP h (V.ptr s 0)) fun cs3 m2 o4 => if (o4 + 1 <= m2 /\ 0 < 1) then
 (bd (cs3)[o4]? fun v5 =>
 (bd (slcH h v5) fun p6 =>
 some (Res.ret [(V.int .i64 ((p6.2).length : Int))], h))) else none)))
theorem stkLen_eq (n : Nat) (s : Nat) (h : Heap) : call (n + 1) 36 [(V.ptr s 0)] h = stkLen n s h := by kernel_rfl
noncomputable def stkMost (n : Nat) (s : Nat) (h : Heap) : Option (Res × Heap) :=
 (bd (bopH prog h .eql 42 (V.ptr s 0) (V.val (.pointer none))) fun v0 =>
 (bv v0 fun b1 => if b1 then
 some (Res.ret [(V.int .i64 0)], h)
 else
 (bd3 (cellsP h (V.ptr s 1)) fun cs3 m2 o4 => if (o4 + 1 <= m2 /\ 0 < 1) then
 (bd (cs3)[o4]? fun v5 =>
 some (Res.ret [v5], h)) else none)))
theorem stkMost_eq (n : Nat) (s : Nat) (h : Heap) : call (n + 1) 44 [(V.ptr s 0)] h = stkMost n s h := by kernel_rfl
noncomputable def stkDo0 (n : Nat) (s : Nat) (x : Int) (h : Heap) : Option (Res × Heap) :=
 (if (decide (0 ≥ 3)) then
 some (Res.ret [(V.agg [(V.int .u8 5), (V.int .i32 0)])], h)
 else
 some (Res.ret [(V.agg [(V.int .u8 5), (V.int .i32 0)])], h))
theorem stkDo0_eq (n : Nat) (s : Nat) (x : Int) (h : Heap) : call (n + 2) 43 [(V.ptr s 0), (V.agg [(V.int .u8 0), (V.int .i32 x)])] h = stkDo0 (n + 1) s x h := by kernel_rfl
noncomputable def stkDo1 (n : Nat) (s : Nat) (x : Int) (h : Heap) : Option (Res × Heap) :=
 (if (decide (1 ≥ 3)) then
 some (Res.ret [(V.agg [(V.int .u8 5), (V.int .i32 0)])], h)
 else
 (cl (call n 55 [(V.ptr s 0), (V.int .i32 x)] h) (fun r3 h4 =>
 (one1 r3 fun v6 =>
 (if ((V.cells v6)).length = 2 then
 (if (((V.cells v6)).length <= 2) then
 some (Res.ret [(V.agg (((setR [(V.int .u8 0), (V.int .i32 0)] 0 (V.cells v6))).drop 0 |>.take 2))], h4) else none) else none))) (fun z5 h4 => none)))
theorem stkDo1_eq (n : Nat) (s : Nat) (x : Int) (h : Heap) : call (n + 2) 43 [(V.ptr s 0), (V.agg [(V.int .u8 1), (V.int .i32 x)])] h = stkDo1 (n + 1) s x h := by kernel_rfl
noncomputable def stkDo2 (n : Nat) (s : Nat) (x : Int) (h : Heap) : Option (Res × Heap) :=
 (if (decide (2 ≥ 3)) then
 some (Res.ret [(V.agg [(V.int .u8 5), (V.int .i32 0)])], h)
 else
 (cl (call n 56 [(V.ptr s 0), (V.int .i32 x)] h) (fun r3 h4 =>
 (one1 r3 fun v6 =>
 (if ((V.cells v6)).length = 2 then
 (if (((V.cells v6)).length <= 2) then
 some (Res.ret [(V.agg (((setR [(V.int .u8 0), (V.int .i32 0)] 0 (V.cells v6))).drop 0 |>.take 2))], h4) else none) else none))) (fun z5 h4 => none)))
theorem stkDo2_eq (n : Nat) (s : Nat) (x : Int) (h : Heap) : call (n + 2) 43 [(V.ptr s 0), (V.agg [(V.int .u8 2), (V.int .i32 x)])] h = stkDo2 (n + 1) s x h := by kernel_rfl
end Go.Proofs.Try
set_option linter.unusedVariables false
namespace Go.Proofs.Try
open Go.L
set_option maxRecDepth 100000
noncomputable def coinNew (n : Nat) (h : Heap) : Option (Res × Heap) :=
 some (Res.ret [(V.ptr (h).length 0)], (h ++ [(HB.box 1 [(V.sl 0 [] true)])]))
theorem coinNew_eq (n : Nat) (h : Heap) : call (n + 1) 17 [] h = coinNew n h := by kernel_rfl
noncomputable def coinLeft (n : Nat) (c : Nat) (h : Heap) : Option (Res × Heap) :=
 (bd (bopH prog h .eql 55 (V.ptr c 0) (V.val (.pointer none))) fun v0 =>
 (bv v0 fun b1 => if b1 then
 some (Res.ret [(V.int .i64 0)], h)
 else
 (bd3 (cellsP h (V.ptr c 0)) fun cs3 m2 o4 => if (o4 + 1 <= m2 /\ 0 < 1) then
 (bd (cs3)[o4]? fun v5 =>
 (bd (slcH h v5) fun p6 =>
 some (Res.ret [(V.int .i64 ((p6.2).length : Int))], h))) else none)))
theorem coinLeft_eq (n : Nat) (c : Nat) (h : Heap) : call (n + 1) 110 [(V.ptr c 0)] h = coinLeft n c h := by kernel_rfl
noncomputable def coinToss (n : Nat) (c : Nat) (h : Heap) : Option (Res × Heap) :=
 (cl (call n 110 [(V.ptr c 0)] h) (fun r0 h1 =>
 (one1 r0 fun v3 =>
 (bd (bop prog .eql 3 v3 (V.int .i64 0)) fun v4 =>
 (bv v4 fun b5 => if b5 then
 some (Res.ret [(V.bool false)], h1)
 else
 (bd3 (cellsP h1 (V.ptr c 0)) fun cs7 m6 o8 => if (o8 + 1 <= m6 /\ 0 < 1) then
 (bd (cs7)[o8]? fun v9 =>
 (bd (idxP 1 0 v9) fun p10 =>
 (bd3 (cellsP h1 p10) fun cs12 m11 o13 => if (o13 + 1 <= m11 /\ 0 < 1) then
 (bd (cs12)[o13]? fun v14 =>
 (bd3 (cellsP h1 (V.ptr c 0)) fun cs16 m15 o17 => if (o17 + 1 <= m15 /\ 0 < 1) then
 (bd (cs16)[o17]? fun v18 =>
 (bd (lenP v18) fun n19 =>
 (bd (sliceP 1 1 n19 (none : Option Nat) true v18) fun v20 =>
 (if ((V.cells v20)).length = 1 then
 (bd2 (writeB h1 (V.cells v20) (V.ptr c 0)) fun b21 x22 =>
 some (Res.ret [v14], ((h1).set b21 x22))) else none)))) else none)) else none))) else none))))) (fun z2 h1 => some (Res.pan z2, h1)))
theorem coinToss_eq (n : Nat) (c : Nat) (h : Heap) : call (n + 1) 100 [(V.ptr c 0)] h = coinToss n c h := by kernel_rfl
noncomputable def coinHeight_l0 (n : Nat) (c : Nat) (st1 : List V) (hh2 : Heap) (next3 : List V -> Heap -> Option (Res × Heap)) : Option (Res × Heap) :=
 (bd (bop prog .eql 3 (gv st1 0) (V.int .i64 8)) fun v4 =>
 (bv v4 fun b5 => if b5 then
 some (Res.ret [(gv st1 0)], hh2)
 else
 (cl (call n 100 [(V.ptr c 0)] hh2) (fun r6 h7 =>
 (one1 r6 fun v9 =>
 (bd (uop .not v9) fun v10 =>
 (bv v10 fun b11 => if b11 then
 some (Res.ret [(gv st1 0)], h7)
 else
 (bd (bop prog .add 3 (gv st1 0) (V.int .i64 1)) fun v12 =>
 (next3 [v12] h7)))))) (fun z8 h7 => some (Res.pan z8, h7)))))
noncomputable def coinHeight (n : Nat) (c : Nat) (h : Heap) : Option (Res × Heap) :=
 (loopx n (coinHeight_l0 n c) [(V.int .i64 1)] h)
theorem coinHeight_eq (n : Nat) (c : Nat) (h : Heap) : call (n + 1) 94 [(V.ptr c 0)] h = coinHeight n c h := by kernel_rfl
noncomputable def skipNew (n : Nat) (x0 : Int) (h : Heap) : Option (Res × Heap) :=
 some (Res.ret [(V.ptr (h).length 0)], (h ++ [(HB.box 12 [(V.int .i32 0), (V.int .i64 0), (V.val (.pointer none)), (V.val (.pointer none)), (V.val (.pointer none)), (V.val (.pointer none)), (V.val (.pointer none)), (V.val (.pointer none)), (V.val (.pointer none)), (V.val (.pointer none)), (V.int .i64 0), (V.int .i64 (if 0 < (if 1000 < x0 then 1000 else x0) then (if 1000 < x0 then 1000 else x0) else 0))])]))
theorem skipNew_eq (n : Nat) (x0 : Int) (h : Heap) : call (n + 1) 16 [(V.int .i64 x0)] h = skipNew n x0 h := by kernel_rfl
noncomputable def skipMost (n : Nat) (s : Nat) (h : Heap) : Option (Res × Heap) :=
 (bd (bopH prog h .eql 50 (V.ptr s 0) (V.val (.pointer none))) fun v0 =>
 (bv v0 fun b1 => if b1 then
 some (Res.ret [(V.int .i64 0)], h)
 else
 (bd3 (cellsP h (V.ptr s 11)) fun cs3 m2 o4 => if (o4 + 1 <= m2 /\ 0 < 1) then
 (bd (cs3)[o4]? fun v5 =>
 some (Res.ret [v5], h)) else none)))
theorem skipMost_eq (n : Nat) (s : Nat) (h : Heap) : call (n + 1) 93 [(V.ptr s 0)] h = skipMost n s h := by kernel_rfl
noncomputable def skipLen (n : Nat) (s : Nat) (h : Heap) : Option (Res × Heap) :=
 (bd (bopH prog h .eql 50 (V.ptr s 0) (V.val (.pointer none))) fun v0 =>
 (bv v0 fun b1 => if b1 then
 some (Res.ret [(V.int .i64 0)], h)
 else
 (bd3 (cellsP h (V.ptr s 10)) fun cs3 m2 o4 => if (o4 + 1 <= m2 /\ 0 < 1) then
 (bd (cs3)[o4]? fun v5 =>
 some (Res.ret [v5], h)) else none)))
theorem skipLen_eq (n : Nat) (s : Nat) (h : Heap) : call (n + 1) 83 [(V.ptr s 0)] h = skipLen n s h := by kernel_rfl
noncomputable def skipBegin_l0 (n : Nat) (s : Nat) (st1 : List V) (hh2 : Heap) (next3 : List V -> Heap -> Option (Res × Heap)) : Option (Res × Heap) :=
 (bd (bop prog .lss 3 (gv st1 2) (V.int .i64 8)) fun v4 =>
 (bv v4 fun b5 => if b5 then
 (bd (nv (gv st1 2)) fun n6 =>
 (if (n6 < 8) then
 (if (0 = 0 /\ (n6 * 1) + 1 <= 8) then
 (bd (bop prog .add 3 (gv st1 2) (V.int .i64 1)) fun v7 =>
 (next3 [(V.agg (lcs (gv st1 0))), (V.agg (setR (lcs (gv st1 1)) (n6 * 1) [(V.ptr s 0)])), v7] hh2)) else none) else none))
 else
 (if ((((lcs (gv st1 1))).drop 0 |>.take 8)).length = 8 then
 (if (((((lcs (gv st1 1))).drop 0 |>.take 8)).length <= 8) then
 some (Res.ret [(V.agg (((setR (lcs (gv st1 0)) 0 (((lcs (gv st1 1))).drop 0 |>.take 8))).drop 0 |>.take 8))], hh2) else none) else none)))
noncomputable def skipBegin (n : Nat) (s : Nat) (h : Heap) : Option (Res × Heap) :=
 (loopx n (skipBegin_l0 n s) [(V.agg [(V.val (.pointer none)), (V.val (.pointer none)), (V.val (.pointer none)), (V.val (.pointer none)), (V.val (.pointer none)), (V.val (.pointer none)), (V.val (.pointer none)), (V.val (.pointer none))]), (V.agg [(V.val (.pointer none)), (V.val (.pointer none)), (V.val (.pointer none)), (V.val (.pointer none)), (V.val (.pointer none)), (V.val (.pointer none)), (V.val (.pointer none)), (V.val (.pointer none))]), (V.int .i64 0)] h)
theorem skipBegin_eq (n : Nat) (s : Nat) (h : Heap) : call (n + 1) 102 [(V.ptr s 0)] h = skipBegin n s h := by kernel_rfl
noncomputable def further (n : Nat) (t : Nat) (o : Nat) (h : Heap) : Option (Res × Heap) :=
 (bd (bopH prog h .eql 67 (V.ptr t 0) (V.ptr o 0)) fun v0 =>
 (bv v0 fun b1 => if b1 then
 some (Res.ret [(V.bool false)], h)
 else
 (bd3 (cellsP h (V.ptr t 1)) fun cs3 m2 o4 => if (o4 + 1 <= m2 /\ 0 < 1) then
 (bd (cs3)[o4]? fun v5 =>
 (bd (bop prog .eql 3 v5 (V.int .i64 0)) fun v6 =>
 (bv v6 fun b7 => if b7 then
 some (Res.ret [(V.bool false)], h)
 else
 (bd3 (cellsP h (V.ptr o 1)) fun cs9 m8 o10 => if (o10 + 1 <= m8 /\ 0 < 1) then
 (bd (cs9)[o10]? fun v11 =>
 (bd (bop prog .eql 3 v11 (V.int .i64 0)) fun v12 =>
 (bv v12 fun b13 => if b13 then
 some (Res.ret [(V.bool true)], h)
 else
 (bd3 (cellsP h (V.ptr t 0)) fun cs15 m14 o16 => if (o16 + 1 <= m14 /\ 0 < 1) then
 (bd (cs15)[o16]? fun v17 =>
 (bd3 (cellsP h (V.ptr o 0)) fun cs19 m18 o20 => if (o20 + 1 <= m18 /\ 0 < 1) then
 (bd (cs19)[o20]? fun v21 =>
 (bd (bop prog .geq 21 v17 v21) fun v22 =>
 some (Res.ret [v22], h))) else none)) else none)))) else none)))) else none)))
theorem further_eq (n : Nat) (t : Nat) (o : Nat) (h : Heap) : call (n + 1) 112 [(V.ptr t 0), (V.ptr o 0)] h = further n t o h := by kernel_rfl
noncomputable def tall (n : Nat) (x0 : Int) (x1 : Int) (h : Heap) : Option (Res × Heap) :=
 some (Res.ret [(V.ptr (h).length 0)], (h ++ [(HB.box 10 [(V.int .i32 x0), (V.int .i64 (if 1 < (if 8 < x1 then 8 else x1) then (if 8 < x1 then 8 else x1) else 1)), (V.val (.pointer none)), (V.val (.pointer none)), (V.val (.pointer none)), (V.val (.pointer none)), (V.val (.pointer none)), (V.val (.pointer none)), (V.val (.pointer none)), (V.val (.pointer none))])]))
theorem tall_eq (n : Nat) (x0 : Int) (x1 : Int) (h : Heap) : call (n + 1) 105 [(V.int .i32 x0), (V.int .i64 x1)] h = tall n x0 x1 h := by kernel_rfl
noncomputable def pathOn_l18 (n : Nat) (v : Int) (st1 : List V) (next3 : List V -> Heap -> Option (Res × Heap)) (st19 : List V) (hh20 : Heap) (next21 : List V -> Heap -> Option (Res × Heap)) : Option (Res × Heap) :=
 (bd (bopH prog hh20 .neq 67 (gv st19 3) (V.val (.pointer none))) fun v22 =>
 (bv v22 fun b23 => if b23 then
 (bd (addP 0 (gv st19 3)) fun p24 =>
 (bd (addP 0 p24) fun p25 =>
 (bd3 (cellsP hh20 p25) fun cs27 m26 o28 => if (o28 + 1 <= m26 /\ 0 < 1) then
 (bd (cs27)[o28]? fun v29 =>
 (bd (bop prog .leq 21 v29 (V.int .i32 v)) fun v30 =>
 (bv v30 fun b31 => if b31 then
 (bd (addP 0 (gv st19 3)) fun p32 =>
 (bd (addP 2 p32) fun p33 =>
 (bd (nv (gv st1 3)) fun n34 =>
 (if (n34 < 8) then
 (bd (addP (n34 * 1) p33) fun p35 =>
 (bd3 (cellsP hh20 p35) fun cs37 m36 o38 => if (o38 + 1 <= m36 /\ 0 < 1) then
 (bd (cs37)[o38]? fun v39 =>
 (next21 [(V.agg (lcs (gv st19 0))), (V.agg (lcs (gv st19 1))), (gv st19 3), v39] hh20)) else none)) else none))))
 else
 (bd (nv (gv st1 3)) fun n40 =>
 (if (n40 < 8) then
 (if ((V.cells (gv st19 2))).length = 1 then
 (if (0 = 0 /\ (n40 * 1) + ((V.cells (gv st19 2))).length <= 8) then
 (bd (bop prog .sub 3 (gv st1 3) (V.int .i64 1)) fun v41 =>
 (next3 [(V.agg (setR (lcs (gv st19 0)) (n40 * 1) (V.cells (gv st19 2)))), (V.agg (lcs (gv st19 1))), (gv st19 2), v41] hh20)) else none) else none) else none))))) else none)))
 else
 (bd (nv (gv st1 3)) fun n42 =>
 (if (n42 < 8) then
 (if ((V.cells (gv st19 2))).length = 1 then
 (if (0 = 0 /\ (n42 * 1) + ((V.cells (gv st19 2))).length <= 8) then
 (bd (bop prog .sub 3 (gv st1 3) (V.int .i64 1)) fun v43 =>
 (next3 [(V.agg (setR (lcs (gv st19 0)) (n42 * 1) (V.cells (gv st19 2)))), (V.agg (lcs (gv st19 1))), (gv st19 2), v43] hh20)) else none) else none) else none))))
noncomputable def pathOn_l61 (n : Nat) (v : Int) (st1 : List V) (next3 : List V -> Heap -> Option (Res × Heap)) (st62 : List V) (hh63 : Heap) (next64 : List V -> Heap -> Option (Res × Heap)) : Option (Res × Heap) :=
 (bd (bopH prog hh63 .neq 67 (gv st62 3) (V.val (.pointer none))) fun v65 =>
 (bv v65 fun b66 => if b66 then
 (bd (addP 0 (gv st62 3)) fun p67 =>
 (bd (addP 0 p67) fun p68 =>
 (bd3 (cellsP hh63 p68) fun cs70 m69 o71 => if (o71 + 1 <= m69 /\ 0 < 1) then
 (bd (cs70)[o71]? fun v72 =>
 (bd (bop prog .leq 21 v72 (V.int .i32 v)) fun v73 =>
 (bv v73 fun b74 => if b74 then
 (bd (addP 0 (gv st62 3)) fun p75 =>
 (bd (addP 2 p75) fun p76 =>
 (bd (nv (gv st1 3)) fun n77 =>
 (if (n77 < 8) then
 (bd (addP (n77 * 1) p76) fun p78 =>
 (bd3 (cellsP hh63 p78) fun cs80 m79 o81 => if (o81 + 1 <= m79 /\ 0 < 1) then
 (bd (cs80)[o81]? fun v82 =>
 (next64 [(V.agg (lcs (gv st62 0))), (V.agg (lcs (gv st62 1))), (gv st62 3), v82] hh63)) else none)) else none))))
 else
 (bd (nv (gv st1 3)) fun n83 =>
 (if (n83 < 8) then
 (if ((V.cells (gv st62 2))).length = 1 then
 (if (0 = 0 /\ (n83 * 1) + ((V.cells (gv st62 2))).length <= 8) then
 (bd (bop prog .sub 3 (gv st1 3) (V.int .i64 1)) fun v84 =>
 (next3 [(V.agg (setR (lcs (gv st62 0)) (n83 * 1) (V.cells (gv st62 2)))), (V.agg (lcs (gv st62 1))), (gv st62 2), v84] hh63)) else none) else none) else none))))) else none)))
 else
 (bd (nv (gv st1 3)) fun n85 =>
 (if (n85 < 8) then
 (if ((V.cells (gv st62 2))).length = 1 then
 (if (0 = 0 /\ (n85 * 1) + ((V.cells (gv st62 2))).length <= 8) then
 (bd (bop prog .sub 3 (gv st1 3) (V.int .i64 1)) fun v86 =>
 (next3 [(V.agg (setR (lcs (gv st62 0)) (n85 * 1) (V.cells (gv st62 2)))), (V.agg (lcs (gv st62 1))), (gv st62 2), v86] hh63)) else none) else none) else none))))
noncomputable def pathOn_l95 (n : Nat) (v : Int) (st1 : List V) (next3 : List V -> Heap -> Option (Res × Heap)) (st96 : List V) (hh97 : Heap) (next98 : List V -> Heap -> Option (Res × Heap)) : Option (Res × Heap) :=
 (bd (bopH prog hh97 .neq 67 (gv st96 3) (V.val (.pointer none))) fun v99 =>
 (bv v99 fun b100 => if b100 then
 (bd (addP 0 (gv st96 3)) fun p101 =>
 (bd (addP 0 p101) fun p102 =>
 (bd3 (cellsP hh97 p102) fun cs104 m103 o105 => if (o105 + 1 <= m103 /\ 0 < 1) then
 (bd (cs104)[o105]? fun v106 =>
 (bd (bop prog .leq 21 v106 (V.int .i32 v)) fun v107 =>
 (bv v107 fun b108 => if b108 then
 (bd (addP 0 (gv st96 3)) fun p109 =>
 (bd (addP 2 p109) fun p110 =>
 (bd (nv (gv st1 3)) fun n111 =>
 (if (n111 < 8) then
 (bd (addP (n111 * 1) p110) fun p112 =>
 (bd3 (cellsP hh97 p112) fun cs114 m113 o115 => if (o115 + 1 <= m113 /\ 0 < 1) then
 (bd (cs114)[o115]? fun v116 =>
 (next98 [(V.agg (lcs (gv st96 0))), (V.agg (lcs (gv st96 1))), (gv st96 3), v116] hh97)) else none)) else none))))
 else
 (bd (nv (gv st1 3)) fun n117 =>
 (if (n117 < 8) then
 (if ((V.cells (gv st96 2))).length = 1 then
 (if (0 = 0 /\ (n117 * 1) + ((V.cells (gv st96 2))).length <= 8) then
 (bd (bop prog .sub 3 (gv st1 3) (V.int .i64 1)) fun v118 =>
 (next3 [(V.agg (setR (lcs (gv st96 0)) (n117 * 1) (V.cells (gv st96 2)))), (V.agg (lcs (gv st96 1))), (gv st96 2), v118] hh97)) else none) else none) else none))))) else none)))
 else
 (bd (nv (gv st1 3)) fun n119 =>
 (if (n119 < 8) then
 (if ((V.cells (gv st96 2))).length = 1 then
 (if (0 = 0 /\ (n119 * 1) + ((V.cells (gv st96 2))).length <= 8) then
 (bd (bop prog .sub 3 (gv st1 3) (V.int .i64 1)) fun v120 =>
 (next3 [(V.agg (setR (lcs (gv st96 0)) (n119 * 1) (V.cells (gv st96 2)))), (V.agg (lcs (gv st96 1))), (gv st96 2), v120] hh97)) else none) else none) else none))))
noncomputable def pathOn_l0 (n : Nat) (v : Int) (st1 : List V) (hh2 : Heap) (next3 : List V -> Heap -> Option (Res × Heap)) : Option (Res × Heap) :=
 (bd (bop prog .geq 3 (gv st1 3) (V.int .i64 0)) fun v4 =>
 (bv v4 fun b5 => if b5 then
 (bd (bopH prog hh2 .eql 67 (gv st1 2) (V.val (.pointer none))) fun v6 =>
 (bv v6 fun b7 => if b7 then
 (bd (nv (gv st1 3)) fun n8 =>
 (if (n8 < 8) then
 (if ((n8 * 1) + 1 <= 8 /\ 0 < 1) then
 (bd ((lcs (gv st1 0)))[(n8 * 1)]? fun v9 =>
 (bd (addP 0 v9) fun p10 =>
 (bd (addP 2 p10) fun p11 =>
 (bd (nv (gv st1 3)) fun n12 =>
 (if (n12 < 8) then
 (bd (addP (n12 * 1) p11) fun p13 =>
 (bd3 (cellsP hh2 p13) fun cs15 m14 o16 => if (o16 + 1 <= m14 /\ 0 < 1) then
 (bd (cs15)[o16]? fun v17 =>
 (loopx n (pathOn_l18 n v st1 next3) [(V.agg (lcs (gv st1 0))), (V.agg (lcs (gv st1 1))), v9, v17] hh2)) else none)) else none))))) else none) else none))
 else
 (bd (nv (gv st1 3)) fun n44 =>
 (if (n44 < 8) then
 (if ((n44 * 1) + 1 <= 8 /\ 0 < 1) then
 (bd ((lcs (gv st1 0)))[(n44 * 1)]? fun v45 =>
 (cl (call n 112 [v45, (gv st1 2)] hh2) (fun r46 h47 =>
 (one1 r46 fun v49 =>
 (bv v49 fun b50 => if b50 then
 (bd (nv (gv st1 3)) fun n51 =>
 (if (n51 < 8) then
 (if ((n51 * 1) + 1 <= 8 /\ 0 < 1) then
 (bd ((lcs (gv st1 0)))[(n51 * 1)]? fun v52 =>
 (bd (addP 0 v52) fun p53 =>
 (bd (addP 2 p53) fun p54 =>
 (bd (nv (gv st1 3)) fun n55 =>
 (if (n55 < 8) then
 (bd (addP (n55 * 1) p54) fun p56 =>
 (bd3 (cellsP h47 p56) fun cs58 m57 o59 => if (o59 + 1 <= m57 /\ 0 < 1) then
 (bd (cs58)[o59]? fun v60 =>
 (loopx n (pathOn_l61 n v st1 next3) [(V.agg (lcs (gv st1 0))), (V.agg (lcs (gv st1 1))), v52, v60] h47)) else none)) else none))))) else none) else none))
 else
 (bd (addP 0 (gv st1 2)) fun p87 =>
 (bd (addP 2 p87) fun p88 =>
 (bd (nv (gv st1 3)) fun n89 =>
 (if (n89 < 8) then
 (bd (addP (n89 * 1) p88) fun p90 =>
 (bd3 (cellsP h47 p90) fun cs92 m91 o93 => if (o93 + 1 <= m91 /\ 0 < 1) then
 (bd (cs92)[o93]? fun v94 =>
 (loopx n (pathOn_l95 n v st1 next3) [(V.agg (lcs (gv st1 0))), (V.agg (lcs (gv st1 1))), (gv st1 2), v94] h47)) else none)) else none))))))) (fun z48 h47 => some (Res.pan z48, h47)))) else none) else none))))
 else
 (if ((((lcs (gv st1 0))).drop 0 |>.take 8)).length = 8 then
 (if (((((lcs (gv st1 0))).drop 0 |>.take 8)).length <= 8) then
 some (Res.ret [(V.agg (((setR (lcs (gv st1 1)) 0 (((lcs (gv st1 0))).drop 0 |>.take 8))).drop 0 |>.take 8))], hh2) else none) else none)))
noncomputable def pathOn (n : Nat) (p : List V) (v : Int) (h : Heap) : Option (Res × Heap) :=
 (if (p).length = 8 then
 (loopx n (pathOn_l0 n v) [(V.agg p), (V.agg [(V.val (.pointer none)), (V.val (.pointer none)), (V.val (.pointer none)), (V.val (.pointer none)), (V.val (.pointer none)), (V.val (.pointer none)), (V.val (.pointer none)), (V.val (.pointer none))]), (V.val (.pointer none)), (V.int .i64 7)] h) else none)
theorem pathOn_eq (n : Nat) (p : List V) (v : Int) (h : Heap) : call (n + 1) 103 [(V.agg p), (V.int .i32 v)] h = pathOn n p v h := by kernel_rfl
noncomputable def pathPut_l4 (n : Nat) (t : Nat) (v3 : V) (st5 : List V) (hh6 : Heap) (next7 : List V -> Heap -> Option (Res × Heap)) : Option (Res × Heap) :=
 (bd (bop prog .lss 3 (gv st5 2) v3) fun v8 =>
 (bv v8 fun b9 => if b9 then
 (bd (nv (gv st5 2)) fun n10 =>
 (if (n10 < 8) then
 (if ((n10 * 1) + 1 <= 8 /\ 0 < 1) then
 (bd ((lcs (gv st5 0)))[(n10 * 1)]? fun v11 =>
 (bd (addP 0 v11) fun p12 =>
 (bd (addP 2 p12) fun p13 =>
 (bd (nv (gv st5 2)) fun n14 =>
 (if (n14 < 8) then
 (bd (addP (n14 * 1) p13) fun p15 =>
 (bd3 (cellsP hh6 p15) fun cs17 m16 o18 => if (o18 + 1 <= m16 /\ 0 < 1) then
 (bd (cs17)[o18]? fun v19 =>
 (bd (nv (gv st5 2)) fun n20 =>
 (if (n20 < 8) then
 (if ((V.cells v19)).length = 1 then
 (bd2 (writeB hh6 (V.cells v19) (V.ptr t (2 + (n20 * 1)))) fun b21 x22 =>
 (bd (nv (gv st5 2)) fun n23 =>
 (if (n23 < 8) then
 (if ((n23 * 1) + 1 <= 8 /\ 0 < 1) then
 (bd ((lcs (gv st5 0)))[(n23 * 1)]? fun v24 =>
 (bd (addP 0 v24) fun p25 =>
 (bd (addP 2 p25) fun p26 =>
 (bd (nv (gv st5 2)) fun n27 =>
 (if (n27 < 8) then
 (bd (addP (n27 * 1) p26) fun p28 =>
 (bd2 (writeB ((hh6).set b21 x22) [(V.ptr t 0)] p28) fun b29 x30 =>
 (bd (nv (gv st5 2)) fun n31 =>
 (if (n31 < 8) then
 (if (0 = 0 /\ (n31 * 1) + 1 <= 8) then
 (bd (bop prog .add 3 (gv st5 2) (V.int .i64 1)) fun v32 =>
 (next7 [(V.agg (setR (lcs (gv st5 0)) (n31 * 1) [(V.ptr t 0)])), (V.agg (lcs (gv st5 1))), v32] ((((hh6).set b21 x22)).set b29 x30))) else none) else none)))) else none))))) else none) else none))) else none) else none))) else none)) else none))))) else none) else none))
 else
 (if ((((lcs (gv st5 0))).drop 0 |>.take 8)).length = 8 then
 (if (((((lcs (gv st5 0))).drop 0 |>.take 8)).length <= 8) then
 some (Res.ret [(V.agg (((setR (lcs (gv st5 1)) 0 (((lcs (gv st5 0))).drop 0 |>.take 8))).drop 0 |>.take 8))], hh6) else none) else none)))
noncomputable def pathPut (n : Nat) (p : List V) (t : Nat) (h : Heap) : Option (Res × Heap) :=
 (if (p).length = 8 then
 (bd3 (cellsP h (V.ptr t 1)) fun cs1 m0 o2 => if (o2 + 1 <= m0 /\ 0 < 1) then
 (bd (cs1)[o2]? fun v3 =>
 (loopx n (pathPut_l4 n t v3) [(V.agg p), (V.agg [(V.val (.pointer none)), (V.val (.pointer none)), (V.val (.pointer none)), (V.val (.pointer none)), (V.val (.pointer none)), (V.val (.pointer none)), (V.val (.pointer none)), (V.val (.pointer none))]), (V.int .i64 0)] h)) else none) else none)
theorem pathPut_eq (n : Nat) (p : List V) (t : Nat) (h : Heap) : call (n + 1) 104 [(V.agg p), (V.ptr t 0)] h = pathPut n p t h := by kernel_rfl
noncomputable def skipInsert (n : Nat) (s : Nat) (v : Int) (k : Int) (h : Heap) : Option (Res × Heap) :=
 (bd (bopH prog h .eql 50 (V.ptr s 0) (V.val (.pointer none))) fun v0 =>
 (bv v0 fun b1 => if b1 then
 some (Res.ret [(V.bool false)], h)
 else
 (bd3 (cellsP h (V.ptr s 10)) fun cs3 m2 o4 => if (o4 + 1 <= m2 /\ 0 < 1) then
 (bd (cs3)[o4]? fun v5 =>
 (bd3 (cellsP h (V.ptr s 11)) fun cs7 m6 o8 => if (o8 + 1 <= m6 /\ 0 < 1) then
 (bd (cs7)[o8]? fun v9 =>
 (bd (bop prog .geq 3 v5 v9) fun v10 =>
 (bv v10 fun b11 => if b11 then
 some (Res.ret [(V.bool false)], h)
 else
 (cl (call n 102 [(V.ptr s 0)] h) (fun r12 h13 =>
 (one1 r12 fun v15 =>
 (cl (call n 103 [v15, (V.int .i32 v)] h13) (fun r16 h17 =>
 (one1 r16 fun v19 =>
 (cl (call n 105 [(V.int .i32 v), (V.int .i64 k)] h17) (fun r20 h21 =>
 (one1 r20 fun v23 =>
 (cl (call n 104 [v19, v23] h21) (fun r24 h25 =>
 (one1 r24 fun v27 =>
 (bd3 (cellsP h25 (V.ptr s 10)) fun cs29 m28 o30 => if (o30 + 1 <= m28 /\ 0 < 1) then
 (bd (cs29)[o30]? fun v31 =>
 (bd (bop prog .add 3 v31 (V.int .i64 1)) fun v32 =>
 (if ((V.cells v32)).length = 1 then
 (bd2 (writeB h25 (V.cells v32) (V.ptr s 10)) fun b33 x34 =>
 some (Res.ret [(V.bool true)], ((h25).set b33 x34))) else none))) else none))) (fun z26 h25 => some (Res.pan z26, h25))))) (fun z22 h21 => some (Res.pan z22, h21))))) (fun z18 h17 => some (Res.pan z18, h17))))) (fun z14 h13 => some (Res.pan z14, h13)))))) else none)) else none)))
theorem skipInsert_eq (n : Nat) (s : Nat) (v : Int) (k : Int) (h : Heap) : call (n + 1) 97 [(V.ptr s 0), (V.int .i32 v), (V.int .i64 k)] h = skipInsert n s v k h := by kernel_rfl
noncomputable def skipBatch_l16 (n : Nat) (s : Nat) (l : V) (m : V) (p15 : Nat × List (List V)) (st17 : List V) (hh18 : Heap) (next19 : List V -> Heap -> Option (Res × Heap)) : Option (Res × Heap) :=
 (bd (bop prog .lss 3 (gv st17 4) (V.int .i64 ((p15.2).length : Int))) fun v20 =>
 (bv v20 fun b21 => if b21 then
 (bdS (nv (gv st17 4)) fun n22 =>
 (bd (idxP 1 n22 l) fun p23 =>
 (bd3 (cellsP hh18 p23) fun cs25 m24 o26 => if (o26 + 1 <= m24 /\ 0 < 1) then
 (bd (cs25)[o26]? fun v27 =>
 (bd3 (cellsP hh18 (V.ptr s 10)) fun cs29 m28 o30 => if (o30 + 1 <= m28 /\ 0 < 1) then
 (bd (cs29)[o30]? fun v31 =>
 (bd3 (cellsP hh18 (V.ptr s 11)) fun cs33 m32 o34 => if (o34 + 1 <= m32 /\ 0 < 1) then
 (bd (cs33)[o34]? fun v35 =>
 (bd (bop prog .geq 3 v31 v35) fun v36 =>
 (bv v36 fun b37 => if b37 then
 some (Res.ret [(V.sl 1 (lsl (gv st17 1)) false)], hh18)
 else
 (bd (slcH hh18 m) fun p38 =>
 (bd (bop prog .lss 3 (gv st17 4) (V.int .i64 ((p38.2).length : Int))) fun v39 =>
 (bv v39 fun b40 => if b40 then
 (bdS (nv (gv st17 4)) fun n41 =>
 (bd (idxP 1 n41 m) fun p42 =>
 (bd3 (cellsP hh18 p42) fun cs44 m43 o45 => if (o45 + 1 <= m43 /\ 0 < 1) then
 (bd (cs44)[o45]? fun v46 =>
 (cl (call n 103 [(V.agg (((lcs (gv st17 2))).drop 0 |>.take 8)), v27] hh18) (fun r47 h48 =>
 (one1 r47 fun v50 =>
 (cl (call n 105 [v27, v46] h48) (fun r51 h52 =>
 (one1 r51 fun v54 =>
 (cl (call n 104 [v50, v54] h52) (fun r55 h56 =>
 (one1 r55 fun v58 =>
 (if ((V.cells v58)).length = 8 then
 (if (((V.cells v58)).length <= 8) then
 (bd3 (cellsP h56 (V.ptr s 10)) fun cs60 m59 o61 => if (o61 + 1 <= m59 /\ 0 < 1) then
 (bd (cs60)[o61]? fun v62 =>
 (bd (bop prog .add 3 v62 (V.int .i64 1)) fun v63 =>
 (if ((V.cells v63)).length = 1 then
 (bd2 (writeB h56 (V.cells v63) (V.ptr s 10)) fun b64 x65 =>
 (bdS (nv (gv st17 4)) fun n66 =>
 (if (1 = 1 /\ n66 < ((lsl (gv st17 1))).length /\ (some 65 : Option Nat) ≠ some 7) then
 (bd ((lsl (gv st17 1)))[n66]? fun es67 =>
 (bd (bop prog .add 3 (gv st17 4) (V.int .i64 1)) fun v68 =>
 (next19 [(V.sl 1 (lsl (gv st17 0)) false), (V.sl 1 (((lsl (gv st17 1))).set n66 (setR es67 0 [(V.bool true)])) false), (V.agg (setR (lcs (gv st17 2)) 0 (V.cells v58))), (V.bool false), v68] ((h56).set b64 x65)))) else none))) else none))) else none) else none) else none))) (fun z57 h56 => some (Res.pan z57, h56))))) (fun z53 h52 => some (Res.pan z53, h52))))) (fun z49 h48 => some (Res.pan z49, h48)))) else none)))
 else
 (cl (call n 103 [(V.agg (((lcs (gv st17 2))).drop 0 |>.take 8)), v27] hh18) (fun r69 h70 =>
 (one1 r69 fun v72 =>
 (cl (call n 105 [v27, (V.int .i64 1)] h70) (fun r73 h74 =>
 (one1 r73 fun v76 =>
 (cl (call n 104 [v72, v76] h74) (fun r77 h78 =>
 (one1 r77 fun v80 =>
 (if ((V.cells v80)).length = 8 then
 (if (((V.cells v80)).length <= 8) then
 (bd3 (cellsP h78 (V.ptr s 10)) fun cs82 m81 o83 => if (o83 + 1 <= m81 /\ 0 < 1) then
 (bd (cs82)[o83]? fun v84 =>
 (bd (bop prog .add 3 v84 (V.int .i64 1)) fun v85 =>
 (if ((V.cells v85)).length = 1 then
 (bd2 (writeB h78 (V.cells v85) (V.ptr s 10)) fun b86 x87 =>
 (bdS (nv (gv st17 4)) fun n88 =>
 (if (1 = 1 /\ n88 < ((lsl (gv st17 1))).length /\ (some 65 : Option Nat) ≠ some 7) then
 (bd ((lsl (gv st17 1)))[n88]? fun es89 =>
 (bd (bop prog .add 3 (gv st17 4) (V.int .i64 1)) fun v90 =>
 (next19 [(V.sl 1 (lsl (gv st17 0)) false), (V.sl 1 (((lsl (gv st17 1))).set n88 (setR es89 0 [(V.bool true)])) false), (V.agg (setR (lcs (gv st17 2)) 0 (V.cells v80))), (V.bool false), v90] ((h78).set b86 x87)))) else none))) else none))) else none) else none) else none))) (fun z79 h78 => some (Res.pan z79, h78))))) (fun z75 h74 => some (Res.pan z75, h74))))) (fun z71 h70 => some (Res.pan z71, h70))))))))) else none)) else none)) else none)))
 else
 some (Res.ret [(V.sl 1 (lsl (gv st17 1)) false)], hh18)))
noncomputable def skipBatch (n : Nat) (s : Nat) (l : V) (m : V) (h : Heap) : Option (Res × Heap) :=
 (bd (slcH h l) fun p0 =>
 (bdS (nv (V.int .i64 ((p0.2).length : Int))) fun n1 =>
 (bdS (nv (V.int .i64 ((p0.2).length : Int))) fun n2 =>
 (if (n1 <= n2 /\ n2 < lim /\ 1 = 1) then
 (bd (bopH prog h .eql 50 (V.ptr s 0) (V.val (.pointer none))) fun v3 =>
 (bv v3 fun b4 => if b4 then
 some (Res.ret [(V.sl 1 (List.replicate n1 [(V.bool false)]) false)], h)
 else
 (cl (call n 101 [l] h) (fun r5 h6 =>
 (one1 r5 fun v8 =>
 (bd (uop .not v8) fun v9 =>
 (bv v9 fun b10 => if b10 then
 some (Res.ret [(V.sl 1 (List.replicate n1 [(V.bool false)]) false)], h6)
 else
 (cl (call n 102 [(V.ptr s 0)] h6) (fun r11 h12 =>
 (one1 r11 fun v14 =>
 (if ((V.cells v14)).length = 8 then
 (if (((V.cells v14)).length <= 8) then
 (bd (slcH h12 l) fun p15 =>
 (loopx n (skipBatch_l16 n s l m p15) [(V.sl 1 [] false), (V.sl 1 (List.replicate n1 [(V.bool false)]) false), (V.agg (setR [(V.val (.pointer none)), (V.val (.pointer none)), (V.val (.pointer none)), (V.val (.pointer none)), (V.val (.pointer none)), (V.val (.pointer none)), (V.val (.pointer none)), (V.val (.pointer none))] 0 (V.cells v14))), (V.bool false), (V.int .i64 0)] h12)) else none) else none))) (fun z13 h12 => some (Res.pan z13, h12))))))) (fun z7 h6 => some (Res.pan z7, h6))))) else none))))
theorem skipBatch_eq (n : Nat) (s : Nat) (l : V) (m : V) (h : Heap) : call (n + 1) 95 [(V.ptr s 0), l, m] h = skipBatch n s l m h := by kernel_rfl
noncomputable def skipMin_l16 (n : Nat) (s : Nat) (v9 : V) (v15 : V) (st17 : List V) (hh18 : Heap) (next19 : List V -> Heap -> Option (Res × Heap)) : Option (Res × Heap) :=
 (bd (bop prog .lss 3 (gv st17 0) v15) fun v20 =>
 (bv v20 fun b21 => if b21 then
 (bd (addP 0 v9) fun p22 =>
 (bd (addP 2 p22) fun p23 =>
 (bd (nv (gv st17 0)) fun n24 =>
 (if (n24 < 8) then
 (bd (addP (n24 * 1) p23) fun p25 =>
 (bd3 (cellsP hh18 p25) fun cs27 m26 o28 => if (o28 + 1 <= m26 /\ 0 < 1) then
 (bd (cs27)[o28]? fun v29 =>
 (bd (nv (gv st17 0)) fun n30 =>
 (if (n30 < 8) then
 (if ((V.cells v29)).length = 1 then
 (bd2 (writeB hh18 (V.cells v29) (V.ptr s (2 + (n30 * 1)))) fun b31 x32 =>
 (bd (bop prog .add 3 (gv st17 0) (V.int .i64 1)) fun v33 =>
 (next19 [v33] ((hh18).set b31 x32)))) else none) else none))) else none)) else none))))
 else
 (bd3 (cellsP hh18 (V.ptr s 10)) fun cs35 m34 o36 => if (o36 + 1 <= m34 /\ 0 < 1) then
 (bd (cs35)[o36]? fun v37 =>
 (bd (bop prog .sub 3 v37 (V.int .i64 1)) fun v38 =>
 (if ((V.cells v38)).length = 1 then
 (bd2 (writeB hh18 (V.cells v38) (V.ptr s 10)) fun b39 x40 =>
 (bd (addP 0 v9) fun p41 =>
 (bd (addP 0 p41) fun p42 =>
 (bd3 (cellsP ((hh18).set b39 x40) p42) fun cs44 m43 o45 => if (o45 + 1 <= m43 /\ 0 < 1) then
 (bd (cs44)[o45]? fun v46 =>
 some (Res.ret [v46, (V.bool true)], ((hh18).set b39 x40))) else none)))) else none))) else none)))
noncomputable def skipMin (n : Nat) (s : Nat) (h : Heap) : Option (Res × Heap) :=
 (cl (call n 83 [(V.ptr s 0)] h) (fun r0 h1 =>
 (one1 r0 fun v3 =>
 (bd (bop prog .eql 3 v3 (V.int .i64 0)) fun v4 =>
 (bv v4 fun b5 => if b5 then
 some (Res.ret [(V.int .i32 0), (V.bool false)], h1)
 else
 (bd3 (cellsP h1 (V.ptr s 2)) fun cs7 m6 o8 => if (o8 + 1 <= m6 /\ 0 < 1) then
 (bd (cs7)[o8]? fun v9 =>
 (bd (addP 0 v9) fun p10 =>
 (bd (addP 1 p10) fun p11 =>
 (bd3 (cellsP h1 p11) fun cs13 m12 o14 => if (o14 + 1 <= m12 /\ 0 < 1) then
 (bd (cs13)[o14]? fun v15 =>
 (loopx n (skipMin_l16 n s v9 v15) [(V.int .i64 0)] h1)) else none)))) else none))))) (fun z2 h1 => some (Res.pan z2, h1)))
theorem skipMin_eq (n : Nat) (s : Nat) (h : Heap) : call (n + 1) 106 [(V.ptr s 0)] h = skipMin n s h := by kernel_rfl
noncomputable def skipLv (n : Nat) (s : Nat) (k : Int) (h : Heap) : Option (Res × Heap) :=
 some (Res.ret [(V.fn 86 [(V.ptr (h).length 0), (V.ptr ((h ++ [(HB.box 1 [(V.ptr s 0)])])).length 0)])], ((h ++ [(HB.box 1 [(V.ptr s 0)])]) ++ [(HB.box 1 [(V.int .i64 k)])]))
theorem skipLv_eq (n : Nat) (s : Nat) (k : Int) (h : Heap) : call (n + 1) 85 [(V.ptr s 0), (V.int .i64 k)] h = skipLv n s k h := by kernel_rfl
noncomputable def skipLvI_l18 (n : Nat) (b : Nat) (k : Nat) (st19 : List V) (hh20 : Heap) (next21 : List V -> Heap -> Option (Res × Heap)) : Option (Res × Heap) :=
 (bd (bopH prog hh20 .neq 67 (gv st19 0) (V.val (.pointer none))) fun v22 =>
 (bv v22 fun b23 => if b23 then
 (bd2 (rnd n b [(gv st19 0)] hh20) fun t24 h25 =>
 (if t24 then
 (bd3 (cellsP h25 (V.ptr k 0)) fun cs27 m26 o28 => if (o28 + 1 <= m26 /\ 0 < 1) then
 (bd (cs27)[o28]? fun v29 =>
 (bd (bop prog .sub 3 v29 (V.int .i64 1)) fun v30 =>
 (bd (addP 0 (gv st19 0)) fun p31 =>
 (bd (addP 2 p31) fun p32 =>
 (bd (nv v30) fun n33 =>
 (if (n33 < 8) then
 (bd (addP (n33 * 1) p32) fun p34 =>
 (bd3 (cellsP h25 p34) fun cs36 m35 o37 => if (o37 + 1 <= m35 /\ 0 < 1) then
 (bd (cs36)[o37]? fun v38 =>
 (next21 [v38] h25)) else none)) else none)))))) else none)
 else
 some (Res.ret [], h25)))
 else
 some (Res.ret [], hh20)))
noncomputable def skipLvI (n : Nat) (b : Nat) (s : Nat) (k : Nat) (h : Heap) : Option (Res × Heap) :=
 (bd3 (cellsP h (V.ptr s 0)) fun cs1 m0 o2 => if (o2 + 1 <= m0 /\ 0 < 1) then
 (bd (cs1)[o2]? fun v3 =>
 (bd3 (cellsP h (V.ptr k 0)) fun cs5 m4 o6 => if (o6 + 1 <= m4 /\ 0 < 1) then
 (bd (cs5)[o6]? fun v7 =>
 (bd (bop prog .sub 3 v7 (V.int .i64 1)) fun v8 =>
 (bd (addP 0 v3) fun p9 =>
 (bd (addP 0 p9) fun p10 =>
 (bd (addP 2 p10) fun p11 =>
 (bd (nv v8) fun n12 =>
 (if (n12 < 8) then
 (bd (addP (n12 * 1) p11) fun p13 =>
 (bd3 (cellsP h p13) fun cs15 m14 o16 => if (o16 + 1 <= m14 /\ 0 < 1) then
 (bd (cs15)[o16]? fun v17 =>
 (loopx n (skipLvI_l18 n b k) [v17] h)) else none)) else none))))))) else none)) else none)
theorem skipLvI_eq (n : Nat) (b : Nat) (s : Nat) (k : Nat) (h : Heap) : call (n + 1) 86 [(V.yld b), (V.ptr s 0), (V.ptr k 0)] h = skipLvI n b s k h := by kernel_rfl
noncomputable def skipLevel_r (n : Nat) (x5 : Nat) (b : Nat) (z20 : V) (h : Heap) : Option (Bool × Heap) :=
 (lpR ((h)[b]?) fun cD cV cF cP cA cB =>
 (bd3 (cellsP ((h).set b (HB.loop cD cV cF cP cA cB .busy)) (V.ptr x5 0)) fun cs15 m14 o16 => if (o16 + 1 <= m14 /\ 0 < 1) then
 (bd (cs15)[o16]? fun v17 =>
 (bd (addP 0 z20) fun p18 =>
 (bd (addP 0 p18) fun p19 =>
 (bd3 (cellsP ((h).set b (HB.loop cD cV cF cP cA cB .busy)) p19) fun cs21 m20 o22 => if (o22 + 1 <= m20 /\ 0 < 1) then
 (bd (cs21)[o22]? fun v23 =>
 (bd (bslV prog 29 1 [(0, v23)]) fun p24 =>
 (bd2 (appP 21 1 ((h).set b (HB.loop cD cV cF cP cA cB .busy)) p24.2 v17) fun v25 h26 =>
 (if ((V.cells v25)).length = 1 then
 (bd2 (writeB h26 (V.cells v25) (V.ptr x5 0)) fun b27 x28 =>
 (lpB ((((h26).set b27 x28))[b]?) fun eD eV eF eP eA eB => some (true, (((h26).set b27 x28)).set b (HB.loop eD eV eF eP eA eB .ready)))) else none)))) else none)))) else none))
theorem skipLevel_r_eq (n : Nat) (y0 : Option V) (y1 : Option V) (y4 : Option V) (x5 : Nat) (y7 : Option V) (y8 : Option V) (y9 : Option V) (y10 : Option V) (y11 : Option V) (y12 : Option V) (y13 : Option V) (y14 : Option V) (y15 : Option V) (y16 : Option V) (y17 : Option V) (y18 : Option V) (y19 : Option V) (b : Nat) (z20 : V) (h : Heap) : roundE prog (call n) keepS pureS n (L.textDraws prog) true [y0, y1, none, none, y4, some (V.ptr x5 0), none, y7, y8, y9, y10, y11, y12, y13, y14, y15, y16, y17, y18, y19, none, none, none, none, none, none, none, none, none] [20] (rfAs (bodyF f84)) (rfBd (bodyF f84)) b [z20] h = skipLevel_r n x5 b z20 h := by kernel_rfl
noncomputable def skipLevel (n : Nat) (s : Nat) (k : Int) (h : Heap) : Option (Res × Heap) :=
 (bd (bopH prog h .eql 50 (V.ptr s 0) (V.val (.pointer none))) fun v0 =>
 (bv v0 fun b1 => if b1 then
 some (Res.ret [(V.row (h).length 1 0 0)], (h ++ [(HB.row 21 1 [] true)]))
 else
 (if (decide (k < 1)) then
 some (Res.ret [(V.row (h).length 1 0 0)], (h ++ [(HB.row 21 1 [] true)]))
 else
 (if (decide (k > 8)) then
 some (Res.ret [(V.row (h).length 1 0 0)], (h ++ [(HB.row 21 1 [] true)]))
 else
 (cl (call n 85 [(V.ptr s 0), (V.int .i64 k)] h) (fun r2 h3 =>
 (one1 r2 fun v5 =>
 (fnK v5 fun f6 c7 => if ((mutF prog f6).isNone && (noDfC (rfAs (bodyF f84)) && noDfC (rfBd (bodyF f84)))) = true then
 (clN (call n f6 ((V.yld ((((h3 ++ [(HB.box 1 [(V.sl 0 [] true)])]) ++ [(HB.row 21 1 [] true)])).length + 1)) :: c7) (((h3 ++ [(HB.box 1 [(V.sl 0 [] true)])]) ++ [(HB.row 21 1 [] true)]) ++ [HB.defb, HB.loop (((h3 ++ [(HB.box 1 [(V.sl 0 [] true)])]) ++ [(HB.row 21 1 [] true)])).length true [some (V.ptr s 0), some (V.int .i64 k), none, none, some (V.row ((h3 ++ [(HB.box 1 [(V.sl 0 [] true)])])).length 1 0 0), some (V.ptr (h3).length 0), none, some (V.ptr s 0), some v0, some (V.bool false), some (V.int .i64 k), some (V.bool (decide (k < 1))), some (V.bool (decide (k < 1))), some (V.bool false), some (V.int .i64 k), some (V.bool (decide (k > 8))), some (V.bool false), some (V.ptr s 0), some (V.int .i64 k), some v5, none, none, none, none, none, none, none, none, none] [20] (rfAs (bodyF f84)) (rfBd (bodyF f84)) .ready])) fun h9 => lpE ((h9)[((((h3 ++ [(HB.box 1 [(V.sl 0 [] true)])]) ++ [(HB.row 21 1 [] true)])).length + 1)]?) (
 (bd3 (cellsP ((h9).set ((((h3 ++ [(HB.box 1 [(V.sl 0 [] true)])]) ++ [(HB.row 21 1 [] true)])).length + 1) HB.dead) (V.ptr (h3).length 0)) fun cs11 m10 o12 => if (o12 + 1 <= m10 /\ 0 < 1) then
 (bd (cs11)[o12]? fun v13 =>
 (dfB ((((h9).set ((((h3 ++ [(HB.box 1 [(V.sl 0 [] true)])]) ++ [(HB.row 21 1 [] true)])).length + 1) HB.dead))[(((h3 ++ [(HB.box 1 [(V.sl 0 [] true)])]) ++ [(HB.row 21 1 [] true)])).length]?) (
 some (Res.ret [v13], ((((h9).set ((((h3 ++ [(HB.box 1 [(V.sl 0 [] true)])]) ++ [(HB.row 21 1 [] true)])).length + 1) HB.dead)).set (((h3 ++ [(HB.box 1 [(V.sl 0 [] true)])]) ++ [(HB.row 21 1 [] true)])).length HB.dead))))) else none)) (
 (dfB ((((h9).set ((((h3 ++ [(HB.box 1 [(V.sl 0 [] true)])]) ++ [(HB.row 21 1 [] true)])).length + 1) HB.dead))[(((h3 ++ [(HB.box 1 [(V.sl 0 [] true)])]) ++ [(HB.row 21 1 [] true)])).length]?) (
 some (Res.ret [(V.row ((h3 ++ [(HB.box 1 [(V.sl 0 [] true)])])).length 1 0 0)], ((((h9).set ((((h3 ++ [(HB.box 1 [(V.sl 0 [] true)])]) ++ [(HB.row 21 1 [] true)])).length + 1) HB.dead)).set (((h3 ++ [(HB.box 1 [(V.sl 0 [] true)])]) ++ [(HB.row 21 1 [] true)])).length HB.dead)))))) else none))) (fun z4 h3 => some (Res.pan z4, h3)))))))
theorem skipLevel_eq (n : Nat) (s : Nat) (k : Int) (h : Heap) : call (n + 1) 84 [(V.ptr s 0), (V.int .i64 k)] h = skipLevel n s k h := by kernel_rfl
noncomputable def skipItems (n : Nat) (s : Nat) (h : Heap) : Option (Res × Heap) :=
 (cl (call n 84 [(V.ptr s 0), (V.int .i64 1)] h) (fun r0 h1 =>
 (one1 r0 fun v3 =>
 some (Res.ret [v3], h1))) (fun z2 h1 => some (Res.pan z2, h1)))
theorem skipItems_eq (n : Nat) (s : Nat) (h : Heap) : call (n + 1) 82 [(V.ptr s 0)] h = skipItems n s h := by kernel_rfl
noncomputable def isSorted_l1 (n : Nat) (l : V) (st2 : List V) (hh3 : Heap) (next4 : List V -> Heap -> Option (Res × Heap)) : Option (Res × Heap) :=
 (bd (bop prog .gtr 3 (gv st2 1) (V.int .i64 0)) fun v5 =>
 (bv v5 fun b6 => if b6 then
 (bdS (nv (gv st2 1)) fun n7 =>
 (bd (idxP 1 n7 l) fun p8 =>
 (bd3 (cellsP hh3 p8) fun cs10 m9 o11 => if (o11 + 1 <= m9 /\ 0 < 1) then
 (bd (cs10)[o11]? fun v12 =>
 (bd (bop prog .sub 3 (gv st2 1) (V.int .i64 1)) fun v13 =>
 (bdS (nv v13) fun n14 =>
 (bd (idxP 1 n14 l) fun p15 =>
 (bd3 (cellsP hh3 p15) fun cs17 m16 o18 => if (o18 + 1 <= m16 /\ 0 < 1) then
 (bd (cs17)[o18]? fun v19 =>
 (cl (call n 111 [v12, v19] hh3) (fun r20 h21 =>
 (one1 r20 fun v23 =>
 (bv v23 fun b24 => if b24 then
 some (Res.ret [(V.bool false)], h21)
 else
 (bd (bop prog .sub 3 (gv st2 1) (V.int .i64 1)) fun v25 =>
 (next4 [(gv st2 0), v25] h21))))) (fun z22 h21 => none))) else none))))) else none)))
 else
 some (Res.ret [(V.bool true)], hh3)))
noncomputable def isSorted (n : Nat) (l : V) (h : Heap) : Option (Res × Heap) :=
 (bd (slcH h l) fun p0 =>
 (loopx n (isSorted_l1 n l) [(V.bool false), (V.int .i64 (IntKind.i64.wrap (((p0.2).length : Int) - 1)))] h))
theorem isSorted_eq (n : Nat) (l : V) (h : Heap) : call (n + 1) 101 [l] h = isSorted n l h := by kernel_rfl
noncomputable def isNaN (n : Nat) (x0 : Int) (h : Heap) : Option (Res × Heap) :=
 some (Res.ret [(V.bool (x0 != x0))], h)
theorem isNaN_eq (n : Nat) (x0 : Int) (h : Heap) : call (n + 1) 114 [(V.int .i32 x0)] h = isNaN n x0 h := by kernel_rfl
noncomputable def cmpLess (n : Nat) (x0 : Int) (x1 : Int) (h : Heap) : Option (Res × Heap) :=
 (cl (call n 114 [(V.int .i32 x0)] h) (fun r0 h1 =>
 (one1 r0 fun v3 =>
 (bv v3 fun b4 => if b4 then
 (cl (call n 114 [(V.int .i32 x1)] h1) (fun r5 h6 =>
 (one1 r5 fun v8 =>
 (bd (uop .not v8) fun v9 =>
 (bv v9 fun b10 => if b10 then
 some (Res.ret [(V.bool true)], h6)
 else
 some (Res.ret [(V.bool (decide (x0 < x1)))], h6))))) (fun z7 h6 => some (Res.pan z7, h6)))
 else
 some (Res.ret [(V.bool (decide (x0 < x1)))], h1)))) (fun z2 h1 => some (Res.pan z2, h1)))
theorem cmpLess_eq (n : Nat) (x0 : Int) (x1 : Int) (h : Heap) : call (n + 1) 111 [(V.int .i32 x0), (V.int .i32 x1)] h = cmpLess n x0 x1 h := by kernel_rfl
noncomputable def cmpCompare (n : Nat) (x0 : Int) (x1 : Int) (h : Heap) : Option (Res × Heap) :=
 (cl (call n 114 [(V.int .i32 x0)] h) (fun r0 h1 =>
 (one1 r0 fun v3 =>
 (cl (call n 114 [(V.int .i32 x1)] h1) (fun r4 h5 =>
 (one1 r4 fun v7 =>
 (bv v3 fun b8 => if b8 then
 (bv v7 fun b9 => if b9 then
 some (Res.ret [(V.int .i64 0)], h5)
 else
 some (Res.ret [(V.int .i64 (-1))], h5))
 else
 (bv v7 fun b10 => if b10 then
 some (Res.ret [(V.int .i64 1)], h5)
 else
 (if (decide (x0 < x1)) then
 some (Res.ret [(V.int .i64 (-1))], h5)
 else
 (if (decide (x0 > x1)) then
 some (Res.ret [(V.int .i64 1)], h5)
 else
 some (Res.ret [(V.int .i64 0)], h5))))))) (fun z6 h5 => some (Res.pan z6, h5))))) (fun z2 h1 => some (Res.pan z2, h1)))
theorem cmpCompare_eq (n : Nat) (x0 : Int) (x1 : Int) (h : Heap) : call (n + 1) 109 [(V.int .i32 x0), (V.int .i32 x1)] h = cmpCompare n x0 x1 h := by kernel_rfl
end Go.Proofs.Try
set_option linter.unusedVariables false
set_option linter.unusedSimpArgs false
namespace Go.L
theorem cellsP_box {h : Heap} {b n : Nat} {cs : List V} (hb : h[b]? = some (.box n cs)) (o : Nat) : cellsP h (.ptr b o) = some (cs, n, o) := by simp only [cellsP, hb]
theorem cellsP_iptr (h : Heap) (n : Nat) (cs : List V) (o : Nat) : cellsP h (.iptr n cs o) = some (cs, n, o) := rfl
theorem idxP_sl {sz n : Nat} {l : List (List V)} {es : List V} (h : l[n]? = some es) (b : Bool) : idxP sz n (.sl sz l b) = some (.iptr sz es 0) := by simp [idxP, h]
@[simp] theorem slcH_sl (h : Heap) (sz : Nat) (l : List (List V)) (b : Bool) : slcH h (.sl sz l b) = some (sz, l) := rfl
@[simp] theorem lenP_sl (sz : Nat) (l : List (List V)) (b : Bool) : lenP (.sl sz l b) = some l.length := rfl
@[simp] theorem aggK_agg {R : Type} (l : List V) (k : List V -> Option R) : aggK (.agg l) k = k l := rfl
theorem mapOf_map {h : Heap} {b : Nat} {es : List (V × V)} (hb : h[b]? = some (.map es)) : mapOf h (.map b) = some es := by simp only [mapOf, hb]
section
variable {α : Type} [DecidableEq α] {kf : α -> V} {ks : List Nat}
end
end Go.L
set_option linter.unusedVariables false
set_option linter.unusedSimpArgs false
namespace Go.L
theorem rowOf_at {h : Heap} {b e sz lo hi : Nat} {l : List (List V)} {z : Bool} (hb : h[b]? = some (.row e sz l z)) (h1 : lo <= hi) (h2 : hi <= l.length) : rowOf h b sz lo hi = some ((l.take hi).drop lo) := by
  simp only [rowOf, hb]
  rw [if_pos ⟨trivial, h1, h2⟩]
theorem rowOf_all {h : Heap} {b e sz : Nat} {l : List (List V)} {z : Bool} (hb : h[b]? = some (.row e sz l z)) : rowOf h b sz 0 l.length = some l := by
  rw [rowOf_at hb (Nat.zero_le _) (Nat.le_refl _), List.take_length, List.drop_zero]
theorem slcH_row {h : Heap} {b e sz lo hi : Nat} {l : List (List V)} {z : Bool} (hb : h[b]? = some (.row e sz l z)) (h1 : lo <= hi) (h2 : hi <= l.length) : slcH h (.row b sz lo hi) = some (sz, (l.take hi).drop lo) := by
  simp only [slcH, rowOf_at hb h1 h2, Option.map_some]
theorem slcH_all {h : Heap} {b e sz : Nat} {l : List (List V)} {z : Bool} (hb : h[b]? = some (.row e sz l z)) : slcH h (.row b sz 0 l.length) = some (sz, l) := by
  simp only [slcH, rowOf_all hb, Option.map_some]
theorem lenP_row (b sz lo hi : Nat) : lenP (.row b sz lo hi) = some (hi - lo) := rfl
theorem sliceP_row {r sz u v a b : Nat} (h1 : a <= b) (h2 : b <= v - u) (ok : Bool) : sliceP sz a b none ok (.row r sz u v) = some (.row r sz (u + a) (u + b)) := by
  simp only [sliceP]
  rw [if_pos ⟨⟨h1, h2, trivial⟩, trivial⟩]
theorem idxP_row {b sz lo hi n : Nat} (h : n < hi - lo) : idxP sz n (.row b sz lo hi) = some (.rptr b sz (lo + n) 0) := by
  simp only [idxP]
  rw [if_pos ⟨trivial, h⟩]
theorem cellsP_rptr {h : Heap} {b e sz i c : Nat} {l : List (List V)} {z : Bool} {es : List V} (hb : h[b]? = some (.row e sz l z)) (h0 : 0 < sz) (hi : l[i]? = some es) : cellsP h (.rptr b sz i c) = some (es, sz, c) := by
  simp only [cellsP, hb]
  rw [if_pos ⟨trivial, h0⟩]
  simp only [hi]
theorem addP_rptr (k b sz i c : Nat) : addP k (.rptr b sz i c) = some (.rptr b sz i (c + k)) := rfl
theorem writeB_rptr {h : Heap} {b e sz i c : Nat} {l : List (List V)} {z : Bool} {es vs : List V} (hb : h[b]? = some (.row e sz l z)) (h0 : 0 < sz) (hc : c + vs.length <= sz) (hi : l[i]? = some es) : writeB h vs (.rptr b sz i c) = some (b, .row e sz (l.set i (setR es c vs)) z) := by
  simp only [writeB, hb]
  rw [if_pos ⟨trivial, h0, hc⟩]
  simp only [hi]
end Go.L
set_option linter.unusedVariables false
set_option linter.unusedSimpArgs false
namespace Go.L
theorem writeB_box {h : Heap} {b n o : Nat} {cs vs : List V} (hb : h[b]? = some (.box n cs)) (ho : o + vs.length <= n) : writeB h vs (.ptr b o) = some (b, .box n (setR cs o vs)) := by
  simp only [writeB, hb]
  rw [if_pos ho]
theorem get_part {α : Type} {l : List α} {lo hi i : Nat} (h : lo + i < hi) : ((l.take hi).drop lo)[i]? = l[lo + i]? := by
  rw [List.getElem?_drop, List.getElem?_take, if_pos h]
theorem set_at {h : Heap} {b : Nat} (hb : b < h.length) (x : HB) : (h.set b x)[b]? = some x := List.getElem?_set_self hb
theorem lt_of_at {h : Heap} {b : Nat} {x : HB} (hb : h[b]? = some x) : b < h.length := (List.getElem?_eq_some_iff.1 hb).1
end Go.L
namespace Go.Sk
open Go.L
def hgt : Nat -> List Bool -> Nat × List Bool
  | n, [] => (n, [])
  | n, b :: r => if n = 8 then (n, b :: r) else if b then hgt (n + 1) r else (n, r)
def boolV (x : Bool) : List V := [.bool x]
theorem hgt_pos : ∀ (l : List Bool) (n : Nat), 1 <= n -> n <= 8 -> 1 <= (hgt n l).1 /\ (hgt n l).1 <= 8
  | [], n, h1, h2 => ⟨h1, h2⟩
  | b :: r, n, h1, h2 => by
    simp only [hgt]
    split
    · exact ⟨h1, h2⟩
    · split
      · exact hgt_pos r (n + 1) (by omega) (by omega)
      · exact ⟨h1, h2⟩
end Go.Sk
namespace Go.Proofs.Try
open Go.L Go.Rp Go.Sk
set_option maxRecDepth 100000
def BitsAt (h : Heap) (c : Nat) (cb : Option Nat) (bits : List Bool) : Prop := match cb with
  | none => bits = [] /\ h[c]? = some (.box 1 [.sl 0 [] true])
  | some b => b ≠ c /\ ∃ lo l z, h[c]? = some (.box 1 [.row b 1 lo (lo + bits.length)]) /\ h[b]? = some (.row 4 1 l z) /\ lo + bits.length <= l.length /\ (l.take (lo + bits.length)).drop lo = bits.map boolV
theorem BitsAt.keep {h h' : Heap} {c : Nat} {cb : Option Nat} {bits : List Bool} (hb : BitsAt h c cb bits) (hc : h'[c]? = h[c]?) (hk : ∀ b, cb = some b -> h'[b]? = h[b]?) : BitsAt h' c cb bits := by
  cases cb with
  | none => exact ⟨hb.1, hc.trans hb.2⟩
  | some b =>
    obtain ⟨h1, lo, l, z, h2, h3, h4⟩ := hb
    exact ⟨h1, lo, l, z, hc.trans h2, (hk b rfl).trans h3, h4⟩
theorem bop_coin_nil (h : Heap) (c : Nat) : bopH prog h .eql 55 (V.ptr c 0) (V.val (.pointer none)) = some (.bool false) := by kernel_rfl
theorem left_call (n : Nat) {h : Heap} {c : Nat} {cb : Option Nat} {bits : List Bool} (hb : BitsAt h c cb bits) : call (n + 1) 110 [.ptr c 0] h = some (.ret [.int .i64 (bits.length : Int)], h) := by
  refine (coinLeft_eq n c h).trans ?_
  unfold coinLeft
  rw [bop_coin_nil, bd_some, bv_bool, if_neg (by decide)]
  cases cb with
  | none =>
    obtain ⟨rfl, hc⟩ := hb
    rw [cellsP_box hc, bd3_some, if_pos (by decide)]
    rfl
  | some b =>
    obtain ⟨h1, lo, l, z, h2, h3, h4, h5⟩ := hb
    rw [cellsP_box h2, bd3_some, if_pos (by decide)]
    simp only [List.getElem?_cons_zero, bd_some]
    rw [slcH_row h3 (by omega) h4, bd_some, h5]
    simp
theorem toss_call (n : Nat) {h : Heap} {c : Nat} {cb : Option Nat} {bits : List Bool} (hb : BitsAt h c cb bits) :
    ∃ h', call (n + 2) 100 [.ptr c 0] h = some (.ret [.bool (bits.headD false)], h') /\ BitsAt h' c cb bits.tail /\ h'.length = h.length /\ ∀ i, i ≠ c -> h'[i]? = h[i]? := by
  rw [show n + 2 = (n + 1) + 1 from rfl, coinToss_eq]
  unfold coinToss
  rw [left_call n hb, cl_ret, one1_one, bop_i64_eql, bd_some, bv_bool]
  cases bits with
  | nil =>
    rw [if_pos (by rfl)]
    exact ⟨h, rfl, hb, rfl, fun _ _ => rfl⟩
  | cons x r =>
    rw [if_neg (by simp; omega)]
    cases cb with
    | none => exact absurd hb.1 (by simp)
    | some b =>
      obtain ⟨h1, lo, l, z, h2, h3, h4, h5⟩ := hb
      have hx : l[lo]? = some [.bool x] := by
        have := get_part (l := l) (lo := lo) (hi := lo + (x :: r).length) (i := 0) (by simp)
        rw [h5] at this
        simpa [boolV] using this.symm
      have hr : (l.take (lo + 1 + r.length)).drop (lo + 1) = r.map boolV := by
        have : ((l.take (lo + (x :: r).length)).drop lo).drop 1 = r.map boolV := by rw [h5]; rfl
        rw [List.drop_drop] at this
        rw [show lo + 1 + r.length = lo + (x :: r).length by simp; omega]
        exact this
      have hs : sliceP 1 1 (x :: r).length none true (.row b 1 lo (lo + (x :: r).length)) = some (.row b 1 (lo + 1) (lo + 1 + r.length)) := by
        rw [sliceP_row (by simp) (by omega)]
        congr 2
        simp; omega
      have hcl := lt_of_at h2
      rw [cellsP_box h2, bd3_some, if_pos (by decide)]
      simp only [List.getElem?_cons_zero, bd_some]
      rw [idxP_row (by simp), bd_some, Nat.add_zero, cellsP_rptr h3 (by decide) hx, bd3_some, if_pos (by decide)]
      simp only [List.getElem?_cons_zero, bd_some]
      rw [bd3_some, if_pos (by decide)]
      simp only [List.getElem?_cons_zero, bd_some]
      rw [lenP_row, bd_some, Nat.add_sub_cancel_left, hs, bd_some]
      simp only [V.cells, List.length_cons, List.length_nil, Nat.zero_add, if_true]
      rw [writeB_box h2 (by simp), bd2_some]
      refine ⟨_, rfl, ⟨h1, lo + 1, l, z, ?_, ?_, ?_, hr⟩, by rw [List.length_set], fun i hi => List.getElem?_set_ne (Ne.symm hi)⟩
      · rw [set_at hcl]; rfl
      · rw [List.getElem?_set_ne (Ne.symm h1)]; exact h3
      · simp at h4 ⊢; omega
theorem height_loop (n : Nat) {c : Nat} {cb : Option Nat} : ∀ (bits : List Bool) (k N : Nat) (h : Heap), BitsAt h c cb bits -> 1 <= k -> k <= 8 -> 8 < N + k →
    ∃ h', loopx N (coinHeight_l0 (n + 2) c) [.int .i64 (k : Int)] h = some (.ret [.int .i64 ((hgt k bits).1 : Int)], h') /\ BitsAt h' c cb (hgt k bits).2 /\ h'.length = h.length /\ ∀ i, i ≠ c -> h'[i]? = h[i]? := by
  intro bits
  induction bits with
  | nil =>
    intro k N h hb h1 h2 hN
    obtain ⟨N, rfl⟩ : ∃ N', N = N' + 1 := ⟨N - 1, by omega⟩
    rw [loopx_succ]
    unfold coinHeight_l0
    simp only [gv, List.getD_cons_zero, bop_i64_eql, bd_some, bv_bool]
    by_cases h8 : k = 8
    · subst h8
      exact ⟨h, rfl, hb, rfl, fun _ _ => rfl⟩
    · rw [if_neg (by simp; omega)]
      obtain ⟨h', e, b1, b2, b3⟩ := toss_call n hb
      rw [e, cl_ret, one1_one]
      exact ⟨h', rfl, b1, b2, b3⟩
  | cons x r ih =>
    intro k N h hb h1 h2 hN
    obtain ⟨N, rfl⟩ : ∃ N', N = N' + 1 := ⟨N - 1, by omega⟩
    rw [loopx_succ]
    unfold coinHeight_l0
    simp only [gv, List.getD_cons_zero, bop_i64_eql, bd_some, bv_bool]
    by_cases h8 : k = 8
    · subst h8
      exact ⟨h, rfl, by simpa [hgt] using hb, rfl, fun _ _ => rfl⟩
    · rw [if_neg (by simp; omega)]
      obtain ⟨h', e, b1, b2, b3⟩ := toss_call n hb
      rw [e, cl_ret, one1_one]
      simp only [hgt, if_neg h8]
      cases x with
      | false => exact ⟨h', rfl, b1, b2, b3⟩
      | true =>
        simp only [List.headD_cons, uop_not, Bool.not_true, bd_some, bv_bool, Bool.false_eq_true, if_false, bop_i64_add, if_true]
        rw [step64 (show k < lim by unfold lim; omega)]
        obtain ⟨h'', e', d1, d2, d3⟩ := ih (k + 1) N h' b1 (by omega) (by omega) (by omega)
        exact ⟨h'', e', d1, d2.trans b2, fun i hi => (d3 i hi).trans (b3 i hi)⟩
theorem height_call (n : Nat) {h : Heap} {c : Nat} {cb : Option Nat} {bits : List Bool} (hb : BitsAt h c cb bits) (hn : 8 <= n) :
    ∃ h', call (n + 3) 94 [.ptr c 0] h = some (.ret [.int .i64 ((hgt 1 bits).1 : Int)], h') /\ BitsAt h' c cb (hgt 1 bits).2 /\ h'.length = h.length /\ ∀ i, i ≠ c -> h'[i]? = h[i]? := by
  rw [show n + 3 = (n + 2) + 1 from rfl, coinHeight_eq]
  unfold coinHeight
  exact height_loop n bits 1 (n + 2) h hb (Nat.le_refl _) (by omega) (by omega)
structure Fed (h h' : Heap) (c : Nat) (cb cb' : Option Nat) : Prop where
  len : h.length <= h'.length
  old : ∀ i, i < h.length -> i ≠ c -> cb ≠ some i -> h'[i]? = h[i]?
  own : ∀ b, cb' = some b -> cb = some b \/ h.length <= b
theorem Fed.refl (h : Heap) (c : Nat) (cb : Option Nat) : Fed h h c cb cb := ⟨Nat.le_refl _, fun _ _ _ _ => rfl, fun _ h => .inl h⟩
theorem Fed.trans {h h' h'' : Heap} {c : Nat} {cb cb' cb'' : Option Nat} (a : Fed h h' c cb cb') (b : Fed h' h'' c cb' cb'') : Fed h h'' c cb cb'' :=
  ⟨Nat.le_trans a.len b.len, fun i h1 h2 h3 => (b.old i (by have := a.len; omega) h2 fun e => by rcases a.own i e with h | h; exact h3 h; omega).trans (a.old i h1 h2 h3), fun x hx => by
    rcases b.own x hx with h | h
    · exact a.own x h
    · exact .inr (by have := a.len; omega)⟩
theorem coin_new_call (n : Nat) (h : Heap) : call (n + 1) 17 [] h = some (.ret [.ptr h.length 0], h ++ [.box 1 [.sl 0 [] true]]) := coinNew_eq n h
end Go.Proofs.Try
set_option linter.unusedVariables false
set_option linter.unusedSimpArgs false
namespace Go.Sk
open Go.L
def numC (x : Int) : List V := [.int .i32 x]
def resV (c v : Int) : V := .agg [.int .u8 c, .int .i32 v]
def stkStep (most : Int) (c x : Int) (xs : List Int) : (Int × Int) × List Int :=
  if c = 1 then (if (xs.length : Int) < most then ((1, 0), xs ++ [x]) else ((3, 0), xs))
  else if c = 2 then (match xs.getLast? with | some y => ((2, y), xs.dropLast) | none => ((4, 0), xs))
  else ((5, 0), xs)
end Go.Sk
namespace Go.Proofs.Try
open Go.L Go.Rp Go.Sk
set_option maxRecDepth 100000
def StkAt (h : Heap) (s : Nat) (sb : Option Nat) (most : Int) (xs : List Int) : Prop := match sb with
  | none => xs = [] /\ h[s]? = some (.box 2 [.sl 0 [] true, .int .i64 most])
  | some b => b ≠ s /\ ∃ l z, h[s]? = some (.box 2 [.row b 1 0 xs.length, .int .i64 most]) /\ h[b]? = some (.row 21 1 l z) /\ xs.length <= l.length /\ l.take xs.length = xs.map numC
theorem StkAt.keep {h h' : Heap} {s : Nat} {sb : Option Nat} {most : Int} {xs : List Int} (hb : StkAt h s sb most xs) (hc : h'[s]? = h[s]?) (hk : ∀ b, sb = some b -> h'[b]? = h[b]?) : StkAt h' s sb most xs := by
  cases sb with
  | none => exact ⟨hb.1, hc.trans hb.2⟩
  | some b =>
    obtain ⟨h1, l, z, h2, h3, h4⟩ := hb
    exact ⟨h1, l, z, hc.trans h2, (hk b rfl).trans h3, h4⟩
theorem bop_stk_nil (h : Heap) (c : Nat) : bopH prog h .eql 42 (V.ptr c 0) (V.val (.pointer none)) = some (.bool false) := by kernel_rfl
theorem StkAt.box {h : Heap} {s : Nat} {sb : Option Nat} {most : Int} {xs : List Int} (hb : StkAt h s sb most xs) : ∃ v sz, h[s]? = some (.box 2 [v, .int .i64 most]) /\ slcH h v = some (sz, xs.map numC) /\ (sz = 1 \/ xs = []) := by
  cases sb with
  | none =>
    obtain ⟨rfl, hc⟩ := hb
    exact ⟨_, 0, hc, slcH_sl .., .inr rfl⟩
  | some b =>
    obtain ⟨h1, l, z, h2, h3, h4, h5⟩ := hb
    refine ⟨_, 1, h2, ?_, .inl rfl⟩
    rw [slcH_row h3 (Nat.zero_le _) h4, List.drop_zero, h5]
theorem stk_len_call (n : Nat) {h : Heap} {s : Nat} {sb : Option Nat} {most : Int} {xs : List Int} (hb : StkAt h s sb most xs) : call (n + 1) 36 [.ptr s 0] h = some (.ret [.int .i64 (xs.length : Int)], h) := by
  obtain ⟨v, sz, h1, h2, h3⟩ := hb.box
  refine (stkLen_eq n s h).trans ?_
  unfold stkLen
  rw [bop_stk_nil, bd_some, bv_bool, if_neg (by decide), cellsP_box h1, bd3_some, if_pos (by decide)]
  simp only [List.getElem?_cons_zero, bd_some]
  rw [h2, bd_some]
  simp
theorem stk_most_call (n : Nat) {h : Heap} {s : Nat} {sb : Option Nat} {most : Int} {xs : List Int} (hb : StkAt h s sb most xs) : call (n + 1) 44 [.ptr s 0] h = some (.ret [.int .i64 most], h) := by
  obtain ⟨v, sz, h1, h2, h3⟩ := hb.box
  refine (stkMost_eq n s h).trans ?_
  unfold stkMost
  rw [bop_stk_nil, bd_some, bv_bool, if_neg (by decide), cellsP_box h1, bd3_some, if_pos (by decide)]
  rfl
theorem stk_items_call (n : Nat) {h : Heap} {s : Nat} {sb : Option Nat} {most : Int} {xs : List Int} (hb : StkAt h s sb most xs) (hl : xs.length < lim) : call (n + 1) 35 [.ptr s 0] h = some (.ret [.sl 1 (xs.map numC) false], h) := by
  obtain ⟨v, sz, h1, h2, h3⟩ := hb.box
  refine (stkItems_eq n s h).trans ?_
  unfold stkItems
  rw [bop_stk_nil, bd_some, bv_bool, if_neg (by decide), cellsP_box h1, bd3_some, if_pos (by decide)]
  simp only [List.getElem?_cons_zero, bd_some]
  rw [h2, bd_some, if_pos ⟨h3.imp id (fun e => by rw [e]; rfl), by simpa using hl⟩]
theorem stk_push_full (n : Nat) {h : Heap} {s : Nat} {sb : Option Nat} {most : Int} {xs : List Int} (hb : StkAt h s sb most xs) (x : Int) (hm : most <= xs.length) : call (n + 1) 46 [.ptr s 0, .int .i32 x] h = some (.ret [.bool false], h) := by
  obtain ⟨v, sz, h1, h2, h3⟩ := hb.box
  refine (stkPush_eq n s x h).trans ?_
  unfold stkPush
  rw [bop_stk_nil, bd_some, bv_bool, if_neg (by decide), cellsP_box h1, bd3_some, if_pos (by decide)]
  simp only [List.getElem?_cons_zero, bd_some]
  rw [h2, bd_some, cellsP_box h1, bd3_some, if_pos (by decide)]
  simp only [List.getElem?_cons_zero, List.getElem?_cons_succ, bd_some]
  rw [bop_i64_geq, bd_some, bv_bool, if_pos (by simpa using hm)]
theorem stk_push_call (n : Nat) {h : Heap} {s : Nat} {sb : Option Nat} {most : Int} {xs : List Int} (hb : StkAt h s sb most xs) (x : Int) (hm : (xs.length : Int) < most) (hl : xs.length + 1 < lim) :
    ∃ h' sb', call (n + 1) 46 [.ptr s 0, .int .i32 x] h = some (.ret [.bool true], h') /\ StkAt h' s sb' most (xs ++ [x]) /\ Fed h h' s sb sb' := by
  rw [stkPush_eq n s x h]
  unfold stkPush
  rw [bop_stk_nil, bd_some, bv_bool, if_neg (by decide)]
  cases sb with
  | none =>
    obtain ⟨rfl, hc⟩ := hb
    have hcl := lt_of_at hc
    rw [cellsP_box hc, bd3_some, if_pos (by decide)]
    simp only [List.getElem?_cons_zero, bd_some]
    rw [slcH_sl, bd_some, cellsP_box hc, bd3_some, if_pos (by decide)]
    simp only [List.getElem?_cons_zero, List.getElem?_cons_succ, bd_some]
    rw [bop_i64_geq, bd_some, bv_bool, if_neg (by simpa using hm), bd3_some, if_pos (by decide)]
    simp only [List.getElem?_cons_zero, bd_some]
    have happ : appP 21 1 h [[.int .i32 x]] (.sl 0 [] true) = some (.row h.length 1 0 1, h ++ [.row 21 1 [[.int .i32 x]] true]) := rfl
    simp only [happ, bd2_some, V.cells, List.length_cons, List.length_nil, Nat.zero_add, if_true]
    have hc' : (h ++ [HB.row 21 1 [[.int .i32 x]] true])[s]? = some (.box 2 [.sl 0 [] true, .int .i64 most]) := by rw [List.getElem?_append_left hcl]; exact hc
    rw [writeB_box hc' (by simp), bd2_some]
    refine ⟨_, some h.length, rfl, ⟨by omega, [[.int .i32 x]], true, ?_, ?_, ?_, ?_⟩, ⟨by simp, fun j h1 h2 h3 => ?_, fun b hb => .inr (by cases hb; exact Nat.le_refl _)⟩⟩
    · rw [set_at (by simp; omega)]; rfl
    · rw [List.getElem?_set_ne (by omega)]; exact List.getElem?_concat_length
    · simp
    · simp [numC]
    · rw [List.getElem?_set_ne (by omega), List.getElem?_append_left h1]
  | some b =>
    obtain ⟨h1, l, z, h2, h3, h4, h5⟩ := hb
    have hcl := lt_of_at h2
    have hbl := lt_of_at h3
    rw [cellsP_box h2, bd3_some, if_pos (by decide)]
    simp only [List.getElem?_cons_zero, bd_some]
    rw [slcH_row h3 (Nat.zero_le _) h4, bd_some, cellsP_box h2, bd3_some, if_pos (by decide)]
    simp only [List.getElem?_cons_zero, List.getElem?_cons_succ, bd_some]
    rw [bop_i64_geq, bd_some, bv_bool, if_neg (by rw [List.drop_zero, h5]; simpa using hm), bd3_some, if_pos (by decide)]
    simp only [List.getElem?_cons_zero, bd_some]
    have happ : appP 21 1 h [[.int .i32 x]] (.row b 1 0 xs.length) = some (.row h.length 1 0 (xs.length + 1), h.set b .dead ++ [.row 21 1 (xs.map numC ++ [[.int .i32 x]]) z]) := by
      simp only [appP, h3]
      rw [if_pos (by refine ⟨⟨?_, ?_, ?_⟩, ⟨by omega, h4⟩, by simp; omega⟩ <;> first | trivial | rfl), List.drop_zero, h5]
      simp
    rw [happ, bd2_some]
    simp only [V.cells, List.length_cons, List.length_nil, Nat.zero_add, if_true]
    have hc' : (h.set b .dead ++ [HB.row 21 1 (xs.map numC ++ [[.int .i32 x]]) z])[s]? = some (.box 2 [.row b 1 0 xs.length, .int .i64 most]) := by
      rw [List.getElem?_append_left (by simpa using hcl), List.getElem?_set_ne h1]; exact h2
    rw [writeB_box hc' (by simp), bd2_some]
    refine ⟨_, some h.length, rfl, ⟨by omega, xs.map numC ++ [[.int .i32 x]], z, ?_, ?_, ?_, ?_⟩, ⟨by simp, fun j k1 k2 k3 => ?_, fun b hb => .inr (by cases hb; exact Nat.le_refl _)⟩⟩
    · rw [set_at (by simp; omega)]; simp; rfl
    · rw [List.getElem?_set_ne (by omega), List.getElem?_append_right (by simp)]; simp
    · simp
    · simp [numC, List.take_of_length_le]
    · rw [List.getElem?_set_ne (by omega), List.getElem?_append_left (by simpa using k1), List.getElem?_set_ne (fun e => k3 (by rw [e]))]
theorem stk_pop_none (n : Nat) {h : Heap} {s : Nat} {sb : Option Nat} {most : Int} (hb : StkAt h s sb most []) : call (n + 2) 50 [.ptr s 0] h = some (.ret [.int .i32 0, .bool false], h) := by
  rw [show n + 2 = (n + 1) + 1 from rfl, stkPop_eq]
  unfold stkPop
  rw [stk_len_call n hb, cl_ret, one1_one, bop_i64_eql, bd_some, bv_bool, if_pos (by rfl)]
theorem stk_pop_call (n : Nat) {h : Heap} {s : Nat} {sb : Option Nat} {most : Int} {xs : List Int} {x : Int} (hb : StkAt h s sb most (xs ++ [x])) (hl : xs.length + 1 < lim) :
    ∃ h', call (n + 2) 50 [.ptr s 0] h = some (.ret [.int .i32 x, .bool true], h') /\ StkAt h' s sb most xs /\ h'.length = h.length /\ ∀ i, i ≠ s -> h'[i]? = h[i]? := by
  rw [show n + 2 = (n + 1) + 1 from rfl, stkPop_eq]
  unfold stkPop
  rw [stk_len_call n hb, cl_ret, one1_one, bop_i64_eql, bd_some, bv_bool, if_neg (by simp; omega)]
  cases sb with
  | none => exact absurd hb.1 (by simp)
  | some b =>
    obtain ⟨h1, l, z, h2, h3, h4, h5⟩ := hb
    rw [List.length_append, List.length_singleton] at h2 h4 h5
    have hcl := lt_of_at h2
    have hx : l[xs.length]? = some [.int .i32 x] := by
      have := congrArg (fun t : List (List V) => t[xs.length]?) h5
      simpa [numC, List.getElem?_take] using this
    have hr : l.take xs.length = xs.map numC := by
      have := congrArg (List.take xs.length) h5
      rw [List.take_take, Nat.min_eq_left (by omega)] at this
      rw [this, List.map_append, List.take_append_of_le_length (by simp), List.take_of_length_le (by simp)]
    have hw : IntKind.i64.wrap ((((l.take (xs.length + 1)).drop 0).length : Int) - 1) = (xs.length : Int) := by
      rw [List.drop_zero, h5]
      rw [show (((List.map numC (xs ++ [x])).length : Int) - 1) = (xs.length : Int) by simp]
      unfold lim at hl; rw [w64] <;> omega
    have hn : nv (V.int .i64 (xs.length : Int)) = some xs.length := by simp [nv]
    rw [cellsP_box h2, bd3_some, if_pos (by decide)]
    simp only [List.getElem?_cons_zero, bd_some]
    rw [slcH_row h3 (Nat.zero_le _) h4, bd_some, bd3_some, if_pos (by decide)]
    simp only [List.getElem?_cons_zero, bd_some]
    rw [hw, hn, bdS_some, idxP_row (by omega), bd_some, Nat.zero_add, cellsP_rptr h3 (by decide) hx, bd3_some, if_pos (by decide)]
    simp only [List.getElem?_cons_zero, bd_some]
    rw [bd3_some, if_pos (by decide)]
    simp only [List.getElem?_cons_zero, bd_some]
    rw [lenP_row, bd_some, bdS_some, sliceP_row (Nat.zero_le _) (by omega), bd_some]
    simp only [V.cells, List.length_cons, List.length_nil, Nat.zero_add, if_true]
    rw [writeB_box h2 (by simp), bd2_some]
    refine ⟨_, rfl, ⟨h1, l, z, ?_, ?_, by omega, hr⟩, by rw [List.length_set], fun i hi => List.getElem?_set_ne (Ne.symm hi)⟩
    · rw [set_at hcl]; rfl
    · rw [List.getElem?_set_ne (Ne.symm h1)]; exact h3
theorem bld_resT (c v : Int) : bldV prog 34 [(0, .int .u8 c), (1, .int .i32 v)] = some [.int .u8 c, .int .i32 v] := by kernel_rfl
theorem all_step {P : Nat -> Prop} {m : Nat} (h : ∀ k, 3 <= k -> k < m -> P k) (hm : P m) : ∀ k, 3 <= k -> k < m + 1 -> P k := fun k h3 hk => by
  rcases Nat.lt_or_ge k m with e | e
  · exact h k h3 e
  · obtain rfl : k = m := by omega
    exact hm
theorem stkDo_else (n s : Nat) (x : Int) (h : Heap) : ∀ k : Nat, 3 <= k -> k < 256 -> call (n + 2) 43 [.ptr s 0, .agg [.int .u8 (k : Int), .int .i32 x]] h = some (.ret [resV 5 0], h) := by
  iterate 253 (refine all_step (m := _) ?_ (by show call _ _ _ _ = _; kernel_rfl))
  intro k h1 h2
  omega
theorem stk_do_call (n : Nat) {h : Heap} {s : Nat} {sb : Option Nat} {most : Int} {xs : List Int} (hb : StkAt h s sb most xs) (hl : xs.length + 1 < lim) (c x : Int) (c0 : 0 <= c) (c1 : c < 256) :
    ∃ h' sb', call (n + 5) 43 [.ptr s 0, .agg [.int .u8 c, .int .i32 x]] h = some (.ret [resV (stkStep most c x xs).1.1 (stkStep most c x xs).1.2], h') /\ StkAt h' s sb' most (stkStep most c x xs).2 /\ Fed h h' s sb sb' := by
  obtain ⟨k, rfl⟩ : ∃ k : Nat, c = (k : Int) := ⟨c.toNat, (Int.toNat_of_nonneg c0).symm⟩
  by_cases k3 : 3 <= k
  · have : stkStep most (k : Int) x xs = ((5, 0), xs) := by unfold stkStep; rw [if_neg (by omega), if_neg (by omega)]
    rw [this]
    exact ⟨h, sb, stkDo_else (n + 3) s x h k k3 (by omega), hb, Fed.refl ..⟩
  obtain rfl | rfl | rfl : k = 0 \/ k = 1 \/ k = 2 := by omega
  · exact ⟨h, sb, (stkDo0_eq (n + 3) s x h).trans (by unfold stkDo0; rw [if_neg (by decide)]; rfl), hb, Fed.refl ..⟩
  · by_cases hm : (xs.length : Int) < most
    · obtain ⟨h', sb', e, b1, b2⟩ := stk_push_call (n + 2) hb x hm hl
      have : stkStep most ((1 : Nat) : Int) x xs = ((1, 0), xs ++ [x]) := by unfold stkStep; rw [if_pos (by decide), if_pos hm]
      rw [this]
      refine ⟨h', sb', (stkDo1_eq (n + 3) s x h).trans ?_, b1, b2⟩
      unfold stkDo1
      rw [if_neg (by decide), stkpush_eq]
      unfold stkpush
      rw [e, cl_ret, one1_one, bv_bool, if_pos (by rfl)]
      rfl
    · have e := stk_push_full (n + 2) hb x (by omega)
      have : stkStep most ((1 : Nat) : Int) x xs = ((3, 0), xs) := by unfold stkStep; rw [if_pos (by decide), if_neg hm]
      rw [this]
      refine ⟨h, sb, (stkDo1_eq (n + 3) s x h).trans ?_, hb, Fed.refl ..⟩
      unfold stkDo1
      rw [if_neg (by decide), stkpush_eq]
      unfold stkpush
      rw [e, cl_ret, one1_one, bv_bool, if_neg (by decide)]
      rfl
  · have e2 : ∀ (m : Nat) (h : Heap), call (m + 1) 56 [.ptr s 0, .int .i32 x] h = stkpop m s h := fun m h => by kernel_rfl
    rcases List.eq_nil_or_concat xs with rfl | ⟨ys, y, rfl⟩
    · have e := stk_pop_none (n + 1) hb
      have : stkStep most ((2 : Nat) : Int) x [] = ((4, 0), []) := rfl
      rw [this]
      refine ⟨h, sb, (stkDo2_eq (n + 3) s x h).trans ?_, hb, Fed.refl ..⟩
      unfold stkDo2
      rw [if_neg (by decide), e2]
      unfold stkpop
      rw [e, cl_ret]
      rfl
    · rw [List.concat_eq_append] at hb hl ⊢
      obtain ⟨h', e, b1, b2, b3⟩ := stk_pop_call (n + 1) hb (by simp at hl; omega)
      have : stkStep most ((2 : Nat) : Int) x (ys ++ [y]) = ((2, y), ys) := by unfold stkStep; rw [if_neg (by decide), if_pos (by decide)]; simp
      rw [this]
      refine ⟨h', sb, (stkDo2_eq (n + 3) s x h).trans ?_, b1, ⟨by omega, fun i h1 h2 h3 => b3 i h2, fun b hb => .inl hb⟩⟩
      unfold stkDo2
      rw [if_neg (by decide), e2]
      unfold stkpop
      rw [e, cl_ret]
      simp only [List.getElem?_cons_zero, List.getElem?_cons_succ, bd_some, bv_bool, if_true]
      rw [bld_resT, bd_some]
      rfl
end Go.Proofs.Try
set_option linter.unusedVariables false
namespace Go.Proofs.Try
open Go.L
set_option maxRecDepth 100000
noncomputable def matPush (n : Nat) (s : Nat) (i : Int) (h : Heap) : Option (Res × Heap) :=
 (bd3 (cellsP h (V.ptr s 1)) fun cs1 m0 o2 => if (o2 + 1 <= m0 /\ 0 < 1) then
 (bd (cs1)[o2]? fun v3 =>
 (bd3 (cellsP h (V.ptr s 0)) fun cs5 m4 o6 => if (o6 + 1 <= m4 /\ 0 < 1) then
 (bd (cs5)[o6]? fun v7 =>
 (bd (slcH h v7) fun p8 =>
 (bd (bop prog .add 3 v3 (V.int .i64 ((p8.2).length : Int))) fun v9 =>
 (bd3 (cellsP h (V.ptr s 2)) fun cs11 m10 o12 => if (o12 + 1 <= m10 /\ 0 < 1) then
 (bd (cs11)[o12]? fun v13 =>
 (bd (bop prog .geq 3 v9 v13) fun v14 =>
 (bv v14 fun b15 => if b15 then
 some (Res.ret [(V.bool false)], h)
 else
 (bd3 (cellsP h (V.ptr s 0)) fun cs17 m16 o18 => if (o18 + 1 <= m16 /\ 0 < 1) then
 (bd (cs17)[o18]? fun v19 =>
 (bd2 (appP 3 1 h [[(V.int .i64 i)]] v19) fun v20 h21 =>
 (if ((V.cells v20)).length = 1 then
 (bd2 (writeB h21 (V.cells v20) (V.ptr s 0)) fun b22 x23 =>
 some (Res.ret [(V.bool true)], ((h21).set b22 x23))) else none))) else none)))) else none)))) else none)) else none)
theorem matPush_eq (n : Nat) (s : Nat) (i : Int) (h : Heap) : call (n + 1) 52 [(V.ptr s 0), (V.int .i64 i)] h = matPush n s i h := by kernel_rfl
noncomputable def matPop (n : Nat) (s : Nat) (h : Heap) : Option (Res × Heap) :=
 (bd3 (cellsP h (V.ptr s 0)) fun cs1 m0 o2 => if (o2 + 1 <= m0 /\ 0 < 1) then
 (bd (cs1)[o2]? fun v3 =>
 (bd (slcH h v3) fun p4 =>
 (if (decide ((IntKind.i64.wrap (((p4.2).length : Int) - 1)) < 0)) then
 some (Res.ret [(V.int .i64 (-1)), (V.bool false)], h)
 else
 (bd3 (cellsP h (V.ptr s 0)) fun cs6 m5 o7 => if (o7 + 1 <= m5 /\ 0 < 1) then
 (bd (cs6)[o7]? fun v8 =>
 (bdS (nv (V.int .i64 (IntKind.i64.wrap (((p4.2).length : Int) - 1)))) fun n9 =>
 (bd (idxP 1 n9 v8) fun p10 =>
 (bd3 (cellsP h p10) fun cs12 m11 o13 => if (o13 + 1 <= m11 /\ 0 < 1) then
 (bd (cs12)[o13]? fun v14 =>
 (bd3 (cellsP h (V.ptr s 0)) fun cs16 m15 o17 => if (o17 + 1 <= m15 /\ 0 < 1) then
 (bd (cs16)[o17]? fun v18 =>
 (bd (lenP v18) fun n19 =>
 (bdS (nv (V.int .i64 (IntKind.i64.wrap (((p4.2).length : Int) - 1)))) fun n20 =>
 (bd (sliceP 1 0 n20 (none : Option Nat) true v18) fun v21 =>
 (if ((V.cells v21)).length = 1 then
 (bd2 (writeB h (V.cells v21) (V.ptr s 0)) fun b22 x23 =>
 some (Res.ret [v14, (V.bool true)], ((h).set b22 x23))) else none))))) else none)) else none)))) else none)))) else none)
theorem matPop_eq (n : Nat) (s : Nat) (h : Heap) : call (n + 1) 53 [(V.ptr s 0)] h = matPop n s h := by kernel_rfl
noncomputable def matUnder (n : Nat) (s : Nat) (h : Heap) : Option (Res × Heap) :=
 (bd3 (cellsP h (V.ptr s 1)) fun cs1 m0 o2 => if (o2 + 1 <= m0 /\ 0 < 1) then
 (bd (cs1)[o2]? fun v3 =>
 (bd (bop prog .eql 3 v3 (V.int .i64 0)) fun v4 =>
 (bv v4 fun b5 => if b5 then
 some (Res.ret [(V.bool false)], h)
 else
 (bd3 (cellsP h (V.ptr s 1)) fun cs7 m6 o8 => if (o8 + 1 <= m6 /\ 0 < 1) then
 (bd (cs7)[o8]? fun v9 =>
 (bd (bop prog .sub 3 v9 (V.int .i64 1)) fun v10 =>
 (if ((V.cells v10)).length = 1 then
 (bd2 (writeB h (V.cells v10) (V.ptr s 1)) fun b11 x12 =>
 some (Res.ret [(V.bool true)], ((h).set b11 x12))) else none))) else none)))) else none)
theorem matUnder_eq (n : Nat) (s : Nat) (h : Heap) : call (n + 1) 54 [(V.ptr s 0)] h = matUnder n s h := by kernel_rfl
noncomputable def matA2 (n : Nat) (i : Int) (j : Int) (bo : Nat) (r : Nat) (l : Nat) (h : Heap) : Option (Res × Heap) :=
 (bd3 (cellsP h (V.ptr bo 0)) fun cs1 m0 o2 => if (o2 + 1 <= m0 /\ 0 < 1) then
 (bd (cs1)[o2]? fun v3 =>
 (bdS (nv (V.int .i64 j)) fun n4 =>
 (bd (idxP 2 n4 v3) fun p5 =>
 (bd (addP 1 p5) fun p6 =>
 (bd3 (cellsP h p6) fun cs8 m7 o9 => if (o9 + 1 <= m7 /\ 0 < 1) then
 (bd (cs8)[o9]? fun v10 =>
 (bdS (nv (V.int .i64 i)) fun n11 =>
 (bd (idxP 1 n11 (V.row r 1 0 l)) fun p12 =>
 (if ((V.cells v10)).length = 1 then
 (bd2 (writeB h (V.cells v10) p12) fun b13 x14 =>
 some (Res.ret [], ((h).set b13 x14))) else none)))) else none))))) else none)
theorem matA2_eq (n : Nat) (i : Int) (j : Int) (bo : Nat) (r : Nat) (l : Nat) (h : Heap) : call (n + 1) 48 [(V.int .i64 i), (V.int .i64 j), (V.ptr bo 0), (V.iptr 1 [(V.row r 1 0 l)] 0)] h = matA2 n i j bo r l h := by kernel_rfl
noncomputable def matA3 (n : Nat) (i : Int) (bs : Nat) (r : Nat) (l : Nat) (h : Heap) : Option (Res × Heap) :=
 (bd3 (cellsP h (V.ptr bs 0)) fun cs1 m0 o2 => if (o2 + 1 <= m0 /\ 0 < 1) then
 (bd (cs1)[o2]? fun v3 =>
 (clH (call n 50 [v3] h) fun r4 h5 =>
 (bd (r4)[0]? fun v7 =>
 (bd (r4)[1]? fun v8 =>
 (bdS (nv (V.int .i64 i)) fun n9 =>
 (bd (idxP 1 n9 (V.row r 1 0 l)) fun p10 =>
 (if ((V.cells v7)).length = 1 then
 (bd2 (writeB h5 (V.cells v7) (V.rptr r 1 (ixP p10) 0)) fun b11 x12 =>
 some (Res.ret [], ((h5).set b11 x12))) else none))))))) else none)
theorem matA3_eq (n : Nat) (i : Int) (bs : Nat) (r : Nat) (l : Nat) (h : Heap) : call (n + 1) 49 [(V.int .i64 i), (V.ptr bs 0), (V.iptr 1 [(V.row r 1 0 l)] 0)] h = matA3 n i bs r l h := by kernel_rfl
noncomputable def matAll_l2 (n : Nat) (s : Nat) (os : List (List V)) (osb : Bool) (bo : Nat) (bs : Nat) (r : Nat) (l : Nat) (st3 : List V) (hh4 : Heap) (next5 : List V -> Heap -> Option (Res × Heap)) : Option (Res × Heap) :=
 (bd (bop prog .lss 3 (gv st3 3) (V.int .i64 ((os).length : Int))) fun v6 =>
 (bv v6 fun b7 => if b7 then
 (bdS (nv (gv st3 3)) fun n8 =>
 (bd (idxP 2 n8 (V.sl 2 os osb)) fun p9 =>
 (bd3 (cellsP hh4 p9) fun cs11 m10 o12 => if (o12 + 2 <= m10 /\ 0 < 2) then
 (if (((cs11).drop o12 |>.take 2)).length = 2 then
 (if ((((cs11).drop o12 |>.take 2)).length <= 2) then
 (bdS (nv (gv st3 3)) fun n13 =>
 (if (2 = 2 /\ n13 < ((lsl (gv st3 1))).length /\ (some 27 : Option Nat) ≠ some 9) then
 (bd ((setR [(V.int .u8 0), (V.int .i32 0)] 0 ((cs11).drop o12 |>.take 2)))[0]? fun v14 =>
 (bd (bop prog .eql 5 v14 (V.int .u8 1)) fun v15 =>
 (bv v15 fun b16 => if b16 then
 (bd ((lsl (gv st3 1)))[n13]? fun es17 =>
 (cl (call n 52 [(V.ptr s 0), (gv st3 3)] hh4) (fun r18 h19 =>
 (one1 r18 fun v21 =>
 (bv v21 fun b22 => if b22 then
 (bd ((((lsl (gv st3 1))).set n13 (setR es17 0 [(V.int .u8 3)])))[n13]? fun es23 =>
 (bd (bop prog .add 3 (gv st3 3) (V.int .i64 1)) fun v24 =>
 (next5 [(V.sl 2 (lsl (gv st3 0)) false), (V.sl 2 (((((lsl (gv st3 1))).set n13 (setR es17 0 [(V.int .u8 3)]))).set n13 (setR es23 0 [(V.int .u8 1)])) false), (V.bool false), v24] h19)))
 else
 (bd (bop prog .add 3 (gv st3 3) (V.int .i64 1)) fun v25 =>
 (next5 [(V.sl 2 (lsl (gv st3 0)) false), (V.sl 2 (((lsl (gv st3 1))).set n13 (setR es17 0 [(V.int .u8 3)])) false), (V.bool false), v25] h19))))) (fun z20 h19 => some (Res.pan z20, h19))))
 else
 (bd (bop prog .eql 5 v14 (V.int .u8 2)) fun v26 =>
 (bv v26 fun b27 => if b27 then
 (bd ((lsl (gv st3 1)))[n13]? fun es28 =>
 (cl (call n 53 [(V.ptr s 0)] hh4) (fun r29 h30 =>
 (bd (r29)[0]? fun v32 =>
 (bd (r29)[1]? fun v33 =>
 (bv v33 fun b34 => if b34 then
 (cl (call n 48 [(gv st3 3), v32, (V.ptr bo 0), (V.iptr 1 [(V.row r 1 0 l)] 0)] h30) (fun r35 h36 =>
 (bd (bop prog .add 3 (gv st3 3) (V.int .i64 1)) fun v38 =>
 (next5 [(V.sl 2 (lsl (gv st3 0)) false), (V.sl 2 (((lsl (gv st3 1))).set n13 (setR es28 0 [(V.int .u8 2)])) false), (V.bool false), v38] h36))) (fun z37 h36 => some (Res.pan z37, h36)))
 else
 (cl (call n 54 [(V.ptr s 0)] h30) (fun r39 h40 =>
 (one1 r39 fun v42 =>
 (bv v42 fun b43 => if b43 then
 (cl (call n 49 [(gv st3 3), (V.ptr bs 0), (V.iptr 1 [(V.row r 1 0 l)] 0)] h40) (fun r44 h45 =>
 (bd (bop prog .add 3 (gv st3 3) (V.int .i64 1)) fun v47 =>
 (next5 [(V.sl 2 (lsl (gv st3 0)) false), (V.sl 2 (((lsl (gv st3 1))).set n13 (setR es28 0 [(V.int .u8 2)])) false), (V.bool false), v47] h45))) (fun z46 h45 => some (Res.pan z46, h45)))
 else
 (bd ((((lsl (gv st3 1))).set n13 (setR es28 0 [(V.int .u8 2)])))[n13]? fun es48 =>
 (bd (bop prog .add 3 (gv st3 3) (V.int .i64 1)) fun v49 =>
 (next5 [(V.sl 2 (lsl (gv st3 0)) false), (V.sl 2 (((((lsl (gv st3 1))).set n13 (setR es28 0 [(V.int .u8 2)]))).set n13 (setR es48 0 [(V.int .u8 4)])) false), (V.bool false), v49] h40)))))) (fun z41 h40 => some (Res.pan z41, h40))))))) (fun z31 h30 => some (Res.pan z31, h30))))
 else
 (bd ((lsl (gv st3 1)))[n13]? fun es50 =>
 (bd (bop prog .add 3 (gv st3 3) (V.int .i64 1)) fun v51 =>
 (next5 [(V.sl 2 (lsl (gv st3 0)) false), (V.sl 2 (((lsl (gv st3 1))).set n13 (setR es50 0 [(V.int .u8 5)])) false), (V.bool false), v51] hh4)))))))) else none)) else none) else none) else none)))
 else
 some (Res.ret [(V.row (hh4).length 2 0 ((lsl (gv st3 1))).length)], (hh4 ++ [(HB.row 34 2 (lsl (gv st3 1)) true)]))))
noncomputable def matAll (n : Nat) (s : Nat) (os : List (List V)) (osb : Bool) (bo : Nat) (bs : Nat) (r : Nat) (l : Nat) (h : Heap) : Option (Res × Heap) :=
 (bdS (nv (V.int .i64 ((os).length : Int))) fun n0 =>
 (bdS (nv (V.int .i64 ((os).length : Int))) fun n1 =>
 (if (n0 <= n1 /\ n1 < lim /\ 2 = 2) then
 (loopx n (matAll_l2 n s os osb bo bs r l) [(V.sl 2 [] false), (V.sl 2 (List.replicate n0 [(V.int .u8 0), (V.int .i32 0)]) false), (V.bool false), (V.int .i64 0)] h) else none)))
theorem matAll_eq (n : Nat) (s : Nat) (os : List (List V)) (osb : Bool) (bo : Nat) (bs : Nat) (r : Nat) (l : Nat) (h : Heap) : call (n + 1) 47 [(V.ptr s 0), (V.sl 2 os osb), (V.fn 48 [(V.ptr bo 0), (V.iptr 1 [(V.row r 1 0 l)] 0)]), (V.fn 49 [(V.ptr bs 0), (V.iptr 1 [(V.row r 1 0 l)] 0)])] h = matAll n s os osb bo bs r l h := by kernel_rfl
noncomputable def matApply_l29 (n : Nat) (s : Nat) (os : List (List V)) (osb : Bool) (h5 : Heap) (cs8 : List V) (n14 : Nat) (v27 : V) (p28 : Nat × List (List V)) (st30 : List V) (hh31 : Heap) (next32 : List V -> Heap -> Option (Res × Heap)) : Option (Res × Heap) :=
 (bd (bop prog .lss 3 (gv st30 1) (V.int .i64 ((p28.2).length : Int))) fun v33 =>
 (bv v33 fun b34 => if b34 then
 (bdS (nv (gv st30 1)) fun n35 =>
 (bd (idxP 1 n35 (V.row (((((h5 ++ [(HB.box 3 cs8)]) ++ [(HB.box 1 [(V.ptr (h5).length 0)])]) ++ [(HB.box 1 [(V.ptr s 0)])]) ++ [(HB.box 1 [(V.sl 2 os osb)])])).length 1 0 ((List.replicate n14 [(V.int .i32 0)])).length)) fun p36 =>
 (bd3 (cellsP hh31 p36) fun cs38 m37 o39 => if (o39 + 1 <= m37 /\ 0 < 1) then
 (bd (cs38)[o39]? fun v40 =>
 (bdS (nv (gv st30 1)) fun n41 =>
 (bd (idxP 2 n41 v27) fun p42 =>
 (bd (addP 1 p42) fun p43 =>
 (if ((V.cells v40)).length = 1 then
 (bd2 (writeB hh31 (V.cells v40) p43) fun b44 x45 =>
 (bd (bop prog .add 3 (gv st30 1) (V.int .i64 1)) fun v46 =>
 (next32 [(V.sl 2 (lsl (gv st30 0)) false), v46] ((hh31).set b44 x45)))) else none))))) else none)))
 else
 (bd2 (dcl n 45 [(V.ptr ((h5 ++ [(HB.box 3 cs8)])).length 0), (V.ptr (((h5 ++ [(HB.box 3 cs8)]) ++ [(HB.box 1 [(V.ptr (h5).length 0)])])).length 0), (V.ptr ((((h5 ++ [(HB.box 3 cs8)]) ++ [(HB.box 1 [(V.ptr (h5).length 0)])]) ++ [(HB.box 1 [(V.ptr s 0)])])).length 0)] hh31 none) fun h47 b48 =>
 some (Res.ret [v27], h47))))
noncomputable def matApply (n : Nat) (s : Nat) (os : List (List V)) (osb : Bool) (h : Heap) : Option (Res × Heap) :=
 (clH (call n 36 [(V.ptr s 0)] h) fun r0 h1 =>
 (one1 r0 fun v3 =>
 (clH (call n 44 [(V.ptr s 0)] h1) fun r4 h5 =>
 (one1 r4 fun v7 =>
 (bd (bldV prog 99 [(1, v3), (2, v7)]) fun cs8 =>
 (if (cs8).length = 3 then
 (bd3 (cellsP ((((h5 ++ [(HB.box 3 cs8)]) ++ [(HB.box 1 [(V.ptr (h5).length 0)])]) ++ [(HB.box 1 [(V.ptr s 0)])]) ++ [(HB.box 1 [(V.sl 2 os osb)])]) (V.ptr ((((h5 ++ [(HB.box 3 cs8)]) ++ [(HB.box 1 [(V.ptr (h5).length 0)])]) ++ [(HB.box 1 [(V.ptr s 0)])])).length 0)) fun cs10 m9 o11 => if (o11 + 1 <= m9 /\ 0 < 1) then
 (bd (cs10)[o11]? fun v12 =>
 (bd (slcH ((((h5 ++ [(HB.box 3 cs8)]) ++ [(HB.box 1 [(V.ptr (h5).length 0)])]) ++ [(HB.box 1 [(V.ptr s 0)])]) ++ [(HB.box 1 [(V.sl 2 os osb)])]) v12) fun p13 =>
 (bdS (nv (V.int .i64 ((p13.2).length : Int))) fun n14 =>
 (bdS (nv (V.int .i64 ((p13.2).length : Int))) fun n15 =>
 (if (n14 <= n15 /\ n15 < lim /\ 1 = 1) then
 (bd3 (cellsP (((((h5 ++ [(HB.box 3 cs8)]) ++ [(HB.box 1 [(V.ptr (h5).length 0)])]) ++ [(HB.box 1 [(V.ptr s 0)])]) ++ [(HB.box 1 [(V.sl 2 os osb)])]) ++ [(HB.row 21 1 (List.replicate n14 [(V.int .i32 0)]) true)]) (V.ptr ((h5 ++ [(HB.box 3 cs8)])).length 0)) fun cs17 m16 o18 => if (o18 + 1 <= m16 /\ 0 < 1) then
 (bd (cs17)[o18]? fun v19 =>
 (bd3 (cellsP (((((h5 ++ [(HB.box 3 cs8)]) ++ [(HB.box 1 [(V.ptr (h5).length 0)])]) ++ [(HB.box 1 [(V.ptr s 0)])]) ++ [(HB.box 1 [(V.sl 2 os osb)])]) ++ [(HB.row 21 1 (List.replicate n14 [(V.int .i32 0)]) true)]) (V.ptr ((((h5 ++ [(HB.box 3 cs8)]) ++ [(HB.box 1 [(V.ptr (h5).length 0)])]) ++ [(HB.box 1 [(V.ptr s 0)])])).length 0)) fun cs21 m20 o22 => if (o22 + 1 <= m20 /\ 0 < 1) then
 (bd (cs21)[o22]? fun v23 =>
 (cl (call n 47 [v19, v23, (V.fn 48 [(V.ptr ((((h5 ++ [(HB.box 3 cs8)]) ++ [(HB.box 1 [(V.ptr (h5).length 0)])]) ++ [(HB.box 1 [(V.ptr s 0)])])).length 0), (V.iptr 1 [(V.row (((((h5 ++ [(HB.box 3 cs8)]) ++ [(HB.box 1 [(V.ptr (h5).length 0)])]) ++ [(HB.box 1 [(V.ptr s 0)])]) ++ [(HB.box 1 [(V.sl 2 os osb)])])).length 1 0 ((List.replicate n14 [(V.int .i32 0)])).length)] 0)]), (V.fn 49 [(V.ptr (((h5 ++ [(HB.box 3 cs8)]) ++ [(HB.box 1 [(V.ptr (h5).length 0)])])).length 0), (V.iptr 1 [(V.row (((((h5 ++ [(HB.box 3 cs8)]) ++ [(HB.box 1 [(V.ptr (h5).length 0)])]) ++ [(HB.box 1 [(V.ptr s 0)])]) ++ [(HB.box 1 [(V.sl 2 os osb)])])).length 1 0 ((List.replicate n14 [(V.int .i32 0)])).length)] 0)])] (((((h5 ++ [(HB.box 3 cs8)]) ++ [(HB.box 1 [(V.ptr (h5).length 0)])]) ++ [(HB.box 1 [(V.ptr s 0)])]) ++ [(HB.box 1 [(V.sl 2 os osb)])]) ++ [(HB.row 21 1 (List.replicate n14 [(V.int .i32 0)]) true)])) (fun r24 h25 =>
 (one1 r24 fun v27 =>
 (bd (slcH h25 (V.row (((((h5 ++ [(HB.box 3 cs8)]) ++ [(HB.box 1 [(V.ptr (h5).length 0)])]) ++ [(HB.box 1 [(V.ptr s 0)])]) ++ [(HB.box 1 [(V.sl 2 os osb)])])).length 1 0 ((List.replicate n14 [(V.int .i32 0)])).length)) fun p28 =>
 (loopx n (matApply_l29 n s os osb h5 cs8 n14 v27 p28) [(V.sl 2 [] false), (V.int .i64 0)] h25)))) (fun z26 h25 => (bd2 (dcl n 45 [(V.ptr ((h5 ++ [(HB.box 3 cs8)])).length 0), (V.ptr (((h5 ++ [(HB.box 3 cs8)]) ++ [(HB.box 1 [(V.ptr (h5).length 0)])])).length 0), (V.ptr ((((h5 ++ [(HB.box 3 cs8)]) ++ [(HB.box 1 [(V.ptr (h5).length 0)])]) ++ [(HB.box 1 [(V.ptr s 0)])])).length 0)] h25 (some z26)) fun h49 b50 => if b50 then
 some (Res.ret [(V.row (h49).length 2 0 0)], (h49 ++ [(HB.row 34 2 [] true)]))
 else
 some (Res.pan z26, h49))))) else none)) else none) else none))))) else none) else none))))))
theorem matApply_eq (n : Nat) (s : Nat) (os : List (List V)) (osb : Bool) (h : Heap) : call (n + 1) 41 [(V.ptr s 0), (V.sl 2 os osb)] h = matApply n s os osb h := by kernel_rfl
noncomputable def matA1_l11 (n : Nat) (bs : Nat) (bo : Nat) (v9 : V) (p10 : Nat × List (List V)) (st12 : List V) (hh13 : Heap) (next14 : List V -> Heap -> Option (Heap × Bool)) : Option (Heap × Bool) :=
 (bd (bop prog .lss 3 (gv st12 0) (V.int .i64 ((p10.2).length : Int))) fun v15 =>
 (bv v15 fun b16 => if b16 then
 (bdS (nv (gv st12 0)) fun n17 =>
 (bd (idxP 1 n17 v9) fun p18 =>
 (bd3 (cellsP hh13 p18) fun cs20 m19 o21 => if (o21 + 1 <= m19 /\ 0 < 1) then
 (bd (cs20)[o21]? fun v22 =>
 (bd3 (cellsP hh13 (V.ptr bs 0)) fun cs24 m23 o25 => if (o25 + 1 <= m23 /\ 0 < 1) then
 (bd (cs24)[o25]? fun v26 =>
 (bd3 (cellsP hh13 (V.ptr bo 0)) fun cs28 m27 o29 => if (o29 + 1 <= m27 /\ 0 < 1) then
 (bd (cs28)[o29]? fun v30 =>
 (bdS (nv v22) fun n31 =>
 (bd (idxP 2 n31 v30) fun p32 =>
 (bd (addP 1 p32) fun p33 =>
 (bd3 (cellsP hh13 p33) fun cs35 m34 o36 => if (o36 + 1 <= m34 /\ 0 < 1) then
 (bd (cs35)[o36]? fun v37 =>
 (cl (call n 46 [v26, v37] hh13) (fun r38 h39 =>
 (one1 r38 fun v41 =>
 (bd (bop prog .add 3 (gv st12 0) (V.int .i64 1)) fun v42 =>
 (next14 [v42] h39)))) (fun z40 h39 => none))) else none))))) else none)) else none)) else none)))
 else
 some (hh13, false)))
noncomputable def matA1 (n : Nat) (b : Nat) (bs : Nat) (bo : Nat) (h : Heap) : Option (Heap × Bool) :=
 (bd3 (cellsP h (V.ptr b 0)) fun cs1 m0 o2 => if (o2 + 1 <= m0 /\ 0 < 1) then
 (bd (cs1)[o2]? fun v3 =>
 (bd (addP 0 v3) fun p4 =>
 (bd (addP 0 p4) fun p5 =>
 (bd3 (cellsP h p5) fun cs7 m6 o8 => if (o8 + 1 <= m6 /\ 0 < 1) then
 (bd (cs7)[o8]? fun v9 =>
 (bd (slcH h v9) fun p10 =>
 (loopx n (matA1_l11 n bs bo v9 p10) [(V.int .i64 0)] h))) else none)))) else none)
theorem matA1_eq (n : Nat) (b : Nat) (bs : Nat) (bo : Nat) (h : Heap) : dcl n 45 [(V.ptr b 0), (V.ptr bs 0), (V.ptr bo 0)] h none = matA1 n b bs bo h := by kernel_rfl
end Go.Proofs.Try
namespace Go.Rp
end Go.Rp
set_option linter.unusedVariables false
set_option linter.unusedSimpArgs false
namespace Go.Proofs.Try
open Go.L Go.Rp
set_option maxRecDepth 100000
def _root_.Go.Rp.O.w (o : O) : List V := [.int .u8 o.k, .int .i32 o.v]
def _root_.Go.Rp.R.w (r : R) : List V := [.int .u8 r.c, .int .i32 r.v]
theorem app_os (e : Nat) (a : List O) (x : O) (h : a.length + 1 < lim) : app e 2 (.own e 2 (a.map O.w)) [O.w x] = some ((a ++ [x]).map O.w) := by
  simp [app, h]
theorem bsl_o (x : O) : bslV prog 27 1 [(0, .agg (O.w x))] = some (2, [O.w x]) := by kernel_rfl
theorem get_os (l : List O) (n : Nat) : (l.map O.w)[n]? = (l[n]?).map O.w := List.getElem?_map
theorem get_rs (l : List R) (n : Nat) : (l.map R.w)[n]? = (l[n]?).map R.w := List.getElem?_map
theorem ow_take (o : O) : List.take 2 (O.w o) = O.w o := rfl
theorem ow_len (o : O) : (O.w o).length = 2 := rfl
theorem set_o (o : O) : setR [V.int .u8 0, .int .i32 0] 0 (O.w o) = O.w o := rfl
end Go.Proofs.Try
set_option linter.unusedVariables false
set_option linter.unusedSimpArgs false
namespace Go.Sk
open Go.L
def idxC (x : Nat) : List V := [.int .i64 (x : Int)]
end Go.Sk
namespace Go.Proofs.Try
open Go.L Go.Rp Go.Sk
set_option maxRecDepth 100000
def MatAt (h : Heap) (s : Nat) (sb : Option Nat) (u m : Nat) (xs : List Nat) : Prop := match sb with
  | none => xs = [] /\ h[s]? = some (.box 3 [.sl 0 [] true, .int .i64 (u : Int), .int .i64 (m : Int)])
  | some b => b ≠ s /\ ∃ l z, h[s]? = some (.box 3 [.row b 1 0 xs.length, .int .i64 (u : Int), .int .i64 (m : Int)]) /\ h[b]? = some (.row 3 1 l z) /\ xs.length <= l.length /\ l.take xs.length = xs.map idxC
theorem MatAt.keep {h h' : Heap} {s : Nat} {sb : Option Nat} {u m : Nat} {xs : List Nat} (hb : MatAt h s sb u m xs) (hc : h'[s]? = h[s]?) (hk : ∀ b, sb = some b -> h'[b]? = h[b]?) : MatAt h' s sb u m xs := by
  cases sb with
  | none => exact ⟨hb.1, hc.trans hb.2⟩
  | some b =>
    obtain ⟨h1, l, z, h2, h3, h4⟩ := hb
    exact ⟨h1, l, z, hc.trans h2, (hk b rfl).trans h3, h4⟩
theorem MatAt.box {h : Heap} {s : Nat} {sb : Option Nat} {u m : Nat} {xs : List Nat} (hb : MatAt h s sb u m xs) : ∃ v sz, h[s]? = some (.box 3 [v, .int .i64 (u : Int), .int .i64 (m : Int)]) /\ slcH h v = some (sz, xs.map idxC) := by
  cases sb with
  | none =>
    obtain ⟨rfl, hc⟩ := hb
    exact ⟨_, 0, hc, slcH_sl ..⟩
  | some b =>
    obtain ⟨h1, l, z, h2, h3, h4, h5⟩ := hb
    refine ⟨_, 1, h2, ?_⟩
    rw [slcH_row h3 (Nat.zero_le _) h4, List.drop_zero, h5]
theorem mat_push_full (n : Nat) {h : Heap} {s : Nat} {sb : Option Nat} {u m : Nat} {xs : List Nat} (hb : MatAt h s sb u m xs) (i : Int) (hm : m <= u + xs.length) (hl : u + xs.length < lim) : call (n + 1) 52 [.ptr s 0, .int .i64 i] h = some (.ret [.bool false], h) := by
  obtain ⟨v, sz, h1, h2⟩ := hb.box
  refine (matPush_eq n s i h).trans ?_
  unfold matPush
  rw [cellsP_box h1, bd3_some, if_pos (by decide)]
  simp only [List.getElem?_cons_zero, List.getElem?_cons_succ, bd_some]
  rw [cellsP_box h1, bd3_some, if_pos (by decide)]
  simp only [List.getElem?_cons_zero, bd_some]
  rw [h2, bd_some, bop_i64_add, bd_some, cellsP_box h1, bd3_some, if_pos (by decide)]
  simp only [List.getElem?_cons_zero, List.getElem?_cons_succ, bd_some]
  rw [bop_i64_geq, bd_some, bv_bool, List.length_map, w64 (by omega) (by unfold lim at hl; omega), if_pos (by simp; omega)]
theorem mat_push_call (n : Nat) {h : Heap} {s : Nat} {sb : Option Nat} {u m : Nat} {xs : List Nat} (hb : MatAt h s sb u m xs) (i : Nat) (hm : u + xs.length < m) (hl : u + xs.length + 1 < lim) :
    ∃ h' sb', call (n + 1) 52 [.ptr s 0, .int .i64 (i : Int)] h = some (.ret [.bool true], h') /\ MatAt h' s sb' u m (xs ++ [i]) /\ Fed h h' s sb sb' := by
  rw [matPush_eq n s i h]
  unfold matPush
  obtain ⟨v, sz, k1, k2⟩ := hb.box
  rw [cellsP_box k1, bd3_some, if_pos (by decide)]
  simp only [List.getElem?_cons_zero, List.getElem?_cons_succ, bd_some]
  rw [cellsP_box k1, bd3_some, if_pos (by decide)]
  simp only [List.getElem?_cons_zero, bd_some]
  rw [k2, bd_some, bop_i64_add, bd_some, cellsP_box k1, bd3_some, if_pos (by decide)]
  simp only [List.getElem?_cons_zero, List.getElem?_cons_succ, bd_some]
  rw [bop_i64_geq, bd_some, bv_bool, List.length_map, w64 (by omega) (by unfold lim at hl; omega), if_neg (by simp; omega), bd3_some, if_pos (by decide)]
  simp only [List.getElem?_cons_zero, bd_some]
  cases sb with
  | none =>
    obtain ⟨rfl, hc⟩ := hb
    have hcl := lt_of_at hc
    obtain rfl : v = .sl 0 [] true := by rw [hc] at k1; simpa using k1.symm
    have happ : appP 3 1 h [[.int .i64 (i : Int)]] (.sl 0 [] true) = some (.row h.length 1 0 1, h ++ [.row 3 1 [[.int .i64 (i : Int)]] true]) := rfl
    simp only [happ, bd2_some, V.cells, List.length_cons, List.length_nil, Nat.zero_add, if_true]
    have hc' : (h ++ [HB.row 3 1 [[.int .i64 (i : Int)]] true])[s]? = some (.box 3 [.sl 0 [] true, .int .i64 (u : Int), .int .i64 (m : Int)]) := by rw [List.getElem?_append_left hcl]; exact hc
    rw [writeB_box hc' (by simp), bd2_some]
    refine ⟨_, some h.length, rfl, ⟨by omega, [[.int .i64 (i : Int)]], true, ?_, ?_, ?_, ?_⟩, ⟨by simp, fun j h1 h2 h3 => ?_, fun b hb => .inr (by cases hb; exact Nat.le_refl _)⟩⟩
    · rw [set_at (by simp; omega)]; rfl
    · rw [List.getElem?_set_ne (by omega)]; exact List.getElem?_concat_length
    · simp
    · simp [idxC]
    · rw [List.getElem?_set_ne (by omega), List.getElem?_append_left h1]
  | some b =>
    obtain ⟨h1, l, z, h2, h3, h4, h5⟩ := hb
    have hcl := lt_of_at h2
    have hbl := lt_of_at h3
    obtain rfl : v = .row b 1 0 xs.length := by rw [h2] at k1; simpa using k1.symm
    have happ : appP 3 1 h [[.int .i64 (i : Int)]] (.row b 1 0 xs.length) = some (.row h.length 1 0 (xs.length + 1), h.set b .dead ++ [.row 3 1 (xs.map idxC ++ [[.int .i64 (i : Int)]]) z]) := by
      simp only [appP, h3]
      rw [if_pos (by refine ⟨⟨?_, ?_, ?_⟩, ⟨by omega, h4⟩, by simp; omega⟩ <;> first | trivial | rfl), List.drop_zero, h5]
      simp
    rw [happ, bd2_some]
    simp only [V.cells, List.length_cons, List.length_nil, Nat.zero_add, if_true]
    have hc' : (h.set b .dead ++ [HB.row 3 1 (xs.map idxC ++ [[.int .i64 (i : Int)]]) z])[s]? = some (.box 3 [.row b 1 0 xs.length, .int .i64 (u : Int), .int .i64 (m : Int)]) := by
      rw [List.getElem?_append_left (by simpa using hcl), List.getElem?_set_ne h1]; exact h2
    rw [writeB_box hc' (by simp), bd2_some]
    refine ⟨_, some h.length, rfl, ⟨by omega, xs.map idxC ++ [[.int .i64 (i : Int)]], z, ?_, ?_, ?_, ?_⟩, ⟨by simp, fun j k1 k2 k3 => ?_, fun b hb => .inr (by cases hb; exact Nat.le_refl _)⟩⟩
    · rw [set_at (by simp; omega)]; simp; rfl
    · rw [List.getElem?_set_ne (by omega), List.getElem?_append_right (by simp)]; simp
    · simp
    · simp [idxC, List.take_of_length_le]
    · rw [List.getElem?_set_ne (by omega), List.getElem?_append_left (by simpa using k1), List.getElem?_set_ne (fun e => k3 (by rw [e]))]
theorem mat_under_none (n : Nat) {h : Heap} {s : Nat} {sb : Option Nat} {m : Nat} {xs : List Nat} (hb : MatAt h s sb 0 m xs) : call (n + 1) 54 [.ptr s 0] h = some (.ret [.bool false], h) := by
  obtain ⟨v, sz, h1, h2⟩ := hb.box
  refine (matUnder_eq n s h).trans ?_
  unfold matUnder
  rw [cellsP_box h1, bd3_some, if_pos (by decide)]
  simp only [List.getElem?_cons_zero, List.getElem?_cons_succ, bd_some]
  rw [bop_i64_eql, bd_some, bv_bool, if_pos (by rfl)]
theorem mat_under_call (n : Nat) {h : Heap} {s : Nat} {sb : Option Nat} {u m : Nat} {xs : List Nat} (hb : MatAt h s sb (u + 1) m xs) (hu : u < lim) :
    ∃ h', call (n + 1) 54 [.ptr s 0] h = some (.ret [.bool true], h') /\ MatAt h' s sb u m xs /\ h'.length = h.length /\ ∀ i, i ≠ s -> h'[i]? = h[i]? := by
  have hw : IntKind.i64.wrap (((u + 1 : Nat) : Int) - 1) = (u : Int) := by unfold lim at hu; rw [w64] <;> omega
  rw [matUnder_eq n s h]
  unfold matUnder
  cases sb with
  | none =>
    obtain ⟨rfl, hc⟩ := hb
    rw [cellsP_box hc, bd3_some, if_pos (by decide)]
    simp only [List.getElem?_cons_zero, List.getElem?_cons_succ, bd_some]
    rw [bop_i64_eql, bd_some, bv_bool, if_neg (by simp; omega), bd3_some, if_pos (by decide)]
    simp only [List.getElem?_cons_zero, List.getElem?_cons_succ, bd_some]
    rw [bop_i64_sub, bd_some, hw, if_pos (by rfl), writeB_box hc (by simp [V.cells]), bd2_some]
    refine ⟨_, rfl, ⟨rfl, ?_⟩, by rw [List.length_set], fun i hi => List.getElem?_set_ne (Ne.symm hi)⟩
    rw [set_at (lt_of_at hc)]; rfl
  | some b =>
    obtain ⟨h1, l, z, h2, h3, h4, h5⟩ := hb
    rw [cellsP_box h2, bd3_some, if_pos (by decide)]
    simp only [List.getElem?_cons_zero, List.getElem?_cons_succ, bd_some]
    rw [bop_i64_eql, bd_some, bv_bool, if_neg (by simp; omega), bd3_some, if_pos (by decide)]
    simp only [List.getElem?_cons_zero, List.getElem?_cons_succ, bd_some]
    rw [bop_i64_sub, bd_some, hw, if_pos (by rfl), writeB_box h2 (by simp [V.cells]), bd2_some]
    refine ⟨_, rfl, ⟨h1, l, z, ?_, ?_, h4, h5⟩, by rw [List.length_set], fun i hi => List.getElem?_set_ne (Ne.symm hi)⟩
    · rw [set_at (lt_of_at h2)]; rfl
    · rw [List.getElem?_set_ne (Ne.symm h1)]; exact h3
theorem mat_pop_none (n : Nat) {h : Heap} {s : Nat} {sb : Option Nat} {u m : Nat} (hb : MatAt h s sb u m []) : call (n + 1) 53 [.ptr s 0] h = some (.ret [.int .i64 (-1), .bool false], h) := by
  obtain ⟨v, sz, h1, h2⟩ := hb.box
  refine (matPop_eq n s h).trans ?_
  unfold matPop
  rw [cellsP_box h1, bd3_some, if_pos (by decide)]
  simp only [List.getElem?_cons_zero, bd_some]
  rw [h2, bd_some, if_pos (by show decide (IntKind.i64.wrap (((0 : Nat) : Int) - 1) < 0) = true; decide)]
theorem mat_pop_call (n : Nat) {h : Heap} {s : Nat} {sb : Option Nat} {u m : Nat} {xs : List Nat} {x : Nat} (hb : MatAt h s sb u m (xs ++ [x])) (hl : xs.length + 1 < lim) :
    ∃ h', call (n + 1) 53 [.ptr s 0] h = some (.ret [.int .i64 (x : Int), .bool true], h') /\ MatAt h' s sb u m xs /\ h'.length = h.length /\ ∀ i, i ≠ s -> h'[i]? = h[i]? := by
  rw [matPop_eq]
  unfold matPop
  cases sb with
  | none => exact absurd hb.1 (by simp)
  | some b =>
    obtain ⟨h1, l, z, h2, h3, h4, h5⟩ := hb
    rw [List.length_append, List.length_singleton] at h2 h4 h5
    have hcl := lt_of_at h2
    have hx : l[xs.length]? = some [.int .i64 (x : Int)] := by
      have := congrArg (fun t : List (List V) => t[xs.length]?) h5
      simpa [idxC, List.getElem?_take] using this
    have hr : l.take xs.length = xs.map idxC := by
      have := congrArg (List.take xs.length) h5
      rw [List.take_take, Nat.min_eq_left (by omega)] at this
      rw [this, List.map_append, List.take_append_of_le_length (by simp), List.take_of_length_le (by simp)]
    have hw : IntKind.i64.wrap ((((l.take (xs.length + 1)).drop 0).length : Int) - 1) = (xs.length : Int) := by
      rw [List.drop_zero, h5]
      rw [show (((List.map idxC (xs ++ [x])).length : Int) - 1) = (xs.length : Int) by simp]
      unfold lim at hl; rw [w64] <;> omega
    have hn : nv (V.int .i64 (xs.length : Int)) = some xs.length := by simp [nv]
    rw [cellsP_box h2, bd3_some, if_pos (by decide)]
    simp only [List.getElem?_cons_zero, bd_some]
    rw [slcH_row h3 (Nat.zero_le _) h4, bd_some, hw, if_neg (by simp), bd3_some, if_pos (by decide)]
    simp only [List.getElem?_cons_zero, bd_some]
    rw [hn, bdS_some, idxP_row (by omega), bd_some, Nat.zero_add, cellsP_rptr h3 (by decide) hx, bd3_some, if_pos (by decide)]
    simp only [List.getElem?_cons_zero, bd_some]
    rw [bd3_some, if_pos (by decide)]
    simp only [List.getElem?_cons_zero, bd_some]
    rw [lenP_row, bd_some, bdS_some, sliceP_row (Nat.zero_le _) (by omega), bd_some]
    simp only [V.cells, List.length_cons, List.length_nil, Nat.zero_add, if_true]
    rw [writeB_box h2 (by simp), bd2_some]
    refine ⟨_, rfl, ⟨h1, l, z, ?_, ?_, by omega, hr⟩, by rw [List.length_set], fun i hi => List.getElem?_set_ne (Ne.symm hi)⟩
    · rw [set_at hcl]; rfl
    · rw [List.getElem?_set_ne (Ne.symm h1)]; exact h3
theorem mat_a2_call (n : Nat) {h : Heap} {bo r : Nat} {os : List O} {osb : Bool} {l : List (List V)} {z : Bool} {i j : Nat} (ho : h[bo]? = some (.box 1 [.sl 2 (os.map O.w) osb])) (hr : h[r]? = some (.row 21 1 l z)) (hl : ∀ es ∈ l, es.length = 1) (hi : i < l.length) (hj : j < os.length) :
    call (n + 1) 48 [.int .i64 (i : Int), .int .i64 (j : Int), .ptr bo 0, .iptr 1 [.row r 1 0 l.length] 0] h = some (.ret [], h.set r (.row 21 1 (l.set i [.int .i32 os[j].v]) z)) := by
  refine (matA2_eq n _ _ bo r _ h).trans ?_
  unfold matA2
  have hx : l[i]? = some l[i] := List.getElem?_eq_getElem hi
  have h1 : l[i].length = 1 := hl _ (List.getElem_mem hi)
  rw [cellsP_box ho, bd3_some, if_pos (by decide)]
  simp only [List.getElem?_cons_zero, bd_some]
  rw [nv_nat, bdS_some, idxP_sl (es := O.w os[j]) (by rw [List.getElem?_map, List.getElem?_eq_getElem hj]; rfl), bd_some]
  simp only [addP, bd_some]
  rw [cellsP_iptr, bd3_some, if_pos (by decide)]
  simp only [O.w, Nat.zero_add, List.getElem?_cons_succ, List.getElem?_cons_zero, bd_some]
  rw [nv_nat, bdS_some, idxP_row (by omega), bd_some, Nat.zero_add]
  simp only [V.cells, List.length_cons, List.length_nil, Nat.zero_add, if_true]
  have hw : writeB h [V.int .i32 os[j].v] (.rptr r 1 i 0) = some (r, .row 21 1 (l.set i [.int .i32 os[j].v]) z) := by
    obtain ⟨e, he⟩ : ∃ e, l[i] = [e] := List.length_eq_one_iff.1 h1
    simp [writeB, hr, hx, he, setR]
  rw [hw, bd2_some]
theorem mat_a3_call (n : Nat) {h : Heap} {bs r s : Nat} {sb : Option Nat} {most : Int} {xs : List Int} {x : Int} {l : List (List V)} {z : Bool} {i : Nat} (hbs : h[bs]? = some (.box 1 [.ptr s 0])) (hs : StkAt h s sb most (xs ++ [x])) (hm : xs.length + 1 < lim) (hr : h[r]? = some (.row 21 1 l z)) (hrs : r ≠ s) (hrb : sb ≠ some r) (hl : ∀ es ∈ l, es.length = 1) (hi : i < l.length) :
    ∃ h', call (n + 3) 49 [.int .i64 (i : Int), .ptr bs 0, .iptr 1 [.row r 1 0 l.length] 0] h = some (.ret [], h') /\ StkAt h' s sb most xs /\ h'[r]? = some (.row 21 1 (l.set i [.int .i32 x]) z) /\ h'.length = h.length /\ ∀ j, j ≠ s -> j ≠ r -> h'[j]? = h[j]? := by
  obtain ⟨h1, e, b1, b2, b3⟩ := stk_pop_call n hs hm
  have hr1 : h1[r]? = some (.row 21 1 l z) := (b3 r hrs).trans hr
  have hx : l[i]? = some l[i] := List.getElem?_eq_getElem hi
  have hw : writeB h1 [V.int .i32 x] (.rptr r 1 i 0) = some (r, .row 21 1 (l.set i [.int .i32 x]) z) := by
    obtain ⟨e, he⟩ : ∃ e, l[i] = [e] := List.length_eq_one_iff.1 (hl _ (List.getElem_mem hi))
    simp [writeB, hr1, hx, he, setR]
  rw [matA3_eq]
  unfold matA3
  rw [cellsP_box hbs, bd3_some, if_pos (by decide)]
  simp only [List.getElem?_cons_zero, bd_some]
  rw [e]
  simp only [clH, List.getElem?_cons_zero, List.getElem?_cons_succ, bd_some]
  rw [nv_nat, bdS_some, idxP_row (by omega), bd_some, Nat.zero_add]
  simp only [V.cells, ixP, List.length_cons, List.length_nil, Nat.zero_add, if_true]
  rw [hw, bd2_some]
  refine ⟨_, rfl, b1.keep (List.getElem?_set_ne hrs) (fun b hb => List.getElem?_set_ne (fun e => hrb (by rw [hb, e]))), set_at (lt_of_at hr1) _, by rw [List.length_set]; exact b2, fun j h2 h3 => ?_⟩
  rw [List.getElem?_set_ne (Ne.symm h3)]
  exact b3 j h2
end Go.Proofs.Try
set_option linter.unusedVariables false
namespace Go.Proofs.Try
open Go.L
set_option maxRecDepth 100000
noncomputable def rngNew (n : Nat) (x0 : Int) (h : Heap) : Option (Res × Heap) :=
 (bdS (nv (V.int .i64 (if 0 < (if 1000 < x0 then 1000 else x0) then (if 1000 < x0 then 1000 else x0) else 0))) fun n0 =>
 (bdS (nv (V.int .i64 (if 0 < (if 1000 < x0 then 1000 else x0) then (if 1000 < x0 then 1000 else x0) else 0))) fun n1 =>
 (if (n0 <= n1 /\ n1 < lim /\ 1 = 1) then
 some (Res.ret [(V.ptr ((h ++ [(HB.row 21 1 (List.replicate n0 [(V.int .i32 0)]) true)])).length 0)], ((h ++ [(HB.row 21 1 (List.replicate n0 [(V.int .i32 0)]) true)]) ++ [(HB.box 3 [(V.row (h).length 1 0 ((List.replicate n0 [(V.int .i32 0)])).length), (V.int .i64 0), (V.int .i64 0)])])) else none)))
theorem rngNew_eq (n : Nat) (x0 : Int) (h : Heap) : call (n + 1) 14 [(V.int .i64 x0)] h = rngNew n x0 h := by kernel_rfl
noncomputable def rngItems_r (n : Nat) (x3 : Nat) (b : Nat) (z17 : V) (h : Heap) : Option (Bool × Heap) :=
 (lpR ((h)[b]?) fun cD cV cF cP cA cB =>
 (bd3 (cellsP ((h).set b (HB.loop cD cV cF cP cA cB .busy)) (V.ptr x3 0)) fun cs20 m19 o21 => if (o21 + 1 <= m19 /\ 0 < 1) then
 (bd (cs20)[o21]? fun v22 =>
 (bd (bslV prog 29 1 [(0, z17)]) fun p23 =>
 (bd2 (appP 21 1 ((h).set b (HB.loop cD cV cF cP cA cB .busy)) p23.2 v22) fun v24 h25 =>
 (if ((V.cells v24)).length = 1 then
 (bd2 (writeB h25 (V.cells v24) (V.ptr x3 0)) fun b26 x27 =>
 (lpB ((((h25).set b26 x27))[b]?) fun eD eV eF eP eA eB => some (true, (((h25).set b26 x27)).set b (HB.loop eD eV eF eP eA eB .ready)))) else none)))) else none))
theorem rngItems_r_eq (n : Nat) (y0 : Option V) (y2 : Option V) (x3 : Nat) (y5 : Option V) (y6 : Option V) (y7 : Option V) (y8 : Option V) (y9 : Option V) (y10 : Option V) (y11 : Option V) (y12 : Option V) (y13 : Option V) (y14 : Option V) (y15 : Option V) (y16 : Option V) (b : Nat) (z17 : V) (h : Heap) : roundE prog (call n) keepS pureS n (L.textDraws prog) true [y0, none, y2, some (V.ptr x3 0), none, y5, y6, y7, y8, y9, y10, y11, y12, y13, y14, y15, y16, none, none, none, none, none, none] [17] (rfAs (bodyF f57)) (rfBd (bodyF f57)) b [z17] h = rngItems_r n x3 b z17 h := by kernel_rfl
noncomputable def rngItems (n : Nat) (s : Nat) (h : Heap) : Option (Res × Heap) :=
 (bd (bopH prog h .eql 46 (V.ptr s 0) (V.val (.pointer none))) fun v0 =>
 (bv v0 fun b1 => if b1 then
 some (Res.ret [(V.row (h).length 1 0 0)], (h ++ [(HB.row 21 1 [] true)]))
 else
 (bd3 (cellsP h (V.ptr s 2)) fun cs3 m2 o4 => if (o4 + 1 <= m2 /\ 0 < 1) then
 (bd (cs3)[o4]? fun v5 =>
 (bdS (nv v5) fun n6 =>
 (if (0 <= n6 /\ n6 < lim /\ 1 = 1) then
 (cl (call n 59 [(V.ptr s 0)] (h ++ [(HB.row 21 1 (List.replicate 0 [(V.int .i32 0)]) true)])) (fun r7 h8 =>
 (one1 r7 fun v10 =>
 (fnK v10 fun f11 c12 => if ((mutF prog f11).isNone && (noDfC (rfAs (bodyF f57)) && noDfC (rfBd (bodyF f57)))) = true then
 (clN (call n f11 ((V.yld ((((h8 ++ [(HB.box 1 [(V.row (h).length 1 0 ((List.replicate 0 [(V.int .i32 0)])).length)])]) ++ [(HB.row 21 1 [] true)])).length + 1)) :: c12) (((h8 ++ [(HB.box 1 [(V.row (h).length 1 0 ((List.replicate 0 [(V.int .i32 0)])).length)])]) ++ [(HB.row 21 1 [] true)]) ++ [HB.defb, HB.loop (((h8 ++ [(HB.box 1 [(V.row (h).length 1 0 ((List.replicate 0 [(V.int .i32 0)])).length)])]) ++ [(HB.row 21 1 [] true)])).length true [some (V.ptr s 0), none, some (V.row ((h8 ++ [(HB.box 1 [(V.row (h).length 1 0 ((List.replicate 0 [(V.int .i32 0)])).length)])])).length 1 0 0), some (V.ptr (h8).length 0), none, some (V.ptr s 0), some (V.bool false), some (V.ptr s 0), some (V.ptr s 0), some (V.ptr s 0), some (V.ptr s 2), some v5, some (V.row (h).length 1 0 ((List.replicate 0 [(V.int .i32 0)])).length), some (V.ptr s 0), some (V.ptr s 0), some (V.ptr s 0), some v10, none, none, none, none, none, none] [17] (rfAs (bodyF f57)) (rfBd (bodyF f57)) .ready])) fun h14 => lpE ((h14)[((((h8 ++ [(HB.box 1 [(V.row (h).length 1 0 ((List.replicate 0 [(V.int .i32 0)])).length)])]) ++ [(HB.row 21 1 [] true)])).length + 1)]?) (
 (bd3 (cellsP ((h14).set ((((h8 ++ [(HB.box 1 [(V.row (h).length 1 0 ((List.replicate 0 [(V.int .i32 0)])).length)])]) ++ [(HB.row 21 1 [] true)])).length + 1) HB.dead) (V.ptr (h8).length 0)) fun cs16 m15 o17 => if (o17 + 1 <= m15 /\ 0 < 1) then
 (bd (cs16)[o17]? fun v18 =>
 (dfB ((((h14).set ((((h8 ++ [(HB.box 1 [(V.row (h).length 1 0 ((List.replicate 0 [(V.int .i32 0)])).length)])]) ++ [(HB.row 21 1 [] true)])).length + 1) HB.dead))[(((h8 ++ [(HB.box 1 [(V.row (h).length 1 0 ((List.replicate 0 [(V.int .i32 0)])).length)])]) ++ [(HB.row 21 1 [] true)])).length]?) (
 some (Res.ret [v18], ((((h14).set ((((h8 ++ [(HB.box 1 [(V.row (h).length 1 0 ((List.replicate 0 [(V.int .i32 0)])).length)])]) ++ [(HB.row 21 1 [] true)])).length + 1) HB.dead)).set (((h8 ++ [(HB.box 1 [(V.row (h).length 1 0 ((List.replicate 0 [(V.int .i32 0)])).length)])]) ++ [(HB.row 21 1 [] true)])).length HB.dead))))) else none)) (
 (dfB ((((h14).set ((((h8 ++ [(HB.box 1 [(V.row (h).length 1 0 ((List.replicate 0 [(V.int .i32 0)])).length)])]) ++ [(HB.row 21 1 [] true)])).length + 1) HB.dead))[(((h8 ++ [(HB.box 1 [(V.row (h).length 1 0 ((List.replicate 0 [(V.int .i32 0)])).length)])]) ++ [(HB.row 21 1 [] true)])).length]?) (
 some (Res.ret [(V.row ((h8 ++ [(HB.box 1 [(V.row (h).length 1 0 ((List.replicate 0 [(V.int .i32 0)])).length)])])).length 1 0 0)], ((((h14).set ((((h8 ++ [(HB.box 1 [(V.row (h).length 1 0 ((List.replicate 0 [(V.int .i32 0)])).length)])]) ++ [(HB.row 21 1 [] true)])).length + 1) HB.dead)).set (((h8 ++ [(HB.box 1 [(V.row (h).length 1 0 ((List.replicate 0 [(V.int .i32 0)])).length)])]) ++ [(HB.row 21 1 [] true)])).length HB.dead)))))) else none))) (fun z9 h8 => some (Res.pan z9, h8))) else none))) else none)))
theorem rngItems_eq (n : Nat) (s : Nat) (h : Heap) : call (n + 1) 57 [(V.ptr s 0)] h = rngItems n s h := by kernel_rfl
noncomputable def rngLen (n : Nat) (s : Nat) (h : Heap) : Option (Res × Heap) :=
 (bd (bopH prog h .eql 46 (V.ptr s 0) (V.val (.pointer none))) fun v0 =>
 (bv v0 fun b1 => if b1 then
 some (Res.ret [(V.int .i64 0)], h)
 else
 (bd3 (cellsP h (V.ptr s 2)) fun cs3 m2 o4 => if (o4 + 1 <= m2 /\ 0 < 1) then
 (bd (cs3)[o4]? fun v5 =>
 some (Res.ret [v5], h)) else none)))
theorem rngLen_eq (n : Nat) (s : Nat) (h : Heap) : call (n + 1) 58 [(V.ptr s 0)] h = rngLen n s h := by kernel_rfl
noncomputable def rngMost (n : Nat) (s : Nat) (h : Heap) : Option (Res × Heap) :=
 (bd (bopH prog h .eql 46 (V.ptr s 0) (V.val (.pointer none))) fun v0 =>
 (bv v0 fun b1 => if b1 then
 some (Res.ret [(V.int .i64 0)], h)
 else
 (bd3 (cellsP h (V.ptr s 0)) fun cs3 m2 o4 => if (o4 + 1 <= m2 /\ 0 < 1) then
 (bd (cs3)[o4]? fun v5 =>
 (bd (slcH h v5) fun p6 =>
 some (Res.ret [(V.int .i64 ((p6.2).length : Int))], h))) else none)))
theorem rngMost_eq (n : Nat) (s : Nat) (h : Heap) : call (n + 1) 67 [(V.ptr s 0)] h = rngMost n s h := by kernel_rfl
noncomputable def rngDo (n : Nat) (s : Nat) (c : Int) (x : Int) (h : Heap) : Option (Res × Heap) :=
 (if (c == 1) then
 (cl (call n 70 [(V.ptr s 0), (V.int .i32 x)] h) (fun r0 h1 =>
 (one1 r0 fun v3 =>
 (cl (call n 74 [v3] h1) (fun r4 h5 =>
 (one1 r4 fun v7 =>
 (if ((V.cells v7)).length = 2 then
 (if (((V.cells v7)).length <= 2) then
 some (Res.ret [(V.agg (((setR [(V.int .u8 0), (V.int .i32 0)] 0 (V.cells v7))).drop 0 |>.take 2))], h5) else none) else none))) (fun z6 h5 => some (Res.pan z6, h5))))) (fun z2 h1 => some (Res.pan z2, h1)))
 else
 (if (c == 2) then
 (cl (call n 71 [(V.ptr s 0), (V.int .i32 x)] h) (fun r8 h9 =>
 (one1 r8 fun v11 =>
 (cl (call n 74 [v11] h9) (fun r12 h13 =>
 (one1 r12 fun v15 =>
 (if ((V.cells v15)).length = 2 then
 (if (((V.cells v15)).length <= 2) then
 some (Res.ret [(V.agg (((setR [(V.int .u8 0), (V.int .i32 0)] 0 (V.cells v15))).drop 0 |>.take 2))], h13) else none) else none))) (fun z14 h13 => some (Res.pan z14, h13))))) (fun z10 h9 => some (Res.pan z10, h9)))
 else
 (if (c == 3) then
 (cl (call n 68 [(V.ptr s 0)] h) (fun r16 h17 =>
 (bd (r16)[0]? fun v19 =>
 (bd (r16)[1]? fun v20 =>
 (cl (call n 75 [v19, v20] h17) (fun r21 h22 =>
 (one1 r21 fun v24 =>
 (if ((V.cells v24)).length = 2 then
 (if (((V.cells v24)).length <= 2) then
 some (Res.ret [(V.agg (((setR [(V.int .u8 0), (V.int .i32 0)] 0 (V.cells v24))).drop 0 |>.take 2))], h22) else none) else none))) (fun z23 h22 => some (Res.pan z23, h22)))))) (fun z18 h17 => some (Res.pan z18, h17)))
 else
 (if (c == 4) then
 (cl (call n 69 [(V.ptr s 0)] h) (fun r25 h26 =>
 (bd (r25)[0]? fun v28 =>
 (bd (r25)[1]? fun v29 =>
 (cl (call n 75 [v28, v29] h26) (fun r30 h31 =>
 (one1 r30 fun v33 =>
 (if ((V.cells v33)).length = 2 then
 (if (((V.cells v33)).length <= 2) then
 some (Res.ret [(V.agg (((setR [(V.int .u8 0), (V.int .i32 0)] 0 (V.cells v33))).drop 0 |>.take 2))], h31) else none) else none))) (fun z32 h31 => some (Res.pan z32, h31)))))) (fun z27 h26 => some (Res.pan z27, h26)))
 else
 some (Res.ret [(V.agg [(V.int .u8 5), (V.int .i32 0)])], h)))))
theorem rngDo_eq (n : Nat) (s : Nat) (c : Int) (x : Int) (h : Heap) : call (n + 1) 66 [(V.ptr s 0), (V.agg [(V.int .u8 c), (V.int .i32 x)])] h = rngDo n s c x h := by kernel_rfl
noncomputable def rngPopL (n : Nat) (s : Nat) (h : Heap) : Option (Res × Heap) :=
 (cl (call n 58 [(V.ptr s 0)] h) (fun r0 h1 =>
 (one1 r0 fun v3 =>
 (bd (bop prog .eql 3 v3 (V.int .i64 0)) fun v4 =>
 (bv v4 fun b5 => if b5 then
 some (Res.ret [(V.int .i32 0), (V.bool false)], h1)
 else
 (cl (call n 61 [(V.ptr s 0), (V.int .i64 0)] h1) (fun r6 h7 =>
 (one1 r6 fun v9 =>
 (bd (addP 0 v9) fun p10 =>
 (bd3 (cellsP h7 p10) fun cs12 m11 o13 => if (o13 + 1 <= m11 /\ 0 < 1) then
 (bd (cs12)[o13]? fun v14 =>
 (cl (call n 76 [(V.ptr s 0), (V.int .i64 1)] h7) (fun r15 h16 =>
 (bd3 (cellsP h16 (V.ptr s 2)) fun cs19 m18 o20 => if (o20 + 1 <= m18 /\ 0 < 1) then
 (bd (cs19)[o20]? fun v21 =>
 (bd (bop prog .sub 3 v21 (V.int .i64 1)) fun v22 =>
 (if ((V.cells v22)).length = 1 then
 (bd2 (writeB h16 (V.cells v22) (V.ptr s 2)) fun b23 x24 =>
 some (Res.ret [v14, (V.bool true)], ((h16).set b23 x24))) else none))) else none)) (fun z17 h16 => some (Res.pan z17, h16)))) else none)))) (fun z8 h7 => some (Res.pan z8, h7))))))) (fun z2 h1 => some (Res.pan z2, h1)))
theorem rngPopL_eq (n : Nat) (s : Nat) (h : Heap) : call (n + 1) 68 [(V.ptr s 0)] h = rngPopL n s h := by kernel_rfl
noncomputable def rngPopR (n : Nat) (s : Nat) (h : Heap) : Option (Res × Heap) :=
 (cl (call n 58 [(V.ptr s 0)] h) (fun r0 h1 =>
 (one1 r0 fun v3 =>
 (bd (bop prog .eql 3 v3 (V.int .i64 0)) fun v4 =>
 (bv v4 fun b5 => if b5 then
 some (Res.ret [(V.int .i32 0), (V.bool false)], h1)
 else
 (bd3 (cellsP h1 (V.ptr s 2)) fun cs7 m6 o8 => if (o8 + 1 <= m6 /\ 0 < 1) then
 (bd (cs7)[o8]? fun v9 =>
 (bd (bop prog .sub 3 v9 (V.int .i64 1)) fun v10 =>
 (if ((V.cells v10)).length = 1 then
 (bd2 (writeB h1 (V.cells v10) (V.ptr s 2)) fun b11 x12 =>
 (bd3 (cellsP ((h1).set b11 x12) (V.ptr s 2)) fun cs14 m13 o15 => if (o15 + 1 <= m13 /\ 0 < 1) then
 (bd (cs14)[o15]? fun v16 =>
 (clH (call n 61 [(V.ptr s 0), v16] ((h1).set b11 x12)) fun r17 h18 =>
 (one1 r17 fun v20 =>
 (bd (addP 0 v20) fun p21 =>
 (bd3 (cellsP h18 p21) fun cs23 m22 o24 => if (o24 + 1 <= m22 /\ 0 < 1) then
 (bd (cs23)[o24]? fun v25 =>
 some (Res.ret [v25, (V.bool true)], h18)) else none))))) else none)) else none))) else none))))) (fun z2 h1 => some (Res.pan z2, h1)))
theorem rngPopR_eq (n : Nat) (s : Nat) (h : Heap) : call (n + 1) 69 [(V.ptr s 0)] h = rngPopR n s h := by kernel_rfl
noncomputable def rngPushL (n : Nat) (s : Nat) (x : Int) (h : Heap) : Option (Res × Heap) :=
 (cl (call n 58 [(V.ptr s 0)] h) (fun r0 h1 =>
 (one1 r0 fun v3 =>
 (cl (call n 67 [(V.ptr s 0)] h1) (fun r4 h5 =>
 (one1 r4 fun v7 =>
 (bd (bop prog .geq 3 v3 v7) fun v8 =>
 (bv v8 fun b9 => if b9 then
 some (Res.ret [(V.bool false)], h5)
 else
 (cl (call n 76 [(V.ptr s 0), (V.int .i64 (-1))] h5) (fun r10 h11 =>
 (cl (call n 61 [(V.ptr s 0), (V.int .i64 0)] h11) (fun r13 h14 =>
 (one1 r13 fun v16 =>
 (bd (addP 0 v16) fun p17 =>
 (bd2 (writeB h14 [(V.int .i32 x)] p17) fun b18 x19 =>
 (bd3 (cellsP ((h14).set b18 x19) (V.ptr s 2)) fun cs21 m20 o22 => if (o22 + 1 <= m20 /\ 0 < 1) then
 (bd (cs21)[o22]? fun v23 =>
 (bd (bop prog .add 3 v23 (V.int .i64 1)) fun v24 =>
 (if ((V.cells v24)).length = 1 then
 (bd2 (writeB ((h14).set b18 x19) (V.cells v24) (V.ptr s 2)) fun b25 x26 =>
 some (Res.ret [(V.bool true)], ((((h14).set b18 x19)).set b25 x26))) else none))) else none))))) (fun z15 h14 => some (Res.pan z15, h14)))) (fun z12 h11 => some (Res.pan z12, h11))))))) (fun z6 h5 => some (Res.pan z6, h5))))) (fun z2 h1 => some (Res.pan z2, h1)))
theorem rngPushL_eq (n : Nat) (s : Nat) (x : Int) (h : Heap) : call (n + 1) 70 [(V.ptr s 0), (V.int .i32 x)] h = rngPushL n s x h := by kernel_rfl
noncomputable def rngPushR (n : Nat) (s : Nat) (x : Int) (h : Heap) : Option (Res × Heap) :=
 (cl (call n 58 [(V.ptr s 0)] h) (fun r0 h1 =>
 (one1 r0 fun v3 =>
 (cl (call n 67 [(V.ptr s 0)] h1) (fun r4 h5 =>
 (one1 r4 fun v7 =>
 (bd (bop prog .geq 3 v3 v7) fun v8 =>
 (bv v8 fun b9 => if b9 then
 some (Res.ret [(V.bool false)], h5)
 else
 (bd3 (cellsP h5 (V.ptr s 2)) fun cs11 m10 o12 => if (o12 + 1 <= m10 /\ 0 < 1) then
 (bd (cs11)[o12]? fun v13 =>
 (clH (call n 61 [(V.ptr s 0), v13] h5) fun r14 h15 =>
 (one1 r14 fun v17 =>
 (bd (addP 0 v17) fun p18 =>
 (bd2 (writeB h15 [(V.int .i32 x)] p18) fun b19 x20 =>
 (bd3 (cellsP ((h15).set b19 x20) (V.ptr s 2)) fun cs22 m21 o23 => if (o23 + 1 <= m21 /\ 0 < 1) then
 (bd (cs22)[o23]? fun v24 =>
 (bd (bop prog .add 3 v24 (V.int .i64 1)) fun v25 =>
 (if ((V.cells v25)).length = 1 then
 (bd2 (writeB ((h15).set b19 x20) (V.cells v25) (V.ptr s 2)) fun b26 x27 =>
 some (Res.ret [(V.bool true)], ((((h15).set b19 x20)).set b26 x27))) else none))) else none)))))) else none))))) (fun z6 h5 => some (Res.pan z6, h5))))) (fun z2 h1 => some (Res.pan z2, h1)))
theorem rngPushR_eq (n : Nat) (s : Nat) (x : Int) (h : Heap) : call (n + 1) 71 [(V.ptr s 0), (V.int .i32 x)] h = rngPushR n s x h := by kernel_rfl
noncomputable def rngAll (n : Nat) (s : Nat) (h : Heap) : Option (Res × Heap) :=
 some (Res.ret [(V.fn 60 [(V.ptr (h).length 0)])], (h ++ [(HB.box 1 [(V.ptr s 0)])]))
theorem rngAll_eq (n : Nat) (s : Nat) (h : Heap) : call (n + 1) 59 [(V.ptr s 0)] h = rngAll n s h := by kernel_rfl
noncomputable def rngAll1_l10 (n : Nat) (y : Nat) (b : Nat) (v9 : V) (st11 : List V) (hh12 : Heap) (next13 : List V -> Heap -> Option (Res × Heap)) : Option (Res × Heap) :=
 (bd (bop prog .lss 3 (gv st11 0) v9) fun v14 =>
 (bv v14 fun b15 => if b15 then
 (bd3 (cellsP hh12 (V.ptr b 0)) fun cs17 m16 o18 => if (o18 + 1 <= m16 /\ 0 < 1) then
 (bd (cs17)[o18]? fun v19 =>
 (cl (call n 61 [v19, (gv st11 0)] hh12) (fun r20 h21 =>
 (one1 r20 fun v23 =>
 (bd (addP 0 v23) fun p24 =>
 (bd3 (cellsP h21 p24) fun cs26 m25 o27 => if (o27 + 1 <= m25 /\ 0 < 1) then
 (bd (cs26)[o27]? fun v28 =>
 (bd2 (rnd n y [v28] h21) fun t29 h30 =>
 (if (!t29) then
 some (Res.ret [], h30)
 else
 (bd (bop prog .add 3 (gv st11 0) (V.int .i64 1)) fun v31 =>
 (next13 [v31] h30))))) else none)))) (fun z22 h21 => some (Res.pan z22, h21)))) else none)
 else
 some (Res.ret [], hh12)))
noncomputable def rngAll1 (n : Nat) (y : Nat) (b : Nat) (h : Heap) : Option (Res × Heap) :=
 (bd3 (cellsP h (V.ptr b 0)) fun cs1 m0 o2 => if (o2 + 1 <= m0 /\ 0 < 1) then
 (bd (cs1)[o2]? fun v3 =>
 (bd (addP 0 v3) fun p4 =>
 (bd (addP 2 p4) fun p5 =>
 (bd3 (cellsP h p5) fun cs7 m6 o8 => if (o8 + 1 <= m6 /\ 0 < 1) then
 (bd (cs7)[o8]? fun v9 =>
 (loopx n (rngAll1_l10 n y b v9) [(V.int .i64 0)] h)) else none)))) else none)
theorem rngAll1_eq (n : Nat) (y : Nat) (b : Nat) (h : Heap) : call (n + 1) 60 [(V.yld y), (V.ptr b 0)] h = rngAll1 n y b h := by kernel_rfl
noncomputable def rngAt (n : Nat) (s : Nat) (i : Int) (h : Heap) : Option (Res × Heap) :=
 (bd3 (cellsP h (V.ptr s 0)) fun cs1 m0 o2 => if (o2 + 1 <= m0 /\ 0 < 1) then
 (bd (cs1)[o2]? fun v3 =>
 (bd3 (cellsP h (V.ptr s 1)) fun cs5 m4 o6 => if (o6 + 1 <= m4 /\ 0 < 1) then
 (bd (cs5)[o6]? fun v7 =>
 (bd (bop prog .add 3 v7 (V.int .i64 i)) fun v8 =>
 (bd3 (cellsP h (V.ptr s 0)) fun cs10 m9 o11 => if (o11 + 1 <= m9 /\ 0 < 1) then
 (bd (cs10)[o11]? fun v12 =>
 (bd (slcH h v12) fun p13 =>
 (bd (bop prog .add 3 v8 (V.int .i64 ((p13.2).length : Int))) fun v14 =>
 (bd3 (cellsP h (V.ptr s 0)) fun cs16 m15 o17 => if (o17 + 1 <= m15 /\ 0 < 1) then
 (bd (cs16)[o17]? fun v18 =>
 (bd (slcH h v18) fun p19 =>
 (bd (bop prog .rem 3 v14 (V.int .i64 ((p19.2).length : Int))) fun v20 =>
 (bdS (nv v20) fun n21 =>
 (bd (idxP 1 n21 v3) fun p22 =>
 some (Res.ret [(ipOf v3 p22)], h)))))) else none)))) else none))) else none)) else none)
theorem rngAt_eq (n : Nat) (s : Nat) (i : Int) (h : Heap) : call (n + 1) 61 [(V.ptr s 0), (V.int .i64 i)] h = rngAt n s i h := by kernel_rfl
noncomputable def rngMove (n : Nat) (s : Nat) (i : Int) (h : Heap) : Option (Res × Heap) :=
 (bd3 (cellsP h (V.ptr s 1)) fun cs1 m0 o2 => if (o2 + 1 <= m0 /\ 0 < 1) then
 (bd (cs1)[o2]? fun v3 =>
 (bd (bop prog .add 3 v3 (V.int .i64 i)) fun v4 =>
 (bd3 (cellsP h (V.ptr s 0)) fun cs6 m5 o7 => if (o7 + 1 <= m5 /\ 0 < 1) then
 (bd (cs6)[o7]? fun v8 =>
 (bd (slcH h v8) fun p9 =>
 (bd (bop prog .add 3 v4 (V.int .i64 ((p9.2).length : Int))) fun v10 =>
 (bd3 (cellsP h (V.ptr s 0)) fun cs12 m11 o13 => if (o13 + 1 <= m11 /\ 0 < 1) then
 (bd (cs12)[o13]? fun v14 =>
 (bd (slcH h v14) fun p15 =>
 (bd (bop prog .rem 3 v10 (V.int .i64 ((p15.2).length : Int))) fun v16 =>
 (if ((V.cells v16)).length = 1 then
 (bd2 (writeB h (V.cells v16) (V.ptr s 1)) fun b17 x18 =>
 some (Res.ret [], ((h).set b17 x18))) else none)))) else none)))) else none))) else none)
theorem rngMove_eq (n : Nat) (s : Nat) (i : Int) (h : Heap) : call (n + 1) 76 [(V.ptr s 0), (V.int .i64 i)] h = rngMove n s i h := by kernel_rfl
noncomputable def rngPushed (n : Nat) (x0 : Bool) (h : Heap) : Option (Res × Heap) :=
 (if x0 then
 some (Res.ret [(V.agg [(V.int .u8 1), (V.int .i32 0)])], h)
 else
 some (Res.ret [(V.agg [(V.int .u8 3), (V.int .i32 0)])], h))
theorem rngPushed_eq (n : Nat) (x0 : Bool) (h : Heap) : call (n + 1) 74 [(V.bool x0)] h = rngPushed n x0 h := by kernel_rfl
noncomputable def rngPopped (n : Nat) (x0 : Int) (x1 : Bool) (h : Heap) : Option (Res × Heap) :=
 (if x1 then
 some (Res.ret [(V.agg [(V.int .u8 2), (V.int .i32 x0)])], h)
 else
 some (Res.ret [(V.agg [(V.int .u8 4), (V.int .i32 0)])], h))
theorem rngPopped_eq (n : Nat) (x0 : Int) (x1 : Bool) (h : Heap) : call (n + 1) 75 [(V.int .i32 x0), (V.bool x1)] h = rngPopped n x0 x1 h := by kernel_rfl
end Go.Proofs.Try
set_option linter.unusedVariables false
set_option linter.unusedSimpArgs false
namespace Go.Sk
open Go.L
def rngStep (most : Int) (c x : Int) (xs : List Int) : (Int × Int) × List Int :=
  if c = 1 then (if (xs.length : Int) < most then ((1, 0), x :: xs) else ((3, 0), xs))
  else if c = 2 then (if (xs.length : Int) < most then ((1, 0), xs ++ [x]) else ((3, 0), xs))
  else if c = 3 then (match xs with | y :: r => ((2, y), r) | [] => ((4, 0), xs))
  else if c = 4 then (match xs.getLast? with | some y => ((2, y), xs.dropLast) | none => ((4, 0), xs))
  else ((5, 0), xs)
theorem mod_step {f c i : Nat} (hc : 0 < c) : ((f + 1) % c + i) % c = (f + (i + 1)) % c := by
  rw [Nat.mod_add_mod]; congr 1; omega
theorem mod_back {f c i : Nat} (hc : 0 < c) (hf : f < c) : ((f + c - 1) % c + (i + 1)) % c = (f + i) % c := by
  rw [Nat.mod_add_mod, show f + c - 1 + (i + 1) = f + i + c by omega, Nat.add_mod_right]
theorem mod_ne {f c i j : Nat} (hi : i < c) (hj : j < c) (h : i ≠ j) : (f + i) % c ≠ (f + j) % c := by
  intro e
  have h1 := Nat.div_add_mod (f + i) c
  have h2 := Nat.div_add_mod (f + j) c
  rw [e] at h1
  have h3 : c * ((f + i) / c) + j = c * ((f + j) / c) + i := by omega
  rcases Nat.lt_trichotomy ((f + i) / c) ((f + j) / c) with hlt | heq | hgt
  · have : c * ((f + i) / c + 1) <= c * ((f + j) / c) := Nat.mul_le_mul_left c hlt
    rw [Nat.mul_add] at this; omega
  · rw [heq] at h3; omega
  · have : c * ((f + j) / c + 1) <= c * ((f + i) / c) := Nat.mul_le_mul_left c hgt
    rw [Nat.mul_add] at this; omega
end Go.Sk
namespace Go.Proofs.Try
open Go.L Go.Rp Go.Sk
set_option maxRecDepth 100000
def RngAt (h : Heap) (s b : Nat) (c : Nat) (xs : List Int) : Prop :=
  b ≠ s /\ ∃ l z f, h[s]? = some (.box 3 [.row b 1 0 c, .int .i64 ((f : Nat) : Int), .int .i64 (xs.length : Int)]) /\ h[b]? = some (.row 21 1 l z) /\ l.length = c /\ (f < c \/ (c = 0 /\ f = 0)) /\ xs.length <= c /\ (∀ i (hi : i < xs.length), l[(f + i) % c]? = some (numC xs[i])) /\ ∀ es ∈ l, es.length = 1
theorem RngAt.keep {h h' : Heap} {s b c : Nat} {xs : List Int} (hb : RngAt h s b c xs) (h1 : h'[s]? = h[s]?) (h2 : h'[b]? = h[b]?) : RngAt h' s b c xs := by
  obtain ⟨k, l, z, f, e1, e2, e3⟩ := hb
  exact ⟨k, l, z, f, h1.trans e1, h2.trans e2, e3⟩
theorem bop_rng_nil (h : Heap) (c : Nat) : bopH prog h .eql 46 (V.ptr c 0) (V.val (.pointer none)) = some (.bool false) := by kernel_rfl
theorem bop_i64_rem {a b : Nat} (h : b ≠ 0) : bop prog .rem 3 (.int .i64 (a : Int)) (.int .i64 (b : Int)) = some (.int .i64 ((a % b : Nat) : Int)) := by
  have : bop prog .rem 3 (.int .i64 (a : Int)) (.int .i64 (b : Int)) = if (b : Int) = 0 then none else some (.int .i64 ((a : Int).tmod b)) := by kernel_rfl
  rw [this, if_neg (by omega)]; rfl
theorem rng_len_call (n : Nat) {h : Heap} {s b c : Nat} {xs : List Int} (hb : RngAt h s b c xs) : call (n + 1) 58 [.ptr s 0] h = some (.ret [.int .i64 (xs.length : Int)], h) := by
  obtain ⟨k, l, z, f, e1, e2, e3, e4, e5, e6, e7⟩ := hb
  refine (rngLen_eq n s h).trans ?_
  unfold rngLen
  rw [bop_rng_nil, bd_some, bv_bool, if_neg (by decide), cellsP_box e1, bd3_some, if_pos (by decide)]
  rfl
theorem rng_most_call (n : Nat) {h : Heap} {s b c : Nat} {xs : List Int} (hb : RngAt h s b c xs) : call (n + 1) 67 [.ptr s 0] h = some (.ret [.int .i64 (c : Int)], h) := by
  obtain ⟨k, l, z, f, e1, e2, e3, e4, e5, e6, e7⟩ := hb
  refine (rngMost_eq n s h).trans ?_
  unfold rngMost
  rw [bop_rng_nil, bd_some, bv_bool, if_neg (by decide), cellsP_box e1, bd3_some, if_pos (by decide)]
  simp only [List.getElem?_cons_zero, bd_some]
  rw [slcH_row e2 (Nat.zero_le _) (by omega), bd_some]
  simp [e3]
theorem rng_at_call (n : Nat) {h : Heap} {s b c f m : Nat} {l : List (List V)} {z : Bool} {w : V} (e1 : h[s]? = some (.box 3 [.row b 1 0 c, .int .i64 (f : Int), w])) (e2 : h[b]? = some (.row 21 1 l z)) (e3 : l.length = c) (hf : f < c) (hm : m <= c) (hc : c < 100000) :
    call (n + 1) 61 [.ptr s 0, .int .i64 (m : Int)] h = some (.ret [.rptr b 1 ((f + m) % c) 0], h) := by
  refine (rngAt_eq n s _ h).trans ?_
  unfold rngAt
  rw [cellsP_box e1, bd3_some, if_pos (by decide)]
  simp only [List.getElem?_cons_zero, bd_some]
  rw [cellsP_box e1, bd3_some, if_pos (by decide)]
  simp only [List.getElem?_cons_zero, List.getElem?_cons_succ, bd_some]
  rw [bop_i64_add, bd_some, bd3_some, if_pos (by decide)]
  simp only [List.getElem?_cons_zero, bd_some]
  rw [slcH_row e2 (Nat.zero_le _) (by omega), bd_some, bop_i64_add, bd_some, bd3_some, if_pos (by decide)]
  simp only [List.getElem?_cons_zero, bd_some]
  have hl : ((l.take c).drop 0).length = c := by simp [e3]
  rw [slcH_row e2 (Nat.zero_le _) (by omega), bd_some, hl, w64 (n := (f : Int) + (m : Int)) (by omega) (by omega), w64 (by omega) (by omega), show ((f : Int) + (m : Int) + (c : Int)) = ((f + m + c : Nat) : Int) by omega, bop_i64_rem (by omega), bd_some, nv_nat, bdS_some, Nat.add_mod_right]
  have hlt : (f + m) % c < c := Nat.mod_lt _ (by omega)
  rw [idxP_row (by omega), bd_some, Nat.zero_add]
  rfl
theorem rng_move_call (n : Nat) {h : Heap} {s b c f y : Nat} {i : Int} {l : List (List V)} {z : Bool} {w : V} (e1 : h[s]? = some (.box 3 [.row b 1 0 c, .int .i64 (f : Int), w])) (e2 : h[b]? = some (.row 21 1 l z)) (e3 : l.length = c) (hf : f < c) (hy : (f : Int) + i + c = (y : Int)) (hi : -10 <= i /\ i <= 10) (hc : c < 100000) :
    call (n + 1) 76 [.ptr s 0, .int .i64 i] h = some (.ret [], h.set s (.box 3 [.row b 1 0 c, .int .i64 ((y % c : Nat) : Int), w])) := by
  refine (rngMove_eq n s _ h).trans ?_
  unfold rngMove
  rw [cellsP_box e1, bd3_some, if_pos (by decide)]
  simp only [List.getElem?_cons_zero, List.getElem?_cons_succ, bd_some]
  rw [bop_i64_add, bd_some, cellsP_box e1, bd3_some, if_pos (by decide)]
  simp only [List.getElem?_cons_zero, bd_some]
  rw [slcH_row e2 (Nat.zero_le _) (by omega), bd_some, bop_i64_add, bd_some, bd3_some, if_pos (by decide)]
  simp only [List.getElem?_cons_zero, bd_some]
  have hl : ((l.take c).drop 0).length = c := by simp [e3]
  rw [slcH_row e2 (Nat.zero_le _) (by omega), bd_some, hl, w64 (n := (f : Int) + i) (by omega) (by omega), w64 (by omega) (by omega), hy, bop_i64_rem (by omega), bd_some, if_pos (by rfl), writeB_box e1 (by simp [V.cells]), bd2_some]
  rfl
theorem rng_pushL_full (n : Nat) {h : Heap} {s b c : Nat} {xs : List Int} (hb : RngAt h s b c xs) (x : Int) (hm : c <= xs.length) : call (n + 2) 70 [.ptr s 0, .int .i32 x] h = some (.ret [.bool false], h) := by
  refine (rngPushL_eq (n + 1) s x h).trans ?_
  unfold rngPushL
  rw [rng_len_call n hb, cl_ret, one1_one, rng_most_call n hb, cl_ret, one1_one, bop_i64_geq, bd_some, bv_bool, if_pos (by simp; omega)]
theorem rng_pushR_full (n : Nat) {h : Heap} {s b c : Nat} {xs : List Int} (hb : RngAt h s b c xs) (x : Int) (hm : c <= xs.length) : call (n + 2) 71 [.ptr s 0, .int .i32 x] h = some (.ret [.bool false], h) := by
  refine (rngPushR_eq (n + 1) s x h).trans ?_
  unfold rngPushR
  rw [rng_len_call n hb, cl_ret, one1_one, rng_most_call n hb, cl_ret, one1_one, bop_i64_geq, bd_some, bv_bool, if_pos (by simp; omega)]
theorem rng_popL_none (n : Nat) {h : Heap} {s b c : Nat} (hb : RngAt h s b c []) : call (n + 2) 68 [.ptr s 0] h = some (.ret [.int .i32 0, .bool false], h) := by
  refine (rngPopL_eq (n + 1) s h).trans ?_
  unfold rngPopL
  rw [rng_len_call n hb, cl_ret, one1_one, bop_i64_eql, bd_some, bv_bool, if_pos (by rfl)]
theorem rng_popR_none (n : Nat) {h : Heap} {s b c : Nat} (hb : RngAt h s b c []) : call (n + 2) 69 [.ptr s 0] h = some (.ret [.int .i32 0, .bool false], h) := by
  refine (rngPopR_eq (n + 1) s h).trans ?_
  unfold rngPopR
  rw [rng_len_call n hb, cl_ret, one1_one, bop_i64_eql, bd_some, bv_bool, if_pos (by rfl)]
structure RFed (h h' : Heap) (s b : Nat) : Prop where
  len : h'.length = h.length
  old : ∀ i, i ≠ s -> i ≠ b -> h'[i]? = h[i]?
theorem RFed.refl (h : Heap) (s b : Nat) : RFed h h s b := ⟨rfl, fun _ _ _ => rfl⟩
theorem RFed.trans {h h' h'' : Heap} {s b : Nat} (x : RFed h h' s b) (y : RFed h' h'' s b) : RFed h h'' s b := ⟨y.len.trans x.len, fun i h1 h2 => (y.old i h1 h2).trans (x.old i h1 h2)⟩
theorem rng_pushL_call (n : Nat) {h : Heap} {s b c : Nat} {xs : List Int} (hb : RngAt h s b c xs) (x : Int) (hm : xs.length < c) (hc : c < 100000) :
    ∃ h', call (n + 2) 70 [.ptr s 0, .int .i32 x] h = some (.ret [.bool true], h') /\ RngAt h' s b c (x :: xs) /\ RFed h h' s b := by
  have hb0 := hb
  obtain ⟨k, l, z, f, e1, e2, e3, e4, e5, e6, e7⟩ := hb
  have hf : f < c := by omega
  have hcl := lt_of_at e1
  have hbl := lt_of_at e2
  rw [show n + 2 = (n + 1) + 1 from rfl, rngPushL_eq]
  unfold rngPushL
  rw [rng_len_call n hb0, cl_ret, one1_one, rng_most_call n hb0, cl_ret, one1_one, bop_i64_geq, bd_some, bv_bool, if_neg (by simp; omega)]
  have hy : (f : Int) + (-1) + c = ((f + c - 1 : Nat) : Int) := by omega
  rw [rng_move_call n e1 e2 e3 hf hy (by omega) hc, cl_ret]
  have hg : (f + c - 1) % c < c := Nat.mod_lt _ (by omega)
  generalize hgd : (f + c - 1) % c = g at hg ⊢
  have m1 : (h.set s (HB.box 3 [V.row b 1 0 c, V.int .i64 (g : Int), V.int .i64 (xs.length : Int)]))[s]? = some (.box 3 [V.row b 1 0 c, V.int .i64 (g : Int), V.int .i64 (xs.length : Int)]) := set_at hcl _
  have m2 : (h.set s (HB.box 3 [V.row b 1 0 c, V.int .i64 (g : Int), V.int .i64 (xs.length : Int)]))[b]? = some (.row 21 1 l z) := by rw [List.getElem?_set_ne (Ne.symm k)]; exact e2
  have hgl : g < l.length := by omega
  have ea := rng_at_call n (m := 0) m1 m2 e3 hg (by omega) hc
  rw [show (g + 0) % c = g by rw [Nat.add_zero]; exact Nat.mod_eq_of_lt hg] at ea
  have hx : l[g]? = some l[g] := List.getElem?_eq_getElem hgl
  rw [show ((0 : Nat) : Int) = 0 from rfl] at ea
  rw [ea, cl_ret, one1_one]
  simp only [addP, bd_some, Nat.add_zero]
  rw [writeB_rptr m2 (by decide) (by simp) hx, bd2_some]
  have m3 : ((h.set s (HB.box 3 [V.row b 1 0 c, V.int .i64 (g : Int), V.int .i64 (xs.length : Int)])).set b (.row 21 1 (l.set g (setR l[g] 0 [V.int .i32 x])) z))[s]? = some (.box 3 [V.row b 1 0 c, V.int .i64 (g : Int), V.int .i64 (xs.length : Int)]) := by rw [List.getElem?_set_ne k]; exact m1
  rw [cellsP_box m3, bd3_some, if_pos (by decide)]
  simp only [List.getElem?_cons_zero, List.getElem?_cons_succ, bd_some]
  rw [bop_i64_add, bd_some, w64 (by omega) (by omega)]
  simp only [V.cells, List.length_cons, List.length_nil, Nat.zero_add, if_true]
  rw [writeB_box m3 (by simp), bd2_some]
  have hone : setR l[g] 0 [V.int .i32 x] = numC x := by
    obtain ⟨e, he⟩ : ∃ e, l[g] = [e] := List.length_eq_one_iff.1 (e7 _ (List.getElem_mem hgl))
    rw [he]; rfl
  refine ⟨_, rfl, ⟨k, l.set g (numC x), z, g, ?_, ?_, by simpa using e3, .inl hg, by simp; omega, ?_, ?_⟩, ⟨by simp, fun i h1 h2 => ?_⟩⟩
  · rw [set_at (by simpa using hcl)]
    simp [setR]
  · rw [List.getElem?_set_ne (Ne.symm k), set_at (by simpa using hbl), hone]
  · intro i hi
    cases i with
    | zero =>
      rw [Nat.add_zero, Nat.mod_eq_of_lt hg, List.getElem?_set_self hgl]; rfl
    | succ j =>
      have hj : j < xs.length := by simpa using hi
      have q1 : (g + (j + 1)) % c = (f + j) % c := by rw [<- hgd]; exact mod_back (by omega) hf
      have q2 : (f + j) % c ≠ g := by rw [<- hgd, show f + c - 1 = f + (c - 1) by omega]; exact mod_ne (by omega) (by omega) (by omega)
      rw [q1, List.getElem?_set_ne (Ne.symm q2), e6 j hj]; rfl
  · intro es hes
    rcases List.mem_or_eq_of_mem_set hes with h1 | rfl
    · exact e7 es h1
    · rfl
  · rw [List.getElem?_set_ne (Ne.symm h1), List.getElem?_set_ne (Ne.symm h2), List.getElem?_set_ne (Ne.symm h1)]
theorem rng_pushR_call (n : Nat) {h : Heap} {s b c : Nat} {xs : List Int} (hb : RngAt h s b c xs) (x : Int) (hm : xs.length < c) (hc : c < 100000) :
    ∃ h', call (n + 2) 71 [.ptr s 0, .int .i32 x] h = some (.ret [.bool true], h') /\ RngAt h' s b c (xs ++ [x]) /\ RFed h h' s b := by
  have hb0 := hb
  obtain ⟨k, l, z, f, e1, e2, e3, e4, e5, e6, e7⟩ := hb
  have hf : f < c := by omega
  have hcl := lt_of_at e1
  have hbl := lt_of_at e2
  rw [show n + 2 = (n + 1) + 1 from rfl, rngPushR_eq]
  unfold rngPushR
  rw [rng_len_call n hb0, cl_ret, one1_one, rng_most_call n hb0, cl_ret, one1_one, bop_i64_geq, bd_some, bv_bool, if_neg (by simp; omega), cellsP_box e1, bd3_some, if_pos (by decide)]
  simp only [List.getElem?_cons_zero, List.getElem?_cons_succ, bd_some]
  have hg : (f + xs.length) % c < c := Nat.mod_lt _ (by omega)
  rw [rng_at_call n e1 e2 e3 hf e5 hc]
  generalize hgd : (f + xs.length) % c = g at hg ⊢
  have hgl : g < l.length := by omega
  have hx : l[g]? = some l[g] := List.getElem?_eq_getElem hgl
  simp only [clH, addP, bd_some, Nat.add_zero]
  rw [one1_one, bd_some, writeB_rptr e2 (by decide) (by simp) hx, bd2_some]
  have m3 : (h.set b (.row 21 1 (l.set g (setR l[g] 0 [V.int .i32 x])) z))[s]? = some (.box 3 [V.row b 1 0 c, V.int .i64 (f : Int), V.int .i64 (xs.length : Int)]) := by rw [List.getElem?_set_ne k]; exact e1
  rw [cellsP_box m3, bd3_some, if_pos (by decide)]
  simp only [List.getElem?_cons_zero, List.getElem?_cons_succ, bd_some]
  rw [bop_i64_add, bd_some, w64 (by omega) (by omega)]
  simp only [V.cells, List.length_cons, List.length_nil, Nat.zero_add, if_true]
  rw [writeB_box m3 (by simp), bd2_some]
  have hone : setR l[g] 0 [V.int .i32 x] = numC x := by
    obtain ⟨e, he⟩ : ∃ e, l[g] = [e] := List.length_eq_one_iff.1 (e7 _ (List.getElem_mem hgl))
    rw [he]; rfl
  refine ⟨_, rfl, ⟨k, l.set g (numC x), z, f, ?_, ?_, by simpa using e3, .inl hf, by simp; omega, ?_, ?_⟩, ⟨by simp, fun i h1 h2 => ?_⟩⟩
  · rw [set_at (by simpa using hcl)]
    simp [setR]
  · rw [List.getElem?_set_ne (Ne.symm k), set_at (by simpa using hbl), hone]
  · intro i hi
    rw [List.length_append, List.length_singleton] at hi
    rcases Nat.lt_or_ge i xs.length with h1 | h1
    · have q2 : (f + i) % c ≠ g := by rw [<- hgd]; exact mod_ne (by omega) (by omega) (by omega)
      rw [List.getElem?_set_ne (Ne.symm q2), e6 i h1, List.getElem_append_left h1]
    · obtain rfl : i = xs.length := by omega
      rw [hgd, List.getElem?_set_self hgl]; simp
  · intro es hes
    rcases List.mem_or_eq_of_mem_set hes with h1 | rfl
    · exact e7 es h1
    · rfl
  · rw [List.getElem?_set_ne (Ne.symm h1), List.getElem?_set_ne (Ne.symm h2)]
theorem rng_popL_call (n : Nat) {h : Heap} {s b c : Nat} {x : Int} {xs : List Int} (hb : RngAt h s b c (x :: xs)) (hc : c < 100000) :
    ∃ h', call (n + 2) 68 [.ptr s 0] h = some (.ret [.int .i32 x, .bool true], h') /\ RngAt h' s b c xs /\ RFed h h' s b := by
  have hb0 := hb
  obtain ⟨k, l, z, f, e1, e2, e3, e4, e5, e6, e7⟩ := hb
  simp only [List.length_cons] at e1 e5 e6
  have hf : f < c := by omega
  have hcl := lt_of_at e1
  have hbl := lt_of_at e2
  rw [show n + 2 = (n + 1) + 1 from rfl, rngPopL_eq]
  unfold rngPopL
  rw [rng_len_call n hb0, cl_ret, one1_one, bop_i64_eql, bd_some, bv_bool, if_neg (by simp; omega)]
  have ea := rng_at_call n (m := 0) e1 e2 e3 hf (by omega) hc
  rw [show ((0 : Nat) : Int) = 0 from rfl] at ea
  rw [ea, cl_ret, one1_one]
  simp only [addP, bd_some, Nat.add_zero]
  have h0 := e6 0 (by omega)
  rw [Nat.add_zero] at h0
  rw [cellsP_rptr e2 (by decide) h0, bd3_some, if_pos (by decide)]
  simp only [numC, List.getElem?_cons_zero, bd_some, List.getElem_cons_zero]
  have hy : (f : Int) + 1 + c = ((f + 1 + c : Nat) : Int) := by omega
  rw [rng_move_call n e1 e2 e3 hf hy (by omega) hc, cl_ret, Nat.add_mod_right]
  have hg : (f + 1) % c < c := Nat.mod_lt _ (by omega)
  generalize hgd : (f + 1) % c = g at hg ⊢
  have m1 : (h.set s (HB.box 3 [V.row b 1 0 c, V.int .i64 (g : Int), V.int .i64 ((xs.length + 1 : Nat) : Int)]))[s]? = some (.box 3 [V.row b 1 0 c, V.int .i64 (g : Int), V.int .i64 ((xs.length + 1 : Nat) : Int)]) := set_at hcl _
  rw [cellsP_box m1, bd3_some, if_pos (by decide)]
  simp only [List.getElem?_cons_zero, List.getElem?_cons_succ, bd_some]
  rw [bop_i64_sub, bd_some, w64 (by omega) (by omega)]
  simp only [V.cells, List.length_cons, List.length_nil, Nat.zero_add, if_true]
  rw [writeB_box m1 (by simp), bd2_some]
  refine ⟨_, rfl, ⟨k, l, z, g, ?_, ?_, e3, .inl hg, by omega, ?_, e7⟩, ⟨by simp, fun i h1 h2 => ?_⟩⟩
  · rw [set_at (by simpa using hcl)]
    simp [setR]
  · rw [List.getElem?_set_ne (Ne.symm k), List.getElem?_set_ne (Ne.symm k)]; exact e2
  · intro i hi
    have q := e6 (i + 1) (by omega)
    rw [<- hgd, mod_step (by omega), q]; rfl
  · rw [List.getElem?_set_ne (Ne.symm h1), List.getElem?_set_ne (Ne.symm h1)]
theorem rng_popR_call (n : Nat) {h : Heap} {s b c : Nat} {x : Int} {xs : List Int} (hb : RngAt h s b c (xs ++ [x])) (hc : c < 100000) :
    ∃ h', call (n + 2) 69 [.ptr s 0] h = some (.ret [.int .i32 x, .bool true], h') /\ RngAt h' s b c xs /\ RFed h h' s b := by
  have hb0 := hb
  obtain ⟨k, l, z, f, e1, e2, e3, e4, e5, e6, e7⟩ := hb
  rw [List.length_append, List.length_singleton] at e1 e5
  have hf : f < c := by omega
  have hcl := lt_of_at e1
  have hbl := lt_of_at e2
  rw [show n + 2 = (n + 1) + 1 from rfl, rngPopR_eq]
  unfold rngPopR
  rw [rng_len_call n hb0, cl_ret, one1_one, bop_i64_eql, bd_some, bv_bool, if_neg (by simp; omega), cellsP_box e1, bd3_some, if_pos (by decide)]
  simp only [List.getElem?_cons_zero, List.getElem?_cons_succ, bd_some]
  rw [bop_i64_sub, bd_some, w64 (by omega) (by omega)]
  simp only [V.cells, List.length_cons, List.length_nil, Nat.zero_add, if_true]
  rw [writeB_box e1 (by simp), bd2_some]
  have m1 : (h.set s (HB.box 3 [V.row b 1 0 c, V.int .i64 (f : Int), V.int .i64 (xs.length : Int)]))[s]? = some (.box 3 [V.row b 1 0 c, V.int .i64 (f : Int), V.int .i64 (xs.length : Int)]) := set_at hcl _
  have m2 : (h.set s (HB.box 3 [V.row b 1 0 c, V.int .i64 (f : Int), V.int .i64 (xs.length : Int)]))[b]? = some (.row 21 1 l z) := by rw [List.getElem?_set_ne (Ne.symm k)]; exact e2
  have hset : setR [V.row b 1 0 c, V.int .i64 (f : Int), V.int .i64 ((xs.length + 1 : Nat) : Int)] 2 [V.int .i64 (((xs.length + 1 : Nat) : Int) - 1)] = [V.row b 1 0 c, V.int .i64 (f : Int), V.int .i64 (xs.length : Int)] := by
    rw [show (((xs.length + 1 : Nat) : Int) - 1) = (xs.length : Int) by omega]; rfl
  rw [hset, cellsP_box m1, bd3_some, if_pos (by decide)]
  simp only [List.getElem?_cons_zero, List.getElem?_cons_succ, bd_some]
  rw [rng_at_call n m1 m2 e3 hf (by omega) hc]
  have hl0 := e6 xs.length (by simp)
  simp only [clH, addP, bd_some, Nat.add_zero]
  rw [one1_one, bd_some, cellsP_rptr m2 (by decide) hl0, bd3_some, if_pos (by decide)]
  simp only [numC, List.getElem?_cons_zero, bd_some]
  refine ⟨_, by simp, ⟨k, l, z, f, m1, m2, e3, .inl hf, by omega, ?_, e7⟩, ⟨by simp, fun i h1 h2 => ?_⟩⟩
  · intro i hi
    have q := e6 i (by simp; omega)
    rw [q, List.getElem_append_left hi]
  · rw [List.getElem?_set_ne (Ne.symm h1)]
theorem rng_do_call (n : Nat) {h : Heap} {s b c : Nat} {xs : List Int} (hb : RngAt h s b c xs) (hc : c < 100000) (k x : Int) :
    ∃ h', call (n + 3) 66 [.ptr s 0, .agg [.int .u8 k, .int .i32 x]] h = some (.ret [resV (rngStep c k x xs).1.1 (rngStep c k x xs).1.2], h') /\ RngAt h' s b c (rngStep c k x xs).2 /\ RFed h h' s b := by
  rw [show n + 3 = (n + 2) + 1 from rfl, rngDo_eq]
  unfold rngDo
  have ep : ∀ (w : Bool) (h : Heap), call (n + 2) 74 [.bool w] h = some (.ret [resV (if w then 1 else 3) 0], h) := fun w h => by
    rw [show n + 2 = (n + 1) + 1 from rfl, rngPushed_eq]; unfold rngPushed; cases w <;> rfl
  have eq : ∀ (y : Int) (w : Bool) (h : Heap), call (n + 2) 75 [.int .i32 y, .bool w] h = some (.ret [if w then resV 2 y else resV 4 0], h) := fun y w h => by
    rw [show n + 2 = (n + 1) + 1 from rfl, rngPopped_eq]; unfold rngPopped; cases w <;> rfl
  by_cases k1 : k = 1
  · rw [if_pos (by simp [k1])]
    by_cases hm : xs.length < c
    · obtain ⟨h', e, b1, b2⟩ := rng_pushL_call n hb x hm hc
      have ht : rngStep c k x xs = ((1, 0), x :: xs) := by unfold rngStep; rw [if_pos k1, if_pos (by omega)]
      refine ⟨h', ?_, by rw [ht]; exact b1, b2⟩
      rw [e, cl_ret, one1_one, ep, cl_ret, one1_one, ht]
      rfl
    · have ht : rngStep c k x xs = ((3, 0), xs) := by unfold rngStep; rw [if_pos k1, if_neg (by omega)]
      refine ⟨h, ?_, by rw [ht]; exact hb, RFed.refl ..⟩
      rw [rng_pushL_full n hb x (by omega), cl_ret, one1_one, ep, cl_ret, one1_one, ht]
      rfl
  rw [if_neg (by simp [k1])]
  by_cases k2 : k = 2
  · rw [if_pos (by simp [k2])]
    by_cases hm : xs.length < c
    · obtain ⟨h', e, b1, b2⟩ := rng_pushR_call n hb x hm hc
      have ht : rngStep c k x xs = ((1, 0), xs ++ [x]) := by unfold rngStep; rw [if_neg k1, if_pos k2, if_pos (by omega)]
      refine ⟨h', ?_, by rw [ht]; exact b1, b2⟩
      rw [e, cl_ret, one1_one, ep, cl_ret, one1_one, ht]
      rfl
    · have ht : rngStep c k x xs = ((3, 0), xs) := by unfold rngStep; rw [if_neg k1, if_pos k2, if_neg (by omega)]
      refine ⟨h, ?_, by rw [ht]; exact hb, RFed.refl ..⟩
      rw [rng_pushR_full n hb x (by omega), cl_ret, one1_one, ep, cl_ret, one1_one, ht]
      rfl
  rw [if_neg (by simp [k2])]
  by_cases k3 : k = 3
  · rw [if_pos (by simp [k3])]
    cases xs with
    | nil =>
      have ht : rngStep c k x [] = ((4, 0), []) := by unfold rngStep; rw [if_neg k1, if_neg k2, if_pos k3]
      refine ⟨h, ?_, by rw [ht]; exact hb, RFed.refl ..⟩
      rw [rng_popL_none n hb, cl_ret]
      simp only [List.getElem?_cons_zero, List.getElem?_cons_succ, bd_some]
      rw [eq, cl_ret, one1_one, ht]
      rfl
    | cons y xs =>
      obtain ⟨h', e, b1, b2⟩ := rng_popL_call n hb hc
      have ht : rngStep c k x (y :: xs) = ((2, y), xs) := by unfold rngStep; rw [if_neg k1, if_neg k2, if_pos k3]
      refine ⟨h', ?_, by rw [ht]; exact b1, b2⟩
      rw [e, cl_ret]
      simp only [List.getElem?_cons_zero, List.getElem?_cons_succ, bd_some]
      rw [eq, cl_ret, one1_one, ht]
      rfl
  rw [if_neg (by simp [k3])]
  by_cases k4 : k = 4
  · rw [if_pos (by simp [k4])]
    rcases List.eq_nil_or_concat xs with rfl | ⟨ys, y, rfl⟩
    · have ht : rngStep c k x [] = ((4, 0), []) := by unfold rngStep; rw [if_neg k1, if_neg k2, if_neg k3, if_pos k4]; rfl
      refine ⟨h, ?_, by rw [ht]; exact hb, RFed.refl ..⟩
      rw [rng_popR_none n hb, cl_ret]
      simp only [List.getElem?_cons_zero, List.getElem?_cons_succ, bd_some]
      rw [eq, cl_ret, one1_one, ht]
      rfl
    · rw [List.concat_eq_append] at hb ⊢
      obtain ⟨h', e, b1, b2⟩ := rng_popR_call n hb hc
      have ht : rngStep c k x (ys ++ [y]) = ((2, y), ys) := by unfold rngStep; rw [if_neg k1, if_neg k2, if_neg k3, if_pos k4]; simp
      refine ⟨h', ?_, by rw [ht]; exact b1, b2⟩
      rw [e, cl_ret]
      simp only [List.getElem?_cons_zero, List.getElem?_cons_succ, bd_some]
      rw [eq, cl_ret, one1_one, ht]
      rfl
  rw [if_neg (by simp [k4])]
  have ht : rngStep c k x xs = ((5, 0), xs) := by unfold rngStep; rw [if_neg k1, if_neg k2, if_neg k3, if_neg k4]
  exact ⟨h, by rw [ht]; rfl, by rw [ht]; exact hb, RFed.refl ..⟩
end Go.Proofs.Try
set_option linter.unusedVariables false
namespace Go.Proofs.Try
open Go.L
set_option maxRecDepth 100000
noncomputable def endAsks (n : Nat) (h : Heap) : Option (Res × Heap) :=
 (mapAt ((h ++ [(HB.map [])]))[(h).length]? fun es0 => (bd (kds prog 12 5) fun ksr1 => bd (findI ksr1 (V.int .u8 1) es0 0) fun r1 => if (((V.int .u8 1)).one = !false /\ ((V.int .u8 1)).cells.length = ksr1.length) then
 (mapAt ((((h ++ [(HB.map [])])).set (h).length (HB.map (upd es0 (V.int .u8 1) (V.agg [(V.bool true), (V.int .i64 0)]) r1))))[(h).length]? fun es3 => (bd (kds prog 12 5) fun ksr4 => bd (findI ksr4 (V.int .u8 2) es3 0) fun r4 => if (((V.int .u8 2)).one = !false /\ ((V.int .u8 2)).cells.length = ksr4.length) then
 (mapAt ((((((h ++ [(HB.map [])])).set (h).length (HB.map (upd es0 (V.int .u8 1) (V.agg [(V.bool true), (V.int .i64 0)]) r1)))).set (h).length (HB.map (upd es3 (V.int .u8 2) (V.agg [(V.bool true), (V.int .i64 1)]) r4))))[(h).length]? fun es6 => (bd (kds prog 12 5) fun ksr7 => bd (findI ksr7 (V.int .u8 3) es6 0) fun r7 => if (((V.int .u8 3)).one = !false /\ ((V.int .u8 3)).cells.length = ksr7.length) then
 (mapAt ((((((((h ++ [(HB.map [])])).set (h).length (HB.map (upd es0 (V.int .u8 1) (V.agg [(V.bool true), (V.int .i64 0)]) r1)))).set (h).length (HB.map (upd es3 (V.int .u8 2) (V.agg [(V.bool true), (V.int .i64 1)]) r4)))).set (h).length (HB.map (upd es6 (V.int .u8 3) (V.agg [(V.bool false), (V.int .i64 0)]) r7))))[(h).length]? fun es9 => (bd (kds prog 12 5) fun ksr10 => bd (findI ksr10 (V.int .u8 4) es9 0) fun r10 => if (((V.int .u8 4)).one = !false /\ ((V.int .u8 4)).cells.length = ksr10.length) then
 some (Res.ret [(V.map (h).length)], (((((((((h ++ [(HB.map [])])).set (h).length (HB.map (upd es0 (V.int .u8 1) (V.agg [(V.bool true), (V.int .i64 0)]) r1)))).set (h).length (HB.map (upd es3 (V.int .u8 2) (V.agg [(V.bool true), (V.int .i64 1)]) r4)))).set (h).length (HB.map (upd es6 (V.int .u8 3) (V.agg [(V.bool false), (V.int .i64 0)]) r7)))).set (h).length (HB.map (upd es9 (V.int .u8 4) (V.agg [(V.bool false), (V.int .i64 1)]) r10)))) else none)) else none)) else none)) else none))
theorem endAsks_eq (n : Nat) (h : Heap) : call (n + 1) 77 [] h = endAsks n h := by kernel_rfl
noncomputable def endPush (n : Nat) (s : Nat) (d : Int) (i : Int) (h : Heap) : Option (Res × Heap) :=
 (bd3 (cellsP h (V.ptr s 2)) fun cs1 m0 o2 => if (o2 + 1 <= m0 /\ 0 < 1) then
 (bd (cs1)[o2]? fun v3 =>
 (bd3 (cellsP h (V.ptr s 0)) fun cs5 m4 o6 => if (o6 + 1 <= m4 /\ 0 < 1) then
 (bd (cs5)[o6]? fun v7 =>
 (bd (slcH h v7) fun p8 =>
 (bd (bop prog .add 3 v3 (V.int .i64 ((p8.2).length : Int))) fun v9 =>
 (bd3 (cellsP h (V.ptr s 1)) fun cs11 m10 o12 => if (o12 + 1 <= m10 /\ 0 < 1) then
 (bd (cs11)[o12]? fun v13 =>
 (bd (slcH h v13) fun p14 =>
 (bd (bop prog .add 3 v9 (V.int .i64 ((p14.2).length : Int))) fun v15 =>
 (bd3 (cellsP h (V.ptr s 3)) fun cs17 m16 o18 => if (o18 + 1 <= m16 /\ 0 < 1) then
 (bd (cs17)[o18]? fun v19 =>
 (bd (bop prog .geq 3 v15 v19) fun v20 =>
 (bv v20 fun b21 => if b21 then
 some (Res.ret [(V.bool false)], h)
 else
 (bd (nv (V.int .i64 d)) fun n22 =>
 (if (n22 < 2) then
 (bd3 (cellsP h (V.ptr s ((0 + (n22 * 1)) + 0))) fun cs24 m23 o25 => if (o25 + 1 <= m23 /\ 0 < 1) then
 (bd (cs24)[o25]? fun v26 =>
 (bd2 (appP 3 1 h [[(V.int .i64 i)]] v26) fun v27 h28 =>
 (bd (nv (V.int .i64 d)) fun n29 =>
 (if (n29 < 2) then
 (if ((V.cells v27)).length = 1 then
 (bd2 (writeB h28 (V.cells v27) (V.ptr s ((0 + (n29 * 1)) + 0))) fun b30 x31 =>
 some (Res.ret [(V.bool true)], ((h28).set b30 x31))) else none) else none)))) else none) else none))))) else none)))) else none)))) else none)) else none)
theorem endPush_eq (n : Nat) (s : Nat) (d : Int) (i : Int) (h : Heap) : call (n + 1) 78 [(V.ptr s 0), (V.int .i64 d), (V.int .i64 i)] h = endPush n s d i h := by kernel_rfl
noncomputable def endPop (n : Nat) (s : Nat) (d : Int) (h : Heap) : Option (Res × Heap) :=
 (bd (nv (V.int .i64 d)) fun n0 =>
 (if (n0 < 2) then
 (bd (nv (V.int .i64 (IntKind.i64.wrap (1 - d)))) fun n1 =>
 (if (n1 < 2) then
 (bd3 (cellsP h (V.ptr s (((0 + (n0 * 1)) + 0) + 0))) fun cs3 m2 o4 => if (o4 + 1 <= m2 /\ 0 < 1) then
 (bd (cs3)[o4]? fun v5 =>
 (bd (slcH h v5) fun p6 =>
 (if (decide (((p6.2).length : Int) > 0)) then
 (cl (call n 80 [(V.ptr s (0 + (n0 * 1)))] h) (fun r7 h8 =>
 (one1 r7 fun v10 =>
 some (Res.ret [v10, (V.bool true)], h8))) (fun z9 h8 => some (Res.pan z9, h8)))
 else
 (bd3 (cellsP h (V.ptr s 2)) fun cs12 m11 o13 => if (o13 + 1 <= m11 /\ 0 < 1) then
 (bd (cs12)[o13]? fun v14 =>
 (bd (bop prog .gtr 3 v14 (V.int .i64 0)) fun v15 =>
 (bv v15 fun b16 => if b16 then
 (bd3 (cellsP h (V.ptr s 2)) fun cs18 m17 o19 => if (o19 + 1 <= m17 /\ 0 < 1) then
 (bd (cs18)[o19]? fun v20 =>
 (bd (bop prog .sub 3 v20 (V.int .i64 1)) fun v21 =>
 (if ((V.cells v21)).length = 1 then
 (bd2 (writeB h (V.cells v21) (V.ptr s 2)) fun b22 x23 =>
 some (Res.ret [(V.int .i64 (-1)), (V.bool true)], ((h).set b22 x23))) else none))) else none)
 else
 (bd3 (cellsP h (V.ptr s (((0 + (n1 * 1)) + 0) + 0))) fun cs25 m24 o26 => if (o26 + 1 <= m24 /\ 0 < 1) then
 (bd (cs25)[o26]? fun v27 =>
 (bd (slcH h v27) fun p28 =>
 (if (decide (((p28.2).length : Int) > 0)) then
 (cl (call n 81 [(V.ptr s (0 + (n1 * 1)))] h) (fun r29 h30 =>
 (one1 r29 fun v32 =>
 some (Res.ret [v32, (V.bool true)], h30))) (fun z31 h30 => some (Res.pan z31, h30)))
 else
 some (Res.ret [(V.int .i64 0), (V.bool false)], h)))) else none)))) else none)))) else none) else none)) else none))
theorem endPop_eq (n : Nat) (s : Nat) (d : Int) (h : Heap) : call (n + 1) 79 [(V.ptr s 0), (V.int .i64 d)] h = endPop n s d h := by kernel_rfl
noncomputable def endOuter (n : Nat) (x0 : V) (h : Heap) : Option (Res × Heap) :=
 (bd (addP 0 x0) fun p0 =>
 (bd (addP 0 p0) fun p1 =>
 (bd3 (cellsP h p1) fun cs3 m2 o4 => if (o4 + 1 <= m2 /\ 0 < 1) then
 (bd (cs3)[o4]? fun v5 =>
 (bd (addP 0 x0) fun p6 =>
 (bd (addP 0 p6) fun p7 =>
 (bd3 (cellsP h p7) fun cs9 m8 o10 => if (o10 + 1 <= m8 /\ 0 < 1) then
 (bd (cs9)[o10]? fun v11 =>
 (bd (slcH h v11) fun p12 =>
 (bdS (nv (V.int .i64 (IntKind.i64.wrap (((p12.2).length : Int) - 1)))) fun n13 =>
 (bd (idxP 1 n13 v5) fun p14 =>
 (bd3 (cellsP h (ipOf v5 p14)) fun cs16 m15 o17 => if (o17 + 1 <= m15 /\ 0 < 1) then
 (bd (cs16)[o17]? fun v18 =>
 (bd (addP 0 x0) fun p19 =>
 (bd (addP 0 p19) fun p20 =>
 (bd3 (cellsP h p20) fun cs22 m21 o23 => if (o23 + 1 <= m21 /\ 0 < 1) then
 (bd (cs22)[o23]? fun v24 =>
 (bd (addP 0 x0) fun p25 =>
 (bd (addP 0 p25) fun p26 =>
 (bd3 (cellsP h p26) fun cs28 m27 o29 => if (o29 + 1 <= m27 /\ 0 < 1) then
 (bd (cs28)[o29]? fun v30 =>
 (bd (slcH h v30) fun p31 =>
 (bd (lenP v24) fun n32 =>
 (bdS (nv (V.int .i64 (IntKind.i64.wrap (((p31.2).length : Int) - 1)))) fun n33 =>
 (bd (sliceP 1 0 n33 (none : Option Nat) true v24) fun v34 =>
 (bd (addP 0 x0) fun p35 =>
 (bd (addP 0 p35) fun p36 =>
 (if ((V.cells v34)).length = 1 then
 (bd2 (writeB h (V.cells v34) p36) fun b37 x38 =>
 some (Res.ret [v18], ((h).set b37 x38))) else none)))))))) else none)))) else none)))) else none))))) else none)))) else none)))
theorem endOuter_eq (n : Nat) (x0 : V) (h : Heap) : call (n + 1) 80 [x0] h = endOuter n x0 h := by kernel_rfl
noncomputable def endInner (n : Nat) (x0 : V) (h : Heap) : Option (Res × Heap) :=
 (bd (addP 0 x0) fun p0 =>
 (bd (addP 0 p0) fun p1 =>
 (bd3 (cellsP h p1) fun cs3 m2 o4 => if (o4 + 1 <= m2 /\ 0 < 1) then
 (bd (cs3)[o4]? fun v5 =>
 (bd (idxP 1 0 v5) fun p6 =>
 (bd3 (cellsP h p6) fun cs8 m7 o9 => if (o9 + 1 <= m7 /\ 0 < 1) then
 (bd (cs8)[o9]? fun v10 =>
 (bd (addP 0 x0) fun p11 =>
 (bd (addP 0 p11) fun p12 =>
 (bd3 (cellsP h p12) fun cs14 m13 o15 => if (o15 + 1 <= m13 /\ 0 < 1) then
 (bd (cs14)[o15]? fun v16 =>
 (bd (lenP v16) fun n17 =>
 (bd (sliceP 1 1 n17 (none : Option Nat) true v16) fun v18 =>
 (bd (addP 0 x0) fun p19 =>
 (bd (addP 0 p19) fun p20 =>
 (if ((V.cells v18)).length = 1 then
 (bd2 (writeB h (V.cells v18) p20) fun b21 x22 =>
 some (Res.ret [v10], ((h).set b21 x22))) else none)))))) else none)))) else none))) else none)))
theorem endInner_eq (n : Nat) (x0 : V) (h : Heap) : call (n + 1) 81 [x0] h = endInner n x0 h := by kernel_rfl
noncomputable def endA0 (n : Nat) (i : Int) (j : Int) (q : Nat) (r : Nat) (l : Nat) (os : List (List V)) (osb : Bool) (h : Heap) : Option (Res × Heap) :=
 (if (decide (j < 0)) then
 (clH (call n 68 [(V.ptr q 0)] h) fun r0 h1 =>
 (bd (r0)[0]? fun v3 =>
 (bd (r0)[1]? fun v4 =>
 (bdS (nv (V.int .i64 i)) fun n5 =>
 (bd (idxP 1 n5 (V.row r 1 0 l)) fun p6 =>
 (if ((V.cells v3)).length = 1 then
 (bd2 (writeB h1 (V.cells v3) (V.rptr r 1 (ixP p6) 0)) fun b7 x8 =>
 some (Res.ret [], ((h1).set b7 x8))) else none))))))
 else
 (bdS (nv (V.int .i64 j)) fun n9 =>
 (bd (idxP 2 n9 (V.sl 2 os osb)) fun p10 =>
 (bd (addP 1 p10) fun p11 =>
 (bd3 (cellsP h p11) fun cs13 m12 o14 => if (o14 + 1 <= m12 /\ 0 < 1) then
 (bd (cs13)[o14]? fun v15 =>
 (bdS (nv (V.int .i64 i)) fun n16 =>
 (bd (idxP 1 n16 (V.row r 1 0 l)) fun p17 =>
 (if ((V.cells v15)).length = 1 then
 (bd2 (writeB h (V.cells v15) p17) fun b18 x19 =>
 some (Res.ret [], ((h).set b18 x19))) else none)))) else none)))))
theorem endA0_eq (n : Nat) (i : Int) (j : Int) (q : Nat) (r : Nat) (l : Nat) (os : List (List V)) (osb : Bool) (h : Heap) : call (n + 1) 73 [(V.int .i64 i), (V.int .i64 0), (V.int .i64 j), (V.iptr 2 [(V.bf 68 [(V.ptr q 0)]), (V.bf 69 [(V.ptr q 0)])] 0), (V.iptr 1 [(V.row r 1 0 l)] 0), (V.iptr 1 [(V.sl 2 os osb)] 0)] h = endA0 n i j q r l os osb h := by kernel_rfl
noncomputable def endA1 (n : Nat) (i : Int) (j : Int) (q : Nat) (r : Nat) (l : Nat) (os : List (List V)) (osb : Bool) (h : Heap) : Option (Res × Heap) :=
 (if (decide (j < 0)) then
 (clH (call n 69 [(V.ptr q 0)] h) fun r0 h1 =>
 (bd (r0)[0]? fun v3 =>
 (bd (r0)[1]? fun v4 =>
 (bdS (nv (V.int .i64 i)) fun n5 =>
 (bd (idxP 1 n5 (V.row r 1 0 l)) fun p6 =>
 (if ((V.cells v3)).length = 1 then
 (bd2 (writeB h1 (V.cells v3) (V.rptr r 1 (ixP p6) 0)) fun b7 x8 =>
 some (Res.ret [], ((h1).set b7 x8))) else none))))))
 else
 (bdS (nv (V.int .i64 j)) fun n9 =>
 (bd (idxP 2 n9 (V.sl 2 os osb)) fun p10 =>
 (bd (addP 1 p10) fun p11 =>
 (bd3 (cellsP h p11) fun cs13 m12 o14 => if (o14 + 1 <= m12 /\ 0 < 1) then
 (bd (cs13)[o14]? fun v15 =>
 (bdS (nv (V.int .i64 i)) fun n16 =>
 (bd (idxP 1 n16 (V.row r 1 0 l)) fun p17 =>
 (if ((V.cells v15)).length = 1 then
 (bd2 (writeB h (V.cells v15) p17) fun b18 x19 =>
 some (Res.ret [], ((h).set b18 x19))) else none)))) else none)))))
theorem endA1_eq (n : Nat) (i : Int) (j : Int) (q : Nat) (r : Nat) (l : Nat) (os : List (List V)) (osb : Bool) (h : Heap) : call (n + 1) 73 [(V.int .i64 i), (V.int .i64 1), (V.int .i64 j), (V.iptr 2 [(V.bf 68 [(V.ptr q 0)]), (V.bf 69 [(V.ptr q 0)])] 0), (V.iptr 1 [(V.row r 1 0 l)] 0), (V.iptr 1 [(V.sl 2 os osb)] 0)] h = endA1 n i j q r l os osb h := by kernel_rfl
noncomputable def endAll_l6 (n : Nat) (s : Nat) (os : List (List V)) (osb : Bool) (q : Nat) (r : Nat) (l : Nat) (v5 : V) (st7 : List V) (hh8 : Heap) (next9 : List V -> Heap -> Option (Res × Heap)) : Option (Res × Heap) :=
 (bd (bop prog .lss 3 (gv st7 3) (V.int .i64 ((os).length : Int))) fun v10 =>
 (bv v10 fun b11 => if b11 then
 (bdS (nv (gv st7 3)) fun n12 =>
 (bd (idxP 2 n12 (V.sl 2 os osb)) fun p13 =>
 (bd3 (cellsP hh8 p13) fun cs15 m14 o16 => if (o16 + 2 <= m14 /\ 0 < 2) then
 (if (((cs15).drop o16 |>.take 2)).length = 2 then
 (if ((((cs15).drop o16 |>.take 2)).length <= 2) then
 (bd ((setR [(V.int .u8 0), (V.int .i32 0)] 0 ((cs15).drop o16 |>.take 2)))[0]? fun v17 =>
 (bdS (mapOf hh8 v5) fun es18 =>
 (bd (kds prog 12 5) fun ksr19 => bdS (findI ksr19 v17 es18 0) fun r19 => bd (entryV es18 (V.agg [(V.bool false), (V.int .i64 0)]) r19) fun v20 => if ((v17).one = !false /\ (v17).cells.length = ksr19.length /\ true = true) then
 (if ((V.cells v20)).length = 2 then
 (if (((V.cells v20)).length <= 2) then
 (if (!r19.isSome) then
 (bdS (nv (gv st7 3)) fun n21 =>
 (if (2 = 2 /\ n21 < ((lsl (gv st7 1))).length /\ (some 60 : Option Nat) ≠ some 7) then
 (bd ((lsl (gv st7 1)))[n21]? fun es22 =>
 (bd (bop prog .add 3 (gv st7 3) (V.int .i64 1)) fun v23 =>
 (next9 [(V.sl 2 (lsl (gv st7 0)) false), (V.sl 2 (((lsl (gv st7 1))).set n21 (setR es22 0 [(V.int .u8 5)])) false), (V.bool false), v23] hh8))) else none))
 else
 (bd ((setR [(V.bool false), (V.int .i64 0)] 0 (V.cells v20)))[0]? fun v24 =>
 (bv v24 fun b25 => if b25 then
 (bd ((setR [(V.bool false), (V.int .i64 0)] 0 (V.cells v20)))[1]? fun v26 =>
 (cl (call n 78 [(V.ptr s 0), v26, (gv st7 3)] hh8) (fun r27 h28 =>
 (one1 r27 fun v30 =>
 (bv v30 fun b31 => if b31 then
 (bdS (nv (gv st7 3)) fun n32 =>
 (if (2 = 2 /\ n32 < ((lsl (gv st7 1))).length /\ (some 74 : Option Nat) ≠ some 7) then
 (bd ((lsl (gv st7 1)))[n32]? fun es33 =>
 (bd (bop prog .add 3 (gv st7 3) (V.int .i64 1)) fun v34 =>
 (next9 [(V.sl 2 (lsl (gv st7 0)) false), (V.sl 2 (((lsl (gv st7 1))).set n32 (setR es33 0 [(V.int .u8 1)])) false), (V.bool false), v34] h28))) else none))
 else
 (bd ((setR [(V.bool false), (V.int .i64 0)] 0 (V.cells v20)))[0]? fun v35 =>
 (bv v35 fun b36 => if b36 then
 (bdS (nv (gv st7 3)) fun n37 =>
 (if (2 = 2 /\ n37 < ((lsl (gv st7 1))).length /\ (some 81 : Option Nat) ≠ some 7) then
 (bd ((lsl (gv st7 1)))[n37]? fun es38 =>
 (bd (bop prog .add 3 (gv st7 3) (V.int .i64 1)) fun v39 =>
 (next9 [(V.sl 2 (lsl (gv st7 0)) false), (V.sl 2 (((lsl (gv st7 1))).set n37 (setR es38 0 [(V.int .u8 3)])) false), (V.bool false), v39] h28))) else none))
 else
 (bdS (nv (gv st7 3)) fun n40 =>
 (if (2 = 2 /\ n40 < ((lsl (gv st7 1))).length /\ (some 35 : Option Nat) ≠ some 7) then
 (bd ((lsl (gv st7 1)))[n40]? fun es41 =>
 (bd ((setR [(V.bool false), (V.int .i64 0)] 0 (V.cells v20)))[1]? fun v42 =>
 (cl (call n 79 [(V.ptr s 0), v42] h28) (fun r43 h44 =>
 (bd (r43)[0]? fun v46 =>
 (bd (r43)[1]? fun v47 =>
 (bv v47 fun b48 => if b48 then
 (bdS (nv (gv st7 3)) fun n49 =>
 (if (2 = 2 /\ n49 < ((((lsl (gv st7 1))).set n40 (setR es41 0 [(V.int .u8 4)]))).length /\ (some 47 : Option Nat) ≠ some 7) then
 (bd ((((lsl (gv st7 1))).set n40 (setR es41 0 [(V.int .u8 4)])))[n49]? fun es50 =>
 (bd ((setR [(V.bool false), (V.int .i64 0)] 0 (V.cells v20)))[1]? fun v51 =>
 (cl (call n 73 [(gv st7 3), v51, v46, (V.iptr 2 [(V.bf 68 [(V.ptr q 0)]), (V.bf 69 [(V.ptr q 0)])] 0), (V.iptr 1 [(V.row r 1 0 l)] 0), (V.iptr 1 [(V.sl 2 os osb)] 0)] h44) (fun r52 h53 =>
 (bd (bop prog .add 3 (gv st7 3) (V.int .i64 1)) fun v55 =>
 (next9 [(V.sl 2 (lsl (gv st7 0)) false), (V.sl 2 (((((lsl (gv st7 1))).set n40 (setR es41 0 [(V.int .u8 4)]))).set n49 (setR es50 0 [(V.int .u8 2)])) false), (V.bool false), v55] h53))) (fun z54 h53 => some (Res.pan z54, h53))))) else none))
 else
 (bd (bop prog .add 3 (gv st7 3) (V.int .i64 1)) fun v56 =>
 (next9 [(V.sl 2 (lsl (gv st7 0)) false), (V.sl 2 (((lsl (gv st7 1))).set n40 (setR es41 0 [(V.int .u8 4)])) false), (V.bool false), v56] h44)))))) (fun z45 h44 => some (Res.pan z45, h44))))) else none))))))) (fun z29 h28 => some (Res.pan z29, h28))))
 else
 (bd ((setR [(V.bool false), (V.int .i64 0)] 0 (V.cells v20)))[0]? fun v57 =>
 (bv v57 fun b58 => if b58 then
 (bdS (nv (gv st7 3)) fun n59 =>
 (if (2 = 2 /\ n59 < ((lsl (gv st7 1))).length /\ (some 81 : Option Nat) ≠ some 7) then
 (bd ((lsl (gv st7 1)))[n59]? fun es60 =>
 (bd (bop prog .add 3 (gv st7 3) (V.int .i64 1)) fun v61 =>
 (next9 [(V.sl 2 (lsl (gv st7 0)) false), (V.sl 2 (((lsl (gv st7 1))).set n59 (setR es60 0 [(V.int .u8 3)])) false), (V.bool false), v61] hh8))) else none))
 else
 (bdS (nv (gv st7 3)) fun n62 =>
 (if (2 = 2 /\ n62 < ((lsl (gv st7 1))).length /\ (some 35 : Option Nat) ≠ some 7) then
 (bd ((lsl (gv st7 1)))[n62]? fun es63 =>
 (bd ((setR [(V.bool false), (V.int .i64 0)] 0 (V.cells v20)))[1]? fun v64 =>
 (cl (call n 79 [(V.ptr s 0), v64] hh8) (fun r65 h66 =>
 (bd (r65)[0]? fun v68 =>
 (bd (r65)[1]? fun v69 =>
 (bv v69 fun b70 => if b70 then
 (bdS (nv (gv st7 3)) fun n71 =>
 (if (2 = 2 /\ n71 < ((((lsl (gv st7 1))).set n62 (setR es63 0 [(V.int .u8 4)]))).length /\ (some 47 : Option Nat) ≠ some 7) then
 (bd ((((lsl (gv st7 1))).set n62 (setR es63 0 [(V.int .u8 4)])))[n71]? fun es72 =>
 (bd ((setR [(V.bool false), (V.int .i64 0)] 0 (V.cells v20)))[1]? fun v73 =>
 (cl (call n 73 [(gv st7 3), v73, v68, (V.iptr 2 [(V.bf 68 [(V.ptr q 0)]), (V.bf 69 [(V.ptr q 0)])] 0), (V.iptr 1 [(V.row r 1 0 l)] 0), (V.iptr 1 [(V.sl 2 os osb)] 0)] h66) (fun r74 h75 =>
 (bd (bop prog .add 3 (gv st7 3) (V.int .i64 1)) fun v77 =>
 (next9 [(V.sl 2 (lsl (gv st7 0)) false), (V.sl 2 (((((lsl (gv st7 1))).set n62 (setR es63 0 [(V.int .u8 4)]))).set n71 (setR es72 0 [(V.int .u8 2)])) false), (V.bool false), v77] h75))) (fun z76 h75 => some (Res.pan z76, h75))))) else none))
 else
 (bd (bop prog .add 3 (gv st7 3) (V.int .i64 1)) fun v78 =>
 (next9 [(V.sl 2 (lsl (gv st7 0)) false), (V.sl 2 (((lsl (gv st7 1))).set n62 (setR es63 0 [(V.int .u8 4)])) false), (V.bool false), v78] h66)))))) (fun z67 h66 => some (Res.pan z67, h66))))) else none))))))) else none) else none) else none))) else none) else none) else none)))
 else
 some (Res.ret [(V.row (hh8).length 2 0 ((lsl (gv st7 1))).length)], (hh8 ++ [(HB.row 34 2 (lsl (gv st7 1)) true)]))))
noncomputable def endAll (n : Nat) (s : Nat) (os : List (List V)) (osb : Bool) (q : Nat) (r : Nat) (l : Nat) (h : Heap) : Option (Res × Heap) :=
 (bdS (nv (V.int .i64 ((os).length : Int))) fun n0 =>
 (bdS (nv (V.int .i64 ((os).length : Int))) fun n1 =>
 (if (n0 <= n1 /\ n1 < lim /\ 2 = 2) then
 (cl (call n 77 [] h) (fun r2 h3 =>
 (one1 r2 fun v5 =>
 (loopx n (endAll_l6 n s os osb q r l v5) [(V.sl 2 [] false), (V.sl 2 (List.replicate n0 [(V.int .u8 0), (V.int .i32 0)]) false), (V.bool false), (V.int .i64 0)] h3))) (fun z4 h3 => some (Res.pan z4, h3))) else none)))
theorem endAll_eq (n : Nat) (s : Nat) (os : List (List V)) (osb : Bool) (q : Nat) (r : Nat) (l : Nat) (h : Heap) : call (n + 1) 72 [(V.ptr s 0), (V.sl 2 os osb), (V.fn 73 [(V.iptr 2 [(V.bf 68 [(V.ptr q 0)]), (V.bf 69 [(V.ptr q 0)])] 0), (V.iptr 1 [(V.row r 1 0 l)] 0), (V.iptr 1 [(V.sl 2 os osb)] 0)])] h = endAll n s os osb q r l h := by kernel_rfl
noncomputable def endApply_l27 (n : Nat) (os : List (List V)) (osb : Bool) (st19 : List V) (next21 : List V -> Heap -> Option (Res × Heap)) (v25 : V) (p26 : Nat × List (List V)) (st28 : List V) (hh29 : Heap) (next30 : List V -> Heap -> Option (Res × Heap)) : Option (Res × Heap) :=
 (bd (bop prog .lss 3 (gv st28 3) (V.int .i64 ((p26.2).length : Int))) fun v31 =>
 (bv v31 fun b32 => if b32 then
 (bdS (nv (gv st28 3)) fun n33 =>
 (bd (idxP 1 n33 v25) fun p34 =>
 (bd3 (cellsP hh29 p34) fun cs36 m35 o37 => if (o37 + 1 <= m35 /\ 0 < 1) then
 (bd (cs36)[o37]? fun v38 =>
 (bd (nv (gv st19 2)) fun n39 =>
 (if (n39 < 2) then
 (if ((n39 * 1) + 1 <= 2 /\ 0 < 1) then
 (bd ((lcs (gv st28 1)))[(n39 * 1)]? fun v40 =>
 (bdS (nv v38) fun n41 =>
 (bd (idxP 2 n41 (V.sl 2 os osb)) fun p42 =>
 (bd (addP 1 p42) fun p43 =>
 (bd3 (cellsP hh29 p43) fun cs45 m44 o46 => if (o46 + 1 <= m44 /\ 0 < 1) then
 (bd (cs45)[o46]? fun v47 =>
 (fb3K v40 (fun f48 c49 => if (okV prog 4 f48 = true) then (if keepS f48 then
 (cl (call n f48 ([v47] ++ c49) hh29) (fun r50 h51 =>
 (one1 r50 fun v53 =>
 (bd (bop prog .add 3 (gv st28 3) (V.int .i64 1)) fun v54 =>
 (next30 [(V.sl 2 (lsl (gv st28 0)) false), (V.agg (lcs (gv st28 1))), (V.agg (lcs (gv st28 2))), v54] h51)))) (fun z52 h51 => none))
 else if pureS f48 then
 (bd (evBsL [(valB hh29 v47)]) fun a55 => cl (call n f48 (a55 ++ c49) hh29) (fun r50 h51 => if V.simple.simpleL r50 then
 (one1 r50 fun v56 =>
 (bd (bop prog .add 3 (gv st28 3) (V.int .i64 1)) fun v57 =>
 (next30 [(V.sl 2 (lsl (gv st28 0)) false), (V.agg (lcs (gv st28 1))), (V.agg (lcs (gv st28 2))), v57] h51))) else none) (fun z52 h51 => if z52.simple then none else none))
 else none) else none) (fun f58 c59 => if (keepS f58 = true /\ okV prog 4 f58 = true) then
 (cl (call n f58 (c59 ++ [v47]) hh29) (fun r60 h61 =>
 (one1 r60 fun v63 =>
 (bd (bop prog .add 3 (gv st28 3) (V.int .i64 1)) fun v64 =>
 (next30 [(V.sl 2 (lsl (gv st28 0)) false), (V.agg (lcs (gv st28 1))), (V.agg (lcs (gv st28 2))), v64] h61)))) (fun z62 h61 => none)) else none) (fun t67 s68 => if (isIf prog t67 = false /\ (prog.underlying t67).isSome = true) then bd2 (methV prog t67 v47 s68) fun f65 w66 => if (keepS f65 = true /\ okV prog 4 f65 = true) then
 (cl (call n f65 ([w66] ++ []) hh29) (fun r69 h70 =>
 (one1 r69 fun v72 =>
 (bd (bop prog .add 3 (gv st28 3) (V.int .i64 1)) fun v73 =>
 (next30 [(V.sl 2 (lsl (gv st28 0)) false), (V.agg (lcs (gv st28 1))), (V.agg (lcs (gv st28 2))), v73] h70)))) (fun z71 h70 => none)) else none else none))) else none))))) else none) else none))) else none)))
 else
 (bd (bop prog .add 3 (gv st19 2) (V.int .i64 1)) fun v74 =>
 (next21 [(V.sl 2 (lsl (gv st28 0)) false), (V.agg (lcs (gv st28 1))), v74] hh29))))
noncomputable def endApply_l76 (n : Nat) (h5 : Heap) (n9 : Nat) (v14 : V) (p75 : Nat × List (List V)) (st77 : List V) (hh78 : Heap) (next79 : List V -> Heap -> Option (Res × Heap)) : Option (Res × Heap) :=
 (bd (bop prog .lss 3 (gv st77 2) (V.int .i64 ((p75.2).length : Int))) fun v80 =>
 (bv v80 fun b81 => if b81 then
 (bdS (nv (gv st77 2)) fun n82 =>
 (bd (idxP 1 n82 (V.row (h5).length 1 0 ((List.replicate n9 [(V.int .i32 0)])).length)) fun p83 =>
 (bd3 (cellsP hh78 p83) fun cs85 m84 o86 => if (o86 + 1 <= m84 /\ 0 < 1) then
 (bd (cs85)[o86]? fun v87 =>
 (bdS (nv (gv st77 2)) fun n88 =>
 (bd (idxP 2 n88 v14) fun p89 =>
 (bd (addP 1 p89) fun p90 =>
 (if ((V.cells v87)).length = 1 then
 (bd2 (writeB hh78 (V.cells v87) p90) fun b91 x92 =>
 (bd (bop prog .add 3 (gv st77 2) (V.int .i64 1)) fun v93 =>
 (next79 [(V.sl 2 (lsl (gv st77 0)) false), (V.agg (lcs (gv st77 1))), v93] ((hh78).set b91 x92)))) else none))))) else none)))
 else
 some (Res.ret [v14], hh78)))
noncomputable def endApply_l18 (n : Nat) (os : List (List V)) (osb : Bool) (h5 : Heap) (n9 : Nat) (v14 : V) (cs16 : List V) (o17 : Nat) (st19 : List V) (hh20 : Heap) (next21 : List V -> Heap -> Option (Res × Heap)) : Option (Res × Heap) :=
 (bd (bop prog .lss 3 (gv st19 2) (V.int .i64 2)) fun v22 =>
 (bv v22 fun b23 => if b23 then
 (bdS (nv (gv st19 2)) fun n24 =>
 (if (n24 < 2 /\ (n24 * 1) + 1 <= (((cs16).drop o17 |>.take 2)).length) then
 (if (((((cs16).drop o17 |>.take 2)).drop (n24 * 1) |>.take 1)).length = 1 then
 (if ((((((cs16).drop o17 |>.take 2)).drop (n24 * 1) |>.take 1)).length <= 1) then
 (bd ((setR [(V.sl 0 [] true)] 0 ((((cs16).drop o17 |>.take 2)).drop (n24 * 1) |>.take 1)))[0]? fun v25 =>
 (bd (slcH hh20 v25) fun p26 =>
 (loopx n (endApply_l27 n os osb st19 next21 v25 p26) [(V.sl 2 (lsl (gv st19 0)) false), (V.agg (lcs (gv st19 1))), (V.agg (setR [(V.sl 0 [] true)] 0 ((((cs16).drop o17 |>.take 2)).drop (n24 * 1) |>.take 1))), (V.int .i64 0)] hh20))) else none) else none) else none))
 else
 (bd (slcH hh20 (V.row (h5).length 1 0 ((List.replicate n9 [(V.int .i32 0)])).length)) fun p75 =>
 (loopx n (endApply_l76 n h5 n9 v14 p75) [(V.sl 2 (lsl (gv st19 0)) false), (V.agg (lcs (gv st19 1))), (V.int .i64 0)] hh20))))
noncomputable def endApply (n : Nat) (s : Nat) (os : List (List V)) (osb : Bool) (h : Heap) : Option (Res × Heap) :=
 (cl (call n 58 [(V.ptr s 0)] h) (fun r0 h1 =>
 (one1 r0 fun v3 =>
 (cl (call n 67 [(V.ptr s 0)] h1) (fun r4 h5 =>
 (one1 r4 fun v7 =>
 (bd (bldV prog 126 [(1, v3), (2, v7)]) fun cs8 =>
 (if (cs8).length = 4 then
 (bdS (nv (V.int .i64 ((os).length : Int))) fun n9 =>
 (bdS (nv (V.int .i64 ((os).length : Int))) fun n10 =>
 (if (n9 <= n10 /\ n10 < lim /\ 1 = 1) then
 (cl (call n 72 [(V.ptr ((h5 ++ [(HB.row 21 1 (List.replicate n9 [(V.int .i32 0)]) true)])).length 0), (V.sl 2 os osb), (V.fn 73 [(V.iptr 2 [(V.bf 68 [(V.ptr s 0)]), (V.bf 69 [(V.ptr s 0)])] 0), (V.iptr 1 [(V.row (h5).length 1 0 ((List.replicate n9 [(V.int .i32 0)])).length)] 0), (V.iptr 1 [(V.sl 2 os osb)] 0)])] ((h5 ++ [(HB.row 21 1 (List.replicate n9 [(V.int .i32 0)]) true)]) ++ [(HB.box 4 cs8)])) (fun r11 h12 =>
 (one1 r11 fun v14 =>
 (bd3 (cellsP h12 (V.ptr ((h5 ++ [(HB.row 21 1 (List.replicate n9 [(V.int .i32 0)]) true)])).length 0)) fun cs16 m15 o17 => if (o17 + 2 <= m15 /\ 0 < 2) then
 (loopx n (endApply_l18 n os osb h5 n9 v14 cs16 o17) [(V.sl 2 [] false), (V.agg [(V.bf 70 [(V.ptr s 0)]), (V.bf 71 [(V.ptr s 0)])]), (V.int .i64 0)] h12) else none))) (fun z13 h12 => some (Res.pan z13, h12))) else none))) else none)))) (fun z6 h5 => some (Res.pan z6, h5))))) (fun z2 h1 => some (Res.pan z2, h1)))
theorem endApply_eq (n : Nat) (s : Nat) (os : List (List V)) (osb : Bool) (h : Heap) : call (n + 1) 65 [(V.ptr s 0), (V.sl 2 os osb)] h = endApply n s os osb h := by kernel_rfl
end Go.Proofs.Try
set_option linter.unusedVariables false
set_option linter.unusedSimpArgs false
namespace Go.Sk
open Go.L Go.Rp
def put2 {α : Type} (d : Nat) (x : α) (v : Nat -> α) : Nat -> α := fun j => if j = d then x else v j
theorem put2_self {α : Type} (d : Nat) (x : α) (v : Nat -> α) : put2 d x v d = x := if_pos rfl
theorem put2_ne {α : Type} {d e : Nat} (x : α) (v : Nat -> α) (h : e ≠ d) : put2 d x v e = v e := if_neg h
end Go.Sk
namespace Go.Proofs.Try
open Go.L Go.Rp Go.Sk
set_option maxRecDepth 100000
def SideV (h : Heap) (v : V) (ob : Option Nat) (ws : List Nat) : Prop := match ob with
  | none => v = .sl 0 [] true /\ ws = []
  | some b => ∃ lo l z, v = .row b 1 lo (lo + ws.length) /\ h[b]? = some (.row 3 1 l z) /\ lo + ws.length <= l.length /\ (l.take (lo + ws.length)).drop lo = ws.map idxC
theorem SideV.keep {h h' : Heap} {v : V} {ob : Option Nat} {ws : List Nat} (hv : SideV h v ob ws) (hk : ∀ b, ob = some b -> h'[b]? = h[b]?) : SideV h' v ob ws := by
  cases ob with
  | none => exact hv
  | some b =>
    obtain ⟨lo, l, z, h1, h2, h3⟩ := hv
    exact ⟨lo, l, z, h1, (hk b rfl).trans h2, h3⟩
theorem SideV.lt {h : Heap} {v : V} {b : Nat} {ws : List Nat} (hv : SideV h v (some b) ws) : b < h.length := by
  obtain ⟨lo, l, z, h1, h2, h3⟩ := hv
  exact lt_of_at h2
theorem SideV.slc {h : Heap} {v : V} {ob : Option Nat} {ws : List Nat} (hv : SideV h v ob ws) : ∃ sz, slcH h v = some (sz, ws.map idxC) := by
  cases ob with
  | none =>
    obtain ⟨rfl, rfl⟩ := hv
    exact ⟨0, slcH_sl ..⟩
  | some b =>
    obtain ⟨lo, l, z, rfl, h2, h3, h4⟩ := hv
    exact ⟨1, by rw [slcH_row h2 (Nat.le_add_right _ _) h3, h4]⟩
theorem SideV.one {h : Heap} {v : V} {ob : Option Nat} {ws : List Nat} (hv : SideV h v ob ws) : V.cells v = [v] := by
  cases ob with
  | none =>
    obtain ⟨rfl, rfl⟩ := hv
    rfl
  | some b =>
    obtain ⟨lo, l, z, rfl, h2, h3, h4⟩ := hv
    rfl
theorem SideV.app {h : Heap} {v : V} {ob : Option Nat} {ws : List Nat} (hv : SideV h v ob ws) (i : Nat) (hl : ws.length + 1 < lim) : ∃ v' h', appP 3 1 h [[.int .i64 (i : Int)]] v = some (v', h') /\ SideV h' v' (some h.length) (ws ++ [i]) /\ h'.length = h.length + 1 /\ ∀ j, j < h.length -> ob ≠ some j -> h'[j]? = h[j]? := by
  cases ob with
  | none =>
    obtain ⟨rfl, rfl⟩ := hv
    exact ⟨.row h.length 1 0 1, h ++ [.row 3 1 [[.int .i64 (i : Int)]] true], rfl, ⟨0, _, _, rfl, List.getElem?_concat_length, by simp, by simp [idxC]⟩, by simp, fun j h1 h2 => List.getElem?_append_left h1⟩
  | some b =>
    obtain ⟨lo, l, z, rfl, h2, h3, h4⟩ := hv
    have hbl := lt_of_at h2
    have happ : appP 3 1 h [[.int .i64 (i : Int)]] (.row b 1 lo (lo + ws.length)) = some (.row h.length 1 0 (ws.length + 1), h.set b .dead ++ [.row 3 1 (ws.map idxC ++ [[.int .i64 (i : Int)]]) (z && lo == 0)]) := by
      simp only [appP, h2]
      rw [if_pos (by refine ⟨⟨?_, ?_, ?_⟩, ⟨by omega, h3⟩, by simp; omega⟩ <;> first | trivial | rfl), h4]
      simp
    refine ⟨_, _, happ, ⟨0, ws.map idxC ++ [[.int .i64 (i : Int)]], (z && lo == 0), by simp, ?_, by simp, ?_⟩, by simp, fun j h1 h2 => ?_⟩
    · rw [List.getElem?_append_right (by simp)]; simp
    · simp [idxC, List.take_of_length_le]
    · rw [List.getElem?_append_left (by simpa using h1), List.getElem?_set_ne (fun e => h2 (by rw [e]))]
theorem SideV.outer {h : Heap} {v : V} {ob : Option Nat} {w0 : List Nat} {w : Nat} (hv : SideV h v ob (w0 ++ [w])) : ∃ p cs m o v', idxP 1 w0.length v = some p /\ ipOf v p = p /\ cellsP h p = some (cs, m, o) /\ (o + 1 <= m /\ 0 < 1) /\ cs[o]? = some (.int .i64 (w : Int)) /\ lenP v = some (w0.length + 1) /\ sliceP 1 0 w0.length none true v = some v' /\ SideV h v' ob w0 := by
  cases ob with
  | none => exact absurd hv.2 (by simp)
  | some b =>
    obtain ⟨lo, l, z, rfl, h2, h3, h4⟩ := hv
    rw [List.length_append, List.length_singleton] at h3 h4 ⊢
    have hx : l[lo + w0.length]? = some [.int .i64 (w : Int)] := by
      have := congrArg (fun t : List (List V) => t[w0.length]?) h4
      simpa [idxC, List.getElem?_take] using this
    have hr : (l.take (lo + w0.length)).drop lo = w0.map idxC := by
      have := congrArg (List.take w0.length) h4
      rw [List.take_drop, List.take_take, Nat.min_eq_left (by omega)] at this
      rw [this, List.map_append, List.take_append_of_le_length (by simp), List.take_of_length_le (by simp)]
    exact ⟨_, _, _, _, _, idxP_row (by omega), rfl, cellsP_rptr h2 (by decide) hx, by decide, rfl, by rw [lenP_row]; congr 1; omega, sliceP_row (Nat.zero_le _) (by omega) true, ⟨lo, l, z, rfl, h2, by omega, hr⟩⟩
theorem SideV.inner {h : Heap} {v : V} {ob : Option Nat} {w0 : List Nat} {w : Nat} (hv : SideV h v ob (w :: w0)) : ∃ p cs m o v', idxP 1 0 v = some p /\ cellsP h p = some (cs, m, o) /\ (o + 1 <= m /\ 0 < 1) /\ cs[o]? = some (.int .i64 (w : Int)) /\ lenP v = some (w0.length + 1) /\ sliceP 1 1 (w0.length + 1) none true v = some v' /\ SideV h v' ob w0 := by
  cases ob with
  | none => exact absurd hv.2 (by simp)
  | some b =>
    obtain ⟨lo, l, z, rfl, h2, h3, h4⟩ := hv
    rw [List.length_cons] at h3 h4 ⊢
    have hx : l[lo]? = some [.int .i64 (w : Int)] := by
      have := congrArg (fun t : List (List V) => t[0]?) h4
      simpa [idxC, List.getElem?_take] using this
    have hr : (l.take (lo + (w0.length + 1))).drop (lo + 1) = w0.map idxC := by
      have := congrArg (List.drop 1) h4
      rw [List.drop_drop] at this
      rw [this]; rfl
    exact ⟨_, _, _, _, _, idxP_row (by omega), cellsP_rptr h2 (by decide) (by rw [Nat.add_zero]; exact hx), by decide, rfl, by rw [lenP_row]; congr 1; omega, sliceP_row (by omega) (by omega) true, ⟨lo + 1, l, z, by congr 1; omega, h2, by omega, by rw [show lo + 1 + w0.length = lo + (w0.length + 1) by omega]; exact hr⟩⟩
structure EndAt (h : Heap) (s : Nat) (sb : Nat -> Option Nat) (u m : Nat) (ws : Nat -> List Nat) (v : Nat -> V) : Prop where
  box : h[s]? = some (.box 4 [v 0, v 1, .int .i64 (u : Int), .int .i64 (m : Int)])
  side : ∀ d, d < 2 -> SideV h (v d) (sb d) (ws d)
  own : ∀ d, d < 2 -> sb d ≠ some s
  apart : ∀ b, sb 0 = some b -> sb 1 ≠ some b
structure EFed (h h' : Heap) (s : Nat) (sb sb' : Nat -> Option Nat) : Prop where
  len : h.length <= h'.length
  old : ∀ j, j < h.length -> j ≠ s -> sb 0 ≠ some j -> sb 1 ≠ some j -> h'[j]? = h[j]?
  new : ∀ d b, d < 2 -> sb' d = some b -> sb d = some b \/ h.length <= b
theorem EFed.of {h h' : Heap} {s : Nat} {sb : Nat -> Option Nat} (h1 : h'.length = h.length) (h2 : ∀ j, j ≠ s -> h'[j]? = h[j]?) : EFed h h' s sb sb := ⟨by omega, fun j _ k _ _ => h2 j k, fun _ _ _ e => .inl e⟩
theorem get_side {v : Nat -> V} {a b : V} {d : Nat} (hd : d < 2) : [v 0, v 1, a, b][d]? = some (v d) := by
  obtain rfl | rfl : d = 0 \/ d = 1 := by omega
  · rfl
  · rfl
theorem set_side {v : Nat -> V} {a b x : V} {d : Nat} (hd : d < 2) : setR [v 0, v 1, a, b] d [x] = [put2 d x v 0, put2 d x v 1, a, b] := by
  obtain rfl | rfl : d = 0 \/ d = 1 := by omega
  · rfl
  · rfl
theorem EndAt.write {h h' h2 : Heap} {s : Nat} {sb : Nat -> Option Nat} {u m : Nat} {ws : Nat -> List Nat} {v : Nat -> V} (E : EndAt h s sb u m ws v) {d : Nat} (hd : d < 2) {x : V} {ob : Option Nat} {w : List Nat} (hx : SideV h2 x ob w) (ho : ob ≠ some s) (ha : ∀ e, e < 2 -> e ≠ d -> ∀ b, sb e = some b -> ob ≠ some b)
    (hk : ∀ e, e < 2 -> e ≠ d -> ∀ b, sb e = some b -> h2[b]? = h[b]?) (hs : s < h2.length) (he : h' = h2.set s (.box 4 (setR [v 0, v 1, .int .i64 (u : Int), .int .i64 (m : Int)] d [x]))) : EndAt h' s (put2 d ob sb) u m (put2 d w ws) (put2 d x v) := by
  subst he
  refine ⟨?_, fun e he => ?_, fun e he => ?_, fun b hb hb1 => ?_⟩
  · rw [set_at hs, set_side hd]
  · by_cases k : e = d
    · subst k
      rw [put2_self, put2_self, put2_self]
      exact hx.keep (fun b hb => List.getElem?_set_ne (fun k => ho (by rw [hb, k])))
    · rw [put2_ne _ _ k, put2_ne _ _ k, put2_ne _ _ k]
      exact (E.side e he).keep (fun b hb => (List.getElem?_set_ne (fun k2 => E.own e he (by rw [hb, k2]))).trans (hk e he k b hb))
  · by_cases k : e = d
    · subst k; rw [put2_self]; exact ho
    · rw [put2_ne _ _ k]; exact E.own e he
  · obtain rfl | rfl : d = 0 \/ d = 1 := by omega
    · rw [put2_self] at hb
      rw [put2_ne _ _ (by decide)] at hb1
      exact ha 1 (by decide) (by decide) b hb1 hb
    · rw [put2_self] at hb1
      rw [put2_ne _ _ (by decide)] at hb
      exact ha 0 (by decide) (by decide) b hb hb1
theorem end_push_full (n : Nat) {h : Heap} {s : Nat} {sb : Nat -> Option Nat} {u m : Nat} {ws : Nat -> List Nat} {v : Nat -> V} (E : EndAt h s sb u m ws v) (d i : Int) (hm : m <= u + (ws 0).length + (ws 1).length) (hl : u + (ws 0).length + (ws 1).length < lim) : call (n + 1) 78 [.ptr s 0, .int .i64 d, .int .i64 i] h = some (.ret [.bool false], h) := by
  obtain ⟨z0, k0⟩ := (E.side 0 (by decide)).slc
  obtain ⟨z1, k1⟩ := (E.side 1 (by decide)).slc
  unfold lim at hl
  refine (endPush_eq n s d i h).trans ?_
  unfold endPush
  rw [cellsP_box E.box, bd3_some, if_pos (by decide)]
  simp only [List.getElem?_cons_zero, List.getElem?_cons_succ, bd_some]
  rw [cellsP_box E.box, bd3_some, if_pos (by decide)]
  simp only [List.getElem?_cons_zero, List.getElem?_cons_succ, bd_some]
  rw [k0, bd_some, bop_i64_add, bd_some, cellsP_box E.box, bd3_some, if_pos (by decide)]
  simp only [List.getElem?_cons_zero, List.getElem?_cons_succ, bd_some]
  rw [k1, bd_some, bop_i64_add, bd_some, cellsP_box E.box, bd3_some, if_pos (by decide)]
  simp only [List.getElem?_cons_zero, List.getElem?_cons_succ, bd_some]
  rw [bop_i64_geq, bd_some, bv_bool, List.length_map, List.length_map, w64 (n := (u : Int) + _) (by omega) (by omega), w64 (by omega) (by omega), if_pos (by simp; omega)]
theorem end_push_call (n : Nat) {h : Heap} {s : Nat} {sb : Nat -> Option Nat} {u m : Nat} {ws : Nat -> List Nat} {v : Nat -> V} (E : EndAt h s sb u m ws v) {d : Nat} (hd : d < 2) (i : Nat) (hm : u + (ws 0).length + (ws 1).length < m) (hl : u + (ws 0).length + (ws 1).length + 1 < lim) :
    ∃ h' v', call (n + 1) 78 [.ptr s 0, .int .i64 (d : Int), .int .i64 (i : Int)] h = some (.ret [.bool true], h') /\ EndAt h' s (put2 d (some h.length) sb) u m (put2 d (ws d ++ [i]) ws) v' /\ EFed h h' s sb (put2 d (some h.length) sb) := by
  obtain ⟨z0, k0⟩ := (E.side 0 (by decide)).slc
  obtain ⟨z1, k1⟩ := (E.side 1 (by decide)).slc
  have hwd : (ws d).length <= (ws 0).length + (ws 1).length := by
    obtain rfl | rfl : d = 0 \/ d = 1 := by omega
    · omega
    · omega
  obtain ⟨x, h2, a1, a2, a3, a4⟩ := (E.side d hd).app i (by omega)
  have hcl := lt_of_at E.box
  have e2 : h2[s]? = some (.box 4 [v 0, v 1, .int .i64 (u : Int), .int .i64 (m : Int)]) := (a4 s hcl (E.own d hd)).trans E.box
  have hds : ∀ e, e < 2 -> e ≠ d -> ∀ b, sb e = some b -> sb d ≠ some b := by
    intro e he hed b hb hb'
    obtain rfl | rfl : d = 0 \/ d = 1 := by omega
    · obtain rfl : e = 1 := by omega
      exact E.apart b hb' hb
    · obtain rfl : e = 0 := by omega
      exact E.apart b hb hb'
  refine ⟨_, _, ?_, E.write (h2 := h2) hd a2 (fun e => by cases e; omega) (fun e he hed b hb e2 => by have := (hb ▸ E.side e he : SideV h (v e) (some b) (ws e)).lt; cases e2; omega) (fun e he hed b hb => a4 b (hb ▸ E.side e he : SideV h (v e) (some b) (ws e)).lt (fun e2 => hds e he hed b hb e2)) (by omega) rfl, ⟨by rw [List.length_set]; omega, fun j h1 h3 h4 h5 => ?_, fun e b he hb => ?_⟩⟩
  · unfold lim at hl
    rw [endPush_eq]
    unfold endPush
    rw [cellsP_box E.box, bd3_some, if_pos (by decide)]
    simp only [List.getElem?_cons_zero, List.getElem?_cons_succ, bd_some]
    rw [cellsP_box E.box, bd3_some, if_pos (by decide)]
    simp only [List.getElem?_cons_zero, List.getElem?_cons_succ, bd_some]
    rw [k0, bd_some, bop_i64_add, bd_some, cellsP_box E.box, bd3_some, if_pos (by decide)]
    simp only [List.getElem?_cons_zero, List.getElem?_cons_succ, bd_some]
    rw [k1, bd_some, bop_i64_add, bd_some, cellsP_box E.box, bd3_some, if_pos (by decide)]
    simp only [List.getElem?_cons_zero, List.getElem?_cons_succ, bd_some]
    rw [bop_i64_geq, bd_some, bv_bool, List.length_map, List.length_map, w64 (n := (u : Int) + _) (by omega) (by omega), w64 (by omega) (by omega), if_neg (by simp; omega), nv_nat, bd_some, if_pos hd]
    simp only [Nat.zero_add, Nat.mul_one, Nat.add_zero]
    rw [cellsP_box E.box, bd3_some, if_pos (by omega), get_side hd, bd_some, a1, bd2_some, bd_some, if_pos hd, a2.one, if_pos (by rfl), writeB_box e2 (by simp; omega), bd2_some]
  · rw [List.getElem?_set_ne (Ne.symm h3)]
    have hdj : sb d ≠ some j := by
      rcases (show d = 0 \/ d = 1 by omega) with rfl | rfl
      · exact h4
      · exact h5
    exact a4 j h1 hdj
  · by_cases k : e = d
    · subst k; rw [put2_self] at hb; cases hb; exact .inr (Nat.le_refl _)
    · rw [put2_ne _ _ k] at hb; exact .inl hb
theorem wrap_other {d : Nat} (hd : d < 2) : IntKind.i64.wrap (1 - (d : Int)) = ((1 - d : Nat) : Int) := by rw [w64] <;> omega
theorem end_outer_call (n : Nat) {h : Heap} {s : Nat} {sb : Nat -> Option Nat} {u m : Nat} {ws : Nat -> List Nat} {v : Nat -> V} (E : EndAt h s sb u m ws v) {d : Nat} (hd : d < 2) {w0 : List Nat} {w : Nat} (hw : ws d = w0 ++ [w]) (hl : w0.length + 1 < lim) :
    ∃ h' v', call (n + 1) 80 [.ptr s d] h = some (.ret [.int .i64 (w : Int)], h') /\ EndAt h' s sb u m (put2 d w0 ws) v' /\ h'.length = h.length /\ ∀ j, j ≠ s -> h'[j]? = h[j]? := by
  have hs := E.side d hd
  rw [hw] at hs
  obtain ⟨z, k⟩ := hs.slc
  obtain ⟨p, cs, m', o, v', a1, a2, a3, a4, a5, a6, a7, a8⟩ := hs.outer
  have hcl := lt_of_at E.box
  have hds : ∀ e, e < 2 -> e ≠ d -> ∀ b, sb e = some b -> sb d ≠ some b := by
    intro e he hed b hb hb'
    obtain rfl | rfl : d = 0 \/ d = 1 := by omega
    · obtain rfl : e = 1 := by omega
      exact E.apart b hb' hb
    · obtain rfl : e = 0 := by omega
      exact E.apart b hb hb'
  have W := E.write (h2 := h) hd a8 (E.own d hd) hds (fun e he hed b hb => rfl) hcl rfl
  have hp : put2 d (sb d) sb = sb := by funext j; unfold put2; split <;> simp_all
  rw [hp] at W
  refine ⟨_, _, ?_, W, by rw [List.length_set], fun j hj => List.getElem?_set_ne (Ne.symm hj)⟩
  unfold lim at hl
  have hlen : IntKind.i64.wrap ((((w0 ++ [w]).map idxC).length : Int) - 1) = (w0.length : Int) := by
    rw [List.length_map, List.length_append, List.length_singleton, w64 (by omega) (by omega)]; omega
  rw [endOuter_eq]
  unfold endOuter
  simp only [addP, Nat.add_zero, bd_some]
  rw [cellsP_box E.box, bd3_some, if_pos (by omega), get_side hd, bd_some, bd3_some, if_pos (by omega), get_side hd, bd_some, k, bd_some, hlen, nv_nat, bdS_some, a1, bd_some, a2, a3, bd3_some, if_pos a4, a5, bd_some, bd3_some, if_pos (by omega), get_side hd, bd_some, bd3_some, if_pos (by omega), get_side hd, bd_some, k, bd_some, a6, bd_some, hlen, nv_nat, bdS_some, a7, bd_some, a8.one, if_pos (by rfl), writeB_box E.box (by simp; omega), bd2_some]
theorem end_inner_call (n : Nat) {h : Heap} {s : Nat} {sb : Nat -> Option Nat} {u m : Nat} {ws : Nat -> List Nat} {v : Nat -> V} (E : EndAt h s sb u m ws v) {d : Nat} (hd : d < 2) {w0 : List Nat} {w : Nat} (hw : ws d = w :: w0) :
    ∃ h' v', call (n + 1) 81 [.ptr s d] h = some (.ret [.int .i64 (w : Int)], h') /\ EndAt h' s sb u m (put2 d w0 ws) v' /\ h'.length = h.length /\ ∀ j, j ≠ s -> h'[j]? = h[j]? := by
  have hs := E.side d hd
  rw [hw] at hs
  obtain ⟨p, cs, m', o, v', a1, a3, a4, a5, a6, a7, a8⟩ := hs.inner
  have hcl := lt_of_at E.box
  have hds : ∀ e, e < 2 -> e ≠ d -> ∀ b, sb e = some b -> sb d ≠ some b := by
    intro e he hed b hb hb'
    obtain rfl | rfl : d = 0 \/ d = 1 := by omega
    · obtain rfl : e = 1 := by omega
      exact E.apart b hb' hb
    · obtain rfl : e = 0 := by omega
      exact E.apart b hb hb'
  have W := E.write (h2 := h) hd a8 (E.own d hd) hds (fun e he hed b hb => rfl) hcl rfl
  have hp : put2 d (sb d) sb = sb := by funext j; unfold put2; split <;> simp_all
  rw [hp] at W
  refine ⟨_, _, ?_, W, by rw [List.length_set], fun j hj => List.getElem?_set_ne (Ne.symm hj)⟩
  rw [endInner_eq]
  unfold endInner
  simp only [addP, Nat.add_zero, bd_some]
  rw [cellsP_box E.box, bd3_some, if_pos (by omega), get_side hd, bd_some, a1, bd_some, a3, bd3_some, if_pos a4, a5, bd_some, bd3_some, if_pos (by omega), get_side hd, bd_some, a6, bd_some, a7, bd_some, a8.one, if_pos (by rfl), writeB_box E.box (by simp; omega), bd2_some]
theorem end_pop_near (n : Nat) {h : Heap} {s : Nat} {sb : Nat -> Option Nat} {u m : Nat} {ws : Nat -> List Nat} {v : Nat -> V} (E : EndAt h s sb u m ws v) {d : Nat} (hd : d < 2) {w0 : List Nat} {w : Nat} (hw : ws d = w0 ++ [w]) (hl : w0.length + 1 < lim) :
    ∃ h' v', call (n + 2) 79 [.ptr s 0, .int .i64 (d : Int)] h = some (.ret [.int .i64 (w : Int), .bool true], h') /\ EndAt h' s sb u m (put2 d w0 ws) v' /\ h'.length = h.length /\ ∀ j, j ≠ s -> h'[j]? = h[j]? := by
  obtain ⟨h', v', e, b1, b2, b3⟩ := end_outer_call n E hd hw hl
  obtain ⟨z, k⟩ := (E.side d hd).slc
  refine ⟨h', v', ?_, b1, b2, b3⟩
  rw [show n + 2 = (n + 1) + 1 from rfl, endPop_eq]
  unfold endPop
  rw [nv_nat, bd_some, if_pos hd, wrap_other hd, nv_nat, bd_some, if_pos (by omega)]
  simp only [Nat.zero_add, Nat.mul_one, Nat.add_zero]
  rw [cellsP_box E.box, bd3_some, if_pos (by omega), get_side hd, bd_some, k, bd_some, if_pos (by rw [hw]; simp), e, cl_ret, one1_one]
theorem end_pop_mid (n : Nat) {h : Heap} {s : Nat} {sb : Nat -> Option Nat} {u m : Nat} {ws : Nat -> List Nat} {v : Nat -> V} (E : EndAt h s sb (u + 1) m ws v) {d : Nat} (hd : d < 2) (hw : ws d = []) (hu : u + 1 < lim) :
    ∃ h' v', call (n + 2) 79 [.ptr s 0, .int .i64 (d : Int)] h = some (.ret [.int .i64 (-1), .bool true], h') /\ EndAt h' s sb u m ws v' /\ h'.length = h.length /\ ∀ j, j ≠ s -> h'[j]? = h[j]? := by
  obtain ⟨z, k⟩ := (E.side d hd).slc
  have hcl := lt_of_at E.box
  refine ⟨h.set s (.box 4 [v 0, v 1, .int .i64 (u : Int), .int .i64 (m : Int)]), v, ?_, ⟨set_at hcl _, fun e he => (E.side e he).keep (fun b hb => List.getElem?_set_ne (fun k2 => E.own e he (by rw [hb, k2]))), E.own, E.apart⟩, by rw [List.length_set], fun j hj => List.getElem?_set_ne (Ne.symm hj)⟩
  unfold lim at hu
  rw [show n + 2 = (n + 1) + 1 from rfl, endPop_eq]
  unfold endPop
  rw [nv_nat, bd_some, if_pos hd, wrap_other hd, nv_nat, bd_some, if_pos (by omega)]
  simp only [Nat.zero_add, Nat.mul_one, Nat.add_zero]
  rw [cellsP_box E.box, bd3_some, if_pos (by omega), get_side hd, bd_some, k, bd_some, if_neg (by rw [hw]; simp), cellsP_box E.box, bd3_some, if_pos (by decide)]
  simp only [List.getElem?_cons_zero, List.getElem?_cons_succ, bd_some]
  rw [bop_i64_gtr, bd_some, bv_bool, if_pos (by simp), bd3_some, if_pos (by decide)]
  simp only [List.getElem?_cons_zero, List.getElem?_cons_succ, bd_some]
  rw [bop_i64_sub, bd_some, if_pos (by rfl), writeB_box E.box (by simp [V.cells]), bd2_some, w64 (by omega) (by omega), show (((u + 1 : Nat) : Int) - 1) = (u : Int) by omega]
  rfl
theorem end_pop_far (n : Nat) {h : Heap} {s : Nat} {sb : Nat -> Option Nat} {m : Nat} {ws : Nat -> List Nat} {v : Nat -> V} (E : EndAt h s sb 0 m ws v) {d : Nat} (hd : d < 2) (hw : ws d = []) {w0 : List Nat} {w : Nat} (hw2 : ws (1 - d) = w :: w0) :
    ∃ h' v', call (n + 2) 79 [.ptr s 0, .int .i64 (d : Int)] h = some (.ret [.int .i64 (w : Int), .bool true], h') /\ EndAt h' s sb 0 m (put2 (1 - d) w0 ws) v' /\ h'.length = h.length /\ ∀ j, j ≠ s -> h'[j]? = h[j]? := by
  have hd' : 1 - d < 2 := by omega
  obtain ⟨h', v', e, b1, b2, b3⟩ := end_inner_call n E hd' hw2
  obtain ⟨z, k⟩ := (E.side d hd).slc
  obtain ⟨z', k'⟩ := (E.side (1 - d) hd').slc
  refine ⟨h', v', ?_, b1, b2, b3⟩
  rw [show n + 2 = (n + 1) + 1 from rfl, endPop_eq]
  unfold endPop
  rw [nv_nat, bd_some, if_pos hd, wrap_other hd, nv_nat, bd_some, if_pos (by omega)]
  simp only [Nat.zero_add, Nat.mul_one, Nat.add_zero]
  rw [cellsP_box E.box, bd3_some, if_pos (by omega), get_side hd, bd_some, k, bd_some, if_neg (by rw [hw]; simp), cellsP_box E.box, bd3_some, if_pos (by decide)]
  simp only [List.getElem?_cons_zero, List.getElem?_cons_succ, bd_some]
  rw [bop_i64_gtr, bd_some, bv_bool, if_neg (by decide), cellsP_box E.box, bd3_some, if_pos (by omega), get_side hd', bd_some, k', bd_some, if_pos (by rw [hw2]; simp), e, cl_ret, one1_one]
theorem end_pop_none (n : Nat) {h : Heap} {s : Nat} {sb : Nat -> Option Nat} {m : Nat} {ws : Nat -> List Nat} {v : Nat -> V} (E : EndAt h s sb 0 m ws v) {d : Nat} (hd : d < 2) (hw : ws d = []) (hw2 : ws (1 - d) = []) :
    call (n + 2) 79 [.ptr s 0, .int .i64 (d : Int)] h = some (.ret [.int .i64 0, .bool false], h) := by
  have hd' : 1 - d < 2 := by omega
  obtain ⟨z, k⟩ := (E.side d hd).slc
  obtain ⟨z', k'⟩ := (E.side (1 - d) hd').slc
  rw [show n + 2 = (n + 1) + 1 from rfl, endPop_eq]
  unfold endPop
  rw [nv_nat, bd_some, if_pos hd, wrap_other hd, nv_nat, bd_some, if_pos (by omega)]
  simp only [Nat.zero_add, Nat.mul_one, Nat.add_zero]
  rw [cellsP_box E.box, bd3_some, if_pos (by omega), get_side hd, bd_some, k, bd_some, if_neg (by rw [hw]; simp), cellsP_box E.box, bd3_some, if_pos (by decide)]
  simp only [List.getElem?_cons_zero, List.getElem?_cons_succ, bd_some]
  rw [bop_i64_gtr, bd_some, bv_bool, if_neg (by decide), cellsP_box E.box, bd3_some, if_pos (by omega), get_side hd', bd_some, k', bd_some, if_neg (by rw [hw2]; simp)]
end Go.Proofs.Try
set_option linter.unusedVariables false
namespace Go.Proofs.Try
open Go.L
set_option maxRecDepth 100000
noncomputable def objNew1 (n : Nat) (x0 : Int) (h : Heap) : Option (Res × Heap) :=
 (cl (call n 12 [(V.int .i64 x0)] h) (fun r0 h1 =>
 (one1 r0 fun v3 =>
 (bd (bldV prog 45 [(0, v3)]) fun cs4 =>
 some (Res.ret [(V.iface 45 (V.agg cs4))], h1)))) (fun z2 h1 => some (Res.pan z2, h1)))
theorem objNew1_eq (n : Nat) (x0 : Int) (h : Heap) : call (n + 1) 11 [(V.int .i64 x0)] h = objNew1 n x0 h := by kernel_rfl
noncomputable def objNew2 (n : Nat) (x0 : Int) (h : Heap) : Option (Res × Heap) :=
 (cl (call n 14 [(V.int .i64 x0)] h) (fun r0 h1 =>
 (one1 r0 fun v3 =>
 (bd (bldV prog 49 [(0, v3)]) fun cs4 =>
 some (Res.ret [(V.iface 49 (V.agg cs4))], h1)))) (fun z2 h1 => some (Res.pan z2, h1)))
theorem objNew2_eq (n : Nat) (x0 : Int) (h : Heap) : call (n + 1) 13 [(V.int .i64 x0)] h = objNew2 n x0 h := by kernel_rfl
noncomputable def objNew3 (n : Nat) (x0 : Int) (h : Heap) : Option (Res × Heap) :=
 (cl (call n 16 [(V.int .i64 x0)] h) (fun r0 h1 =>
 (one1 r0 fun v3 =>
 (bd (bldV prog 53 [(0, v3)]) fun cs4 =>
 some (Res.ret [(V.iface 53 (V.agg cs4))], h1)))) (fun z2 h1 => some (Res.pan z2, h1)))
theorem objNew3_eq (n : Nat) (x0 : Int) (h : Heap) : call (n + 1) 15 [(V.int .i64 x0)] h = objNew3 n x0 h := by kernel_rfl
noncomputable def objDo (n : Nat) (s : Nat) (os : List (List V)) (osb : Bool) (h : Heap) : Option (Res × Heap) :=
 (bd (bopH prog h .eql 23 (V.ptr s 0) (V.val (.pointer none))) fun v0 =>
 (bv v0 fun b1 => if b1 then
 some (Res.ret [(V.sl 2 [] false)], h)
 else
 (bd3 (cellsP h (V.ptr s 2)) fun cs3 m2 o4 => if (o4 + 1 <= m2 /\ 0 < 1) then
 (bd (cs3)[o4]? fun v5 =>
 (bv v5 fun b6 => if b6 then
 (bd3 (cellsP h (V.ptr s 0)) fun cs8 m7 o9 => if (o9 + 1 <= m7 /\ 0 < 1) then
 (bd (cs8)[o9]? fun v10 =>
 (bd3 (cellsP h (V.ptr s 1)) fun cs12 m11 o13 => if (o13 + 1 <= m11 /\ 0 < 1) then
 (bd (cs12)[o13]? fun v14 =>
 (if (nckV v10 = true) then
 (ifK v10 fun t15 w16 => bd2 (methV prog t15 w16 "reaper/object.plain") fun f17 w18 => if (keepS f17 = true /\ okV prog 25 f17 = true) then
 (clH (call n f17 ([w18] ++ [v14, (V.sl 2 os osb)]) h) fun r19 h20 =>
 (one1 r19 fun v22 =>
 some (Res.ret [v22], h20))) else none) else none)) else none)) else none)
 else
 (bd3 (cellsP h (V.ptr s 0)) fun cs24 m23 o25 => if (o25 + 1 <= m23 /\ 0 < 1) then
 (bd (cs24)[o25]? fun v26 =>
 (bd3 (cellsP h (V.ptr s 1)) fun cs28 m27 o29 => if (o29 + 1 <= m27 /\ 0 < 1) then
 (bd (cs28)[o29]? fun v30 =>
 (if (nckV v26 = true) then
 (ifK v26 fun t31 w32 => bd2 (methV prog t31 w32 "reaper/object.batch") fun f33 w34 => if (keepS f33 = true /\ okV prog 25 f33 = true) then
 (clH (call n f33 ([w34] ++ [v30, (V.sl 2 os osb)]) h) fun r35 h36 =>
 (one1 r35 fun v38 =>
 some (Res.ret [v38], h36))) else none) else none)) else none)) else none))) else none)))
theorem objDo_eq (n : Nat) (s : Nat) (os : List (List V)) (osb : Bool) (h : Heap) : call (n + 1) 5 [(V.ptr s 0), (V.sl 2 os osb)] h = objDo n s os osb h := by kernel_rfl
noncomputable def objItems (n : Nat) (s : Nat) (h : Heap) : Option (Res × Heap) :=
 (bd (bopH prog h .eql 23 (V.ptr s 0) (V.val (.pointer none))) fun v0 =>
 (bv v0 fun b1 => if b1 then
 some (Res.ret [(V.sl 1 [] false)], h)
 else
 (bd3 (cellsP h (V.ptr s 0)) fun cs3 m2 o4 => if (o4 + 1 <= m2 /\ 0 < 1) then
 (bd (cs3)[o4]? fun v5 =>
 (ifK v5 fun t6 w7 => bd2 (methV prog t6 w7 "Items") fun f8 w9 => if (keepS f8 = true /\ okV prog 29 f8 = true) then
 (cl (call n f8 ([w9] ++ []) h) (fun r10 h11 =>
 (one1 r10 fun v13 =>
 some (Res.ret [v13], h11))) (fun z12 h11 => some (Res.pan z12, h11))) else none)) else none)))
theorem objItems_eq (n : Nat) (s : Nat) (h : Heap) : call (n + 1) 7 [(V.ptr s 0)] h = objItems n s h := by kernel_rfl
noncomputable def objLen (n : Nat) (s : Nat) (h : Heap) : Option (Res × Heap) :=
 (bd (bopH prog h .eql 23 (V.ptr s 0) (V.val (.pointer none))) fun v0 =>
 (bv v0 fun b1 => if b1 then
 some (Res.ret [(V.int .i64 0)], h)
 else
 (bd3 (cellsP h (V.ptr s 0)) fun cs3 m2 o4 => if (o4 + 1 <= m2 /\ 0 < 1) then
 (bd (cs3)[o4]? fun v5 =>
 (ifK v5 fun t6 w7 => bd2 (methV prog t6 w7 "Len") fun f8 w9 => if (keepS f8 = true /\ okV prog 3 f8 = true) then
 (cl (call n f8 ([w9] ++ []) h) (fun r10 h11 =>
 (one1 r10 fun v13 =>
 some (Res.ret [v13], h11))) (fun z12 h11 => some (Res.pan z12, h11))) else none)) else none)))
theorem objLen_eq (n : Nat) (s : Nat) (h : Heap) : call (n + 1) 10 [(V.ptr s 0)] h = objLen n s h := by kernel_rfl
noncomputable def objOneS_l2 (n : Nat) (s : Nat) (os : List (List V)) (osb : Bool) (st3 : List V) (hh4 : Heap) (next5 : List V -> Heap -> Option (Res × Heap)) : Option (Res × Heap) :=
 (bd (bop prog .lss 3 (gv st3 3) (V.int .i64 ((os).length : Int))) fun v6 =>
 (bv v6 fun b7 => if b7 then
 (bdS (nv (gv st3 3)) fun n8 =>
 (bd (idxP 2 n8 (V.sl 2 os osb)) fun p9 =>
 (bd3 (cellsP hh4 p9) fun cs11 m10 o12 => if (o12 + 2 <= m10 /\ 0 < 2) then
 (if (((cs11).drop o12 |>.take 2)).length = 2 then
 (if ((((cs11).drop o12 |>.take 2)).length <= 2) then
 (cl (call n 43 [(V.ptr s 0), (V.agg (((setR [(V.int .u8 0), (V.int .i32 0)] 0 ((cs11).drop o12 |>.take 2))).drop 0 |>.take 2))] hh4) (fun r13 h14 =>
 (one1 r13 fun v16 =>
 (bdS (nv (gv st3 3)) fun n17 =>
 (if (2 = 2 /\ n17 < ((lsl (gv st3 1))).length /\ (some 23 : Option Nat) ≠ some 5) then
 (if ((V.cells v16)).length = 2 then
 (if (2 = 2 /\ 0 < 2 /\ 0 + ((V.cells v16)).length <= 2) then
 (bd ((lsl (gv st3 1)))[n17]? fun es18 =>
 (bd (bop prog .add 3 (gv st3 3) (V.int .i64 1)) fun v19 =>
 (next5 [(V.sl 2 (lsl (gv st3 0)) false), (V.sl 2 (((lsl (gv st3 1))).set n17 (setR es18 0 (V.cells v16))) false), (V.bool false), v19] h14))) else none) else none) else none)))) (fun z15 h14 => some (Res.pan z15, h14))) else none) else none) else none)))
 else
 some (Res.ret [(V.row (hh4).length 2 0 ((lsl (gv st3 1))).length)], (hh4 ++ [(HB.row 34 2 (lsl (gv st3 1)) true)]))))
noncomputable def objOneS (n : Nat) (s : Nat) (os : List (List V)) (osb : Bool) (h : Heap) : Option (Res × Heap) :=
 (bdS (nv (V.int .i64 ((os).length : Int))) fun n0 =>
 (bdS (nv (V.int .i64 ((os).length : Int))) fun n1 =>
 (if (n0 <= n1 /\ n1 < lim /\ 2 = 2) then
 (loopx n (objOneS_l2 n s os osb) [(V.sl 2 [] false), (V.sl 2 (List.replicate n0 [(V.int .u8 0), (V.int .i32 0)]) false), (V.bool false), (V.int .i64 0)] h) else none)))
theorem objOneS_eq (n : Nat) (s : Nat) (os : List (List V)) (osb : Bool) (h : Heap) : call (n + 1) 42 [(V.bf 43 [(V.ptr s 0)]), (V.sl 2 os osb)] h = objOneS n s os osb h := by kernel_rfl
noncomputable def objOneR_l2 (n : Nat) (s : Nat) (os : List (List V)) (osb : Bool) (st3 : List V) (hh4 : Heap) (next5 : List V -> Heap -> Option (Res × Heap)) : Option (Res × Heap) :=
 (bd (bop prog .lss 3 (gv st3 3) (V.int .i64 ((os).length : Int))) fun v6 =>
 (bv v6 fun b7 => if b7 then
 (bdS (nv (gv st3 3)) fun n8 =>
 (bd (idxP 2 n8 (V.sl 2 os osb)) fun p9 =>
 (bd3 (cellsP hh4 p9) fun cs11 m10 o12 => if (o12 + 2 <= m10 /\ 0 < 2) then
 (if (((cs11).drop o12 |>.take 2)).length = 2 then
 (if ((((cs11).drop o12 |>.take 2)).length <= 2) then
 (cl (call n 66 [(V.ptr s 0), (V.agg (((setR [(V.int .u8 0), (V.int .i32 0)] 0 ((cs11).drop o12 |>.take 2))).drop 0 |>.take 2))] hh4) (fun r13 h14 =>
 (one1 r13 fun v16 =>
 (bdS (nv (gv st3 3)) fun n17 =>
 (if (2 = 2 /\ n17 < ((lsl (gv st3 1))).length /\ (some 23 : Option Nat) ≠ some 5) then
 (if ((V.cells v16)).length = 2 then
 (if (2 = 2 /\ 0 < 2 /\ 0 + ((V.cells v16)).length <= 2) then
 (bd ((lsl (gv st3 1)))[n17]? fun es18 =>
 (bd (bop prog .add 3 (gv st3 3) (V.int .i64 1)) fun v19 =>
 (next5 [(V.sl 2 (lsl (gv st3 0)) false), (V.sl 2 (((lsl (gv st3 1))).set n17 (setR es18 0 (V.cells v16))) false), (V.bool false), v19] h14))) else none) else none) else none)))) (fun z15 h14 => some (Res.pan z15, h14))) else none) else none) else none)))
 else
 some (Res.ret [(V.row (hh4).length 2 0 ((lsl (gv st3 1))).length)], (hh4 ++ [(HB.row 34 2 (lsl (gv st3 1)) true)]))))
noncomputable def objOneR (n : Nat) (s : Nat) (os : List (List V)) (osb : Bool) (h : Heap) : Option (Res × Heap) :=
 (bdS (nv (V.int .i64 ((os).length : Int))) fun n0 =>
 (bdS (nv (V.int .i64 ((os).length : Int))) fun n1 =>
 (if (n0 <= n1 /\ n1 < lim /\ 2 = 2) then
 (loopx n (objOneR_l2 n s os osb) [(V.sl 2 [] false), (V.sl 2 (List.replicate n0 [(V.int .u8 0), (V.int .i32 0)]) false), (V.bool false), (V.int .i64 0)] h) else none)))
theorem objOneR_eq (n : Nat) (s : Nat) (os : List (List V)) (osb : Bool) (h : Heap) : call (n + 1) 42 [(V.bf 66 [(V.ptr s 0)]), (V.sl 2 os osb)] h = objOneR n s os osb h := by kernel_rfl
noncomputable def stkBatch (n : Nat) (s : Nat) (c : Nat) (os : List (List V)) (osb : Bool) (h : Heap) : Option (Res × Heap) :=
 (cl (call n 41 [(V.ptr s 0), (V.sl 2 os osb)] h) (fun r0 h1 =>
 (one1 r0 fun v3 =>
 some (Res.ret [v3], h1))) (fun z2 h1 => some (Res.pan z2, h1)))
theorem stkBatch_eq (n : Nat) (s : Nat) (c : Nat) (os : List (List V)) (osb : Bool) (h : Heap) : call (n + 1) 38 [(V.agg [(V.ptr s 0)]), (V.ptr c 0), (V.sl 2 os osb)] h = stkBatch n s c os osb h := by kernel_rfl
noncomputable def stkPlain (n : Nat) (s : Nat) (c : Nat) (os : List (List V)) (osb : Bool) (h : Heap) : Option (Res × Heap) :=
 (cl (call n 42 [(V.bf 43 [(V.ptr s 0)]), (V.sl 2 os osb)] h) (fun r0 h1 =>
 (one1 r0 fun v3 =>
 some (Res.ret [v3], h1))) (fun z2 h1 => some (Res.pan z2, h1)))
theorem stkPlain_eq (n : Nat) (s : Nat) (c : Nat) (os : List (List V)) (osb : Bool) (h : Heap) : call (n + 1) 40 [(V.agg [(V.ptr s 0)]), (V.ptr c 0), (V.sl 2 os osb)] h = stkPlain n s c os osb h := by kernel_rfl
noncomputable def rngBatch (n : Nat) (s : Nat) (c : Nat) (os : List (List V)) (osb : Bool) (h : Heap) : Option (Res × Heap) :=
 (cl (call n 65 [(V.ptr s 0), (V.sl 2 os osb)] h) (fun r0 h1 =>
 (one1 r0 fun v3 =>
 some (Res.ret [v3], h1))) (fun z2 h1 => some (Res.pan z2, h1)))
theorem rngBatch_eq (n : Nat) (s : Nat) (c : Nat) (os : List (List V)) (osb : Bool) (h : Heap) : call (n + 1) 62 [(V.agg [(V.ptr s 0)]), (V.ptr c 0), (V.sl 2 os osb)] h = rngBatch n s c os osb h := by kernel_rfl
noncomputable def rngPlain (n : Nat) (s : Nat) (c : Nat) (os : List (List V)) (osb : Bool) (h : Heap) : Option (Res × Heap) :=
 (cl (call n 42 [(V.bf 66 [(V.ptr s 0)]), (V.sl 2 os osb)] h) (fun r0 h1 =>
 (one1 r0 fun v3 =>
 some (Res.ret [v3], h1))) (fun z2 h1 => some (Res.pan z2, h1)))
theorem rngPlain_eq (n : Nat) (s : Nat) (c : Nat) (os : List (List V)) (osb : Bool) (h : Heap) : call (n + 1) 64 [(V.agg [(V.ptr s 0)]), (V.ptr c 0), (V.sl 2 os osb)] h = rngPlain n s c os osb h := by kernel_rfl
noncomputable def skpBatch (n : Nat) (s : Nat) (c : Nat) (os : List (List V)) (osb : Bool) (h : Heap) : Option (Res × Heap) :=
 (cl (call n 90 [(V.ptr s 0), (V.ptr c 0), (V.sl 2 os osb)] h) (fun r0 h1 =>
 (one1 r0 fun v3 =>
 some (Res.ret [v3], h1))) (fun z2 h1 => some (Res.pan z2, h1)))
theorem skpBatch_eq (n : Nat) (s : Nat) (c : Nat) (os : List (List V)) (osb : Bool) (h : Heap) : call (n + 1) 87 [(V.agg [(V.ptr s 0)]), (V.ptr c 0), (V.sl 2 os osb)] h = skpBatch n s c os osb h := by kernel_rfl
noncomputable def skpPlain (n : Nat) (s : Nat) (c : Nat) (os : List (List V)) (osb : Bool) (h : Heap) : Option (Res × Heap) :=
 (cl (call n 91 [(V.ptr s 0), (V.ptr c 0), (V.sl 2 os osb)] h) (fun r0 h1 =>
 (one1 r0 fun v3 =>
 some (Res.ret [v3], h1))) (fun z2 h1 => some (Res.pan z2, h1)))
theorem skpPlain_eq (n : Nat) (s : Nat) (c : Nat) (os : List (List V)) (osb : Bool) (h : Heap) : call (n + 1) 89 [(V.agg [(V.ptr s 0)]), (V.ptr c 0), (V.sl 2 os osb)] h = skpPlain n s c os osb h := by kernel_rfl
end Go.Proofs.Try
set_option linter.unusedVariables false
set_option linter.unusedSimpArgs false
namespace Go.Sk
open Go.L Go.Rp
def stkR (most : Int) (o : O) (xs : List Int) : R := ⟨(stkStep most o.k o.v xs).1.1, (stkStep most o.k o.v xs).1.2⟩
def stkRun (most : Int) : List O -> List Int -> List R × List Int
  | [], xs => ([], xs)
  | o :: r, xs => (stkR most o xs :: (stkRun most r (stkStep most o.k o.v xs).2).1, (stkRun most r (stkStep most o.k o.v xs).2).2)
theorem stkRun_len (most : Int) : ∀ (l : List O) (xs : List Int), (stkRun most l xs).1.length = l.length
  | [], _ => rfl
  | o :: r, xs => by simp [stkRun, stkRun_len most r]
theorem stkStep_len (most c x : Int) (xs : List Int) : (stkStep most c x xs).2.length <= xs.length + 1 := by
  unfold stkStep
  split
  · split <;> simp
  · split
    · split <;> simp <;> omega
    · simp
end Go.Sk
namespace Go.Proofs.Try
open Go.L Go.Rp Go.Sk
set_option maxRecDepth 100000
theorem one_stk_loop (n s : Nat) (osb : Bool) (most : Int) (os : List O) (hk : ∀ o ∈ os, 0 <= o.k /\ o.k < 256) (hos : os.length < lim) : ∀ (d i N : Nat) (h : Heap) (sb : Option Nat) (xs : List Int) (done : List R), StkAt h s sb most xs -> i + d = os.length -> done.length = i -> d < N -> xs.length + d < lim →
    ∃ h' sb', loopx N (objOneS_l2 (n + 5) s (os.map O.w) osb) [.sl 2 [] false, .sl 2 (done.map R.w ++ List.replicate d [.int .u8 0, .int .i32 0]) false, .bool false, .int .i64 (i : Int)] h = some (.ret [.row h'.length 2 0 os.length], h' ++ [.row 34 2 ((done ++ (stkRun most (os.drop i) xs).1).map R.w) true]) /\ StkAt h' s sb' most (stkRun most (os.drop i) xs).2 /\ Fed h h' s sb sb' := by
  intro d
  induction d with
  | zero =>
    intro i N h sb xs done hb h1 h2 h3 h4
    obtain ⟨N, rfl⟩ : ∃ N', N = N' + 1 := ⟨N - 1, by omega⟩
    rw [loopx_succ]
    unfold objOneS_l2
    simp only [gv, List.getD_cons_zero, List.getD_cons_succ]
    rw [bop_i64_lss, bd_some, bv_bool, if_neg (by simp; omega), List.drop_eq_nil_of_le (by omega)]
    refine ⟨h, sb, ?_, hb, Fed.refl ..⟩
    simp only [lsl, stkRun, List.append_nil, List.replicate_zero, List.length_map]
    rw [show done.length = os.length by omega]
  | succ d ih =>
    intro i N h sb xs done hb h1 h2 h3 h4
    obtain ⟨N, rfl⟩ : ∃ N', N = N' + 1 := ⟨N - 1, by omega⟩
    have hi : i < os.length := by omega
    obtain ⟨h', sb', e, b1, b2⟩ := stk_do_call n hb (by omega) os[i].k os[i].v (hk _ (List.getElem_mem hi)).1 (hk _ (List.getElem_mem hi)).2
    obtain ⟨h'', sb'', e', d1, d2⟩ := ih (i + 1) N h' sb' _ (done ++ [stkR most os[i] xs]) b1 (by omega) (by simp; omega) (by omega) (by have := stkStep_len most os[i].k os[i].v xs; omega)
    have hd : os.drop i = os[i] :: os.drop (i + 1) := List.drop_eq_getElem_cons hi
    refine ⟨h'', sb'', ?_, by rw [hd]; exact d1, b2.trans d2⟩
    rw [hd]
    simp only [stkRun]
    rw [show done ++ (stkR most os[i] xs :: (stkRun most (os.drop (i + 1)) (stkStep most os[i].k os[i].v xs).2).1) = done ++ [stkR most os[i] xs] ++ (stkRun most (os.drop (i + 1)) (stkStep most os[i].k os[i].v xs).2).1 by simp, <- e', loopx_succ]
    have hix : idxP 2 i (.sl 2 (os.map O.w) osb) = some (.iptr 2 (O.w os[i]) 0) := by
      simp [idxP, List.getElem?_eq_getElem hi]
    have key : ∀ next, objOneS_l2 (n + 5) s (os.map O.w) osb [.sl 2 [] false, .sl 2 (done.map R.w ++ List.replicate (d + 1) [.int .u8 0, .int .i32 0]) false, .bool false, .int .i64 (i : Int)] h next = next [.sl 2 [] false, .sl 2 ((done ++ [stkR most os[i] xs]).map R.w ++ List.replicate d [.int .u8 0, .int .i32 0]) false, .bool false, .int .i64 ((i + 1 : Nat) : Int)] h' := by
      intro next
      unfold objOneS_l2
      simp only [gv, List.getD_cons_zero, List.getD_cons_succ]
      rw [bop_i64_lss, bd_some, bv_bool, if_pos (by simp; omega), nv_nat, bdS_some, hix, bd_some]
      simp only [cellsP]
      rw [bd3_some, if_pos (by decide), List.drop_zero, ow_take, if_pos (ow_len _), if_pos (by rw [ow_len]; decide), set_o, List.drop_zero, ow_take]
      show cl (call (n + 5) _ [.ptr s 0, .agg [.int .u8 os[i].k, .int .i32 os[i].v]] h) _ _ = _
      rw [e, cl_ret, one1_one, bdS_some]
      have hlen : i < (done.map R.w ++ List.replicate (d + 1) [V.int .u8 0, V.int .i32 0]).length := by simp; omega
      have hget : (done.map R.w ++ List.replicate (d + 1) [V.int .u8 0, V.int .i32 0])[i]? = some [.int .u8 0, .int .i32 0] := by
        rw [List.getElem?_append_right (by simp; omega)]; simp [h2]
      rw [if_pos (by refine ⟨?_, hlen, by decide⟩; first | trivial | rfl), if_pos (by rfl), if_pos (by refine ⟨?_, by decide, Nat.le_refl 2⟩; first | trivial | rfl)]
      simp only [lsl, resV, V.cells]
      rw [hget, bd_some, bop_i64_add, bd_some, step64 (by omega)]
      have hset : (done.map R.w ++ List.replicate (d + 1) [V.int .u8 0, V.int .i32 0]).set i (setR [V.int .u8 0, V.int .i32 0] 0 [V.int .u8 (stkStep most os[i].k os[i].v xs).1.1, V.int .i32 (stkStep most os[i].k os[i].v xs).1.2]) = (done ++ [stkR most os[i] xs]).map R.w ++ List.replicate d [V.int .u8 0, V.int .i32 0] := by
        rw [List.set_append_right _ _ (by simp; omega)]
        simp [h2, List.replicate_succ, R.w, setR, stkR]
      rw [hset]
    rw [key]
theorem one_stk_call (n s : Nat) {h : Heap} {sb : Option Nat} {most : Int} {xs : List Int} (hb : StkAt h s sb most xs) (os : List O) (osb : Bool) (hk : ∀ o ∈ os, 0 <= o.k /\ o.k < 256) (hos : xs.length + os.length < lim) (hn : os.length < n) :
    ∃ h' sb', call (n + 6) 42 [.bf 43 [.ptr s 0], .sl 2 (os.map O.w) osb] h = some (.ret [.row h'.length 2 0 os.length], h' ++ [.row 34 2 ((stkRun most os xs).1.map R.w) true]) /\ StkAt h' s sb' most (stkRun most os xs).2 /\ Fed h h' s sb sb' := by
  obtain ⟨h', sb', e, b1, b2⟩ := one_stk_loop n s osb most os hk (by omega) os.length 0 (n + 5) h sb xs [] hb (by omega) rfl (by omega) hos
  refine ⟨h', sb', (objOneS_eq (n + 5) s _ osb h).trans ?_, b1, b2⟩
  unfold objOneS
  rw [List.length_map, nv_nat, bdS_some, bdS_some, if_pos ⟨Nat.le_refl _, by omega, rfl⟩]
  exact e
end Go.Proofs.Try
set_option linter.unusedVariables false
namespace Go.Sk
open Go.L Go.Rp
def mStep (most : Int) (vals : Nat -> Int) (i : Nat) (c : Int) (ws : List Nat) (xs : List Int) : (Int × Int) × List Nat × List Int :=
  if c = 1 then (if ((xs.length + ws.length : Nat) : Int) < most then ((1, 0), ws ++ [i], xs) else ((3, 0), ws, xs))
  else if c = 2 then (match ws.getLast? with
    | some w => ((2, vals w), ws.dropLast, xs)
    | none => (match xs.getLast? with | some y => ((2, y), ws, xs.dropLast) | none => ((4, 0), ws, xs)))
  else ((5, 0), ws, xs)
theorem mStep_stk (most : Int) (vals : Nat -> Int) (i : Nat) (c : Int) (ws : List Nat) (xs : List Int) :
    stkStep most c (vals i) (xs ++ ws.map vals) = ((mStep most vals i c ws xs).1, (mStep most vals i c ws xs).2.2 ++ (mStep most vals i c ws xs).2.1.map vals) := by
  unfold stkStep mStep
  by_cases h1 : c = 1
  · rw [if_pos h1, if_pos h1, List.length_append, List.length_map]
    by_cases h : ((xs.length + ws.length : Nat) : Int) < most
    · rw [if_pos h, if_pos h]; simp
    · rw [if_neg h, if_neg h]
  · rw [if_neg h1, if_neg h1]
    by_cases h2 : c = 2
    · rw [if_pos h2, if_pos h2]
      rcases List.eq_nil_or_concat ws with rfl | ⟨w0, w, rfl⟩
      · rcases List.eq_nil_or_concat xs with rfl | ⟨x0, x, rfl⟩
        · simp
        · simp
      · simp [<- List.append_assoc]
    · rw [if_neg h2, if_neg h2]
end Go.Sk
set_option linter.unusedVariables false
set_option linter.unusedSimpArgs false
namespace Go.Sk
open Go.L Go.Rp
def cdC (t : R) : List V := [.int .u8 t.c, .int .i32 0]
def vlC (t : R) : List V := [.int .i32 t.v]
def mRun (most : Int) (vals : Nat -> Int) : List O -> Nat -> List Nat -> List Int -> List R × List Nat × List Int
  | [], i, ws, xs => ([], ws, xs)
  | o :: l, i, ws, xs =>
    let t := mStep most vals i o.k ws xs
    let z := mRun most vals l (i + 1) t.2.1 t.2.2
    (⟨t.1.1, t.1.2⟩ :: z.1, z.2)
theorem mRun_len (most : Int) (vals : Nat -> Int) : ∀ (l : List O) (i : Nat) (ws : List Nat) (xs : List Int), (mRun most vals l i ws xs).1.length = l.length
  | [], _, _, _ => rfl
  | o :: l, i, ws, xs => by simp [mRun, mRun_len most vals l]
theorem mRun_stk (most : Int) (vals : Nat -> Int) : ∀ (l : List O) (i : Nat) (ws : List Nat) (xs : List Int), (∀ j o, l[j]? = some o -> vals (i + j) = o.v) →
    stkRun most l (xs ++ ws.map vals) = ((mRun most vals l i ws xs).1, (mRun most vals l i ws xs).2.2 ++ (mRun most vals l i ws xs).2.1.map vals)
  | [], i, ws, xs, hv => rfl
  | o :: l, i, ws, xs, hv => by
    have h0 : vals i = o.v := hv 0 o rfl
    have hs := mStep_stk most vals i o.k ws xs
    rw [h0] at hs
    have ih := mRun_stk most vals l (i + 1) (mStep most vals i o.k ws xs).2.1 (mStep most vals i o.k ws xs).2.2 (fun j p hj => by rw [show i + 1 + j = i + (j + 1) by omega]; exact hv (j + 1) p hj)
    simp only [stkRun, mRun, stkR, hs, ih]
theorem mStep_ws (most : Int) (vals : Nat -> Int) (i : Nat) (c : Int) (ws : List Nat) (xs : List Int) (h : ∀ w ∈ ws, w < i) : ∀ w ∈ (mStep most vals i c ws xs).2.1, w < i + 1 := by
  have h' : ∀ w ∈ ws, w < i + 1 := fun w hw => Nat.lt_succ_of_lt (h w hw)
  unfold mStep
  split
  · split
    · intro w hw
      rcases List.mem_append.1 hw with hw | hw
      · exact h' w hw
      · rw [List.mem_singleton.1 hw]; exact Nat.lt_succ_self i
    · exact h'
  · split
    · split
      · exact fun w hw => h' w (List.dropLast_subset _ hw)
      · split <;> exact h'
    · exact h'
theorem mStep_len (most : Int) (vals : Nat -> Int) (i : Nat) (c : Int) (ws : List Nat) (xs : List Int) : (mStep most vals i c ws xs).2.1.length + (mStep most vals i c ws xs).2.2.length <= ws.length + xs.length + 1 := by
  unfold mStep
  split
  · split <;> simp <;> omega
  · split
    · split
      · simp; omega
      · split <;> simp; omega
    · simp
structure Lay (B s q bo bs r : Nat) (qb : Option Nat) : Prop where
  s1 : s < B
  q1 : q < B
  o1 : bo < B
  b1 : bs < B
  r1 : r < B
  sq : s ≠ q
  so : s ≠ bo
  sb : s ≠ bs
  sr : s ≠ r
  qo : q ≠ bo
  qb' : q ≠ bs
  qr : q ≠ r
  ro : r ≠ bo
  rb : r ≠ bs
  own : ∀ b, qb = some b -> b < B /\ b ≠ s /\ b ≠ q /\ b ≠ r
end Go.Sk
namespace Go.Proofs.Try
open Go.L Go.Rp Go.Sk
set_option maxRecDepth 100000
structure MInv (B s q r : Nat) (qb : Option Nat) (m : Nat) (h0 h : Heap) (sb : Option Nat) (ws : List Nat) (xs : List Int) (done : List R) (d : Nat) : Prop where
  mt : MatAt h s sb xs.length m ws
  fr : ∀ b, sb = some b -> B <= b
  le : B <= h.length
  st : StkAt h q qb (m : Int) xs
  row : h[r]? = some (.row 21 1 (done.map vlC ++ List.replicate d [.int .i32 0]) true)
  rest : ∀ j, j < B -> j ≠ s -> j ≠ q -> j ≠ r -> h[j]? = h0[j]?
theorem MInv.meet {B s q bo bs r : Nat} {qb : Option Nat} {m : Nat} {h0 h h' : Heap} {sb sb' : Option Nat} {ws ws' : List Nat} {xs : List Int} {done : List R} {d : Nat} (L : Lay B s q bo bs r qb) (I : MInv B s q r qb m h0 h sb ws xs done d)
    (b1 : MatAt h' s sb' xs.length m ws') (b2 : Fed h h' s sb sb') : MInv B s q r qb m h0 h' sb' ws' xs done d := by
  have hk : ∀ j, j < B -> j ≠ s -> h'[j]? = h[j]? := fun j h1 h2 => b2.old j (Nat.lt_of_lt_of_le h1 I.le) h2 (fun e => by have := I.fr j e; omega)
  exact ⟨b1, fun b hb => by rcases b2.own b hb with e | e; exact I.fr b e; exact Nat.le_trans I.le e, Nat.le_trans I.le b2.len, I.st.keep (hk q L.q1 L.sq.symm) (fun b hb => hk b (L.own b hb).1 (L.own b hb).2.1), (hk r L.r1 L.sr.symm).trans I.row, fun j h1 h2 h3 h4 => (hk j h1 h2).trans (I.rest j h1 h2 h3 h4)⟩
theorem MInv.told {B s q r : Nat} {qb : Option Nat} {m : Nat} {h0 h : Heap} {sb : Option Nat} {ws : List Nat} {xs : List Int} {done : List R} {d : Nat} (I : MInv B s q r qb m h0 h sb ws xs done (d + 1)) (c : Int) : MInv B s q r qb m h0 h sb ws xs (done ++ [⟨c, 0⟩]) d :=
  ⟨I.mt, I.fr, I.le, I.st, by rw [I.row]; simp [List.replicate_succ, vlC], I.rest⟩
theorem row_len {done : List R} {d : Nat} : ∀ es ∈ done.map vlC ++ List.replicate d [V.int .i32 0], es.length = 1 := by
  intro es hes
  rcases List.mem_append.1 hes with h | h
  · obtain ⟨t, _, rfl⟩ := List.mem_map.1 h; rfl
  · rw [(List.mem_replicate.1 h).2]; rfl
theorem row_set (done : List R) (d : Nat) (c v : Int) : (done.map vlC ++ List.replicate (d + 1) [V.int .i32 0]).set done.length [.int .i32 v] = (done ++ [(⟨c, v⟩ : R)]).map vlC ++ List.replicate d [.int .i32 0] := by
  rw [List.set_append_right _ _ (by simp)]
  simp [List.replicate_succ, vlC]
theorem told_get (done : List R) (d : Nat) (a : Int) : (done.map cdC ++ ([V.int .u8 a, V.int .i32 0] :: List.replicate d [V.int .u8 0, V.int .i32 0]))[done.length]? = some [.int .u8 a, .int .i32 0] := by
  rw [List.getElem?_append_right (by simp)]; simp
theorem told_set1 (done : List R) (d : Nat) (c a : Int) : (done.map cdC ++ ([V.int .u8 a, V.int .i32 0] :: List.replicate d [V.int .u8 0, V.int .i32 0])).set done.length (setR [V.int .u8 a, .int .i32 0] 0 [V.int .u8 c]) = done.map cdC ++ ([V.int .u8 c, V.int .i32 0] :: List.replicate d [V.int .u8 0, V.int .i32 0]) := by
  rw [List.set_append_right _ _ (by simp)]
  simp [setR]
theorem told_end (done : List R) (d : Nat) (c v : Int) : done.map cdC ++ ([V.int .u8 c, V.int .i32 0] :: List.replicate d [V.int .u8 0, V.int .i32 0]) = (done ++ [(⟨c, v⟩ : R)]).map cdC ++ List.replicate d [.int .u8 0, .int .i32 0] := by simp [cdC]
def valsOf (os : List O) (j : Nat) : Int := (os[j]?.map O.v).getD 0
theorem mat_all_step (n s q bo bs r B : Nat) (osb : Bool) (m : Nat) (os : List O) {qb sb : Option Nat} {h0 h : Heap} {ws : List Nat} {xs : List Int} {done : List R} {d : Nat} (L : Lay B s q bo bs r qb) (I : MInv B s q r qb m h0 h sb ws xs done (d + 1))
    (hbo : h0[bo]? = some (.box 1 [.sl 2 (os.map O.w) osb])) (hbs : h0[bs]? = some (.box 1 [.ptr q 0])) (hd : done.length + (d + 1) = os.length) (hw : ∀ w ∈ ws, w < done.length) (hl : ws.length + xs.length + 1 < lim) (hos : os.length < lim) (o : O) (ho : os[done.length]? = some o) :
    ∃ h' sb' t, t = mStep (m : Int) (valsOf os) done.length o.k ws xs /\ (∀ next, matAll_l2 (n + 3) s (os.map O.w) osb bo bs r os.length [.sl 2 [] false, .sl 2 (done.map cdC ++ List.replicate (d + 1) [.int .u8 0, .int .i32 0]) false, .bool false, .int .i64 (done.length : Int)] h next = next [.sl 2 [] false, .sl 2 ((done ++ [(⟨t.1.1, t.1.2⟩ : R)]).map cdC ++ List.replicate d [.int .u8 0, .int .i32 0]) false, .bool false, .int .i64 ((done.length + 1 : Nat) : Int)] h') /\ MInv B s q r qb m h0 h' sb' t.2.1 t.2.2 (done ++ [⟨t.1.1, t.1.2⟩]) d := by
  have hlt : done.length < os.length := by omega
  have hix : idxP 2 done.length (.sl 2 (os.map O.w) osb) = some (.iptr 2 (O.w o) 0) := by simp [idxP, ho]
  have hbo' := (I.rest bo L.o1 L.so.symm L.qo.symm L.ro.symm).trans hbo
  have hbs' := (I.rest bs L.b1 L.sb.symm L.qb'.symm L.rb.symm).trans hbs
  have hwrap : IntKind.i64.wrap ((done.length : Int) + 1) = ((done.length + 1 : Nat) : Int) := step64 (by omega)
  have front : ∀ next, matAll_l2 (n + 3) s (os.map O.w) osb bo bs r os.length [.sl 2 [] false, .sl 2 (done.map cdC ++ List.replicate (d + 1) [.int .u8 0, .int .i32 0]) false, .bool false, .int .i64 (done.length : Int)] h next = matAll_l2 (n + 3) s (os.map O.w) osb bo bs r os.length [.sl 2 [] false, .sl 2 (done.map cdC ++ ([.int .u8 0, .int .i32 0] :: List.replicate d [.int .u8 0, .int .i32 0])) false, .bool false, .int .i64 (done.length : Int)] h next := fun next => by rw [List.replicate_succ]
  have hlen : done.length < (done.map cdC ++ ([V.int .u8 0, V.int .i32 0] :: List.replicate d [V.int .u8 0, V.int .i32 0])).length := by simp
  have hput : ∀ k : Int, setR [V.int .u8 0, V.int .i32 0] 0 (O.w o) = O.w o := fun _ => rfl
  have hll : (done.map vlC ++ List.replicate (d + 1) [V.int .i32 0]).length = os.length := by simp; omega
  by_cases k1 : o.k = 1
  · by_cases hm : xs.length + ws.length < m
    · obtain ⟨h', sb', e, c1, c2⟩ := mat_push_call (n + 2) I.mt done.length hm (by omega)
      have ht : mStep (m : Int) (valsOf os) done.length o.k ws xs = ((1, 0), ws ++ [done.length], xs) := by unfold mStep; rw [if_pos k1, if_pos (by omega)]
      refine ⟨h', sb', _, rfl, ?_, ?_⟩
      · intro next
        rw [ht]
        rw [front]
        unfold matAll_l2
        simp only [gv, List.getD_cons_zero, List.getD_cons_succ, lsl]
        rw [bop_i64_lss, bd_some, bv_bool, if_pos (by simp; omega), nv_nat, bdS_some, hix, bd_some]
        simp only [cellsP]
        rw [bd3_some, if_pos (by decide), List.drop_zero, ow_take, if_pos (ow_len _), if_pos (by rw [ow_len]; decide), bdS_some, if_pos ⟨trivial, hlen, by decide⟩, set_o]
        simp only [O.w, List.getElem?_cons_zero, bd_some]
        rw [bop_u8_eql, bd_some, bv_bool, if_pos (by simp [k1]), told_get, bd_some, e, cl_ret, one1_one, bv_bool, if_pos rfl, told_set1, told_get, bd_some, bop_i64_add, bd_some, hwrap, told_set1, told_end (v := 0)]
      · rw [ht]
        exact (I.meet L c1 c2).told 1
    · have e := mat_push_full (n + 2) I.mt (done.length : Int) (by omega) (by omega)
      have ht : mStep (m : Int) (valsOf os) done.length o.k ws xs = ((3, 0), ws, xs) := by unfold mStep; rw [if_pos k1, if_neg (by omega)]
      refine ⟨h, sb, _, rfl, ?_, ?_⟩
      · intro next
        rw [ht]
        rw [front]
        unfold matAll_l2
        simp only [gv, List.getD_cons_zero, List.getD_cons_succ, lsl]
        rw [bop_i64_lss, bd_some, bv_bool, if_pos (by simp; omega), nv_nat, bdS_some, hix, bd_some]
        simp only [cellsP]
        rw [bd3_some, if_pos (by decide), List.drop_zero, ow_take, if_pos (ow_len _), if_pos (by rw [ow_len]; decide), bdS_some, if_pos ⟨trivial, hlen, by decide⟩, set_o]
        simp only [O.w, List.getElem?_cons_zero, bd_some]
        rw [bop_u8_eql, bd_some, bv_bool, if_pos (by simp [k1]), told_get, bd_some, e, cl_ret, one1_one, bv_bool, if_neg (by decide), bop_i64_add, bd_some, hwrap, told_set1, told_end (v := 0)]
      · rw [ht]
        exact I.told 3
  by_cases k2 : o.k = 2
  · rcases List.eq_nil_or_concat ws with rfl | ⟨w0, w, rfl⟩
    · have e := mat_pop_none (n + 2) I.mt
      rcases List.eq_nil_or_concat xs with rfl | ⟨x0, x, rfl⟩
      · have e2 := mat_under_none (n + 2) I.mt
        have ht : mStep (m : Int) (valsOf os) done.length o.k [] [] = ((4, 0), [], []) := by unfold mStep; rw [if_neg k1, if_pos k2]; rfl
        refine ⟨h, sb, _, rfl, ?_, ?_⟩
        · intro next
          rw [ht]
          rw [front]
          unfold matAll_l2
          simp only [gv, List.getD_cons_zero, List.getD_cons_succ, lsl]
          rw [bop_i64_lss, bd_some, bv_bool, if_pos (by simp; omega), nv_nat, bdS_some, hix, bd_some]
          simp only [cellsP]
          rw [bd3_some, if_pos (by decide), List.drop_zero, ow_take, if_pos (ow_len _), if_pos (by rw [ow_len]; decide), bdS_some, if_pos ⟨trivial, hlen, by decide⟩, set_o]
          simp only [O.w, List.getElem?_cons_zero, bd_some]
          rw [bop_u8_eql, bd_some, bv_bool, if_neg (by simp [k1]), bop_u8_eql, bd_some, bv_bool, if_pos (by simp [k2]), told_get, bd_some, e, cl_ret]
          simp only [List.getElem?_cons_zero, List.getElem?_cons_succ, bd_some]
          rw [bv_bool, if_neg (by decide), e2, cl_ret, one1_one, bv_bool, if_neg (by decide), told_set1, told_get, bd_some, bop_i64_add, bd_some, hwrap, told_set1, told_end (v := 0)]
        · rw [ht]
          exact I.told 4
      · rw [List.concat_eq_append] at I hl ⊢
        have hmt := I.mt
        rw [List.length_append, List.length_singleton] at hmt
        obtain ⟨h1, e2, c1, c2, c3⟩ := mat_under_call (n + 2) hmt (by simp at hl; omega)
        have hq1 : StkAt h1 q qb (m : Int) (x0 ++ [x]) := I.st.keep (c3 q L.sq.symm) (fun b hb => c3 b (L.own b hb).2.1)
        have hr1 := (c3 r L.sr.symm).trans I.row
        obtain ⟨h2, e3, d1, d2, d3, d4⟩ := mat_a3_call n (i := done.length) ((c3 bs L.sb.symm).trans hbs') hq1 (by simp at hl; omega) hr1 L.qr.symm (fun e => (L.own r e).2.2.2 rfl) row_len (by rw [hll]; exact hlt)
        rw [hll] at e3
        have ht : mStep (m : Int) (valsOf os) done.length o.k [] (x0 ++ [x]) = ((2, x), [], x0) := by unfold mStep; rw [if_neg k1, if_pos k2]; simp
        refine ⟨h2, sb, _, rfl, ?_, ?_⟩
        · intro next
          rw [ht]
          rw [front]
          unfold matAll_l2
          simp only [gv, List.getD_cons_zero, List.getD_cons_succ, lsl]
          rw [bop_i64_lss, bd_some, bv_bool, if_pos (by simp; omega), nv_nat, bdS_some, hix, bd_some]
          simp only [cellsP]
          rw [bd3_some, if_pos (by decide), List.drop_zero, ow_take, if_pos (ow_len _), if_pos (by rw [ow_len]; decide), bdS_some, if_pos ⟨trivial, hlen, by decide⟩, set_o]
          simp only [O.w, List.getElem?_cons_zero, bd_some]
          rw [bop_u8_eql, bd_some, bv_bool, if_neg (by simp [k1]), bop_u8_eql, bd_some, bv_bool, if_pos (by simp [k2]), told_get, bd_some, e, cl_ret]
          simp only [List.getElem?_cons_zero, List.getElem?_cons_succ, bd_some]
          rw [bv_bool, if_neg (by decide), e2, cl_ret, one1_one, bv_bool, if_pos rfl, e3, cl_ret, bop_i64_add, bd_some, hwrap, told_set1, told_end (v := x)]
        · rw [ht]
          refine ⟨c1.keep (d4 s L.sq L.sr) (fun b hb => d4 b (fun e => by have := I.fr b hb; have := L.q1; omega) (fun e => by have := I.fr b hb; have := L.r1; omega)), I.fr, by rw [d3, c2]; exact I.le, d1, by rw [d2, row_set done d 2 x], fun j j1 j2 j3 j4 => (d4 j j3 j4).trans ((c3 j j2).trans (I.rest j j1 j2 j3 j4))⟩
    · rw [List.concat_eq_append] at I hl hw ⊢
      obtain ⟨h1, e, c1, c2, c3⟩ := mat_pop_call (n + 2) I.mt (by simp at hl; omega)
      have hwl : w < os.length := by have := hw w (by simp); omega
      have I1 := I.meet L c1 ⟨by omega, fun j _ j2 _ => c3 j j2, fun b hb => .inl hb⟩
      have e2 := mat_a2_call (n + 2) (j := w) (i := done.length) ((c3 bo L.so.symm).trans hbo') I1.row row_len (by rw [hll]; exact hlt) hwl
      rw [hll] at e2
      have hv : valsOf os w = os[w].v := by simp [valsOf, List.getElem?_eq_getElem hwl]
      have ht : mStep (m : Int) (valsOf os) done.length o.k (w0 ++ [w]) xs = ((2, os[w].v), w0, xs) := by unfold mStep; rw [if_neg k1, if_pos k2, <- hv]; simp
      refine ⟨h1.set r (.row 21 1 ((done.map vlC ++ List.replicate (d + 1) [V.int .i32 0]).set done.length [.int .i32 os[w].v]) true), sb, _, rfl, ?_, ?_⟩
      · intro next
        rw [ht]
        rw [front]
        unfold matAll_l2
        simp only [gv, List.getD_cons_zero, List.getD_cons_succ, lsl]
        rw [bop_i64_lss, bd_some, bv_bool, if_pos (by simp; omega), nv_nat, bdS_some, hix, bd_some]
        simp only [cellsP]
        rw [bd3_some, if_pos (by decide), List.drop_zero, ow_take, if_pos (ow_len _), if_pos (by rw [ow_len]; decide), bdS_some, if_pos ⟨trivial, hlen, by decide⟩, set_o]
        simp only [O.w, List.getElem?_cons_zero, bd_some]
        rw [bop_u8_eql, bd_some, bv_bool, if_neg (by simp [k1]), bop_u8_eql, bd_some, bv_bool, if_pos (by simp [k2]), told_get, bd_some, e, cl_ret]
        simp only [List.getElem?_cons_zero, List.getElem?_cons_succ, bd_some]
        rw [bv_bool, if_pos rfl, e2, cl_ret, bop_i64_add, bd_some, hwrap, told_set1, told_end (v := os[w].v)]
      · rw [ht]
        refine ⟨I1.mt.keep (List.getElem?_set_ne L.sr.symm) (fun b hb => List.getElem?_set_ne (fun e => by have := I1.fr b hb; have := L.r1; omega)), I1.fr, by rw [List.length_set]; exact I1.le, I1.st.keep (List.getElem?_set_ne L.qr.symm) (fun b hb => List.getElem?_set_ne (L.own b hb).2.2.2.symm), ?_, fun j j1 j2 j3 j4 => (List.getElem?_set_ne j4.symm).trans (I1.rest j j1 j2 j3 j4)⟩
        rw [set_at (lt_of_at I1.row), row_set done d 2]
  · have ht : mStep (m : Int) (valsOf os) done.length o.k ws xs = ((5, 0), ws, xs) := by unfold mStep; rw [if_neg k1, if_neg k2]
    refine ⟨h, sb, _, rfl, ?_, ?_⟩
    · intro next
      rw [ht]
      rw [front]
      unfold matAll_l2
      simp only [gv, List.getD_cons_zero, List.getD_cons_succ, lsl]
      rw [bop_i64_lss, bd_some, bv_bool, if_pos (by simp; omega), nv_nat, bdS_some, hix, bd_some]
      simp only [cellsP]
      rw [bd3_some, if_pos (by decide), List.drop_zero, ow_take, if_pos (ow_len _), if_pos (by rw [ow_len]; decide), bdS_some, if_pos ⟨trivial, hlen, by decide⟩, set_o]
      simp only [O.w, List.getElem?_cons_zero, bd_some]
      rw [bop_u8_eql, bd_some, bv_bool, if_neg (by simp [k1]), bop_u8_eql, bd_some, bv_bool, if_neg (by simp [k2]), told_get, bd_some, bop_i64_add, bd_some, hwrap, told_set1, told_end (v := 0)]
    · rw [ht]
      exact I.told 5
theorem mat_all_loop (n s q bo bs r B : Nat) (osb : Bool) (m : Nat) (os : List O) {qb : Option Nat} {h0 : Heap} (L : Lay B s q bo bs r qb)
    (hbo : h0[bo]? = some (.box 1 [.sl 2 (os.map O.w) osb])) (hbs : h0[bs]? = some (.box 1 [.ptr q 0])) (hos : os.length < lim) : ∀ (d N : Nat) (h : Heap) (sb : Option Nat) (ws : List Nat) (xs : List Int) (done : List R), MInv B s q r qb m h0 h sb ws xs done d -> done.length + d = os.length -> d < N -> (∀ w ∈ ws, w < done.length) -> ws.length + xs.length + d < lim →
    ∃ h' sb' z, z = mRun (m : Int) (valsOf os) (os.drop done.length) done.length ws xs /\ loopx N (matAll_l2 (n + 3) s (os.map O.w) osb bo bs r os.length) [.sl 2 [] false, .sl 2 (done.map cdC ++ List.replicate d [.int .u8 0, .int .i32 0]) false, .bool false, .int .i64 (done.length : Int)] h = some (.ret [.row h'.length 2 0 os.length], h' ++ [.row 34 2 ((done ++ z.1).map cdC) true]) /\ MInv B s q r qb m h0 h' sb' z.2.1 z.2.2 (done ++ z.1) 0 := by
  intro d
  induction d with
  | zero =>
    intro N h sb ws xs done I h1 h2 hw hl
    obtain ⟨N, rfl⟩ : ∃ N', N = N' + 1 := ⟨N - 1, by omega⟩
    refine ⟨h, sb, _, rfl, ?_, ?_⟩
    · rw [loopx_succ]
      unfold matAll_l2
      simp only [gv, List.getD_cons_zero, List.getD_cons_succ]
      rw [bop_i64_lss, bd_some, bv_bool, if_neg (by simp; omega), List.drop_eq_nil_of_le (by omega)]
      simp only [lsl, mRun, List.append_nil, List.replicate_zero, List.length_map]
      rw [show done.length = os.length by omega]
    · rw [List.drop_eq_nil_of_le (by omega)]
      simp only [mRun, List.append_nil]
      exact I
  | succ d ih =>
    intro N h sb ws xs done I h1 h2 hw hl
    obtain ⟨N, rfl⟩ : ∃ N', N = N' + 1 := ⟨N - 1, by omega⟩
    have hi : done.length < os.length := by omega
    obtain ⟨h', sb', t, rfl, key, I'⟩ := mat_all_step n s q bo bs r B osb m os L I hbo hbs h1 hw (by omega) hos os[done.length] (List.getElem?_eq_getElem hi)
    have hlen := mStep_len (m : Int) (valsOf os) done.length os[done.length].k ws xs
    have hws := mStep_ws (m : Int) (valsOf os) done.length os[done.length].k ws xs hw
    obtain ⟨h'', sb'', z, hz, e', I''⟩ := ih N h' sb' _ _ _ I' (by simp; omega) (by omega) (by simpa using hws) (by omega)
    have hd : os.drop done.length = os[done.length] :: os.drop (done.length + 1) := List.drop_eq_getElem_cons hi
    rw [List.length_append, List.length_singleton] at hz e'
    refine ⟨h'', sb'', _, rfl, ?_, ?_⟩
    · rw [hd, loopx_succ, key, e', hz]
      simp [mRun]
    · rw [hd]
      rw [hz] at I''
      simpa [mRun] using I''
theorem mat_all_call (n s q bo bs r B : Nat) (osb : Bool) (m : Nat) (os : List O) {qb : Option Nat} {h : Heap} (L : Lay B s q bo bs r qb)
    (hbo : h[bo]? = some (.box 1 [.sl 2 (os.map O.w) osb])) (hbs : h[bs]? = some (.box 1 [.ptr q 0])) {xs : List Int} (hos : os.length + xs.length < lim) (hn : os.length < n) (I : MInv B s q r qb m h h none [] xs [] os.length) :
    ∃ h' sb' z, z = mRun (m : Int) (valsOf os) os 0 [] xs /\ call (n + 4) 47 [.ptr s 0, .sl 2 (os.map O.w) osb, .fn 48 [.ptr bo 0, .iptr 1 [.row r 1 0 os.length] 0], .fn 49 [.ptr bs 0, .iptr 1 [.row r 1 0 os.length] 0]] h = some (.ret [.row h'.length 2 0 os.length], h' ++ [.row 34 2 (z.1.map cdC) true]) /\ MInv B s q r qb m h h' sb' z.2.1 z.2.2 z.1 0 := by
  obtain ⟨h', sb', z, hz, e, I'⟩ := mat_all_loop n s q bo bs r B osb m os L hbo hbs (by omega) os.length (n + 3) h none [] xs [] I (by simp) (by omega) (by simp) (by simp; omega)
  refine ⟨h', sb', z, by simpa using hz, (matAll_eq (n + 3) s _ osb bo bs r _ h).trans ?_, by simpa using I'⟩
  unfold matAll
  rw [List.length_map, nv_nat, bdS_some, bdS_some, if_pos ⟨Nat.le_refl _, by omega, rfl⟩]
  simpa using e
end Go.Proofs.Try
set_option linter.unusedVariables false
set_option linter.unusedSimpArgs false
namespace Go.Sk
open Go.L Go.Rp
def eTake (d : Nat) (xs : List Int) : Option (Int × List Int) :=
  if d = 0 then (match xs with | y :: r => some (y, r) | [] => none) else (match xs.getLast? with | some y => some (y, xs.dropLast) | none => none)
def ePush (most : Int) (i d : Nat) (ws : Nat -> List Nat) (xs : List Int) : (Int × Int) × (Nat -> List Nat) × List Int :=
  if ((xs.length + (ws 0).length + (ws 1).length : Nat) : Int) < most then ((1, 0), put2 d (ws d ++ [i]) ws, xs) else ((3, 0), ws, xs)
def ePop (vals : Nat -> Int) (d : Nat) (ws : Nat -> List Nat) (xs : List Int) : (Int × Int) × (Nat -> List Nat) × List Int :=
  match (ws d).getLast? with
  | some w => ((2, vals w), put2 d (ws d).dropLast ws, xs)
  | none => (match eTake d xs with
    | some p => ((2, p.1), ws, p.2)
    | none => (match ws (1 - d) with | w :: r => ((2, vals w), put2 (1 - d) r ws, xs) | [] => ((4, 0), ws, xs)))
def eStep (most : Int) (vals : Nat -> Int) (i : Nat) (c : Int) (ws : Nat -> List Nat) (xs : List Int) : (Int × Int) × (Nat -> List Nat) × List Int :=
  if c = 1 then ePush most i 0 ws xs else if c = 2 then ePush most i 1 ws xs else if c = 3 then ePop vals 0 ws xs else if c = 4 then ePop vals 1 ws xs else ((5, 0), ws, xs)
def eVal (vals : Nat -> Int) (ws : Nat -> List Nat) (xs : List Int) : List Int := (ws 0).reverse.map vals ++ xs ++ (ws 1).map vals
theorem eStep_rng (most : Int) (vals : Nat -> Int) (i : Nat) (c : Int) (ws : Nat -> List Nat) (xs : List Int) :
    rngStep most c (vals i) (eVal vals ws xs) = ((eStep most vals i c ws xs).1, eVal vals (eStep most vals i c ws xs).2.1 (eStep most vals i c ws xs).2.2) := by
  have hl : (eVal vals ws xs).length = xs.length + (ws 0).length + (ws 1).length := by simp [eVal]; omega
  unfold rngStep eStep
  by_cases h1 : c = 1
  · rw [if_pos h1, if_pos h1, hl]
    unfold ePush
    by_cases h : ((xs.length + (ws 0).length + (ws 1).length : Nat) : Int) < most
    · rw [if_pos h, if_pos h]; simp [eVal, put2]
    · rw [if_neg h, if_neg h]
  rw [if_neg h1, if_neg h1]
  by_cases h2 : c = 2
  · rw [if_pos h2, if_pos h2, hl]
    unfold ePush
    by_cases h : ((xs.length + (ws 0).length + (ws 1).length : Nat) : Int) < most
    · rw [if_pos h, if_pos h]; simp [eVal, put2]
    · rw [if_neg h, if_neg h]
  rw [if_neg h2, if_neg h2]
  by_cases h3 : c = 3
  · rw [if_pos h3, if_pos h3]
    unfold ePop
    rcases List.eq_nil_or_concat (ws 0) with e0 | ⟨w0, w, e0⟩
    · cases xs with
      | nil =>
        cases e1 : ws 1 with
        | nil => simp [eVal, e0, e1, eTake]
        | cons w r => simp [eVal, e0, e1, eTake, put2]
      | cons y r => simp [eVal, e0, eTake]
    · simp [eVal, e0, put2]
  rw [if_neg h3, if_neg h3]
  by_cases h4 : c = 4
  · rw [if_pos h4, if_pos h4]
    unfold ePop
    rcases List.eq_nil_or_concat (ws 1) with e0 | ⟨w0, w, e0⟩
    · rcases List.eq_nil_or_concat xs with rfl | ⟨x0, x, rfl⟩
      · cases e1 : ws 0 with
        | nil => simp [eVal, e0, e1, eTake]
        | cons w r => simp [eVal, e0, e1, eTake, put2]
      · simp [eVal, e0, eTake, <- List.append_assoc]
    · simp [eVal, e0, put2, <- List.append_assoc]
  rw [if_neg h4, if_neg h4]
def eRun (most : Int) (vals : Nat -> Int) : List O -> Nat -> (Nat -> List Nat) -> List Int -> List R × (Nat -> List Nat) × List Int
  | [], i, ws, xs => ([], ws, xs)
  | o :: l, i, ws, xs =>
    let t := eStep most vals i o.k ws xs
    let z := eRun most vals l (i + 1) t.2.1 t.2.2
    (⟨t.1.1, t.1.2⟩ :: z.1, z.2)
theorem eRun_len (most : Int) (vals : Nat -> Int) : ∀ (l : List O) (i : Nat) (ws : Nat -> List Nat) (xs : List Int), (eRun most vals l i ws xs).1.length = l.length
  | [], _, _, _ => rfl
  | o :: l, i, ws, xs => by simp [eRun, eRun_len most vals l]
def rngR (most : Int) (o : O) (xs : List Int) : R := ⟨(rngStep most o.k o.v xs).1.1, (rngStep most o.k o.v xs).1.2⟩
def rngRun (most : Int) : List O -> List Int -> List R × List Int
  | [], xs => ([], xs)
  | o :: r, xs => (rngR most o xs :: (rngRun most r (rngStep most o.k o.v xs).2).1, (rngRun most r (rngStep most o.k o.v xs).2).2)
theorem rngRun_len (most : Int) : ∀ (l : List O) (xs : List Int), (rngRun most l xs).1.length = l.length
  | [], _ => rfl
  | o :: r, xs => by simp [rngRun, rngRun_len most r]
theorem eRun_rng (most : Int) (vals : Nat -> Int) : ∀ (l : List O) (i : Nat) (ws : Nat -> List Nat) (xs : List Int), (∀ j o, l[j]? = some o -> vals (i + j) = o.v) →
    rngRun most l (eVal vals ws xs) = ((eRun most vals l i ws xs).1, eVal vals (eRun most vals l i ws xs).2.1 (eRun most vals l i ws xs).2.2)
  | [], i, ws, xs, hv => rfl
  | o :: l, i, ws, xs, hv => by
    have h0 : vals i = o.v := hv 0 o rfl
    have hs := eStep_rng most vals i o.k ws xs
    rw [h0] at hs
    have ih := eRun_rng most vals l (i + 1) (eStep most vals i o.k ws xs).2.1 (eStep most vals i o.k ws xs).2.2 (fun j p hj => by rw [show i + 1 + j = i + (j + 1) by omega]; exact hv (j + 1) p hj)
    simp only [rngRun, eRun, rngR, hs, ih]
def Below2 (i : Nat) (ws : Nat -> List Nat) : Prop := ∀ d, d < 2 -> ∀ w ∈ ws d, w < i
def tot (ws : Nat -> List Nat) (xs : List Int) : Nat := xs.length + (ws 0).length + (ws 1).length
theorem Below2.mono {i j : Nat} {ws : Nat -> List Nat} (h : Below2 i ws) (hij : i <= j) : Below2 j ws := fun d hd w hw => Nat.lt_of_lt_of_le (h d hd w hw) hij
theorem Below2.put {i : Nat} {ws : Nat -> List Nat} (h : Below2 i ws) (d : Nat) {l : List Nat} (hl : ∀ w ∈ l, w < i) : Below2 i (put2 d l ws) := fun e he w hw => by
  unfold put2 at hw
  split at hw
  · exact hl w hw
  · exact h e he w hw
theorem tot_put {d : Nat} (hd : d < 2) (l : List Nat) (ws : Nat -> List Nat) (xs : List Int) : tot (put2 d l ws) xs + (ws d).length = tot ws xs + l.length := by
  obtain rfl | rfl : d = 0 \/ d = 1 := by omega
  · simp only [tot, put2_self, put2_ne l ws (show (1 : Nat) ≠ 0 by decide)]; omega
  · simp only [tot, put2_self, put2_ne l ws (show (0 : Nat) ≠ 1 by decide)]; omega
theorem eTake_len {d : Nat} {xs : List Int} {p : Int × List Int} (h : eTake d xs = some p) : p.2.length + 1 = xs.length := by
  unfold eTake at h
  split at h
  · cases xs with
    | nil => cases h
    | cons y r => cases h; rfl
  · rcases List.eq_nil_or_concat xs with rfl | ⟨x0, x, rfl⟩
    · cases h
    · simp at h; subst h; simp
theorem ePop_ok (vals : Nat -> Int) {d : Nat} (hd : d < 2) {i : Nat} {ws : Nat -> List Nat} {xs : List Int} (h : Below2 i ws) : Below2 i (ePop vals d ws xs).2.1 /\ tot (ePop vals d ws xs).2.1 (ePop vals d ws xs).2.2 <= tot ws xs := by
  unfold ePop
  split
  · rename_i w e
    refine ⟨h.put d (fun w hw => h d hd w (List.dropLast_subset _ hw)), ?_⟩
    have := tot_put hd (ws d).dropLast ws xs
    simp at this ⊢; omega
  · split
    · rename_i p e
      have := eTake_len e
      exact ⟨h, by simp only [tot]; omega⟩
    · split
      · rename_i w r e
        refine ⟨h.put (1 - d) (fun x hx => h (1 - d) (by omega) x (by rw [e]; exact List.mem_cons_of_mem _ hx)), ?_⟩
        have := tot_put (d := 1 - d) (by omega) r ws xs
        rw [e] at this
        simp at this ⊢; omega
      · exact ⟨h, Nat.le_refl _⟩
theorem ePush_ok (most : Nat) {d : Nat} (hd : d < 2) {i : Nat} {ws : Nat -> List Nat} {xs : List Int} (h : Below2 i ws) (hm : tot ws xs <= most) : Below2 (i + 1) (ePush (most : Int) i d ws xs).2.1 /\ tot (ePush (most : Int) i d ws xs).2.1 (ePush (most : Int) i d ws xs).2.2 <= most /\ tot (ePush (most : Int) i d ws xs).2.1 (ePush (most : Int) i d ws xs).2.2 <= tot ws xs + 1 := by
  unfold ePush
  split
  · rename_i e
    refine ⟨(h.mono (Nat.le_succ i)).put d (fun w hw => ?_), ?_⟩
    · rcases List.mem_append.1 hw with hw | hw
      · exact Nat.lt_succ_of_lt (h d hd w hw)
      · rw [List.mem_singleton.1 hw]; exact Nat.lt_succ_self i
    · have := tot_put hd (ws d ++ [i]) ws xs
      simp only [List.length_append, List.length_singleton] at this
      unfold tot at this hm ⊢
      simp only
      omega
  · exact ⟨h.mono (Nat.le_succ i), hm, Nat.le_succ _⟩
theorem eStep_ok (most : Nat) (vals : Nat -> Int) (i : Nat) (c : Int) {ws : Nat -> List Nat} {xs : List Int} (h : Below2 i ws) (hm : tot ws xs <= most) : Below2 (i + 1) (eStep (most : Int) vals i c ws xs).2.1 /\ tot (eStep (most : Int) vals i c ws xs).2.1 (eStep (most : Int) vals i c ws xs).2.2 <= most /\ tot (eStep (most : Int) vals i c ws xs).2.1 (eStep (most : Int) vals i c ws xs).2.2 <= tot ws xs + 1 := by
  unfold eStep
  split
  · exact ePush_ok most (by decide) h hm
  split
  · exact ePush_ok most (by decide) h hm
  split
  · have := ePop_ok vals (d := 0) (by decide) (xs := xs) h
    exact ⟨this.1.mono (Nat.le_succ i), by omega, by omega⟩
  split
  · have := ePop_ok vals (d := 1) (by decide) (xs := xs) h
    exact ⟨this.1.mono (Nat.le_succ i), by omega, by omega⟩
  · exact ⟨h.mono (Nat.le_succ i), hm, Nat.le_succ _⟩
theorem eRun_ok (most : Nat) (vals : Nat -> Int) : ∀ (l : List O) (i : Nat) (ws : Nat -> List Nat) (xs : List Int), Below2 i ws -> tot ws xs <= most -> Below2 (i + l.length) (eRun (most : Int) vals l i ws xs).2.1 /\ tot (eRun (most : Int) vals l i ws xs).2.1 (eRun (most : Int) vals l i ws xs).2.2 <= most
  | [], _, _, _, h, hm => ⟨h, hm⟩
  | o :: l, i, ws, xs, h, hm => by
    have h1 := eStep_ok most vals i o.k h hm
    have h2 := eRun_ok most vals l (i + 1) _ _ h1.1 h1.2.1
    refine ⟨h2.1.mono (by simp; omega), h2.2⟩
structure ELay (B s q qb r mp : Nat) : Prop where
  s1 : s < B
  q1 : q < B
  b1 : qb < B
  r1 : r < B
  m1 : mp < B
  sq : s ≠ q
  sb : s ≠ qb
  sr : s ≠ r
  sm : s ≠ mp
  qr : q ≠ r
  qm : q ≠ mp
  br : qb ≠ r
  bm : qb ≠ mp
  rm : r ≠ mp
end Go.Sk
namespace Go.Proofs.Try
open Go.L Go.Rp Go.Sk
set_option maxRecDepth 100000
def askE : List (V × V) := [(.int .u8 1, .agg [.bool true, .int .i64 0]), (.int .u8 2, .agg [.bool true, .int .i64 1]), (.int .u8 3, .agg [.bool false, .int .i64 0]), (.int .u8 4, .agg [.bool false, .int .i64 1])]
theorem kds_u8 : kds prog 12 5 = some [0] := by kernel_rfl
theorem keq_u8 (a n : Int) : keq [0] (.int .u8 a) (.int .u8 n) = some (a == n) := by
  show some (a == n && true) = _
  rw [Bool.and_true]
theorem ask_call (n : Nat) (h : Heap) : call (n + 1) 77 [] h = some (.ret [.map h.length], h ++ [.map askE]) := by
  rw [endAsks_eq]
  unfold endAsks
  have g : ∀ es, (h ++ [HB.map es])[h.length]? = some (.map es) := fun es => List.getElem?_concat_length
  have st : ∀ es es', (h ++ [HB.map es]).set h.length (HB.map es') = h ++ [HB.map es'] := fun es es' => by rw [List.set_append_right _ _ (Nat.le_refl _)]; simp
  simp only [g, st, mapAt_map]
  rw [kds_u8, bd_some]
  simp only [findI, bd_some]
  rw [if_pos (by decide)]
  simp only [g, st, mapAt_map, upd, List.nil_append, findI, keq_u8]
  rfl
theorem find_ask (c : Int) : findI [0] (.int .u8 c) askE 0 = some (if c = 1 then some 0 else if c = 2 then some 1 else if c = 3 then some 2 else if c = 4 then some 3 else none) := by
  unfold askE
  simp only [findI, keq_u8]
  by_cases h1 : c = 1
  · simp [h1]
  by_cases h2 : c = 2
  · simp [h2]
  by_cases h3 : c = 3
  · simp [h3]
  by_cases h4 : c = 4
  · simp [h4]
  have e1 : (c == 1) = false := by simpa using h1
  have e2 : (c == 2) = false := by simpa using h2
  have e3 : (c == 3) = false := by simpa using h3
  have e4 : (c == 4) = false := by simpa using h4
  simp only [e1, e2, e3, e4, if_neg h1, if_neg h2, if_neg h3, if_neg h4]
structure EInv (B s q qb r : Nat) (m : Nat) (h0 h : Heap) (sb : Nat -> Option Nat) (ws : Nat -> List Nat) (v : Nat -> V) (xs : List Int) (done : List R) (d : Nat) : Prop where
  mt : EndAt h s sb xs.length m ws v
  fr : ∀ e b, e < 2 -> sb e = some b -> B <= b
  le : B <= h.length
  st : RngAt h q qb m xs
  row : h[r]? = some (.row 21 1 (done.map vlC ++ List.replicate d [.int .i32 0]) true)
  rest : ∀ j, j < B -> j ≠ s -> j ≠ q -> j ≠ qb -> j ≠ r -> h[j]? = h0[j]?
theorem EInv.meet {B s q qb r mp : Nat} {m : Nat} {h0 h h' : Heap} {sb sb' : Nat -> Option Nat} {ws ws' : Nat -> List Nat} {v v' : Nat -> V} {xs : List Int} {done : List R} {d : Nat} (L : ELay B s q qb r mp) (I : EInv B s q qb r m h0 h sb ws v xs done d)
    (b1 : EndAt h' s sb' xs.length m ws' v') (b2 : EFed h h' s sb sb') : EInv B s q qb r m h0 h' sb' ws' v' xs done d := by
  have hk : ∀ j, j < B -> j ≠ s -> h'[j]? = h[j]? := fun j h1 h2 => b2.old j (Nat.lt_of_lt_of_le h1 I.le) h2 (fun e => by have := I.fr 0 j (by decide) e; omega) (fun e => by have := I.fr 1 j (by decide) e; omega)
  exact ⟨b1, fun e b he hb => by rcases b2.new e b he hb with k | k; exact I.fr e b he k; exact Nat.le_trans I.le k, Nat.le_trans I.le b2.len, I.st.keep (hk q L.q1 L.sq.symm) (hk qb L.b1 L.sb.symm), (hk r L.r1 L.sr.symm).trans I.row, fun j h1 h2 h3 h4 h5 => (hk j h1 h2).trans (I.rest j h1 h2 h3 h4 h5)⟩
theorem EInv.told {B s q qb r : Nat} {m : Nat} {h0 h : Heap} {sb : Nat -> Option Nat} {ws : Nat -> List Nat} {v : Nat -> V} {xs : List Int} {done : List R} {d : Nat} (I : EInv B s q qb r m h0 h sb ws v xs done (d + 1)) (c : Int) : EInv B s q qb r m h0 h sb ws v xs (done ++ [⟨c, 0⟩]) d :=
  ⟨I.mt, I.fr, I.le, I.st, by rw [I.row]; simp [List.replicate_succ, vlC], I.rest⟩
theorem EInv.num {B s q qb r mp : Nat} {m : Nat} {h0 h h' : Heap} {sb : Nat -> Option Nat} {ws : Nat -> List Nat} {v : Nat -> V} {xs xs' : List Int} {done : List R} {d : Nat} (L : ELay B s q qb r mp) (I : EInv B s q qb r m h0 h sb ws v xs done (d + 1)) (c x : Int) (b1 : EndAt h' s sb xs'.length m ws v) (b2 : RngAt h' q qb m xs') (b3 : h'.length = h.length) (b4 : h'[r]? = some (.row 21 1 ((done.map vlC ++ List.replicate (d + 1) [V.int .i32 0]).set done.length [.int .i32 x]) true)) (b5 : ∀ j, j ≠ q -> j ≠ qb -> j ≠ r -> h'[j]? = h[j]?) : EInv B s q qb r m h0 h' sb ws v xs' (done ++ [⟨c, x⟩]) d :=
  ⟨b1, I.fr, by rw [b3]; exact I.le, b2, by rw [b4, row_set done d c x], fun j h1 h2 h3 h4 h5 => (b5 j h3 h4 h5).trans (I.rest j h1 h2 h3 h4 h5)⟩
theorem EndAt.keep {h h' : Heap} {s : Nat} {sb : Nat -> Option Nat} {u m : Nat} {ws : Nat -> List Nat} {v : Nat -> V} (E : EndAt h s sb u m ws v) (h1 : h'[s]? = h[s]?) (h2 : ∀ e b, e < 2 -> sb e = some b -> h'[b]? = h[b]?) : EndAt h' s sb u m ws v :=
  ⟨h1.trans E.box, fun e he => (E.side e he).keep (fun b hb => h2 e b he hb), E.own, E.apart⟩
theorem end_a_num (n : Nat) {h : Heap} {q r d : Nat} {os : List O} {osb : Bool} {l : List (List V)} {z : Bool} {i j : Nat} (hd : d < 2) (hr : h[r]? = some (.row 21 1 l z)) (hl : ∀ es ∈ l, es.length = 1) (hi : i < l.length) (hj : j < os.length) :
    call (n + 1) 73 [.int .i64 (i : Int), .int .i64 (d : Int), .int .i64 (j : Int), .iptr 2 [.bf 68 [.ptr q 0], .bf 69 [.ptr q 0]] 0, .iptr 1 [.row r 1 0 l.length] 0, .iptr 1 [.sl 2 (os.map O.w) osb] 0] h = some (.ret [], h.set r (.row 21 1 (l.set i [.int .i32 os[j].v]) z)) := by
  have hx : l[i]? = some l[i] := List.getElem?_eq_getElem hi
  have hw : writeB h [V.int .i32 os[j].v] (.rptr r 1 i 0) = some (r, .row 21 1 (l.set i [.int .i32 os[j].v]) z) := by
    obtain ⟨e, he⟩ : ∃ e, l[i] = [e] := List.length_eq_one_iff.1 (hl _ (List.getElem_mem hi))
    simp [writeB, hr, hx, he, setR]
  obtain rfl | rfl : d = 0 \/ d = 1 := by omega
  · refine (endA0_eq n _ _ q r _ _ osb h).trans ?_
    unfold endA0
    rw [if_neg (by simp), nv_nat, bdS_some, idxP_sl (es := O.w os[j]) (by rw [List.getElem?_map, List.getElem?_eq_getElem hj]; rfl), bd_some]
    simp only [addP, bd_some]
    rw [cellsP_iptr, bd3_some, if_pos (by decide)]
    simp only [O.w, Nat.zero_add, List.getElem?_cons_succ, List.getElem?_cons_zero, bd_some]
    rw [nv_nat, bdS_some, idxP_row (by omega), bd_some, Nat.zero_add]
    simp only [V.cells, List.length_cons, List.length_nil, Nat.zero_add, if_true]
    rw [hw, bd2_some]
  · refine (endA1_eq n _ _ q r _ _ osb h).trans ?_
    unfold endA1
    rw [if_neg (by simp), nv_nat, bdS_some, idxP_sl (es := O.w os[j]) (by rw [List.getElem?_map, List.getElem?_eq_getElem hj]; rfl), bd_some]
    simp only [addP, bd_some]
    rw [cellsP_iptr, bd3_some, if_pos (by decide)]
    simp only [O.w, Nat.zero_add, List.getElem?_cons_succ, List.getElem?_cons_zero, bd_some]
    rw [nv_nat, bdS_some, idxP_row (by omega), bd_some, Nat.zero_add]
    simp only [V.cells, List.length_cons, List.length_nil, Nat.zero_add, if_true]
    rw [hw, bd2_some]
theorem rng_take_call (n : Nat) {h : Heap} {q qb c d : Nat} {xs : List Int} (hb : RngAt h q qb c xs) (hc : c < 100000) {p : Int × List Int} (hp : eTake d xs = some p) :
    ∃ h', call (n + 2) (if d = 0 then 68 else 69) [.ptr q 0] h = some (.ret [.int .i32 p.1, .bool true], h') /\ RngAt h' q qb c p.2 /\ RFed h h' q qb := by
  unfold eTake at hp
  split at hp
  · rename_i hd
    rw [if_pos hd]
    cases xs with
    | nil => cases hp
    | cons y r => cases hp; exact rng_popL_call n hb hc
  · rename_i hd
    rw [if_neg hd]
    rcases List.eq_nil_or_concat xs with rfl | ⟨x0, x, rfl⟩
    · cases hp
    · simp at hp; subst hp
      rw [List.concat_eq_append] at hb
      exact rng_popR_call n hb hc
theorem end_a_take (n : Nat) {h : Heap} {q qb r c d : Nat} {os : List (List V)} {osb : Bool} {l : List (List V)} {z : Bool} {i : Nat} {xs : List Int} (hd : d < 2) (hr : h[r]? = some (.row 21 1 l z)) (hl : ∀ es ∈ l, es.length = 1) (hi : i < l.length) (hb : RngAt h q qb c xs) (hc : c < 100000) (qr : r ≠ q) (br : r ≠ qb) {p : Int × List Int} (hp : eTake d xs = some p) :
    ∃ h', call (n + 3) 73 [.int .i64 (i : Int), .int .i64 (d : Int), .int .i64 (-1), .iptr 2 [.bf 68 [.ptr q 0], .bf 69 [.ptr q 0]] 0, .iptr 1 [.row r 1 0 l.length] 0, .iptr 1 [.sl 2 os osb] 0] h = some (.ret [], h') /\ RngAt h' q qb c p.2 /\ h'[r]? = some (.row 21 1 (l.set i [.int .i32 p.1]) z) /\ h'.length = h.length /\ ∀ j, j ≠ q -> j ≠ qb -> j ≠ r -> h'[j]? = h[j]? := by
  obtain ⟨h1, e, b1, b2⟩ := rng_take_call n hb hc hp
  have hr1 : h1[r]? = some (.row 21 1 l z) := (b2.old r qr br).trans hr
  have hx : l[i]? = some l[i] := List.getElem?_eq_getElem hi
  have hw : writeB h1 [V.int .i32 p.1] (.rptr r 1 i 0) = some (r, .row 21 1 (l.set i [.int .i32 p.1]) z) := by
    obtain ⟨e, he⟩ : ∃ e, l[i] = [e] := List.length_eq_one_iff.1 (hl _ (List.getElem_mem hi))
    simp [writeB, hr1, hx, he, setR]
  refine ⟨h1.set r (.row 21 1 (l.set i [.int .i32 p.1]) z), ?_, b1.keep (List.getElem?_set_ne qr) (List.getElem?_set_ne br), set_at (lt_of_at hr1) _, by rw [List.length_set]; exact b2.len, fun j h1 h2 h3 => (List.getElem?_set_ne (Ne.symm h3)).trans (b2.old j h1 h2)⟩
  obtain rfl | rfl : d = 0 \/ d = 1 := by omega
  · rw [if_pos rfl] at e
    refine (endA0_eq (n + 2) _ _ q r _ _ osb h).trans ?_
    unfold endA0
    rw [if_pos (by decide), e]
    simp only [clH, List.getElem?_cons_zero, List.getElem?_cons_succ, bd_some]
    rw [nv_nat, bdS_some, idxP_row (by omega), bd_some, Nat.zero_add]
    simp only [V.cells, ixP, List.length_cons, List.length_nil, Nat.zero_add, if_true]
    rw [hw, bd2_some]
  · rw [if_neg (by decide)] at e
    refine (endA1_eq (n + 2) _ _ q r _ _ osb h).trans ?_
    unfold endA1
    rw [if_pos (by decide), e]
    simp only [clH, List.getElem?_cons_zero, List.getElem?_cons_succ, bd_some]
    rw [nv_nat, bdS_some, idxP_row (by omega), bd_some, Nat.zero_add]
    simp only [V.cells, ixP, List.length_cons, List.length_nil, Nat.zero_add, if_true]
    rw [hw, bd2_some]
end Go.Proofs.Try
set_option linter.unusedVariables false
set_option linter.unusedSimpArgs false
namespace Go.Proofs.Try
open Go.L Go.Rp Go.Sk
set_option maxRecDepth 100000
def EndGo (n s q r mp : Nat) (osb : Bool) (os : List O) (h : Heap) (done : List R) (d : Nat) (t : (Int × Int)) (h' : Heap) : Prop :=
  ∀ next, endAll_l6 n s (os.map O.w) osb q r os.length (.map mp) [.sl 2 [] false, .sl 2 (done.map cdC ++ ([.int .u8 0, .int .i32 0] :: List.replicate d [.int .u8 0, .int .i32 0])) false, .bool false, .int .i64 (done.length : Int)] h next = next [.sl 2 [] false, .sl 2 ((done ++ [(⟨t.1, t.2⟩ : R)]).map cdC ++ List.replicate d [.int .u8 0, .int .i32 0]) false, .bool false, .int .i64 ((done.length + 1 : Nat) : Int)] h'
theorem len_told (done : List R) (d : Nat) (a : Int) : done.length < (done.map cdC ++ ([V.int .u8 a, V.int .i32 0] :: List.replicate d [V.int .u8 0, V.int .i32 0])).length := by simp
theorem end_step_push (n s q qb r mp B : Nat) (osb : Bool) (m : Nat) (os : List O) {sb : Nat -> Option Nat} {h0 h : Heap} {ws : Nat -> List Nat} {v : Nat -> V} {xs : List Int} {done : List R} {d : Nat} (L : ELay B s q qb r mp) (I : EInv B s q qb r m h0 h sb ws v xs done (d + 1))
    (hmp0 : h0[mp]? = some (.map askE)) (hd : done.length + (d + 1) = os.length) (hl : tot ws xs + 1 < lim) (hos : os.length < lim) (o : O) (ho : os[done.length]? = some o) (e : Nat) (e2 : e < 2) (hf : findI [0] (.int .u8 o.k) askE 0 = some (some e)) (he : entryV askE (.agg [.bool false, .int .i64 0]) (some e) = some (.agg [.bool true, .int .i64 (e : Int)])) :
    ∃ h' sb' v', EndGo (n + 3) s q r mp osb os h done d (ePush (m : Int) done.length e ws xs).1 h' /\ EInv B s q qb r m h0 h' sb' (ePush (m : Int) done.length e ws xs).2.1 v' (ePush (m : Int) done.length e ws xs).2.2 (done ++ [⟨(ePush (m : Int) done.length e ws xs).1.1, (ePush (m : Int) done.length e ws xs).1.2⟩]) d := by
  have hlt : done.length < os.length := by omega
  have hix : idxP 2 done.length (.sl 2 (os.map O.w) osb) = some (.iptr 2 (O.w o) 0) := by simp [idxP, ho]
  have hmp : mapOf h (.map mp) = some askE := mapOf_map ((I.rest mp L.m1 L.sm.symm L.qm.symm L.bm.symm L.rm.symm).trans hmp0)
  have hwrap : IntKind.i64.wrap ((done.length : Int) + 1) = ((done.length + 1 : Nat) : Int) := step64 (by omega)
  have g0 : (setR [V.bool false, V.int .i64 0] 0 (V.cells (V.agg [V.bool true, V.int .i64 (e : Int)])))[0]? = some (.bool true) := rfl
  have g1 : (setR [V.bool false, V.int .i64 0] 0 (V.cells (V.agg [V.bool true, V.int .i64 (e : Int)])))[1]? = some (.int .i64 (e : Int)) := rfl
  unfold tot at hl
  unfold ePush
  by_cases hm : ((xs.length + (ws 0).length + (ws 1).length : Nat) : Int) < (m : Int)
  · rw [if_pos hm]
    obtain ⟨h', v', ec, c1, c2⟩ := end_push_call (n + 2) I.mt e2 done.length (by omega) (by omega)
    refine ⟨h', _, v', ?_, (I.meet L c1 c2).told 1⟩
    intro next
    unfold endAll_l6
    simp only [gv, List.getD_cons_zero, List.getD_cons_succ, lsl]
    rw [bop_i64_lss, bd_some, bv_bool, if_pos (by simp; omega), nv_nat, bdS_some, hix, bd_some]
    simp only [cellsP]
    rw [bd3_some, if_pos (by decide), List.drop_zero, ow_take, if_pos (ow_len _), if_pos (by rw [ow_len]; decide), set_o]
    simp only [O.w, List.getElem?_cons_zero, bd_some]
    rw [hmp, bdS_some, kds_u8, bd_some, hf, bdS_some, he, bd_some, if_pos (by refine ⟨?_, ?_, ?_⟩ <;> first | trivial | rfl), if_pos (by rfl), if_pos (by exact Nat.le_refl 2)]
    rw [if_neg (by simp), g0, bd_some, bv_bool, if_pos rfl, g1, bd_some, ec, cl_ret, one1_one, bv_bool, if_pos rfl, bdS_some, if_pos (by refine ⟨?_, len_told _ _ _, by decide⟩; first | trivial | rfl), told_get, bd_some, bop_i64_add, bd_some, hwrap, told_set1, told_end (v := 0)]
  · rw [if_neg hm]
    have ec := end_push_full (n + 2) I.mt (e : Int) (done.length : Int) (by omega) (by omega)
    refine ⟨h, sb, v, ?_, I.told 3⟩
    intro next
    unfold endAll_l6
    simp only [gv, List.getD_cons_zero, List.getD_cons_succ, lsl]
    rw [bop_i64_lss, bd_some, bv_bool, if_pos (by simp; omega), nv_nat, bdS_some, hix, bd_some]
    simp only [cellsP]
    rw [bd3_some, if_pos (by decide), List.drop_zero, ow_take, if_pos (ow_len _), if_pos (by rw [ow_len]; decide), set_o]
    simp only [O.w, List.getElem?_cons_zero, bd_some]
    rw [hmp, bdS_some, kds_u8, bd_some, hf, bdS_some, he, bd_some, if_pos (by refine ⟨?_, ?_, ?_⟩ <;> first | trivial | rfl), if_pos (by rfl), if_pos (by exact Nat.le_refl 2)]
    rw [if_neg (by simp), g0, bd_some, bv_bool, if_pos rfl, g1, bd_some, ec, cl_ret, one1_one, bv_bool, if_neg (by decide), bd_some, bv_bool, if_pos rfl, bdS_some, if_pos (by refine ⟨?_, len_told _ _ _, by decide⟩; first | trivial | rfl), told_get, bd_some, bop_i64_add, bd_some, hwrap, told_set1, told_end (v := 0)]
theorem end_step_pop (n s q qb r mp B : Nat) (osb : Bool) (m : Nat) (os : List O) {sb : Nat -> Option Nat} {h0 h : Heap} {ws : Nat -> List Nat} {v : Nat -> V} {xs : List Int} {done : List R} {d : Nat} (L : ELay B s q qb r mp) (I : EInv B s q qb r m h0 h sb ws v xs done (d + 1))
    (hmp0 : h0[mp]? = some (.map askE)) (hd : done.length + (d + 1) = os.length) (hw : Below2 done.length ws) (hl : tot ws xs + 1 < lim) (hm : m < 100000) (hos : os.length < lim) (o : O) (ho : os[done.length]? = some o) (e k : Nat) (e2 : e < 2) (hf : findI [0] (.int .u8 o.k) askE 0 = some (some k)) (he : entryV askE (.agg [.bool false, .int .i64 0]) (some k) = some (.agg [.bool false, .int .i64 (e : Int)])) :
    ∃ h' sb' v', EndGo (n + 3) s q r mp osb os h done d (ePop (valsOf os) e ws xs).1 h' /\ EInv B s q qb r m h0 h' sb' (ePop (valsOf os) e ws xs).2.1 v' (ePop (valsOf os) e ws xs).2.2 (done ++ [⟨(ePop (valsOf os) e ws xs).1.1, (ePop (valsOf os) e ws xs).1.2⟩]) d := by
  have hlt : done.length < os.length := by omega
  have hix : idxP 2 done.length (.sl 2 (os.map O.w) osb) = some (.iptr 2 (O.w o) 0) := by simp [idxP, ho]
  have hmp : mapOf h (.map mp) = some askE := mapOf_map ((I.rest mp L.m1 L.sm.symm L.qm.symm L.bm.symm L.rm.symm).trans hmp0)
  have hwrap : IntKind.i64.wrap ((done.length : Int) + 1) = ((done.length + 1 : Nat) : Int) := step64 (by omega)
  have g0 : (setR [V.bool false, V.int .i64 0] 0 (V.cells (V.agg [V.bool false, V.int .i64 (e : Int)])))[0]? = some (.bool false) := rfl
  have g1 : (setR [V.bool false, V.int .i64 0] 0 (V.cells (V.agg [V.bool false, V.int .i64 (e : Int)])))[1]? = some (.int .i64 (e : Int)) := rfl
  have hll : (done.map vlC ++ List.replicate (d + 1) [V.int .i32 0]).length = os.length := by simp; omega
  have hwd : ∀ a, a < 2 -> (ws a).length <= (ws 0).length + (ws 1).length := fun a ha => by
    obtain rfl | rfl : a = 0 \/ a = 1 := by omega
    · omega
    · omega
  unfold tot at hl
  have hw1 := hwd e e2
  unfold ePop
  rcases List.eq_nil_or_concat (ws e) with hn | ⟨w0, w, hc⟩
  · rw [hn]
    simp only [List.getLast?_nil]
    cases hp : eTake e xs with
    | some p =>
      simp only []
      have hxl := eTake_len hp
      have hmt := I.mt
      rw [<- hxl] at hmt
      obtain ⟨h1, v1, ec, c1, c2, c3⟩ := end_pop_mid (n + 1) hmt e2 hn (by omega)
      have hst : RngAt h1 q qb m xs := I.st.keep (c3 q L.sq.symm) (c3 qb L.sb.symm)
      obtain ⟨h2, ea, d1, d2, d3, d4⟩ := end_a_take n (os := os.map O.w) (osb := osb) (i := done.length) e2 ((c3 r L.sr.symm).trans I.row) row_len (by rw [hll]; exact hlt) hst hm L.qr.symm L.br.symm hp
      rw [hll] at ea
      have hB : ∀ a b, a < 2 -> sb a = some b -> h2[b]? = h1[b]? := fun a b ha hb => by
        have := I.fr a b ha hb; have := L.q1; have := L.b1; have := L.r1
        exact d4 b (by omega) (by omega) (by omega)
      refine ⟨h2, sb, v1, ?_, ⟨c1.keep (d4 s L.sq L.sb L.sr) hB, I.fr, by rw [d3, c2]; exact I.le, d1, by rw [d2, row_set done d 2 p.1], fun j j1 j2 j3 j4 j5 => (d4 j j3 j4 j5).trans ((c3 j j2).trans (I.rest j j1 j2 j3 j4 j5))⟩⟩
      intro next
      unfold endAll_l6
      simp only [gv, List.getD_cons_zero, List.getD_cons_succ, lsl]
      rw [bop_i64_lss, bd_some, bv_bool, if_pos (by simp; omega), nv_nat, bdS_some, hix, bd_some]
      simp only [cellsP]
      rw [bd3_some, if_pos (by decide), List.drop_zero, ow_take, if_pos (ow_len _), if_pos (by rw [ow_len]; decide), set_o]
      simp only [O.w, List.getElem?_cons_zero, bd_some]
      rw [hmp, bdS_some, kds_u8, bd_some, hf, bdS_some, he, bd_some, if_pos (by refine ⟨?_, ?_, ?_⟩ <;> first | trivial | rfl), if_pos (by rfl), if_pos (by exact Nat.le_refl 2)]
      rw [if_neg (by simp), g0, bd_some, bv_bool, if_neg (by decide), bd_some, bv_bool, if_neg (by decide), bdS_some, if_pos (by refine ⟨?_, len_told _ _ _, by decide⟩; first | trivial | rfl), told_get, bd_some, g1, bd_some, ec, cl_ret]
      simp only [List.getElem?_cons_zero, List.getElem?_cons_succ, bd_some]
      rw [bv_bool, if_pos rfl, bdS_some, told_set1, if_pos (by refine ⟨?_, len_told _ _ _, by decide⟩; first | trivial | rfl), told_get, bd_some, ea, cl_ret, bop_i64_add, bd_some, hwrap, told_set1, told_end (v := p.1)]
    | none =>
      simp only []
      have hx0 : xs = [] := by
        unfold eTake at hp
        split at hp
        · cases xs with
          | nil => rfl
          | cons y r => cases hp
        · rcases List.eq_nil_or_concat xs with rfl | ⟨x0, x, rfl⟩
          · rfl
          · simp at hp
      subst hx0
      cases hf2 : ws (1 - e) with
      | nil =>
        simp only []
        have ec := end_pop_none (n + 1) I.mt e2 hn hf2
        refine ⟨h, sb, v, ?_, I.told 4⟩
        intro next
        unfold endAll_l6
        simp only [gv, List.getD_cons_zero, List.getD_cons_succ, lsl]
        rw [bop_i64_lss, bd_some, bv_bool, if_pos (by simp; omega), nv_nat, bdS_some, hix, bd_some]
        simp only [cellsP]
        rw [bd3_some, if_pos (by decide), List.drop_zero, ow_take, if_pos (ow_len _), if_pos (by rw [ow_len]; decide), set_o]
        simp only [O.w, List.getElem?_cons_zero, bd_some]
        rw [hmp, bdS_some, kds_u8, bd_some, hf, bdS_some, he, bd_some, if_pos (by refine ⟨?_, ?_, ?_⟩ <;> first | trivial | rfl), if_pos (by rfl), if_pos (by exact Nat.le_refl 2)]
        rw [if_neg (by simp), g0, bd_some, bv_bool, if_neg (by decide), bd_some, bv_bool, if_neg (by decide), bdS_some, if_pos (by refine ⟨?_, len_told _ _ _, by decide⟩; first | trivial | rfl), told_get, bd_some, g1, bd_some, ec, cl_ret]
        simp only [List.getElem?_cons_zero, List.getElem?_cons_succ, bd_some]
        rw [bv_bool, if_neg (by decide), bop_i64_add, bd_some, hwrap, told_set1, told_end (v := 0)]
      | cons w r' =>
        simp only []
        obtain ⟨h1, v1, ec, c1, c2, c3⟩ := end_pop_far (n + 1) I.mt e2 hn hf2
        have hwl : w < os.length := by have := hw (1 - e) (by omega) w (by rw [hf2]; simp); omega
        have I1 := I.meet L c1 (EFed.of c2 c3)
        have ea := end_a_num (n + 2) (q := q) (osb := osb) (i := done.length) (os := os) e2 I1.row row_len (by rw [hll]; exact hlt) hwl
        rw [hll] at ea
        have hv : valsOf os w = os[w].v := by simp [valsOf, List.getElem?_eq_getElem hwl]
        rw [hv]
        have hrB : ∀ a b, a < 2 -> sb a = some b -> r ≠ b := fun a b ha hb k => by have := I.fr a b ha hb; have := L.r1; omega
        refine ⟨_, sb, v1, ?_, I1.num L 2 os[w].v (I1.mt.keep (List.getElem?_set_ne L.sr.symm) (fun a b ha hb => List.getElem?_set_ne (hrB a b ha hb))) (I1.st.keep (List.getElem?_set_ne L.qr.symm) (List.getElem?_set_ne L.br.symm)) (List.length_set ..) (set_at (lt_of_at I1.row) _) (fun j _ _ h3 => List.getElem?_set_ne (Ne.symm h3))⟩
        intro next
        unfold endAll_l6
        simp only [gv, List.getD_cons_zero, List.getD_cons_succ, lsl]
        rw [bop_i64_lss, bd_some, bv_bool, if_pos (by simp; omega), nv_nat, bdS_some, hix, bd_some]
        simp only [cellsP]
        rw [bd3_some, if_pos (by decide), List.drop_zero, ow_take, if_pos (ow_len _), if_pos (by rw [ow_len]; decide), set_o]
        simp only [O.w, List.getElem?_cons_zero, bd_some]
        rw [hmp, bdS_some, kds_u8, bd_some, hf, bdS_some, he, bd_some, if_pos (by refine ⟨?_, ?_, ?_⟩ <;> first | trivial | rfl), if_pos (by rfl), if_pos (by exact Nat.le_refl 2)]
        rw [if_neg (by simp), g0, bd_some, bv_bool, if_neg (by decide), bd_some, bv_bool, if_neg (by decide), bdS_some, if_pos (by refine ⟨?_, len_told _ _ _, by decide⟩; first | trivial | rfl), told_get, bd_some, g1, bd_some, ec, cl_ret]
        simp only [List.getElem?_cons_zero, List.getElem?_cons_succ, bd_some]
        rw [bv_bool, if_pos rfl, bdS_some, told_set1, if_pos (by refine ⟨?_, len_told _ _ _, by decide⟩; first | trivial | rfl), told_get, bd_some, ea, cl_ret, bop_i64_add, bd_some, hwrap, told_set1, told_end (v := os[w].v)]
  · rw [List.concat_eq_append] at hc
    have hgl : (ws e).getLast? = some w := by rw [hc]; simp
    have hdl : (ws e).dropLast = w0 := by rw [hc]; simp
    rw [hgl, hdl]
    simp only []
    have hwl0 : (ws e).length = w0.length + 1 := by rw [hc]; simp
    obtain ⟨h1, v1, ec, c1, c2, c3⟩ := end_pop_near (n + 1) I.mt e2 hc (by omega)
    have hwl : w < os.length := by have := hw e e2 w (by rw [hc]; simp); omega
    have I1 := I.meet L c1 (EFed.of c2 c3)
    have ea := end_a_num (n + 2) (q := q) (osb := osb) (i := done.length) (os := os) e2 I1.row row_len (by rw [hll]; exact hlt) hwl
    rw [hll] at ea
    have hv : valsOf os w = os[w].v := by simp [valsOf, List.getElem?_eq_getElem hwl]
    rw [hv]
    have hrB : ∀ a b, a < 2 -> sb a = some b -> r ≠ b := fun a b ha hb k => by have := I.fr a b ha hb; have := L.r1; omega
    refine ⟨_, sb, v1, ?_, I1.num L 2 os[w].v (I1.mt.keep (List.getElem?_set_ne L.sr.symm) (fun a b ha hb => List.getElem?_set_ne (hrB a b ha hb))) (I1.st.keep (List.getElem?_set_ne L.qr.symm) (List.getElem?_set_ne L.br.symm)) (List.length_set ..) (set_at (lt_of_at I1.row) _) (fun j _ _ h3 => List.getElem?_set_ne (Ne.symm h3))⟩
    intro next
    unfold endAll_l6
    simp only [gv, List.getD_cons_zero, List.getD_cons_succ, lsl]
    rw [bop_i64_lss, bd_some, bv_bool, if_pos (by simp; omega), nv_nat, bdS_some, hix, bd_some]
    simp only [cellsP]
    rw [bd3_some, if_pos (by decide), List.drop_zero, ow_take, if_pos (ow_len _), if_pos (by rw [ow_len]; decide), set_o]
    simp only [O.w, List.getElem?_cons_zero, bd_some]
    rw [hmp, bdS_some, kds_u8, bd_some, hf, bdS_some, he, bd_some, if_pos (by refine ⟨?_, ?_, ?_⟩ <;> first | trivial | rfl), if_pos (by rfl), if_pos (by exact Nat.le_refl 2)]
    rw [if_neg (by simp), g0, bd_some, bv_bool, if_neg (by decide), bd_some, bv_bool, if_neg (by decide), bdS_some, if_pos (by refine ⟨?_, len_told _ _ _, by decide⟩; first | trivial | rfl), told_get, bd_some, g1, bd_some, ec, cl_ret]
    simp only [List.getElem?_cons_zero, List.getElem?_cons_succ, bd_some]
    rw [bv_bool, if_pos rfl, bdS_some, told_set1, if_pos (by refine ⟨?_, len_told _ _ _, by decide⟩; first | trivial | rfl), told_get, bd_some, ea, cl_ret, bop_i64_add, bd_some, hwrap, told_set1, told_end (v := os[w].v)]
theorem end_all_step (n s q qb r mp B : Nat) (osb : Bool) (m : Nat) (os : List O) {sb : Nat -> Option Nat} {h0 h : Heap} {ws : Nat -> List Nat} {v : Nat -> V} {xs : List Int} {done : List R} {d : Nat} (L : ELay B s q qb r mp) (I : EInv B s q qb r m h0 h sb ws v xs done (d + 1))
    (hmp0 : h0[mp]? = some (.map askE)) (hd : done.length + (d + 1) = os.length) (hw : Below2 done.length ws) (hl : tot ws xs + 1 < lim) (hm : m < 100000) (hos : os.length < lim) (o : O) (ho : os[done.length]? = some o) :
    ∃ h' sb' v' t, t = eStep (m : Int) (valsOf os) done.length o.k ws xs /\ EndGo (n + 3) s q r mp osb os h done d t.1 h' /\ EInv B s q qb r m h0 h' sb' t.2.1 v' t.2.2 (done ++ [⟨t.1.1, t.1.2⟩]) d := by
  have hfa := find_ask o.k
  by_cases k1 : o.k = 1
  · obtain ⟨h', sb', v', a, b⟩ := end_step_push n s q qb r mp B osb m os L I hmp0 hd hl hos o ho 0 (by decide) (by rw [hfa, if_pos k1]) rfl
    exact ⟨h', sb', v', _, rfl, by unfold eStep; rw [if_pos k1]; exact ⟨a, b⟩⟩
  by_cases k2 : o.k = 2
  · obtain ⟨h', sb', v', a, b⟩ := end_step_push n s q qb r mp B osb m os L I hmp0 hd hl hos o ho 1 (by decide) (by rw [hfa, if_neg k1, if_pos k2]) rfl
    exact ⟨h', sb', v', _, rfl, by unfold eStep; rw [if_neg k1, if_pos k2]; exact ⟨a, b⟩⟩
  by_cases k3 : o.k = 3
  · obtain ⟨h', sb', v', a, b⟩ := end_step_pop n s q qb r mp B osb m os L I hmp0 hd hw hl hm hos o ho 0 2 (by decide) (by rw [hfa, if_neg k1, if_neg k2, if_pos k3]) rfl
    exact ⟨h', sb', v', _, rfl, by unfold eStep; rw [if_neg k1, if_neg k2, if_pos k3]; exact ⟨a, b⟩⟩
  by_cases k4 : o.k = 4
  · obtain ⟨h', sb', v', a, b⟩ := end_step_pop n s q qb r mp B osb m os L I hmp0 hd hw hl hm hos o ho 1 3 (by decide) (by rw [hfa, if_neg k1, if_neg k2, if_neg k3, if_pos k4]) rfl
    exact ⟨h', sb', v', _, rfl, by unfold eStep; rw [if_neg k1, if_neg k2, if_neg k3, if_pos k4]; exact ⟨a, b⟩⟩
  refine ⟨h, sb, v, _, rfl, ?_⟩
  have ht : eStep (m : Int) (valsOf os) done.length o.k ws xs = ((5, 0), ws, xs) := by unfold eStep; rw [if_neg k1, if_neg k2, if_neg k3, if_neg k4]
  rw [ht]
  refine ⟨?_, I.told 5⟩
  have hlt : done.length < os.length := by omega
  have hix : idxP 2 done.length (.sl 2 (os.map O.w) osb) = some (.iptr 2 (O.w o) 0) := by simp [idxP, ho]
  have hmp : mapOf h (.map mp) = some askE := mapOf_map ((I.rest mp L.m1 L.sm.symm L.qm.symm L.bm.symm L.rm.symm).trans hmp0)
  have hwrap : IntKind.i64.wrap ((done.length : Int) + 1) = ((done.length + 1 : Nat) : Int) := step64 (by omega)
  have hf : findI [0] (.int .u8 o.k) askE 0 = some none := by rw [hfa, if_neg k1, if_neg k2, if_neg k3, if_neg k4]
  have he : entryV askE (.agg [.bool false, .int .i64 0]) none = some (.agg [.bool false, .int .i64 0]) := rfl
  intro next
  unfold endAll_l6
  simp only [gv, List.getD_cons_zero, List.getD_cons_succ, lsl]
  rw [bop_i64_lss, bd_some, bv_bool, if_pos (by simp; omega), nv_nat, bdS_some, hix, bd_some]
  simp only [cellsP]
  rw [bd3_some, if_pos (by decide), List.drop_zero, ow_take, if_pos (ow_len _), if_pos (by rw [ow_len]; decide), set_o]
  simp only [O.w, List.getElem?_cons_zero, bd_some]
  rw [hmp, bdS_some, kds_u8, bd_some, hf, bdS_some, he, bd_some, if_pos (by refine ⟨?_, ?_, ?_⟩ <;> first | trivial | rfl), if_pos (by rfl), if_pos (by exact Nat.le_refl 2)]
  rw [if_pos (by rfl), bdS_some, if_pos (by refine ⟨?_, len_told _ _ _, by decide⟩; first | trivial | rfl), told_get, bd_some, bop_i64_add, bd_some, hwrap, told_set1, told_end (v := 0)]
theorem end_all_loop (n s q qb r mp B : Nat) (osb : Bool) (m : Nat) (os : List O) {h0 : Heap} (L : ELay B s q qb r mp) (hmp0 : h0[mp]? = some (.map askE)) (hm : m < 100000) (hos : os.length < lim) : ∀ (d N : Nat) (h : Heap) (sb : Nat -> Option Nat) (ws : Nat -> List Nat) (v : Nat -> V) (xs : List Int) (done : List R), EInv B s q qb r m h0 h sb ws v xs done d -> done.length + d = os.length -> d < N -> Below2 done.length ws -> tot ws xs <= m →
    ∃ h' sb' v' z, z = eRun (m : Int) (valsOf os) (os.drop done.length) done.length ws xs /\ loopx N (endAll_l6 (n + 3) s (os.map O.w) osb q r os.length (.map mp)) [.sl 2 [] false, .sl 2 (done.map cdC ++ List.replicate d [.int .u8 0, .int .i32 0]) false, .bool false, .int .i64 (done.length : Int)] h = some (.ret [.row h'.length 2 0 os.length], h' ++ [.row 34 2 ((done ++ z.1).map cdC) true]) /\ EInv B s q qb r m h0 h' sb' z.2.1 v' z.2.2 (done ++ z.1) 0 := by
  intro d
  induction d with
  | zero =>
    intro N h sb ws v xs done I h1 h2 hw hl
    obtain ⟨N, rfl⟩ : ∃ N', N = N' + 1 := ⟨N - 1, by omega⟩
    refine ⟨h, sb, v, _, rfl, ?_, ?_⟩
    · rw [loopx_succ]
      unfold endAll_l6
      simp only [gv, List.getD_cons_zero, List.getD_cons_succ]
      rw [bop_i64_lss, bd_some, bv_bool, if_neg (by simp; omega), List.drop_eq_nil_of_le (by omega)]
      simp only [lsl, eRun, List.append_nil, List.replicate_zero, List.length_map]
      rw [show done.length = os.length by omega]
    · rw [List.drop_eq_nil_of_le (by omega)]
      simp only [eRun, List.append_nil]
      exact I
  | succ d ih =>
    intro N h sb ws v xs done I h1 h2 hw hl
    obtain ⟨N, rfl⟩ : ∃ N', N = N' + 1 := ⟨N - 1, by omega⟩
    have hi : done.length < os.length := by omega
    have hlim : m + 1 < lim := by unfold lim; omega
    obtain ⟨h', sb', v', t, rfl, key, I'⟩ := end_all_step n s q qb r mp B osb m os L I hmp0 h1 hw (by omega) hm hos os[done.length] (List.getElem?_eq_getElem hi)
    have hok := eStep_ok m (valsOf os) done.length os[done.length].k hw hl
    obtain ⟨h'', sb'', v'', z, hz, e', I''⟩ := ih N h' sb' _ v' _ _ I' (by simp; omega) (by omega) (by simpa using hok.1) hok.2.1
    have hd : os.drop done.length = os[done.length] :: os.drop (done.length + 1) := List.drop_eq_getElem_cons hi
    rw [List.length_append, List.length_singleton] at hz e'
    refine ⟨h'', sb'', v'', _, rfl, ?_, ?_⟩
    · rw [hd, loopx_succ, List.replicate_succ, key, e', hz]
      simp [eRun]
    · rw [hd]
      rw [hz] at I''
      simpa [eRun] using I''
theorem end_all_call (n s q qb r : Nat) (osb : Bool) (m : Nat) (os : List O) {h : Heap} {v : Nat -> V} {xs : List Int} (L : ELay (h.length + 1) s q qb r h.length) (hm : m < 100000) (hx : xs.length <= m) (hos : os.length < lim) (hn : os.length < n) (E : EndAt h s (fun _ => none) xs.length m (fun _ => []) v) (hb : RngAt h q qb m xs) (hr : h[r]? = some (.row 21 1 (List.replicate os.length [.int .i32 0]) true)) :
    ∃ h' sb' v' z, z = eRun (m : Int) (valsOf os) os 0 (fun _ => []) xs /\ call (n + 4) 72 [.ptr s 0, .sl 2 (os.map O.w) osb, .fn 73 [.iptr 2 [.bf 68 [.ptr q 0], .bf 69 [.ptr q 0]] 0, .iptr 1 [.row r 1 0 os.length] 0, .iptr 1 [.sl 2 (os.map O.w) osb] 0]] h = some (.ret [.row h'.length 2 0 os.length], h' ++ [.row 34 2 (z.1.map cdC) true]) /\ EInv (h.length + 1) s q qb r m (h ++ [.map askE]) h' sb' z.2.1 v' z.2.2 z.1 0 := by
  have ap : ∀ j, j < h.length -> (h ++ [HB.map askE])[j]? = h[j]? := fun j hj => List.getElem?_append_left hj
  have hrl := lt_of_at hr
  have hsl := lt_of_at E.box
  have I : EInv (h.length + 1) s q qb r m (h ++ [.map askE]) (h ++ [.map askE]) (fun _ => none) (fun _ => []) v xs [] os.length := ⟨E.keep (ap s hsl) (fun _ _ _ e => nomatch e), (fun _ _ _ e => nomatch e), by simp, hb.keep (ap q (by have := L.q1; have := L.qm; omega)) (ap qb (by have := L.b1; have := L.bm; omega)), by rw [ap r hrl]; exact hr, fun _ _ _ _ _ _ => rfl⟩
  obtain ⟨h', sb', v', z, hz, e, I'⟩ := end_all_loop n s q qb r h.length (h.length + 1) osb m os L List.getElem?_concat_length hm (by omega) os.length (n + 3) _ _ _ _ xs [] I (by simp) (by omega) (fun _ _ _ h => (nomatch h)) (by simpa [tot] using hx)
  refine ⟨h', sb', v', z, by simpa using hz, (endAll_eq (n + 3) s _ osb q r _ h).trans ?_, by simpa using I'⟩
  unfold endAll
  rw [List.length_map, nv_nat, bdS_some, bdS_some, if_pos ⟨Nat.le_refl _, by omega, rfl⟩, ask_call (n + 2), cl_ret, one1_one]
  simpa using e
end Go.Proofs.Try
