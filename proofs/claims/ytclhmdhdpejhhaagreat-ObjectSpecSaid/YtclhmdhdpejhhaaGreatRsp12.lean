/- Lwd Pd Pl Ps Ka Lmw Lrow Kc Ts Pm Splain Ow Tm Pr Tr Pe Te Po To Tq Ta: what the law needs of these -/
import Derived.Laws.BitsLemmas
import Derived.Test.YtclhmdhdpejhhaaGreatRsp11
set_option linter.unusedVariables false
namespace Go.Proofs.Tryz
open Go.L Go.Rp
@[simp] theorem zt (a b : Int) : bop prog .lss 3 (.int .i64 a) (.int .i64 b) = some (.bool (decide (a < b))) := by kernel_rfl
@[simp] theorem Yo (a b : Int) : bop prog .leq 3 (.int .i64 a) (.int .i64 b) = some (.bool (decide (a <= b))) := by kernel_rfl
@[simp] theorem Xy (a b : Int) : bop prog .gtr 3 (.int .i64 a) (.int .i64 b) = some (.bool (decide (a > b))) := by kernel_rfl
@[simp] theorem Xa (a b : Int) : bop prog .geq 3 (.int .i64 a) (.int .i64 b) = some (.bool (decide (a ≥ b))) := by kernel_rfl
@[simp] theorem Xr (a b : Int) : bop prog .eql 3 (.int .i64 a) (.int .i64 b) = some (.bool (a == b)) := by kernel_rfl
@[simp] theorem K6 (a b : Int) : bop prog .neq 3 (.int .i64 a) (.int .i64 b) = some (.bool (a != b)) := by kernel_rfl
@[simp] theorem zK (a b : Int) : bop prog .add 3 (.int .i64 a) (.int .i64 b) = some (.int .i64 (IntKind.i64.wrap (a + b))) := by kernel_rfl
@[simp] theorem ZN (a b : Int) : bop prog .sub 3 (.int .i64 a) (.int .i64 b) = some (.int .i64 (IntKind.i64.wrap (a - b))) := by kernel_rfl
@[simp] theorem zqe (a b : Int) : bop prog .lss 21 (.int .i32 a) (.int .i32 b) = some (.bool (decide (a < b))) := by kernel_rfl
@[simp] theorem K7 (a b : Int) : bop prog .leq 21 (.int .i32 a) (.int .i32 b) = some (.bool (decide (a <= b))) := by kernel_rfl
@[simp] theorem zqf (a b : Int) : bop prog .gtr 21 (.int .i32 a) (.int .i32 b) = some (.bool (decide (a > b))) := by kernel_rfl
@[simp] theorem zg8 (a b : Int) : bop prog .geq 21 (.int .i32 a) (.int .i32 b) = some (.bool (decide (a ≥ b))) := by kernel_rfl
@[simp] theorem zqg (a b : Int) : bop prog .eql 21 (.int .i32 a) (.int .i32 b) = some (.bool (a == b)) := by kernel_rfl
@[simp] theorem zg9 (a b : Int) : bop prog .neq 21 (.int .i32 a) (.int .i32 b) = some (.bool (a != b)) := by kernel_rfl
@[simp] theorem zqh (a b : Int) : bop prog .add 21 (.int .i32 a) (.int .i32 b) = some (.int .i32 (IntKind.i32.wrap (a + b))) := by kernel_rfl
@[simp] theorem zha (a b : Int) : bop prog .sub 21 (.int .i32 a) (.int .i32 b) = some (.int .i32 (IntKind.i32.wrap (a - b))) := by kernel_rfl
@[simp] theorem zqI (a b : Int) : bop prog .lss 5 (.int .u8 a) (.int .u8 b) = some (.bool (decide (a < b))) := by kernel_rfl
@[simp] theorem zqJ (a b : Int) : bop prog .leq 5 (.int .u8 a) (.int .u8 b) = some (.bool (decide (a <= b))) := by kernel_rfl
@[simp] theorem zqK (a b : Int) : bop prog .gtr 5 (.int .u8 a) (.int .u8 b) = some (.bool (decide (a > b))) := by kernel_rfl
@[simp] theorem zqL (a b : Int) : bop prog .geq 5 (.int .u8 a) (.int .u8 b) = some (.bool (decide (a ≥ b))) := by kernel_rfl
@[simp] theorem QN (a b : Int) : bop prog .eql 5 (.int .u8 a) (.int .u8 b) = some (.bool (a == b)) := by kernel_rfl
@[simp] theorem zqM (a b : Int) : bop prog .neq 5 (.int .u8 a) (.int .u8 b) = some (.bool (a != b)) := by kernel_rfl
@[simp] theorem zjo (a b : Int) : bop prog .add 5 (.int .u8 a) (.int .u8 b) = some (.int .u8 (IntKind.u8.wrap (a + b))) := by kernel_rfl
@[simp] theorem zqN (a b : Int) : bop prog .sub 5 (.int .u8 a) (.int .u8 b) = some (.int .u8 (IntKind.u8.wrap (a - b))) := by kernel_rfl
@[simp] theorem Ki (b : Bool) : uop .not (.bool b) = some (.bool !b) := rfl
@[simp] theorem zpu (a b : Bool) : bop prog .eql 4 (.bool a) (.bool b) = some (.bool (a == b)) := by kernel_rfl
@[simp] theorem zrF (x : Int) : Q4 prog 35 [(0, .int .u8 2), (1, .int .i32 x)] = some [.int .u8 2, .int .i32 x] := by kernel_rfl
@[simp] theorem zrG : kds prog 12 3 = some [0] := by kernel_rfl
theorem w64 {n : Int} (h1 : -9223372036854775808 <= n) (h2 : n < 9223372036854775808) : IntKind.i64.wrap n = n := by rw [IntKind.wrap_i64]; omega
theorem w8 {n : Int} (h1 : 0 <= n) (h2 : n < 256) : IntKind.u8.wrap n = n := by rw [IntKind.wrap_u8]; omega
theorem Xv {k : Nat} (h : k < lim) : IntKind.i64.wrap ((k : Int) + 1) = ((k + 1 : Nat) : Int) := by unfold lim at h; rw [w64] <;> omega
@[simp] theorem zq6 {R : Type} (n : Nat) (cs : List V) (k : Nat -> List V -> Option R) : zrg (some (.box n cs)) k = k n cs := rfl
@[simp] theorem zex {R : Type} (es : List (V × V)) (k : List (V × V) -> Option R) : zg6 (some (.map es)) k = k es := rfl
@[simp] theorem zrk (k : IntKind) (n : Int) : V.free (.int k n) = true := rfl
@[simp] theorem zq7 (b : Bool) : V.free (.bool b) = true := rfl
@[simp] theorem zrl (v : Value) : V.free (.val v) = true := rfl
@[simp] theorem zrH (s : Nat) (l : List (List V)) (x : Bool) : V.free (.sl s l x) = V.free.freeLL l := rfl
@[simp] theorem zrm (l : List V) : V.free (.agg l) = V.free.freeL l := rfl
@[simp] theorem zq8 : V.free.freeL [] = true := rfl
@[simp] theorem zqO (v : V) (l : List V) : V.free.freeL (v :: l) = (v.free && V.free.freeL l) := rfl
@[simp] theorem zqP : V.free.freeLL [] = true := rfl
@[simp] theorem zhb (v : List V) (l : List (List V)) : V.free.freeLL (v :: l) = (V.free.freeL v && V.free.freeLL l) := rfl
theorem Ws {α : Type} (v : α -> List V) (hv : ∀ x, V.free.freeL (v x) = true) : ∀ l : List α, V.free.freeLL (l.map v) = true
 | [] => rfl
 | x :: l => by rw [zU, zhb, hv, Ws v hv l]; rfl
@[simp] theorem zq9 (k : IntKind) (l : List Int) : V.free.freeLL (l.map (Xf k)) = true := Ws _ (fun _ => rfl) l
@[simp] theorem zny (k : IntKind) (n : Int) : V.simple.simpleL [.int k n] = true := rfl
@[simp] theorem zmQ (b : Bool) : V.simple.simpleL [.bool b] = true := rfl
theorem WS {args : List V} {vs : List V} {h' h : zd} (ha : V.free.freeL args = true) (hv : V.free.freeL vs = true) : gcw args (some (.ret vs, h')) h = some (.ret vs, h) := by
 simp [gcw, ha, hv]
@[simp] theorem zcL (k : IntKind) (l : List Int) (n : Nat) : (l.map (Xf k))[n]? = (l[n]?).map (Xf k) := zI
end Go.Proofs.Tryz
namespace Go.Proofs.Tryz
open Go.L
set_option maxRecDepth 100000
noncomputable def zkL (n : Nat) (st1 : List V) (next3 : List V -> zd -> Option (Res × zd)) (st7 : List V) (hh8 : zd) (next9 : List V -> zd -> Option (Res × zd)) : Option (Res × zd) :=
 (bd (QC (V.sl 1 (lsl (gv st7 1)) false)) fun n10 =>
 (bdS (nv (gv st7 2)) fun n11 =>
 (bd (ZP 1 0 n11 (none : Option Nat) true (V.sl 1 (lsl (gv st7 1)) false)) fun v12 =>
 (bdS (ZW hh8 v12) fun p13 =>
 (if (55 = 55 /\ (p13.1 = 1 \/ (p13.2).isEmpty = true)) then
 (bd (app 3 1 (S.own 3 1 []) p13.2) fun l14 =>
 (bd (JD prog 55 1 [(0, (gv st1 2))]) fun p15 =>
 (bd (app 3 1 (S.own 3 1 l14) p15.2) fun l16 =>
 (bd (QC (V.sl 1 (lsl (gv st7 1)) false)) fun n17 =>
 (bdS (nv (gv st7 2)) fun n18 =>
 (bd (ZP 1 n18 n17 (none : Option Nat) true (V.sl 1 (lsl (gv st7 1)) false)) fun v19 =>
 (bdS (ZW hh8 v19) fun p20 =>
 (if (55 = 55 /\ (p20.1 = 1 \/ (p20.2).isEmpty = true)) then
 (bd (app 3 1 (S.own 3 1 l16) p20.2) fun l21 =>
 (bd (bop prog .add 3 (gv st1 2) (V.int .i64 1)) fun v22 =>
 (next3 [(V.sl 1 (lsl (gv st7 0)) false), (V.sl 1 l21 false), v22] hh8))) else none)))))))) else none)))))
noncomputable def qQ (n : Nat) (os : List (List V)) (st1 : List V) (hh2 : zd) (next3 : List V -> zd -> Option (Res × zd)) : Option (Res × zd) :=
 (bd (bop prog .lss 3 (gv st1 2) (V.int .i64 ((os).length : Int))) fun v4 =>
 (bv v4 fun b5 => if b5 then
 (zV n (zkL n st1 next3) [(V.sl 1 (lsl (gv st1 0)) false), (V.sl 1 (lsl (gv st1 1)) false), (V.int .i64 (((lsl (gv st1 1))).length : Int))] hh2)
 else
 some (Res.ret [(V.sl 1 (lsl (gv st1 1)) false)], hh2)))
noncomputable def zpv (n : Nat) (os : List (List V)) (osb : Bool) : Option (Res × zd) :=
 (zV n (qQ n os) [(V.sl 1 [] false), (V.sl 1 [] false), (V.int .i64 0)] [])
theorem zpw (n : Nat) (os : List (List V)) (osb : Bool) (h : zd) : call (n + 1) 64 [(V.int .u8 1), (V.sl 2 os osb)] h = gcw [(V.int .u8 1), (V.sl 2 os osb)] (zpv n os osb) h := by kernel_rfl
theorem zpx (n : Nat) (os : List (List V)) (osb : Bool) (h : zd) : call (n + 1) 64 [(V.int .u8 2), (V.sl 2 os osb)] h = gcw [(V.int .u8 2), (V.sl 2 os osb)] (zpv n os osb) h := by kernel_rfl
end Go.Proofs.Tryz
namespace Go.Proofs.Tryz
open Go.L
set_option maxRecDepth 100000
noncomputable def znz (n : Nat) (x0 : Int) (x1 : List (List V)) (x1b : Bool) (x2_0 : Int) (x2_1 : Int) (h : zd) : Option (Res × zd) :=
 (if (x2_0 == 1) then
 (cl (call n 129 [(V.int .i64 x0)] h) (fun r0 h1 =>
 (ZI r0 fun v3 =>
 (bd (bop prog .geq 3 (V.int .i64 ((x1).length : Int)) v3) fun v4 =>
 (bv v4 fun b5 => if b5 then
 some (Res.ret [(V.sl 1 x1 x1b), (V.agg [(V.int .u8 3), (V.int .i32 0)])], h1)
 else
 (if (x2_0 == 1) then
 (bd (app 21 1 (S.own 21 1 []) x1) fun l6 =>
 (bd (app 21 1 (S.own 21 1 l6) [[(V.int .i32 x2_1)]]) fun l7 =>
 some (Res.ret [(V.sl 1 l7 false), (V.agg [(V.int .u8 1), (V.int .i32 0)])], h1)))
 else
 (if (x2_0 == 2) then
 (if (decide (((x1).length : Int) > 0)) then
 (bd (QC (V.sl 1 x1 x1b)) fun n8 =>
 (bdS (nv (V.int .i64 (IntKind.i64.wrap (((x1).length : Int) - 1)))) fun n9 =>
 (bd (ZP 1 0 n9 (none : Option Nat) true (V.sl 1 x1 x1b)) fun v10 =>
 (bdS (ZW h1 v10) fun p11 =>
 (if (27 = 27 /\ (p11.1 = 1 \/ (p11.2).isEmpty = true)) then
 (bd (app 21 1 (S.own 21 1 []) p11.2) fun l12 =>
 (bdS (nv (V.int .i64 (IntKind.i64.wrap (((x1).length : Int) - 1)))) fun n13 =>
 (bd (ZK 1 n13 (V.sl 1 x1 x1b)) fun p14 =>
 (bd3 (zu h1 p14) fun cs16 m15 o17 => if (o17 + 1 <= m15 /\ 0 < 1) then
 (bd (cs16)[o17]? fun v18 =>
 (bd (Q4 prog 35 [(0, (V.int .u8 2)), (1, v18)]) fun cs19 =>
 (if (cs19).length = 2 then
 (if ((cs19).length <= 2) then
 some (Res.ret [(V.sl 1 l12 false), (V.agg (((setR [(V.int .u8 0), (V.int .i32 0)] 0 cs19)).drop 0 |>.take 2))], h1) else none) else none))) else none)))) else none)))))
 else
 (if (x2_0 == 2) then
 some (Res.ret [(V.sl 1 x1 x1b), (V.agg [(V.int .u8 4), (V.int .i32 0)])], h1)
 else
 some (Res.ret [(V.sl 1 x1 x1b), (V.agg [(V.int .u8 5), (V.int .i32 0)])], h1)))
 else
 (if (x2_0 == 2) then
 some (Res.ret [(V.sl 1 x1 x1b), (V.agg [(V.int .u8 4), (V.int .i32 0)])], h1)
 else
 some (Res.ret [(V.sl 1 x1 x1b), (V.agg [(V.int .u8 5), (V.int .i32 0)])], h1)))))))) (fun z2 h1 => some (Res.pan z2, h1)))
 else
 (if (x2_0 == 1) then
 (bd (app 21 1 (S.own 21 1 []) x1) fun l20 =>
 (bd (app 21 1 (S.own 21 1 l20) [[(V.int .i32 x2_1)]]) fun l21 =>
 some (Res.ret [(V.sl 1 l21 false), (V.agg [(V.int .u8 1), (V.int .i32 0)])], h)))
 else
 (if (x2_0 == 2) then
 (if (decide (((x1).length : Int) > 0)) then
 (bd (QC (V.sl 1 x1 x1b)) fun n22 =>
 (bdS (nv (V.int .i64 (IntKind.i64.wrap (((x1).length : Int) - 1)))) fun n23 =>
 (bd (ZP 1 0 n23 (none : Option Nat) true (V.sl 1 x1 x1b)) fun v24 =>
 (bdS (ZW h v24) fun p25 =>
 (if (27 = 27 /\ (p25.1 = 1 \/ (p25.2).isEmpty = true)) then
 (bd (app 21 1 (S.own 21 1 []) p25.2) fun l26 =>
 (bdS (nv (V.int .i64 (IntKind.i64.wrap (((x1).length : Int) - 1)))) fun n27 =>
 (bd (ZK 1 n27 (V.sl 1 x1 x1b)) fun p28 =>
 (bd3 (zu h p28) fun cs30 m29 o31 => if (o31 + 1 <= m29 /\ 0 < 1) then
 (bd (cs30)[o31]? fun v32 =>
 (bd (Q4 prog 35 [(0, (V.int .u8 2)), (1, v32)]) fun cs33 =>
 (if (cs33).length = 2 then
 (if ((cs33).length <= 2) then
 some (Res.ret [(V.sl 1 l26 false), (V.agg (((setR [(V.int .u8 0), (V.int .i32 0)] 0 cs33)).drop 0 |>.take 2))], h) else none) else none))) else none)))) else none)))))
 else
 (if (x2_0 == 2) then
 some (Res.ret [(V.sl 1 x1 x1b), (V.agg [(V.int .u8 4), (V.int .i32 0)])], h)
 else
 some (Res.ret [(V.sl 1 x1 x1b), (V.agg [(V.int .u8 5), (V.int .i32 0)])], h)))
 else
 (if (x2_0 == 2) then
 some (Res.ret [(V.sl 1 x1 x1b), (V.agg [(V.int .u8 4), (V.int .i32 0)])], h)
 else
 some (Res.ret [(V.sl 1 x1 x1b), (V.agg [(V.int .u8 5), (V.int .i32 0)])], h)))))
theorem zlY (n : Nat) (x0 : Int) (x1 : List (List V)) (x1b : Bool) (x2_0 : Int) (x2_1 : Int) (h : zd) : call (n + 1) 92 [(V.int .i64 x0), (V.sl 1 x1 x1b), (V.agg [(V.int .u8 x2_0), (V.int .i32 x2_1)])] h = znz n x0 x1 x1b x2_0 x2_1 h := by kernel_rfl
noncomputable def znA (n : Nat) (x0 : Int) (x1 : List (List V)) (x1b : Bool) (x2_0 : Int) (x2_1 : Int) (h : zd) : Option (Res × zd) :=
 (cl (call n 129 [(V.int .i64 x0)] h) (fun r0 h1 =>
 (ZI r0 fun v3 =>
 (bd (bop prog .geq 3 (V.int .i64 ((x1).length : Int)) v3) fun v4 =>
 (if (decide (x2_0 < 1)) then
 some (Res.ret [(V.sl 1 x1 x1b), (V.agg [(V.int .u8 5), (V.int .i32 0)])], h1)
 else
 (if (decide (x2_0 > 4)) then
 some (Res.ret [(V.sl 1 x1 x1b), (V.agg [(V.int .u8 5), (V.int .i32 0)])], h1)
 else
 (if (decide (x2_0 <= 2)) then
 (bv v4 fun b5 => if b5 then
 some (Res.ret [(V.sl 1 x1 x1b), (V.agg [(V.int .u8 3), (V.int .i32 0)])], h1)
 else
 (if (decide (x2_0 ≥ 3)) then
 (if (((x1).length : Int) == 0) then
 some (Res.ret [(V.sl 1 x1 x1b), (V.agg [(V.int .u8 4), (V.int .i32 0)])], h1)
 else
 (if (x2_0 == 1) then
 (bd (app 21 1 (S.own 21 1 []) [[(V.int .i32 x2_1)]]) fun l6 =>
 (bd (app 21 1 (S.own 21 1 l6) x1) fun l7 =>
 some (Res.ret [(V.sl 1 l7 false), (V.agg [(V.int .u8 1), (V.int .i32 0)])], h1)))
 else
 (if (x2_0 == 2) then
 (bd (app 21 1 (S.own 21 1 []) x1) fun l8 =>
 (bd (app 21 1 (S.own 21 1 l8) [[(V.int .i32 x2_1)]]) fun l9 =>
 some (Res.ret [(V.sl 1 l9 false), (V.agg [(V.int .u8 1), (V.int .i32 0)])], h1)))
 else
 (if (x2_0 == 3) then
 (bd (QC (V.sl 1 x1 x1b)) fun n10 =>
 (bd (ZP 1 1 n10 (none : Option Nat) true (V.sl 1 x1 x1b)) fun v11 =>
 (bdS (ZW h1 v11) fun p12 =>
 (if (27 = 27 /\ (p12.1 = 1 \/ (p12.2).isEmpty = true)) then
 (bd (app 21 1 (S.own 21 1 []) p12.2) fun l13 =>
 (bd (ZK 1 0 (V.sl 1 x1 x1b)) fun p14 =>
 (bd3 (zu h1 p14) fun cs16 m15 o17 => if (o17 + 1 <= m15 /\ 0 < 1) then
 (bd (cs16)[o17]? fun v18 =>
 (bd (Q4 prog 35 [(0, (V.int .u8 2)), (1, v18)]) fun cs19 =>
 (if (cs19).length = 2 then
 (if ((cs19).length <= 2) then
 some (Res.ret [(V.sl 1 l13 false), (V.agg (((setR [(V.int .u8 0), (V.int .i32 0)] 0 cs19)).drop 0 |>.take 2))], h1) else none) else none))) else none))) else none))))
 else
 (bd (QC (V.sl 1 x1 x1b)) fun n20 =>
 (bdS (nv (V.int .i64 (IntKind.i64.wrap (((x1).length : Int) - 1)))) fun n21 =>
 (bd (ZP 1 0 n21 (none : Option Nat) true (V.sl 1 x1 x1b)) fun v22 =>
 (bdS (ZW h1 v22) fun p23 =>
 (if (27 = 27 /\ (p23.1 = 1 \/ (p23.2).isEmpty = true)) then
 (bd (app 21 1 (S.own 21 1 []) p23.2) fun l24 =>
 (bdS (nv (V.int .i64 (IntKind.i64.wrap (((x1).length : Int) - 1)))) fun n25 =>
 (bd (ZK 1 n25 (V.sl 1 x1 x1b)) fun p26 =>
 (bd3 (zu h1 p26) fun cs28 m27 o29 => if (o29 + 1 <= m27 /\ 0 < 1) then
 (bd (cs28)[o29]? fun v30 =>
 (bd (Q4 prog 35 [(0, (V.int .u8 2)), (1, v30)]) fun cs31 =>
 (if (cs31).length = 2 then
 (if ((cs31).length <= 2) then
 some (Res.ret [(V.sl 1 l24 false), (V.agg (((setR [(V.int .u8 0), (V.int .i32 0)] 0 cs31)).drop 0 |>.take 2))], h1) else none) else none))) else none)))) else none)))))))))
 else
 (if (x2_0 == 1) then
 (bd (app 21 1 (S.own 21 1 []) [[(V.int .i32 x2_1)]]) fun l32 =>
 (bd (app 21 1 (S.own 21 1 l32) x1) fun l33 =>
 some (Res.ret [(V.sl 1 l33 false), (V.agg [(V.int .u8 1), (V.int .i32 0)])], h1)))
 else
 (if (x2_0 == 2) then
 (bd (app 21 1 (S.own 21 1 []) x1) fun l34 =>
 (bd (app 21 1 (S.own 21 1 l34) [[(V.int .i32 x2_1)]]) fun l35 =>
 some (Res.ret [(V.sl 1 l35 false), (V.agg [(V.int .u8 1), (V.int .i32 0)])], h1)))
 else
 (if (x2_0 == 3) then
 (bd (QC (V.sl 1 x1 x1b)) fun n36 =>
 (bd (ZP 1 1 n36 (none : Option Nat) true (V.sl 1 x1 x1b)) fun v37 =>
 (bdS (ZW h1 v37) fun p38 =>
 (if (27 = 27 /\ (p38.1 = 1 \/ (p38.2).isEmpty = true)) then
 (bd (app 21 1 (S.own 21 1 []) p38.2) fun l39 =>
 (bd (ZK 1 0 (V.sl 1 x1 x1b)) fun p40 =>
 (bd3 (zu h1 p40) fun cs42 m41 o43 => if (o43 + 1 <= m41 /\ 0 < 1) then
 (bd (cs42)[o43]? fun v44 =>
 (bd (Q4 prog 35 [(0, (V.int .u8 2)), (1, v44)]) fun cs45 =>
 (if (cs45).length = 2 then
 (if ((cs45).length <= 2) then
 some (Res.ret [(V.sl 1 l39 false), (V.agg (((setR [(V.int .u8 0), (V.int .i32 0)] 0 cs45)).drop 0 |>.take 2))], h1) else none) else none))) else none))) else none))))
 else
 (bd (QC (V.sl 1 x1 x1b)) fun n46 =>
 (bdS (nv (V.int .i64 (IntKind.i64.wrap (((x1).length : Int) - 1)))) fun n47 =>
 (bd (ZP 1 0 n47 (none : Option Nat) true (V.sl 1 x1 x1b)) fun v48 =>
 (bdS (ZW h1 v48) fun p49 =>
 (if (27 = 27 /\ (p49.1 = 1 \/ (p49.2).isEmpty = true)) then
 (bd (app 21 1 (S.own 21 1 []) p49.2) fun l50 =>
 (bdS (nv (V.int .i64 (IntKind.i64.wrap (((x1).length : Int) - 1)))) fun n51 =>
 (bd (ZK 1 n51 (V.sl 1 x1 x1b)) fun p52 =>
 (bd3 (zu h1 p52) fun cs54 m53 o55 => if (o55 + 1 <= m53 /\ 0 < 1) then
 (bd (cs54)[o55]? fun v56 =>
 (bd (Q4 prog 35 [(0, (V.int .u8 2)), (1, v56)]) fun cs57 =>
 (if (cs57).length = 2 then
 (if ((cs57).length <= 2) then
 some (Res.ret [(V.sl 1 l50 false), (V.agg (((setR [(V.int .u8 0), (V.int .i32 0)] 0 cs57)).drop 0 |>.take 2))], h1) else none) else none))) else none)))) else none))))))))))
 else
 (if (decide (x2_0 ≥ 3)) then
 (if (((x1).length : Int) == 0) then
 some (Res.ret [(V.sl 1 x1 x1b), (V.agg [(V.int .u8 4), (V.int .i32 0)])], h1)
 else
 (if (x2_0 == 1) then
 (bd (app 21 1 (S.own 21 1 []) [[(V.int .i32 x2_1)]]) fun l58 =>
 (bd (app 21 1 (S.own 21 1 l58) x1) fun l59 =>
 some (Res.ret [(V.sl 1 l59 false), (V.agg [(V.int .u8 1), (V.int .i32 0)])], h1)))
 else
 (if (x2_0 == 2) then
 (bd (app 21 1 (S.own 21 1 []) x1) fun l60 =>
 (bd (app 21 1 (S.own 21 1 l60) [[(V.int .i32 x2_1)]]) fun l61 =>
 some (Res.ret [(V.sl 1 l61 false), (V.agg [(V.int .u8 1), (V.int .i32 0)])], h1)))
 else
 (if (x2_0 == 3) then
 (bd (QC (V.sl 1 x1 x1b)) fun n62 =>
 (bd (ZP 1 1 n62 (none : Option Nat) true (V.sl 1 x1 x1b)) fun v63 =>
 (bdS (ZW h1 v63) fun p64 =>
 (if (27 = 27 /\ (p64.1 = 1 \/ (p64.2).isEmpty = true)) then
 (bd (app 21 1 (S.own 21 1 []) p64.2) fun l65 =>
 (bd (ZK 1 0 (V.sl 1 x1 x1b)) fun p66 =>
 (bd3 (zu h1 p66) fun cs68 m67 o69 => if (o69 + 1 <= m67 /\ 0 < 1) then
 (bd (cs68)[o69]? fun v70 =>
 (bd (Q4 prog 35 [(0, (V.int .u8 2)), (1, v70)]) fun cs71 =>
 (if (cs71).length = 2 then
 (if ((cs71).length <= 2) then
 some (Res.ret [(V.sl 1 l65 false), (V.agg (((setR [(V.int .u8 0), (V.int .i32 0)] 0 cs71)).drop 0 |>.take 2))], h1) else none) else none))) else none))) else none))))
 else
 (bd (QC (V.sl 1 x1 x1b)) fun n72 =>
 (bdS (nv (V.int .i64 (IntKind.i64.wrap (((x1).length : Int) - 1)))) fun n73 =>
 (bd (ZP 1 0 n73 (none : Option Nat) true (V.sl 1 x1 x1b)) fun v74 =>
 (bdS (ZW h1 v74) fun p75 =>
 (if (27 = 27 /\ (p75.1 = 1 \/ (p75.2).isEmpty = true)) then
 (bd (app 21 1 (S.own 21 1 []) p75.2) fun l76 =>
 (bdS (nv (V.int .i64 (IntKind.i64.wrap (((x1).length : Int) - 1)))) fun n77 =>
 (bd (ZK 1 n77 (V.sl 1 x1 x1b)) fun p78 =>
 (bd3 (zu h1 p78) fun cs80 m79 o81 => if (o81 + 1 <= m79 /\ 0 < 1) then
 (bd (cs80)[o81]? fun v82 =>
 (bd (Q4 prog 35 [(0, (V.int .u8 2)), (1, v82)]) fun cs83 =>
 (if (cs83).length = 2 then
 (if ((cs83).length <= 2) then
 some (Res.ret [(V.sl 1 l76 false), (V.agg (((setR [(V.int .u8 0), (V.int .i32 0)] 0 cs83)).drop 0 |>.take 2))], h1) else none) else none))) else none)))) else none)))))))))
 else
 (if (x2_0 == 1) then
 (bd (app 21 1 (S.own 21 1 []) [[(V.int .i32 x2_1)]]) fun l84 =>
 (bd (app 21 1 (S.own 21 1 l84) x1) fun l85 =>
 some (Res.ret [(V.sl 1 l85 false), (V.agg [(V.int .u8 1), (V.int .i32 0)])], h1)))
 else
 (if (x2_0 == 2) then
 (bd (app 21 1 (S.own 21 1 []) x1) fun l86 =>
 (bd (app 21 1 (S.own 21 1 l86) [[(V.int .i32 x2_1)]]) fun l87 =>
 some (Res.ret [(V.sl 1 l87 false), (V.agg [(V.int .u8 1), (V.int .i32 0)])], h1)))
 else
 (if (x2_0 == 3) then
 (bd (QC (V.sl 1 x1 x1b)) fun n88 =>
 (bd (ZP 1 1 n88 (none : Option Nat) true (V.sl 1 x1 x1b)) fun v89 =>
 (bdS (ZW h1 v89) fun p90 =>
 (if (27 = 27 /\ (p90.1 = 1 \/ (p90.2).isEmpty = true)) then
 (bd (app 21 1 (S.own 21 1 []) p90.2) fun l91 =>
 (bd (ZK 1 0 (V.sl 1 x1 x1b)) fun p92 =>
 (bd3 (zu h1 p92) fun cs94 m93 o95 => if (o95 + 1 <= m93 /\ 0 < 1) then
 (bd (cs94)[o95]? fun v96 =>
 (bd (Q4 prog 35 [(0, (V.int .u8 2)), (1, v96)]) fun cs97 =>
 (if (cs97).length = 2 then
 (if ((cs97).length <= 2) then
 some (Res.ret [(V.sl 1 l91 false), (V.agg (((setR [(V.int .u8 0), (V.int .i32 0)] 0 cs97)).drop 0 |>.take 2))], h1) else none) else none))) else none))) else none))))
 else
 (bd (QC (V.sl 1 x1 x1b)) fun n98 =>
 (bdS (nv (V.int .i64 (IntKind.i64.wrap (((x1).length : Int) - 1)))) fun n99 =>
 (bd (ZP 1 0 n99 (none : Option Nat) true (V.sl 1 x1 x1b)) fun v100 =>
 (bdS (ZW h1 v100) fun p101 =>
 (if (27 = 27 /\ (p101.1 = 1 \/ (p101.2).isEmpty = true)) then
 (bd (app 21 1 (S.own 21 1 []) p101.2) fun l102 =>
 (bdS (nv (V.int .i64 (IntKind.i64.wrap (((x1).length : Int) - 1)))) fun n103 =>
 (bd (ZK 1 n103 (V.sl 1 x1 x1b)) fun p104 =>
 (bd3 (zu h1 p104) fun cs106 m105 o107 => if (o107 + 1 <= m105 /\ 0 < 1) then
 (bd (cs106)[o107]? fun v108 =>
 (bd (Q4 prog 35 [(0, (V.int .u8 2)), (1, v108)]) fun cs109 =>
 (if (cs109).length = 2 then
 (if ((cs109).length <= 2) then
 some (Res.ret [(V.sl 1 l102 false), (V.agg (((setR [(V.int .u8 0), (V.int .i32 0)] 0 cs109)).drop 0 |>.take 2))], h1) else none) else none))) else none)))) else none))))))))))))))) (fun z2 h1 => some (Res.pan z2, h1)))
theorem zlZ (n : Nat) (x0 : Int) (x1 : List (List V)) (x1b : Bool) (x2_0 : Int) (x2_1 : Int) (h : zd) : call (n + 1) 93 [(V.int .i64 x0), (V.sl 1 x1 x1b), (V.agg [(V.int .u8 x2_0), (V.int .i32 x2_1)])] h = znA n x0 x1 x1b x2_0 x2_1 h := by kernel_rfl
noncomputable def zaH (n : Nat) (x0 : Int) (x1 : Int) (x2 : List (List V)) (x2b : Bool) (x3_0 : Int) (x3_1 : Int) : Option (Res × zd) :=
 (if (x0 == 1) then
 (cl (call n 92 [(V.int .i64 x1), (V.sl 1 x2 x2b), (V.agg [(V.int .u8 x3_0), (V.int .i32 x3_1)])] []) (fun r0 h1 =>
 (bd (r0)[0]? fun v3 =>
 (bd (r0)[1]? fun v4 =>
 (if ((V.cells v4)).length = 2 then
 (if (((V.cells v4)).length <= 2) then
 (if ((((setR [(V.int .u8 5), (V.int .i32 0)] 0 (V.cells v4))).drop 0 |>.take 2)).length = 2 then
 (if (((((setR [(V.int .u8 5), (V.int .i32 0)] 0 (V.cells v4))).drop 0 |>.take 2)).length <= 2) then
 some (Res.ret [v3, (V.agg (((setR [(V.int .u8 0), (V.int .i32 0)] 0 (((setR [(V.int .u8 5), (V.int .i32 0)] 0 (V.cells v4))).drop 0 |>.take 2))).drop 0 |>.take 2))], h1) else none) else none) else none) else none)))) (fun z2 h1 => some (Res.pan z2, h1)))
 else
 (if (x0 == 2) then
 (cl (call n 93 [(V.int .i64 x1), (V.sl 1 x2 x2b), (V.agg [(V.int .u8 x3_0), (V.int .i32 x3_1)])] []) (fun r5 h6 =>
 (bd (r5)[0]? fun v8 =>
 (bd (r5)[1]? fun v9 =>
 (if ((V.cells v9)).length = 2 then
 (if (((V.cells v9)).length <= 2) then
 (if ((((setR [(V.int .u8 5), (V.int .i32 0)] 0 (V.cells v9))).drop 0 |>.take 2)).length = 2 then
 (if (((((setR [(V.int .u8 5), (V.int .i32 0)] 0 (V.cells v9))).drop 0 |>.take 2)).length <= 2) then
 some (Res.ret [v8, (V.agg (((setR [(V.int .u8 0), (V.int .i32 0)] 0 (((setR [(V.int .u8 5), (V.int .i32 0)] 0 (V.cells v9))).drop 0 |>.take 2))).drop 0 |>.take 2))], h6) else none) else none) else none) else none)))) (fun z7 h6 => some (Res.pan z7, h6)))
 else
 (if (x0 == 3) then
 (cl (call n 94 [(V.int .i64 x1), (V.sl 1 x2 x2b), (V.agg [(V.int .u8 x3_0), (V.int .i32 x3_1)])] []) (fun r10 h11 =>
 (bd (r10)[0]? fun v13 =>
 (bd (r10)[1]? fun v14 =>
 (if ((V.cells v14)).length = 2 then
 (if (((V.cells v14)).length <= 2) then
 (if ((((setR [(V.int .u8 5), (V.int .i32 0)] 0 (V.cells v14))).drop 0 |>.take 2)).length = 2 then
 (if (((((setR [(V.int .u8 5), (V.int .i32 0)] 0 (V.cells v14))).drop 0 |>.take 2)).length <= 2) then
 some (Res.ret [v13, (V.agg (((setR [(V.int .u8 0), (V.int .i32 0)] 0 (((setR [(V.int .u8 5), (V.int .i32 0)] 0 (V.cells v14))).drop 0 |>.take 2))).drop 0 |>.take 2))], h11) else none) else none) else none) else none)))) (fun z12 h11 => some (Res.pan z12, h11)))
 else
 some (Res.ret [(V.sl 1 x2 x2b), (V.agg [(V.int .u8 5), (V.int .i32 0)])], []))))
theorem zfy (n : Nat) (x0 : Int) (x1 : Int) (x2 : List (List V)) (x2b : Bool) (x3_0 : Int) (x3_1 : Int) (h : zd) : call (n + 1) 63 [(V.int .u8 x0), (V.int .i64 x1), (V.sl 1 x2 x2b), (V.agg [(V.int .u8 x3_0), (V.int .i32 x3_1)])] h = gcw [(V.int .u8 x0), (V.int .i64 x1), (V.sl 1 x2 x2b), (V.agg [(V.int .u8 x3_0), (V.int .i32 x3_1)])] (zaH n x0 x1 x2 x2b x3_0 x3_1) h := by kernel_rfl
noncomputable def J1 (n : Nat) (x0 : Int) (x1 : Int) (x3 : List (List V)) (x3b : Bool) (v5 : V) (st7 : List V) (hh8 : zd) (next9 : List V -> zd -> Option (Res × zd)) : Option (Res × zd) :=
 (bd (ZW hh8 v5) fun p10 =>
 (bd (bop prog .lss 3 (gv st7 4) (V.int .i64 ((p10.2).length : Int))) fun v11 =>
 (bv v11 fun b12 => if b12 then
 (bdS (nv (gv st7 4)) fun n13 =>
 (bd (ZK 1 n13 v5) fun p14 =>
 (bd3 (zu hh8 p14) fun cs16 m15 o17 => if (o17 + 1 <= m15 /\ 0 < 1) then
 (bd (cs16)[o17]? fun v18 =>
 (bdS (nv v18) fun n19 =>
 (bd (ZK 2 n19 (V.sl 2 x3 x3b)) fun p20 =>
 (bd3 (zu hh8 p20) fun cs22 m21 o23 => if (o23 + 2 <= m21 /\ 0 < 2) then
 (cl (call n 63 [(V.int .u8 x0), (V.int .i64 x1), (gv st7 0), (V.agg ((cs22).drop o23 |>.take 2))] hh8) (fun r24 h25 =>
 (bd (r24)[0]? fun v27 =>
 (bd (r24)[1]? fun v28 =>
 (if ((V.cells v28)).length = 2 then
 (if (((V.cells v28)).length <= 2) then
 (bdS (nv (gv st7 4)) fun n29 =>
 (bd (ZK 1 n29 v5) fun p30 =>
 (bd3 (zu h25 p30) fun cs32 m31 o33 => if (o33 + 1 <= m31 /\ 0 < 1) then
 (bd (cs32)[o33]? fun v34 =>
 (bdS (nv v34) fun n35 =>
 (if (2 = 2 /\ n35 < ((lsl (gv st7 3))).length /\ (some 48 : Option Nat) ≠ some 10) then
 (if ((((setR [(V.int .u8 0), (V.int .i32 0)] 0 (V.cells v28))).drop 0 |>.take 2)).length = 2 then
 (if (2 = 2 /\ 0 < 2 /\ 0 + ((((setR [(V.int .u8 0), (V.int .i32 0)] 0 (V.cells v28))).drop 0 |>.take 2)).length <= 2) then
 (bd ((lsl (gv st7 3)))[n35]? fun es36 =>
 (bd (bop prog .add 3 (gv st7 4) (V.int .i64 1)) fun v37 =>
 (next9 [v27, (V.sl 1 (lsl (gv st7 1)) false), (V.sl 2 (lsl (gv st7 2)) false), (V.sl 2 (((lsl (gv st7 3))).set n35 (setR es36 0 (((setR [(V.int .u8 0), (V.int .i32 0)] 0 (V.cells v28))).drop 0 |>.take 2))) false), v37, (V.bool false)] h25))) else none) else none) else none))) else none))) else none) else none)))) (fun z26 h25 => some (Res.pan z26, h25))) else none)))) else none)))
 else
 some (Res.ret [(gv st7 0), (V.sl 2 (lsl (gv st7 3)) false)], hh8))))
noncomputable def zaI (n : Nat) (x0 : Int) (x1 : Int) (x2 : List (List V)) (x2b : Bool) (x3 : List (List V)) (x3b : Bool) : Option (Res × zd) :=
 (bdS (nv (V.int .i64 ((x3).length : Int))) fun n0 =>
 (bdS (nv (V.int .i64 ((x3).length : Int))) fun n1 =>
 (if (n0 <= n1 /\ n1 < lim /\ 2 = 2) then
 (cl (call n 64 [(V.int .u8 x0), (V.sl 2 x3 x3b)] []) (fun r2 h3 =>
 (ZI r2 fun v5 =>
 (zV n (J1 n x0 x1 x3 x3b v5) [(V.sl 1 x2 x2b), (V.sl 1 [] false), (V.sl 2 [] false), (V.sl 2 (List.replicate n0 [(V.int .u8 0), (V.int .i32 0)]) false), (V.int .i64 0), (V.bool false)] h3))) (fun z4 h3 => some (Res.pan z4, h3))) else none)))
theorem zfz (n : Nat) (x0 : Int) (x1 : Int) (x2 : List (List V)) (x2b : Bool) (x3 : List (List V)) (x3b : Bool) (h : zd) : call (n + 1) 22 [(V.int .u8 x0), (V.int .i64 x1), (V.sl 1 x2 x2b), (V.sl 2 x3 x3b)] h = gcw [(V.int .u8 x0), (V.int .i64 x1), (V.sl 1 x2 x2b), (V.sl 2 x3 x3b)] (zaI n x0 x1 x2 x2b x3 x3b) h := by kernel_rfl
noncomputable def Jx (n : Nat) (x0 : Int) (x1 : Int) (v3 : V) (v21 : V) (st23 : List V) (hh24 : zd) (next25 : List V -> zd -> Option (Res × zd)) : Option (Res × zd) :=
 (bd (ZW hh24 v21) fun p26 =>
 (bd (bop prog .lss 3 (gv st23 2) (V.int .i64 ((p26.2).length : Int))) fun v27 =>
 (bv v27 fun b28 => if b28 then
 (bdS (nv (gv st23 2)) fun n29 =>
 (bd (ZK 3 n29 v21) fun p30 =>
 (bd (ZU 2 p30) fun p31 =>
 (bd3 (zu hh24 p31) fun cs33 m32 o34 => if (o34 + 1 <= m32 /\ 0 < 1) then
 (bd (cs33)[o34]? fun v35 =>
 (cl (call n 22 [(V.int .u8 (IntKind.u8.wrap (1 + (Int.tmod x0 3)))), (V.int .i64 (IntKind.i64.wrap (Int.tmod x1 12))), (gv st23 1), v35] hh24) (fun r36 h37 =>
 (bd (r36)[0]? fun v39 =>
 (bd (r36)[1]? fun v40 =>
 (bdS (nv (gv st23 2)) fun n41 =>
 (bd (ZK 3 n41 v21) fun p42 =>
 (bd (ZU 1 p42) fun p43 =>
 (bd3 (zu h37 p43) fun cs45 m44 o46 => if (o46 + 1 <= m44 /\ 0 < 1) then
 (bd (cs45)[o46]? fun v47 =>
 (cl (call n 23 [v3, v47] h37) (fun r48 h49 =>
 (bdS (nv (gv st23 2)) fun n51 =>
 (bd (ZK 3 n51 v21) fun p52 =>
 (bd (ZU 2 p52) fun p53 =>
 (bd3 (zu h49 p53) fun cs55 m54 o56 => if (o56 + 1 <= m54 /\ 0 < 1) then
 (bd (cs55)[o56]? fun v57 =>
 (cl (call n 17 [v3, v57] h49) (fun r58 h59 =>
 (ZI r58 fun v61 =>
 (cl (call n 24 [v61, v40] h59) (fun r62 h63 =>
 (ZI r62 fun v65 =>
 (bd (uop .not v65) fun v66 =>
 (bv v66 fun b67 => if b67 then
 some (Res.ret [(V.bool false)], h63)
 else
 (cl (call n 20 [v3] h63) (fun r68 h69 =>
 (ZI r68 fun v71 =>
 (cl (call n 19 [v71, v39] h69) (fun r72 h73 =>
 (ZI r72 fun v75 =>
 (bd (uop .not v75) fun v76 =>
 (bv v76 fun b77 => if b77 then
 some (Res.ret [(V.bool false)], h73)
 else
 (bd (bop prog .add 3 (gv st23 2) (V.int .i64 1)) fun v78 =>
 (next25 [(gv st23 0), v39, v78] h73)))))) (fun z74 h73 => some (Res.pan z74, h73))))) (fun z70 h69 => some (Res.pan z70, h69))))))) (fun z64 h63 => some (Res.pan z64, h63))))) (fun z60 h59 => some (Res.pan z60, h59)))) else none))))) (fun z50 h49 => some (Res.pan z50, h49)))) else none))))))) (fun z38 h37 => some (Res.pan z38, h37)))) else none))))
 else
 (cl (call n 18 [] hh24) (fun r79 h80 =>
 (ZI r79 fun v82 =>
 some (Res.ret [v82], h80))) (fun z81 h80 => some (Res.pan z81, h80))))))
noncomputable def zaJ (n : Nat) (x0 : Int) (x1 : Int) (x2 : List (List V)) (x2b : Bool) (x3 : Bool) : Option (Res × zd) :=
 (cl (call n 15 [(V.int .u8 (IntKind.u8.wrap (1 + (Int.tmod x0 3)))), (V.int .i64 (IntKind.i64.wrap (Int.tmod x1 12))), (V.bool x3)] []) (fun r0 h1 =>
 (ZI r0 fun v3 =>
 (bd (Qo prog h1 .eql 25 v3 (V.val (.pointer none))) fun v4 =>
 (bv v4 fun b5 => if b5 then
 (bd (Qo prog h1 .neq 25 v3 (V.val (.pointer none))) fun v6 =>
 (bv v6 fun b7 => if b7 then
 (cl (call n 18 [] h1) (fun r8 h9 =>
 (ZI r8 fun v11 =>
 some (Res.ret [v11], h9))) (fun z10 h9 => some (Res.pan z10, h9)))
 else
 some (Res.ret [(V.bool false)], h1)))
 else
 (if (decide (((x2).length : Int) > 100)) then
 (bd (Qo prog h1 .neq 25 v3 (V.val (.pointer none))) fun v12 =>
 (bv v12 fun b13 => if b13 then
 (cl (call n 18 [] h1) (fun r14 h15 =>
 (ZI r14 fun v17 =>
 some (Res.ret [v17], h15))) (fun z16 h15 => some (Res.pan z16, h15)))
 else
 some (Res.ret [(V.bool false)], h1)))
 else
 (cl (call n 21 [(V.sl 1 x2 x2b)] h1) (fun r18 h19 =>
 (ZI r18 fun v21 =>
 (zV n (Jx n x0 x1 v3 v21) [(V.bool false), (V.sl 1 [] false), (V.int .i64 0)] h19))) (fun z20 h19 => some (Res.pan z20, h19)))))))) (fun z2 h1 => some (Res.pan z2, h1)))
theorem zfA (n : Nat) (x0 : Int) (x1 : Int) (x2 : List (List V)) (x2b : Bool) (x3 : Bool) (h : zd) : call (n + 1) 4 [(V.int .u8 x0), (V.int .u8 x1), (V.sl 1 x2 x2b), (V.bool x3)] h = gcw [(V.int .u8 x0), (V.int .u8 x1), (V.sl 1 x2 x2b), (V.bool x3)] (zaJ n x0 x1 x2 x2b x3) h := by kernel_rfl
noncomputable def JL (n : Nat) (x0 : List (List V)) (x0b : Bool) (st1 : List V) (hh2 : zd) (next3 : List V -> zd -> Option (Res × zd)) : Option (Res × zd) :=
 (bd (bop prog .lss 3 (gv st1 2) (V.int .i64 ((x0).length : Int))) fun v4 =>
 (bv v4 fun b5 => if b5 then
 (if (decide ((((lsl (gv st1 1))).length : Int) < 20)) then
 (bdS (nv (gv st1 2)) fun n6 =>
 (bd (ZK 1 n6 (V.sl 1 x0 x0b)) fun p7 =>
 (bd ((esP p7))[0]? fun v8 =>
 (bd (bop prog .add 3 (gv st1 2) (V.int .i64 1)) fun v9 =>
 (bdS (nv (gv st1 2)) fun n10 =>
 (bd (ZK 1 n10 (V.sl 1 x0 x0b)) fun p11 =>
 (bd ((esP p11))[0]? fun v12 =>
 (bd (bop prog .rem 5 v12 (V.int .u8 9)) fun v13 =>
 (bd (cvt prog 5 3 v13) fun v14 =>
 (bd (bop prog .add 3 v9 v14) fun v15 =>
 (bd (jV [(some (V.int .i64 ((x0).length : Int))), (YC hh2 v15)]) fun a16 => bd (mm false a16) fun v17 =>
 (bd (QC (V.sl 1 x0 x0b)) fun n18 =>
 (bdS (nv (gv st1 2)) fun n19 =>
 (bdS (nv v17) fun n20 =>
 (bd (ZP 1 n19 n20 (none : Option Nat) true (V.sl 1 x0 x0b)) fun v21 =>
 (clH (call n 14 [v21, (V.int .u8 5)] hh2) fun r22 h23 =>
 (ZI r22 fun v25 =>
 (bd (Q4 prog 43 [(0, v8), (2, v25)]) fun cs26 =>
 (if (cs26).length = 3 then
 (if ((cs26).length <= 3) then
 (bd ((setR [(V.int .u8 0), (V.sl 0 [] true), (V.sl 0 [] true)] 0 cs26))[1]? fun v27 =>
 (bdS (nv (gv st1 2)) fun n28 =>
 (bd (ZK 1 n28 (V.sl 1 x0 x0b)) fun p29 =>
 (bd ((esP p29))[0]? fun v30 =>
 (bd (JD prog 22 1 [(0, v30)]) fun p31 =>
 (bd (app 5 1 (S.v v27) p31.2) fun l32 =>
 (bd (JD prog 40 1 [(0, (V.agg (((setR (setR [(V.int .u8 0), (V.sl 0 [] true), (V.sl 0 [] true)] 0 cs26) 1 [(V.sl 1 l32 false)])).drop 0 |>.take 3)))]) fun p33 =>
 (bd (app 43 3 (S.own 43 3 (lsl (gv st1 1))) p33.2) fun l34 =>
 (bd (bop prog .add 3 (gv st1 2) (V.int .i64 3)) fun v35 =>
 (next3 [(V.sl 3 (lsl (gv st1 0)) false), (V.sl 3 l34 false), v35] h23)))))))))) else none) else none)))))))))))))))))))
 else
 some (Res.ret [(V.sl 3 (lsl (gv st1 1)) false)], hh2))
 else
 some (Res.ret [(V.sl 3 (lsl (gv st1 1)) false)], hh2)))
noncomputable def znB (n : Nat) (x0 : List (List V)) (x0b : Bool) (h : zd) : Option (Res × zd) :=
 (zV n (JL n x0 x0b) [(V.sl 3 [] false), (V.sl 3 [] false), (V.int .i64 0)] h)
theorem zhc (n : Nat) (x0 : List (List V)) (x0b : Bool) (h : zd) : call (n + 1) 21 [(V.sl 1 x0 x0b)] h = znB n x0 x0b h := by kernel_rfl
end Go.Proofs.Tryz
namespace Go.Proofs.Tryz
open Go.L
set_option maxRecDepth 100000
noncomputable def zqQ (n : Nat) (x0 : Int) (h : zd) : Option (Res × zd) :=
 some (Res.ret [(V.ptr (h).length 0)], (h ++ [(HB.box 2 [(V.sl 0 [] true), (V.int .i64 (if 0 < (if 1000 < x0 then 1000 else x0) then (if 1000 < x0 then 1000 else x0) else 0))])]))
theorem zl0 (n : Nat) (x0 : Int) (h : zd) : call (n + 1) 57 [(V.int .i64 x0)] h = zqQ n x0 h := by kernel_rfl
noncomputable def zfB (n : Nat) (s : Nat) (x : Int) (h : zd) : Option (Res × zd) :=
 (cl (call n 180 [(V.ptr s 0), (V.int .i32 x)] h) (fun r0 h1 =>
 (ZI r0 fun v3 =>
 (bv v3 fun b4 => if b4 then
 some (Res.ret [(V.agg [(V.int .u8 1), (V.int .i32 0)])], h1)
 else
 some (Res.ret [(V.agg [(V.int .u8 3), (V.int .i32 0)])], h1)))) (fun z2 h1 => some (Res.pan z2, h1)))
theorem zcM (n : Nat) (s : Nat) (x : Int) (h : zd) : call (n + 1) 189 [(V.ptr s 0), (V.int .i32 x)] h = zfB n s x h := by kernel_rfl
noncomputable def zjp (n : Nat) (s : Nat) (h : zd) : Option (Res × zd) :=
 (cl (call n 184 [(V.ptr s 0)] h) (fun r0 h1 =>
 (bd (r0)[0]? fun v3 =>
 (bd (r0)[1]? fun v4 =>
 (bv v4 fun b5 => if b5 then
 (bd (Q4 prog 35 [(0, (V.int .u8 2)), (1, v3)]) fun cs6 =>
 (if (cs6).length = 2 then
 (if ((cs6).length <= 2) then
 some (Res.ret [(V.agg (((setR [(V.int .u8 0), (V.int .i32 0)] 0 cs6)).drop 0 |>.take 2))], h1) else none) else none))
 else
 some (Res.ret [(V.agg [(V.int .u8 4), (V.int .i32 0)])], h1))))) (fun z2 h1 => some (Res.pan z2, h1)))
noncomputable def zfC (n : Nat) (s : Nat) (x : Int) (h : zd) : Option (Res × zd) :=
 (bd (Qo prog h .eql 109 (V.ptr s 0) (V.val (.pointer none))) fun v0 =>
 (bv v0 fun b1 => if b1 then
 some (Res.ret [(V.bool false)], h)
 else
 (bd3 (zu h (V.ptr s 0)) fun cs3 m2 o4 => if (o4 + 1 <= m2 /\ 0 < 1) then
 (bd (cs3)[o4]? fun v5 =>
 (bd (ZW h v5) fun p6 =>
 (bd3 (zu h (V.ptr s 1)) fun cs8 m7 o9 => if (o9 + 1 <= m7 /\ 0 < 1) then
 (bd (cs8)[o9]? fun v10 =>
 (bd (bop prog .geq 3 (V.int .i64 ((p6.2).length : Int)) v10) fun v11 =>
 (bv v11 fun b12 => if b12 then
 some (Res.ret [(V.bool false)], h)
 else
 (bd3 (zu h (V.ptr s 0)) fun cs14 m13 o15 => if (o15 + 1 <= m13 /\ 0 < 1) then
 (bd (cs14)[o15]? fun v16 =>
 (bd2 (Wa 21 1 h [[(V.int .i32 x)]] v16) fun v17 h18 =>
 (if ((V.cells v17)).length = 1 then
 (bd2 (Zs h18 (V.cells v17) (V.ptr s 0)) fun b19 x20 =>
 some (Res.ret [(V.bool true)], ((h18).set b19 x20))) else none))) else none)))) else none))) else none)))
theorem zcN (n : Nat) (s : Nat) (x : Int) (h : zd) : call (n + 1) 180 [(V.ptr s 0), (V.int .i32 x)] h = zfC n s x h := by kernel_rfl
noncomputable def zjq (n : Nat) (s : Nat) (h : zd) : Option (Res × zd) :=
 (cl (call n 169 [(V.ptr s 0)] h) (fun r0 h1 =>
 (ZI r0 fun v3 =>
 (bd (bop prog .eql 3 v3 (V.int .i64 0)) fun v4 =>
 (bv v4 fun b5 => if b5 then
 some (Res.ret [(V.int .i32 0), (V.bool false)], h1)
 else
 (bd3 (zu h1 (V.ptr s 0)) fun cs7 m6 o8 => if (o8 + 1 <= m6 /\ 0 < 1) then
 (bd (cs7)[o8]? fun v9 =>
 (bd (ZW h1 v9) fun p10 =>
 (bd3 (zu h1 (V.ptr s 0)) fun cs12 m11 o13 => if (o13 + 1 <= m11 /\ 0 < 1) then
 (bd (cs12)[o13]? fun v14 =>
 (bdS (nv (V.int .i64 (IntKind.i64.wrap (((p10.2).length : Int) - 1)))) fun n15 =>
 (bd (ZK 1 n15 v14) fun p16 =>
 (bd3 (zu h1 p16) fun cs18 m17 o19 => if (o19 + 1 <= m17 /\ 0 < 1) then
 (bd (cs18)[o19]? fun v20 =>
 (bd3 (zu h1 (V.ptr s 0)) fun cs22 m21 o23 => if (o23 + 1 <= m21 /\ 0 < 1) then
 (bd (cs22)[o23]? fun v24 =>
 (bd (QC v24) fun n25 =>
 (bdS (nv (V.int .i64 (IntKind.i64.wrap (((p10.2).length : Int) - 1)))) fun n26 =>
 (bd (ZP 1 0 n26 (none : Option Nat) true v24) fun v27 =>
 (if ((V.cells v27)).length = 1 then
 (bd2 (Zs h1 (V.cells v27) (V.ptr s 0)) fun b28 x29 =>
 some (Res.ret [v20, (V.bool true)], ((h1).set b28 x29))) else none))))) else none)) else none)))) else none))) else none))))) (fun z2 h1 => some (Res.pan z2, h1)))
theorem zey (n : Nat) (s : Nat) (h : zd) : call (n + 1) 184 [(V.ptr s 0)] h = zjq n s h := by kernel_rfl
noncomputable def zhd (n : Nat) (s : Nat) (h : zd) : Option (Res × zd) :=
 (bd (Qo prog h .eql 109 (V.ptr s 0) (V.val (.pointer none))) fun v0 =>
 (bv v0 fun b1 => if b1 then
 some (Res.ret [(V.sl 1 [] false)], h)
 else
 (bd3 (zu h (V.ptr s 0)) fun cs3 m2 o4 => if (o4 + 1 <= m2 /\ 0 < 1) then
 (bd (cs3)[o4]? fun v5 =>
 (bd (ZW h v5) fun p6 =>
 (if ((p6.1 = 1 \/ (p6.2).isEmpty = true) /\ (p6.2).length < lim) then
 some (Res.ret [(V.sl 1 p6.2 false)], h) else none))) else none)))
theorem zhe (n : Nat) (s : Nat) (h : zd) : call (n + 1) 168 [(V.ptr s 0)] h = zhd n s h := by kernel_rfl
noncomputable def znC (n : Nat) (s : Nat) (h : zd) : Option (Res × zd) :=
 (bd (Qo prog h .eql 109 (V.ptr s 0) (V.val (.pointer none))) fun v0 =>
 (bv v0 fun b1 => if b1 then
 some (Res.ret [(V.int .i64 0)], h)
 else
 (bd3 (zu h (V.ptr s 0)) fun cs3 m2 o4 => if (o4 + 1 <= m2 /\ 0 < 1) then
 (bd (cs3)[o4]? fun v5 =>
 (bd (ZW h v5) fun p6 =>
 some (Res.ret [(V.int .i64 ((p6.2).length : Int))], h))) else none)))
theorem zl1 (n : Nat) (s : Nat) (h : zd) : call (n + 1) 169 [(V.ptr s 0)] h = znC n s h := by kernel_rfl
noncomputable def zkM (n : Nat) (s : Nat) (h : zd) : Option (Res × zd) :=
 (bd (Qo prog h .eql 109 (V.ptr s 0) (V.val (.pointer none))) fun v0 =>
 (bv v0 fun b1 => if b1 then
 some (Res.ret [(V.int .i64 0)], h)
 else
 (bd3 (zu h (V.ptr s 1)) fun cs3 m2 o4 => if (o4 + 1 <= m2 /\ 0 < 1) then
 (bd (cs3)[o4]? fun v5 =>
 some (Res.ret [v5], h)) else none)))
theorem zjr (n : Nat) (s : Nat) (h : zd) : call (n + 1) 178 [(V.ptr s 0)] h = zkM n s h := by kernel_rfl
noncomputable def znD (n : Nat) (s : Nat) (x : Int) (h : zd) : Option (Res × zd) :=
 (if (decide (0 ≥ 3)) then
 some (Res.ret [(V.agg [(V.int .u8 5), (V.int .i32 0)])], h)
 else
 some (Res.ret [(V.agg [(V.int .u8 5), (V.int .i32 0)])], h))
theorem zl2 (n : Nat) (s : Nat) (x : Int) (h : zd) : call (n + 2) 177 [(V.ptr s 0), (V.agg [(V.int .u8 0), (V.int .i32 x)])] h = znD (n + 1) s x h := by kernel_rfl
noncomputable def zjs (n : Nat) (s : Nat) (x : Int) (h : zd) : Option (Res × zd) :=
 (if (decide (1 ≥ 3)) then
 some (Res.ret [(V.agg [(V.int .u8 5), (V.int .i32 0)])], h)
 else
 (cl (call n 189 [(V.ptr s 0), (V.int .i32 x)] h) (fun r3 h4 =>
 (ZI r3 fun v6 =>
 (if ((V.cells v6)).length = 2 then
 (if (((V.cells v6)).length <= 2) then
 some (Res.ret [(V.agg (((setR [(V.int .u8 0), (V.int .i32 0)] 0 (V.cells v6))).drop 0 |>.take 2))], h4) else none) else none))) (fun z5 h4 => none)))
theorem zez (n : Nat) (s : Nat) (x : Int) (h : zd) : call (n + 2) 177 [(V.ptr s 0), (V.agg [(V.int .u8 1), (V.int .i32 x)])] h = zjs (n + 1) s x h := by kernel_rfl
noncomputable def zjt (n : Nat) (s : Nat) (x : Int) (h : zd) : Option (Res × zd) :=
 (if (decide (2 ≥ 3)) then
 some (Res.ret [(V.agg [(V.int .u8 5), (V.int .i32 0)])], h)
 else
 (cl (call n 190 [(V.ptr s 0), (V.int .i32 x)] h) (fun r3 h4 =>
 (ZI r3 fun v6 =>
 (if ((V.cells v6)).length = 2 then
 (if (((V.cells v6)).length <= 2) then
 some (Res.ret [(V.agg (((setR [(V.int .u8 0), (V.int .i32 0)] 0 (V.cells v6))).drop 0 |>.take 2))], h4) else none) else none))) (fun z5 h4 => none)))
theorem zeA (n : Nat) (s : Nat) (x : Int) (h : zd) : call (n + 2) 177 [(V.ptr s 0), (V.agg [(V.int .u8 2), (V.int .i32 x)])] h = zjt (n + 1) s x h := by kernel_rfl
end Go.Proofs.Tryz
namespace Go.Proofs.Tryz
open Go.L
set_option maxRecDepth 100000
noncomputable def zpy (n : Nat) (h : zd) : Option (Res × zd) :=
 some (Res.ret [(V.ptr (h).length 0)], (h ++ [(HB.box 1 [(V.sl 0 [] true)])]))
theorem zju (n : Nat) (h : zd) : call (n + 1) 62 [] h = zpy n h := by kernel_rfl
noncomputable def zhf (n : Nat) (c : Nat) (h : zd) : Option (Res × zd) :=
 (bd (Qo prog h .eql 122 (V.ptr c 0) (V.val (.pointer none))) fun v0 =>
 (bv v0 fun b1 => if b1 then
 some (Res.ret [(V.int .i64 0)], h)
 else
 (bd3 (zu h (V.ptr c 0)) fun cs3 m2 o4 => if (o4 + 1 <= m2 /\ 0 < 1) then
 (bd (cs3)[o4]? fun v5 =>
 (bd (ZW h v5) fun p6 =>
 some (Res.ret [(V.int .i64 ((p6.2).length : Int))], h))) else none)))
theorem zhg (n : Nat) (c : Nat) (h : zd) : call (n + 1) 243 [(V.ptr c 0)] h = zhf n c h := by kernel_rfl
noncomputable def zhh (n : Nat) (c : Nat) (h : zd) : Option (Res × zd) :=
 (cl (call n 243 [(V.ptr c 0)] h) (fun r0 h1 =>
 (ZI r0 fun v3 =>
 (bd (bop prog .eql 3 v3 (V.int .i64 0)) fun v4 =>
 (bv v4 fun b5 => if b5 then
 some (Res.ret [(V.bool false)], h1)
 else
 (bd3 (zu h1 (V.ptr c 0)) fun cs7 m6 o8 => if (o8 + 1 <= m6 /\ 0 < 1) then
 (bd (cs7)[o8]? fun v9 =>
 (bd (ZK 1 0 v9) fun p10 =>
 (bd3 (zu h1 p10) fun cs12 m11 o13 => if (o13 + 1 <= m11 /\ 0 < 1) then
 (bd (cs12)[o13]? fun v14 =>
 (bd3 (zu h1 (V.ptr c 0)) fun cs16 m15 o17 => if (o17 + 1 <= m15 /\ 0 < 1) then
 (bd (cs16)[o17]? fun v18 =>
 (bd (QC v18) fun n19 =>
 (bd (ZP 1 1 n19 (none : Option Nat) true v18) fun v20 =>
 (if ((V.cells v20)).length = 1 then
 (bd2 (Zs h1 (V.cells v20) (V.ptr c 0)) fun b21 x22 =>
 some (Res.ret [v14], ((h1).set b21 x22))) else none)))) else none)) else none))) else none))))) (fun z2 h1 => some (Res.pan z2, h1)))
theorem zhi (n : Nat) (c : Nat) (h : zd) : call (n + 1) 236 [(V.ptr c 0)] h = zhh n c h := by kernel_rfl
noncomputable def Wl (n : Nat) (c : Nat) (st1 : List V) (hh2 : zd) (next3 : List V -> zd -> Option (Res × zd)) : Option (Res × zd) :=
 (bd (bop prog .eql 3 (gv st1 0) (V.int .i64 8)) fun v4 =>
 (bv v4 fun b5 => if b5 then
 some (Res.ret [(gv st1 0)], hh2)
 else
 (cl (call n 236 [(V.ptr c 0)] hh2) (fun r6 h7 =>
 (ZI r6 fun v9 =>
 (bd (uop .not v9) fun v10 =>
 (bv v10 fun b11 => if b11 then
 some (Res.ret [(gv st1 0)], h7)
 else
 (bd (bop prog .add 3 (gv st1 0) (V.int .i64 1)) fun v12 =>
 (next3 [v12] h7)))))) (fun z8 h7 => some (Res.pan z8, h7)))))
noncomputable def zcO (n : Nat) (c : Nat) (h : zd) : Option (Res × zd) :=
 (zV n (Wl n c) [(V.int .i64 1)] h)
theorem zdJ (n : Nat) (c : Nat) (h : zd) : call (n + 1) 227 [(V.ptr c 0)] h = zcO n c h := by kernel_rfl
noncomputable def Q5 (n : Nat) (c : Nat) (st4 : List V) (next6 : List V -> zd -> Option (Res × zd)) (v14 : V) (st16 : List V) (hh17 : zd) (next18 : List V -> zd -> Option (Res × zd)) : Option (Res × zd) :=
 (bd (bop prog .lss 3 (gv st16 0) (V.int .i64 8)) fun v19 =>
 (bv v19 fun b20 => if b20 then
 (bd3 (zu hh17 (V.ptr c 0)) fun cs22 m21 o23 => if (o23 + 1 <= m21 /\ 0 < 1) then
 (bd (cs22)[o23]? fun v24 =>
 (bd (ZW hh17 v24) fun p25 =>
 (if (((p25.2).length : Int) == 20000) then
 some (Res.ret [], hh17)
 else
 (bd3 (zu hh17 (V.ptr c 0)) fun cs27 m26 o28 => if (o28 + 1 <= m26 /\ 0 < 1) then
 (bd (cs27)[o28]? fun v29 =>
 (bd (bop prog .shr 5 v14 (gv st16 0)) fun v30 =>
 (bd (bop prog .and 5 v30 (V.int .u8 1)) fun v31 =>
 (bd (bop prog .eql 5 v31 (V.int .u8 1)) fun v32 =>
 (bd (JD prog 73 1 [(0, v32)]) fun p33 =>
 (bd2 (Wa 4 1 hh17 p33.2 v29) fun v34 h35 =>
 (if ((V.cells v34)).length = 1 then
 (bd2 (Zs h35 (V.cells v34) (V.ptr c 0)) fun b36 x37 =>
 (bd (bop prog .add 3 (gv st16 0) (V.int .i64 1)) fun v38 =>
 (next18 [v38] ((h35).set b36 x37)))) else none))))))) else none)))) else none)
 else
 (bd (bop prog .add 3 (gv st4 0) (V.int .i64 1)) fun v39 =>
 (next6 [v39] hh17))))
noncomputable def JM (n : Nat) (c : Nat) (l : V) (p2 : Nat × List (List V)) (st4 : List V) (hh5 : zd) (next6 : List V -> zd -> Option (Res × zd)) : Option (Res × zd) :=
 (bd (bop prog .lss 3 (gv st4 0) (V.int .i64 ((p2.2).length : Int))) fun v7 =>
 (bv v7 fun b8 => if b8 then
 (bdS (nv (gv st4 0)) fun n9 =>
 (bd (ZK 1 n9 l) fun p10 =>
 (bd3 (zu hh5 p10) fun cs12 m11 o13 => if (o13 + 1 <= m11 /\ 0 < 1) then
 (bd (cs12)[o13]? fun v14 =>
 (zV n (Q5 n c st4 next6 v14) [(V.int .i64 0)] hh5)) else none)))
 else
 some (Res.ret [], hh5)))
noncomputable def zhj (n : Nat) (c : Nat) (l : V) (h : zd) : Option (Res × zd) :=
 (bd (Qo prog h .eql 122 (V.ptr c 0) (V.val (.pointer none))) fun v0 =>
 (bv v0 fun b1 => if b1 then
 some (Res.ret [], h)
 else
 (bd (ZW h l) fun p2 =>
 (zV n (JM n c l p2) [(V.int .i64 0)] h))))
theorem zhk (n : Nat) (c : Nat) (l : V) (h : zd) : call (n + 1) 65 [(V.ptr c 0), l] h = zhj n c l h := by kernel_rfl
noncomputable def zkN (n : Nat) (x0 : Int) (h : zd) : Option (Res × zd) :=
 some (Res.ret [(V.ptr (h).length 0)], (h ++ [(HB.box 12 [(V.int .i32 0), (V.int .i64 0), (V.val (.pointer none)), (V.val (.pointer none)), (V.val (.pointer none)), (V.val (.pointer none)), (V.val (.pointer none)), (V.val (.pointer none)), (V.val (.pointer none)), (V.val (.pointer none)), (V.int .i64 0), (V.int .i64 (if 0 < (if 1000 < x0 then 1000 else x0) then (if 1000 < x0 then 1000 else x0) else 0))])]))
theorem zjv (n : Nat) (x0 : Int) (h : zd) : call (n + 1) 61 [(V.int .i64 x0)] h = zkN n x0 h := by kernel_rfl
noncomputable def zhl (n : Nat) (s : Nat) (h : zd) : Option (Res × zd) :=
 (bd (Qo prog h .eql 117 (V.ptr s 0) (V.val (.pointer none))) fun v0 =>
 (bv v0 fun b1 => if b1 then
 some (Res.ret [(V.int .i64 0)], h)
 else
 (bd3 (zu h (V.ptr s 11)) fun cs3 m2 o4 => if (o4 + 1 <= m2 /\ 0 < 1) then
 (bd (cs3)[o4]? fun v5 =>
 some (Res.ret [v5], h)) else none)))
theorem zhm (n : Nat) (s : Nat) (h : zd) : call (n + 1) 226 [(V.ptr s 0)] h = zhl n s h := by kernel_rfl
noncomputable def zkO (n : Nat) (s : Nat) (h : zd) : Option (Res × zd) :=
 (bd (Qo prog h .eql 117 (V.ptr s 0) (V.val (.pointer none))) fun v0 =>
 (bv v0 fun b1 => if b1 then
 some (Res.ret [(V.int .i64 0)], h)
 else
 (bd3 (zu h (V.ptr s 10)) fun cs3 m2 o4 => if (o4 + 1 <= m2 /\ 0 < 1) then
 (bd (cs3)[o4]? fun v5 =>
 some (Res.ret [v5], h)) else none)))
theorem zjw (n : Nat) (s : Nat) (h : zd) : call (n + 1) 218 [(V.ptr s 0)] h = zkO n s h := by kernel_rfl
noncomputable def J2 (n : Nat) (s : Nat) (st1 : List V) (hh2 : zd) (next3 : List V -> zd -> Option (Res × zd)) : Option (Res × zd) :=
 (bd (bop prog .lss 3 (gv st1 2) (V.int .i64 8)) fun v4 =>
 (bv v4 fun b5 => if b5 then
 (bd (nv (gv st1 2)) fun n6 =>
 (if (n6 < 8) then
 (if (0 = 0 /\ (n6 * 1) + 1 <= 8) then
 (bd (bop prog .add 3 (gv st1 2) (V.int .i64 1)) fun v7 =>
 (next3 [(V.agg (lcs (gv st1 0))), (V.agg (setR (lcs (gv st1 1)) (n6 * 1) [(V.ptr s 0)])), v7] hh2)) else none) else none))
 else
 (if ((((lcs (gv st1 1))).drop 0 |>.take 8)).length = 8 then
 (if (((((lcs (gv st1 1))).drop 0 |>.take 8)).length <= 8) then
 some (Res.ret [(V.agg (((setR (lcs (gv st1 0)) 0 (((lcs (gv st1 1))).drop 0 |>.take 8))).drop 0 |>.take 8))], hh2) else none) else none)))
noncomputable def zeB (n : Nat) (s : Nat) (h : zd) : Option (Res × zd) :=
 (zV n (J2 n s) [(V.agg [(V.val (.pointer none)), (V.val (.pointer none)), (V.val (.pointer none)), (V.val (.pointer none)), (V.val (.pointer none)), (V.val (.pointer none)), (V.val (.pointer none)), (V.val (.pointer none))]), (V.agg [(V.val (.pointer none)), (V.val (.pointer none)), (V.val (.pointer none)), (V.val (.pointer none)), (V.val (.pointer none)), (V.val (.pointer none)), (V.val (.pointer none)), (V.val (.pointer none))]), (V.int .i64 0)] h)
theorem zfD (n : Nat) (s : Nat) (h : zd) : call (n + 1) 230 [(V.ptr s 0)] h = zeB n s h := by kernel_rfl
noncomputable def zkP (n : Nat) (t : Nat) (o : Nat) (h : zd) : Option (Res × zd) :=
 (bd (Qo prog h .eql 177 (V.ptr t 0) (V.ptr o 0)) fun v0 =>
 (bv v0 fun b1 => if b1 then
 some (Res.ret [(V.bool false)], h)
 else
 (bd3 (zu h (V.ptr t 1)) fun cs3 m2 o4 => if (o4 + 1 <= m2 /\ 0 < 1) then
 (bd (cs3)[o4]? fun v5 =>
 (bd (bop prog .eql 3 v5 (V.int .i64 0)) fun v6 =>
 (bv v6 fun b7 => if b7 then
 some (Res.ret [(V.bool false)], h)
 else
 (bd3 (zu h (V.ptr o 1)) fun cs9 m8 o10 => if (o10 + 1 <= m8 /\ 0 < 1) then
 (bd (cs9)[o10]? fun v11 =>
 (bd (bop prog .eql 3 v11 (V.int .i64 0)) fun v12 =>
 (bv v12 fun b13 => if b13 then
 some (Res.ret [(V.bool true)], h)
 else
 (bd3 (zu h (V.ptr t 0)) fun cs15 m14 o16 => if (o16 + 1 <= m14 /\ 0 < 1) then
 (bd (cs15)[o16]? fun v17 =>
 (bd3 (zu h (V.ptr o 0)) fun cs19 m18 o20 => if (o20 + 1 <= m18 /\ 0 < 1) then
 (bd (cs19)[o20]? fun v21 =>
 (bd (bop prog .geq 21 v17 v21) fun v22 =>
 some (Res.ret [v22], h))) else none)) else none)))) else none)))) else none)))
theorem zjx (n : Nat) (t : Nat) (o : Nat) (h : zd) : call (n + 1) 245 [(V.ptr t 0), (V.ptr o 0)] h = zkP n t o h := by kernel_rfl
noncomputable def zrn (n : Nat) (x0 : Int) (x1 : Int) (h : zd) : Option (Res × zd) :=
 some (Res.ret [(V.ptr (h).length 0)], (h ++ [(HB.box 10 [(V.int .i32 x0), (V.int .i64 (if 1 < (if 8 < x1 then 8 else x1) then (if 8 < x1 then 8 else x1) else 1)), (V.val (.pointer none)), (V.val (.pointer none)), (V.val (.pointer none)), (V.val (.pointer none)), (V.val (.pointer none)), (V.val (.pointer none)), (V.val (.pointer none)), (V.val (.pointer none))])]))
theorem zpz (n : Nat) (x0 : Int) (x1 : Int) (h : zd) : call (n + 1) 232 [(V.int .i32 x0), (V.int .i64 x1)] h = zrn n x0 x1 h := by kernel_rfl
noncomputable def X5 (n : Nat) (v : Int) (st1 : List V) (next3 : List V -> zd -> Option (Res × zd)) (st19 : List V) (hh20 : zd) (next21 : List V -> zd -> Option (Res × zd)) : Option (Res × zd) :=
 (bd (Qo prog hh20 .neq 177 (gv st19 3) (V.val (.pointer none))) fun v22 =>
 (bv v22 fun b23 => if b23 then
 (bd (ZU 0 (gv st19 3)) fun p24 =>
 (bd (ZU 0 p24) fun p25 =>
 (bd3 (zu hh20 p25) fun cs27 m26 o28 => if (o28 + 1 <= m26 /\ 0 < 1) then
 (bd (cs27)[o28]? fun v29 =>
 (bd (bop prog .leq 21 v29 (V.int .i32 v)) fun v30 =>
 (bv v30 fun b31 => if b31 then
 (bd (ZU 0 (gv st19 3)) fun p32 =>
 (bd (ZU 2 p32) fun p33 =>
 (bd (nv (gv st1 3)) fun n34 =>
 (if (n34 < 8) then
 (bd (ZU (n34 * 1) p33) fun p35 =>
 (bd3 (zu hh20 p35) fun cs37 m36 o38 => if (o38 + 1 <= m36 /\ 0 < 1) then
 (bd (cs37)[o38]? fun v39 =>
 (next21 [(V.agg (lcs (gv st19 0))), (V.agg (lcs (gv st19 1))), (gv st19 3), v39] hh20)) else none)) else none))))
 else
 (bd (nv (gv st1 3)) fun n40 =>
 (if (n40 < 8) then
 (if ((V.cells (gv st19 2))).length = 1 then
 (if (0 = 0 /\ (n40 * 1) + ((V.cells (gv st19 2))).length <= 8) then
 (bd (bop prog .sub 3 (gv st1 3) (V.int .i64 1)) fun v41 =>
 (next3 [(V.agg (setR (lcs (gv st19 0)) (n40 * 1) (V.cells (gv st19 2)))), (V.agg (lcs (gv st19 1))), (gv st19 2), v41] hh20)) else none) else none) else none))))) else none)))
 else
 (bd (nv (gv st1 3)) fun n42 =>
 (if (n42 < 8) then
 (if ((V.cells (gv st19 2))).length = 1 then
 (if (0 = 0 /\ (n42 * 1) + ((V.cells (gv st19 2))).length <= 8) then
 (bd (bop prog .sub 3 (gv st1 3) (V.int .i64 1)) fun v43 =>
 (next3 [(V.agg (setR (lcs (gv st19 0)) (n42 * 1) (V.cells (gv st19 2)))), (V.agg (lcs (gv st19 1))), (gv st19 2), v43] hh20)) else none) else none) else none))))
noncomputable def zcP (n : Nat) (v : Int) (st1 : List V) (next3 : List V -> zd -> Option (Res × zd)) (st62 : List V) (hh63 : zd) (next64 : List V -> zd -> Option (Res × zd)) : Option (Res × zd) :=
 (bd (Qo prog hh63 .neq 177 (gv st62 3) (V.val (.pointer none))) fun v65 =>
 (bv v65 fun b66 => if b66 then
 (bd (ZU 0 (gv st62 3)) fun p67 =>
 (bd (ZU 0 p67) fun p68 =>
 (bd3 (zu hh63 p68) fun cs70 m69 o71 => if (o71 + 1 <= m69 /\ 0 < 1) then
 (bd (cs70)[o71]? fun v72 =>
 (bd (bop prog .leq 21 v72 (V.int .i32 v)) fun v73 =>
 (bv v73 fun b74 => if b74 then
 (bd (ZU 0 (gv st62 3)) fun p75 =>
 (bd (ZU 2 p75) fun p76 =>
 (bd (nv (gv st1 3)) fun n77 =>
 (if (n77 < 8) then
 (bd (ZU (n77 * 1) p76) fun p78 =>
 (bd3 (zu hh63 p78) fun cs80 m79 o81 => if (o81 + 1 <= m79 /\ 0 < 1) then
 (bd (cs80)[o81]? fun v82 =>
 (next64 [(V.agg (lcs (gv st62 0))), (V.agg (lcs (gv st62 1))), (gv st62 3), v82] hh63)) else none)) else none))))
 else
 (bd (nv (gv st1 3)) fun n83 =>
 (if (n83 < 8) then
 (if ((V.cells (gv st62 2))).length = 1 then
 (if (0 = 0 /\ (n83 * 1) + ((V.cells (gv st62 2))).length <= 8) then
 (bd (bop prog .sub 3 (gv st1 3) (V.int .i64 1)) fun v84 =>
 (next3 [(V.agg (setR (lcs (gv st62 0)) (n83 * 1) (V.cells (gv st62 2)))), (V.agg (lcs (gv st62 1))), (gv st62 2), v84] hh63)) else none) else none) else none))))) else none)))
 else
 (bd (nv (gv st1 3)) fun n85 =>
 (if (n85 < 8) then
 (if ((V.cells (gv st62 2))).length = 1 then
 (if (0 = 0 /\ (n85 * 1) + ((V.cells (gv st62 2))).length <= 8) then
 (bd (bop prog .sub 3 (gv st1 3) (V.int .i64 1)) fun v86 =>
 (next3 [(V.agg (setR (lcs (gv st62 0)) (n85 * 1) (V.cells (gv st62 2)))), (V.agg (lcs (gv st62 1))), (gv st62 2), v86] hh63)) else none) else none) else none))))
noncomputable def zcQ (n : Nat) (v : Int) (st1 : List V) (next3 : List V -> zd -> Option (Res × zd)) (st96 : List V) (hh97 : zd) (next98 : List V -> zd -> Option (Res × zd)) : Option (Res × zd) :=
 (bd (Qo prog hh97 .neq 177 (gv st96 3) (V.val (.pointer none))) fun v99 =>
 (bv v99 fun b100 => if b100 then
 (bd (ZU 0 (gv st96 3)) fun p101 =>
 (bd (ZU 0 p101) fun p102 =>
 (bd3 (zu hh97 p102) fun cs104 m103 o105 => if (o105 + 1 <= m103 /\ 0 < 1) then
 (bd (cs104)[o105]? fun v106 =>
 (bd (bop prog .leq 21 v106 (V.int .i32 v)) fun v107 =>
 (bv v107 fun b108 => if b108 then
 (bd (ZU 0 (gv st96 3)) fun p109 =>
 (bd (ZU 2 p109) fun p110 =>
 (bd (nv (gv st1 3)) fun n111 =>
 (if (n111 < 8) then
 (bd (ZU (n111 * 1) p110) fun p112 =>
 (bd3 (zu hh97 p112) fun cs114 m113 o115 => if (o115 + 1 <= m113 /\ 0 < 1) then
 (bd (cs114)[o115]? fun v116 =>
 (next98 [(V.agg (lcs (gv st96 0))), (V.agg (lcs (gv st96 1))), (gv st96 3), v116] hh97)) else none)) else none))))
 else
 (bd (nv (gv st1 3)) fun n117 =>
 (if (n117 < 8) then
 (if ((V.cells (gv st96 2))).length = 1 then
 (if (0 = 0 /\ (n117 * 1) + ((V.cells (gv st96 2))).length <= 8) then
 (bd (bop prog .sub 3 (gv st1 3) (V.int .i64 1)) fun v118 =>
 (next3 [(V.agg (setR (lcs (gv st96 0)) (n117 * 1) (V.cells (gv st96 2)))), (V.agg (lcs (gv st96 1))), (gv st96 2), v118] hh97)) else none) else none) else none))))) else none)))
 else
 (bd (nv (gv st1 3)) fun n119 =>
 (if (n119 < 8) then
 (if ((V.cells (gv st96 2))).length = 1 then
 (if (0 = 0 /\ (n119 * 1) + ((V.cells (gv st96 2))).length <= 8) then
 (bd (bop prog .sub 3 (gv st1 3) (V.int .i64 1)) fun v120 =>
 (next3 [(V.agg (setR (lcs (gv st96 0)) (n119 * 1) (V.cells (gv st96 2)))), (V.agg (lcs (gv st96 1))), (gv st96 2), v120] hh97)) else none) else none) else none))))
noncomputable def JN (n : Nat) (v : Int) (st1 : List V) (hh2 : zd) (next3 : List V -> zd -> Option (Res × zd)) : Option (Res × zd) :=
 (bd (bop prog .geq 3 (gv st1 3) (V.int .i64 0)) fun v4 =>
 (bv v4 fun b5 => if b5 then
 (bd (Qo prog hh2 .eql 177 (gv st1 2) (V.val (.pointer none))) fun v6 =>
 (bv v6 fun b7 => if b7 then
 (bd (nv (gv st1 3)) fun n8 =>
 (if (n8 < 8) then
 (if ((n8 * 1) + 1 <= 8 /\ 0 < 1) then
 (bd ((lcs (gv st1 0)))[(n8 * 1)]? fun v9 =>
 (bd (ZU 0 v9) fun p10 =>
 (bd (ZU 2 p10) fun p11 =>
 (bd (nv (gv st1 3)) fun n12 =>
 (if (n12 < 8) then
 (bd (ZU (n12 * 1) p11) fun p13 =>
 (bd3 (zu hh2 p13) fun cs15 m14 o16 => if (o16 + 1 <= m14 /\ 0 < 1) then
 (bd (cs15)[o16]? fun v17 =>
 (zV n (X5 n v st1 next3) [(V.agg (lcs (gv st1 0))), (V.agg (lcs (gv st1 1))), v9, v17] hh2)) else none)) else none))))) else none) else none))
 else
 (bd (nv (gv st1 3)) fun n44 =>
 (if (n44 < 8) then
 (if ((n44 * 1) + 1 <= 8 /\ 0 < 1) then
 (bd ((lcs (gv st1 0)))[(n44 * 1)]? fun v45 =>
 (cl (call n 245 [v45, (gv st1 2)] hh2) (fun r46 h47 =>
 (ZI r46 fun v49 =>
 (bv v49 fun b50 => if b50 then
 (bd (nv (gv st1 3)) fun n51 =>
 (if (n51 < 8) then
 (if ((n51 * 1) + 1 <= 8 /\ 0 < 1) then
 (bd ((lcs (gv st1 0)))[(n51 * 1)]? fun v52 =>
 (bd (ZU 0 v52) fun p53 =>
 (bd (ZU 2 p53) fun p54 =>
 (bd (nv (gv st1 3)) fun n55 =>
 (if (n55 < 8) then
 (bd (ZU (n55 * 1) p54) fun p56 =>
 (bd3 (zu h47 p56) fun cs58 m57 o59 => if (o59 + 1 <= m57 /\ 0 < 1) then
 (bd (cs58)[o59]? fun v60 =>
 (zV n (zcP n v st1 next3) [(V.agg (lcs (gv st1 0))), (V.agg (lcs (gv st1 1))), v52, v60] h47)) else none)) else none))))) else none) else none))
 else
 (bd (ZU 0 (gv st1 2)) fun p87 =>
 (bd (ZU 2 p87) fun p88 =>
 (bd (nv (gv st1 3)) fun n89 =>
 (if (n89 < 8) then
 (bd (ZU (n89 * 1) p88) fun p90 =>
 (bd3 (zu h47 p90) fun cs92 m91 o93 => if (o93 + 1 <= m91 /\ 0 < 1) then
 (bd (cs92)[o93]? fun v94 =>
 (zV n (zcQ n v st1 next3) [(V.agg (lcs (gv st1 0))), (V.agg (lcs (gv st1 1))), (gv st1 2), v94] h47)) else none)) else none))))))) (fun z48 h47 => some (Res.pan z48, h47)))) else none) else none))))
 else
 (if ((((lcs (gv st1 0))).drop 0 |>.take 8)).length = 8 then
 (if (((((lcs (gv st1 0))).drop 0 |>.take 8)).length <= 8) then
 some (Res.ret [(V.agg (((setR (lcs (gv st1 1)) 0 (((lcs (gv st1 0))).drop 0 |>.take 8))).drop 0 |>.take 8))], hh2) else none) else none)))
noncomputable def znE (n : Nat) (p : List V) (v : Int) (h : zd) : Option (Res × zd) :=
 (if (p).length = 8 then
 (zV n (JN n v) [(V.agg p), (V.agg [(V.val (.pointer none)), (V.val (.pointer none)), (V.val (.pointer none)), (V.val (.pointer none)), (V.val (.pointer none)), (V.val (.pointer none)), (V.val (.pointer none)), (V.val (.pointer none))]), (V.val (.pointer none)), (V.int .i64 7)] h) else none)
theorem zl3 (n : Nat) (p : List V) (v : Int) (h : zd) : call (n + 1) 238 [(V.agg p), (V.int .i32 v)] h = znE n p v h := by kernel_rfl
noncomputable def W7 (n : Nat) (t : Nat) (v3 : V) (st5 : List V) (hh6 : zd) (next7 : List V -> zd -> Option (Res × zd)) : Option (Res × zd) :=
 (bd (bop prog .lss 3 (gv st5 2) v3) fun v8 =>
 (bv v8 fun b9 => if b9 then
 (bd (nv (gv st5 2)) fun n10 =>
 (if (n10 < 8) then
 (if ((n10 * 1) + 1 <= 8 /\ 0 < 1) then
 (bd ((lcs (gv st5 0)))[(n10 * 1)]? fun v11 =>
 (bd (ZU 0 v11) fun p12 =>
 (bd (ZU 2 p12) fun p13 =>
 (bd (nv (gv st5 2)) fun n14 =>
 (if (n14 < 8) then
 (bd (ZU (n14 * 1) p13) fun p15 =>
 (bd3 (zu hh6 p15) fun cs17 m16 o18 => if (o18 + 1 <= m16 /\ 0 < 1) then
 (bd (cs17)[o18]? fun v19 =>
 (bd (nv (gv st5 2)) fun n20 =>
 (if (n20 < 8) then
 (if ((V.cells v19)).length = 1 then
 (bd2 (Zs hh6 (V.cells v19) (V.ptr t (2 + (n20 * 1)))) fun b21 x22 =>
 (bd (nv (gv st5 2)) fun n23 =>
 (if (n23 < 8) then
 (if ((n23 * 1) + 1 <= 8 /\ 0 < 1) then
 (bd ((lcs (gv st5 0)))[(n23 * 1)]? fun v24 =>
 (bd (ZU 0 v24) fun p25 =>
 (bd (ZU 2 p25) fun p26 =>
 (bd (nv (gv st5 2)) fun n27 =>
 (if (n27 < 8) then
 (bd (ZU (n27 * 1) p26) fun p28 =>
 (bd2 (Zs ((hh6).set b21 x22) [(V.ptr t 0)] p28) fun b29 x30 =>
 (bd (nv (gv st5 2)) fun n31 =>
 (if (n31 < 8) then
 (if (0 = 0 /\ (n31 * 1) + 1 <= 8) then
 (bd (bop prog .add 3 (gv st5 2) (V.int .i64 1)) fun v32 =>
 (next7 [(V.agg (setR (lcs (gv st5 0)) (n31 * 1) [(V.ptr t 0)])), (V.agg (lcs (gv st5 1))), v32] ((((hh6).set b21 x22)).set b29 x30))) else none) else none)))) else none))))) else none) else none))) else none) else none))) else none)) else none))))) else none) else none))
 else
 (if ((((lcs (gv st5 0))).drop 0 |>.take 8)).length = 8 then
 (if (((((lcs (gv st5 0))).drop 0 |>.take 8)).length <= 8) then
 some (Res.ret [(V.agg (((setR (lcs (gv st5 1)) 0 (((lcs (gv st5 0))).drop 0 |>.take 8))).drop 0 |>.take 8))], hh6) else none) else none)))
noncomputable def zkQ (n : Nat) (p : List V) (t : Nat) (h : zd) : Option (Res × zd) :=
 (if (p).length = 8 then
 (bd3 (zu h (V.ptr t 1)) fun cs1 m0 o2 => if (o2 + 1 <= m0 /\ 0 < 1) then
 (bd (cs1)[o2]? fun v3 =>
 (zV n (W7 n t v3) [(V.agg p), (V.agg [(V.val (.pointer none)), (V.val (.pointer none)), (V.val (.pointer none)), (V.val (.pointer none)), (V.val (.pointer none)), (V.val (.pointer none)), (V.val (.pointer none)), (V.val (.pointer none))]), (V.int .i64 0)] h)) else none) else none)
theorem zjy (n : Nat) (p : List V) (t : Nat) (h : zd) : call (n + 1) 231 [(V.agg p), (V.ptr t 0)] h = zkQ n p t h := by kernel_rfl
noncomputable def zcR (n : Nat) (s : Nat) (v : Int) (k : Int) (h : zd) : Option (Res × zd) :=
 (bd (Qo prog h .eql 117 (V.ptr s 0) (V.val (.pointer none))) fun v0 =>
 (bv v0 fun b1 => if b1 then
 some (Res.ret [(V.bool false)], h)
 else
 (bd3 (zu h (V.ptr s 10)) fun cs3 m2 o4 => if (o4 + 1 <= m2 /\ 0 < 1) then
 (bd (cs3)[o4]? fun v5 =>
 (bd3 (zu h (V.ptr s 11)) fun cs7 m6 o8 => if (o8 + 1 <= m6 /\ 0 < 1) then
 (bd (cs7)[o8]? fun v9 =>
 (bd (bop prog .geq 3 v5 v9) fun v10 =>
 (bv v10 fun b11 => if b11 then
 some (Res.ret [(V.bool false)], h)
 else
 (cl (call n 230 [(V.ptr s 0)] h) (fun r12 h13 =>
 (ZI r12 fun v15 =>
 (cl (call n 238 [v15, (V.int .i32 v)] h13) (fun r16 h17 =>
 (ZI r16 fun v19 =>
 (cl (call n 232 [(V.int .i32 v), (V.int .i64 k)] h17) (fun r20 h21 =>
 (ZI r20 fun v23 =>
 (cl (call n 231 [v19, v23] h21) (fun r24 h25 =>
 (ZI r24 fun v27 =>
 (bd3 (zu h25 (V.ptr s 10)) fun cs29 m28 o30 => if (o30 + 1 <= m28 /\ 0 < 1) then
 (bd (cs29)[o30]? fun v31 =>
 (bd (bop prog .add 3 v31 (V.int .i64 1)) fun v32 =>
 (if ((V.cells v32)).length = 1 then
 (bd2 (Zs h25 (V.cells v32) (V.ptr s 10)) fun b33 x34 =>
 some (Res.ret [(V.bool true)], ((h25).set b33 x34))) else none))) else none))) (fun z26 h25 => some (Res.pan z26, h25))))) (fun z22 h21 => some (Res.pan z22, h21))))) (fun z18 h17 => some (Res.pan z18, h17))))) (fun z14 h13 => some (Res.pan z14, h13)))))) else none)) else none)))
theorem zdK (n : Nat) (s : Nat) (v : Int) (k : Int) (h : zd) : call (n + 1) 233 [(V.ptr s 0), (V.int .i32 v), (V.int .i64 k)] h = zcR n s v k h := by kernel_rfl
noncomputable def Jy (n : Nat) (s : Nat) (l : V) (m : V) (p15 : Nat × List (List V)) (st17 : List V) (hh18 : zd) (next19 : List V -> zd -> Option (Res × zd)) : Option (Res × zd) :=
 (bd (bop prog .lss 3 (gv st17 4) (V.int .i64 ((p15.2).length : Int))) fun v20 =>
 (bv v20 fun b21 => if b21 then
 (bdS (nv (gv st17 4)) fun n22 =>
 (bd (ZK 1 n22 l) fun p23 =>
 (bd3 (zu hh18 p23) fun cs25 m24 o26 => if (o26 + 1 <= m24 /\ 0 < 1) then
 (bd (cs25)[o26]? fun v27 =>
 (bd3 (zu hh18 (V.ptr s 10)) fun cs29 m28 o30 => if (o30 + 1 <= m28 /\ 0 < 1) then
 (bd (cs29)[o30]? fun v31 =>
 (bd3 (zu hh18 (V.ptr s 11)) fun cs33 m32 o34 => if (o34 + 1 <= m32 /\ 0 < 1) then
 (bd (cs33)[o34]? fun v35 =>
 (bd (bop prog .geq 3 v31 v35) fun v36 =>
 (bv v36 fun b37 => if b37 then
 some (Res.ret [(V.sl 1 (lsl (gv st17 1)) false)], hh18)
 else
 (bd (ZW hh18 m) fun p38 =>
 (bd (bop prog .lss 3 (gv st17 4) (V.int .i64 ((p38.2).length : Int))) fun v39 =>
 (bv v39 fun b40 => if b40 then
 (bdS (nv (gv st17 4)) fun n41 =>
 (bd (ZK 1 n41 m) fun p42 =>
 (bd3 (zu hh18 p42) fun cs44 m43 o45 => if (o45 + 1 <= m43 /\ 0 < 1) then
 (bd (cs44)[o45]? fun v46 =>
 (cl (call n 238 [(V.agg (((lcs (gv st17 2))).drop 0 |>.take 8)), v27] hh18) (fun r47 h48 =>
 (ZI r47 fun v50 =>
 (cl (call n 232 [v27, v46] h48) (fun r51 h52 =>
 (ZI r51 fun v54 =>
 (cl (call n 231 [v50, v54] h52) (fun r55 h56 =>
 (ZI r55 fun v58 =>
 (if ((V.cells v58)).length = 8 then
 (if (((V.cells v58)).length <= 8) then
 (bd3 (zu h56 (V.ptr s 10)) fun cs60 m59 o61 => if (o61 + 1 <= m59 /\ 0 < 1) then
 (bd (cs60)[o61]? fun v62 =>
 (bd (bop prog .add 3 v62 (V.int .i64 1)) fun v63 =>
 (if ((V.cells v63)).length = 1 then
 (bd2 (Zs h56 (V.cells v63) (V.ptr s 10)) fun b64 x65 =>
 (bdS (nv (gv st17 4)) fun n66 =>
 (if (1 = 1 /\ n66 < ((lsl (gv st17 1))).length /\ (some 65 : Option Nat) ≠ some 7) then
 (bd ((lsl (gv st17 1)))[n66]? fun es67 =>
 (bd (bop prog .add 3 (gv st17 4) (V.int .i64 1)) fun v68 =>
 (next19 [(V.sl 1 (lsl (gv st17 0)) false), (V.sl 1 (((lsl (gv st17 1))).set n66 (setR es67 0 [(V.bool true)])) false), (V.agg (setR (lcs (gv st17 2)) 0 (V.cells v58))), (V.bool false), v68] ((h56).set b64 x65)))) else none))) else none))) else none) else none) else none))) (fun z57 h56 => some (Res.pan z57, h56))))) (fun z53 h52 => some (Res.pan z53, h52))))) (fun z49 h48 => some (Res.pan z49, h48)))) else none)))
 else
 (cl (call n 238 [(V.agg (((lcs (gv st17 2))).drop 0 |>.take 8)), v27] hh18) (fun r69 h70 =>
 (ZI r69 fun v72 =>
 (cl (call n 232 [v27, (V.int .i64 1)] h70) (fun r73 h74 =>
 (ZI r73 fun v76 =>
 (cl (call n 231 [v72, v76] h74) (fun r77 h78 =>
 (ZI r77 fun v80 =>
 (if ((V.cells v80)).length = 8 then
 (if (((V.cells v80)).length <= 8) then
 (bd3 (zu h78 (V.ptr s 10)) fun cs82 m81 o83 => if (o83 + 1 <= m81 /\ 0 < 1) then
 (bd (cs82)[o83]? fun v84 =>
 (bd (bop prog .add 3 v84 (V.int .i64 1)) fun v85 =>
 (if ((V.cells v85)).length = 1 then
 (bd2 (Zs h78 (V.cells v85) (V.ptr s 10)) fun b86 x87 =>
 (bdS (nv (gv st17 4)) fun n88 =>
 (if (1 = 1 /\ n88 < ((lsl (gv st17 1))).length /\ (some 65 : Option Nat) ≠ some 7) then
 (bd ((lsl (gv st17 1)))[n88]? fun es89 =>
 (bd (bop prog .add 3 (gv st17 4) (V.int .i64 1)) fun v90 =>
 (next19 [(V.sl 1 (lsl (gv st17 0)) false), (V.sl 1 (((lsl (gv st17 1))).set n88 (setR es89 0 [(V.bool true)])) false), (V.agg (setR (lcs (gv st17 2)) 0 (V.cells v80))), (V.bool false), v90] ((h78).set b86 x87)))) else none))) else none))) else none) else none) else none))) (fun z79 h78 => some (Res.pan z79, h78))))) (fun z75 h74 => some (Res.pan z75, h74))))) (fun z71 h70 => some (Res.pan z71, h70))))))))) else none)) else none)) else none)))
 else
 some (Res.ret [(V.sl 1 (lsl (gv st17 1)) false)], hh18)))
noncomputable def zeC (n : Nat) (s : Nat) (l : V) (m : V) (h : zd) : Option (Res × zd) :=
 (bd (ZW h l) fun p0 =>
 (bdS (nv (V.int .i64 ((p0.2).length : Int))) fun n1 =>
 (bdS (nv (V.int .i64 ((p0.2).length : Int))) fun n2 =>
 (if (n1 <= n2 /\ n2 < lim /\ 1 = 1) then
 (bd (Qo prog h .eql 117 (V.ptr s 0) (V.val (.pointer none))) fun v3 =>
 (bv v3 fun b4 => if b4 then
 some (Res.ret [(V.sl 1 (List.replicate n1 [(V.bool false)]) false)], h)
 else
 (cl (call n 237 [l] h) (fun r5 h6 =>
 (ZI r5 fun v8 =>
 (bd (uop .not v8) fun v9 =>
 (bv v9 fun b10 => if b10 then
 some (Res.ret [(V.sl 1 (List.replicate n1 [(V.bool false)]) false)], h6)
 else
 (cl (call n 230 [(V.ptr s 0)] h6) (fun r11 h12 =>
 (ZI r11 fun v14 =>
 (if ((V.cells v14)).length = 8 then
 (if (((V.cells v14)).length <= 8) then
 (bd (ZW h12 l) fun p15 =>
 (zV n (Jy n s l m p15) [(V.sl 1 [] false), (V.sl 1 (List.replicate n1 [(V.bool false)]) false), (V.agg (setR [(V.val (.pointer none)), (V.val (.pointer none)), (V.val (.pointer none)), (V.val (.pointer none)), (V.val (.pointer none)), (V.val (.pointer none)), (V.val (.pointer none)), (V.val (.pointer none))] 0 (V.cells v14))), (V.bool false), (V.int .i64 0)] h12)) else none) else none))) (fun z13 h12 => some (Res.pan z13, h12))))))) (fun z7 h6 => some (Res.pan z7, h6))))) else none))))
theorem zfE (n : Nat) (s : Nat) (l : V) (m : V) (h : zd) : call (n + 1) 228 [(V.ptr s 0), l, m] h = zeC n s l m h := by kernel_rfl
noncomputable def QG (n : Nat) (s : Nat) (v9 : V) (v15 : V) (st17 : List V) (hh18 : zd) (next19 : List V -> zd -> Option (Res × zd)) : Option (Res × zd) :=
 (bd (bop prog .lss 3 (gv st17 0) v15) fun v20 =>
 (bv v20 fun b21 => if b21 then
 (bd (ZU 0 v9) fun p22 =>
 (bd (ZU 2 p22) fun p23 =>
 (bd (nv (gv st17 0)) fun n24 =>
 (if (n24 < 8) then
 (bd (ZU (n24 * 1) p23) fun p25 =>
 (bd3 (zu hh18 p25) fun cs27 m26 o28 => if (o28 + 1 <= m26 /\ 0 < 1) then
 (bd (cs27)[o28]? fun v29 =>
 (bd (nv (gv st17 0)) fun n30 =>
 (if (n30 < 8) then
 (if ((V.cells v29)).length = 1 then
 (bd2 (Zs hh18 (V.cells v29) (V.ptr s (2 + (n30 * 1)))) fun b31 x32 =>
 (bd (bop prog .add 3 (gv st17 0) (V.int .i64 1)) fun v33 =>
 (next19 [v33] ((hh18).set b31 x32)))) else none) else none))) else none)) else none))))
 else
 (bd3 (zu hh18 (V.ptr s 10)) fun cs35 m34 o36 => if (o36 + 1 <= m34 /\ 0 < 1) then
 (bd (cs35)[o36]? fun v37 =>
 (bd (bop prog .sub 3 v37 (V.int .i64 1)) fun v38 =>
 (if ((V.cells v38)).length = 1 then
 (bd2 (Zs hh18 (V.cells v38) (V.ptr s 10)) fun b39 x40 =>
 (bd (ZU 0 v9) fun p41 =>
 (bd (ZU 0 p41) fun p42 =>
 (bd3 (zu ((hh18).set b39 x40) p42) fun cs44 m43 o45 => if (o45 + 1 <= m43 /\ 0 < 1) then
 (bd (cs44)[o45]? fun v46 =>
 some (Res.ret [v46, (V.bool true)], ((hh18).set b39 x40))) else none)))) else none))) else none)))
noncomputable def zfF (n : Nat) (s : Nat) (h : zd) : Option (Res × zd) :=
 (cl (call n 218 [(V.ptr s 0)] h) (fun r0 h1 =>
 (ZI r0 fun v3 =>
 (bd (bop prog .eql 3 v3 (V.int .i64 0)) fun v4 =>
 (bv v4 fun b5 => if b5 then
 some (Res.ret [(V.int .i32 0), (V.bool false)], h1)
 else
 (bd3 (zu h1 (V.ptr s 2)) fun cs7 m6 o8 => if (o8 + 1 <= m6 /\ 0 < 1) then
 (bd (cs7)[o8]? fun v9 =>
 (bd (ZU 0 v9) fun p10 =>
 (bd (ZU 1 p10) fun p11 =>
 (bd3 (zu h1 p11) fun cs13 m12 o14 => if (o14 + 1 <= m12 /\ 0 < 1) then
 (bd (cs13)[o14]? fun v15 =>
 (zV n (QG n s v9 v15) [(V.int .i64 0)] h1)) else none)))) else none))))) (fun z2 h1 => some (Res.pan z2, h1)))
theorem zcS (n : Nat) (s : Nat) (h : zd) : call (n + 1) 239 [(V.ptr s 0)] h = zfF n s h := by kernel_rfl
noncomputable def znF (n : Nat) (s : Nat) (k : Int) (h : zd) : Option (Res × zd) :=
 some (Res.ret [(V.fn 132 [(V.ptr (h).length 0), (V.ptr ((h ++ [(HB.box 1 [(V.ptr s 0)])])).length 0)])], ((h ++ [(HB.box 1 [(V.ptr s 0)])]) ++ [(HB.box 1 [(V.int .i64 k)])]))
theorem zl4 (n : Nat) (s : Nat) (k : Int) (h : zd) : call (n + 1) 100 [(V.ptr s 0), (V.int .i64 k)] h = znF n s k h := by kernel_rfl
noncomputable def Wt (n : Nat) (b : Nat) (k : Nat) (st19 : List V) (hh20 : zd) (next21 : List V -> zd -> Option (Res × zd)) : Option (Res × zd) :=
 (bd (Qo prog hh20 .neq 177 (gv st19 0) (V.val (.pointer none))) fun v22 =>
 (bv v22 fun b23 => if b23 then
 (bd2 (rnd n b [(gv st19 0)] hh20) fun t24 h25 =>
 (if t24 then
 (bd3 (zu h25 (V.ptr k 0)) fun cs27 m26 o28 => if (o28 + 1 <= m26 /\ 0 < 1) then
 (bd (cs27)[o28]? fun v29 =>
 (bd (bop prog .sub 3 v29 (V.int .i64 1)) fun v30 =>
 (bd (ZU 0 (gv st19 0)) fun p31 =>
 (bd (ZU 2 p31) fun p32 =>
 (bd (nv v30) fun n33 =>
 (if (n33 < 8) then
 (bd (ZU (n33 * 1) p32) fun p34 =>
 (bd3 (zu h25 p34) fun cs36 m35 o37 => if (o37 + 1 <= m35 /\ 0 < 1) then
 (bd (cs36)[o37]? fun v38 =>
 (next21 [v38] h25)) else none)) else none)))))) else none)
 else
 some (Res.ret [], h25)))
 else
 some (Res.ret [], hh20)))
noncomputable def zkR (n : Nat) (b : Nat) (s : Nat) (k : Nat) (h : zd) : Option (Res × zd) :=
 (bd3 (zu h (V.ptr s 0)) fun cs1 m0 o2 => if (o2 + 1 <= m0 /\ 0 < 1) then
 (bd (cs1)[o2]? fun v3 =>
 (bd3 (zu h (V.ptr k 0)) fun cs5 m4 o6 => if (o6 + 1 <= m4 /\ 0 < 1) then
 (bd (cs5)[o6]? fun v7 =>
 (bd (bop prog .sub 3 v7 (V.int .i64 1)) fun v8 =>
 (bd (ZU 0 v3) fun p9 =>
 (bd (ZU 0 p9) fun p10 =>
 (bd (ZU 2 p10) fun p11 =>
 (bd (nv v8) fun n12 =>
 (if (n12 < 8) then
 (bd (ZU (n12 * 1) p11) fun p13 =>
 (bd3 (zu h p13) fun cs15 m14 o16 => if (o16 + 1 <= m14 /\ 0 < 1) then
 (bd (cs15)[o16]? fun v17 =>
 (zV n (Wt n b k) [v17] h)) else none)) else none))))))) else none)) else none)
theorem zjz (n : Nat) (b : Nat) (s : Nat) (k : Nat) (h : zd) : call (n + 1) 132 [(V.yld b), (V.ptr s 0), (V.ptr k 0)] h = zkR n b s k h := by kernel_rfl
noncomputable def K8 (n : Nat) (x5 : Nat) (b : Nat) (z20 : V) (h : zd) : Option (Bool × zd) :=
 (lpR ((h)[b]?) fun cD cV cF cP cA cB =>
 (bd3 (zu ((h).set b (HB.loop cD cV cF cP cA cB .busy)) (V.ptr x5 0)) fun cs15 m14 o16 => if (o16 + 1 <= m14 /\ 0 < 1) then
 (bd (cs15)[o16]? fun v17 =>
 (bd (ZU 0 z20) fun p18 =>
 (bd (ZU 0 p18) fun p19 =>
 (bd3 (zu ((h).set b (HB.loop cD cV cF cP cA cB .busy)) p19) fun cs21 m20 o22 => if (o22 + 1 <= m20 /\ 0 < 1) then
 (bd (cs21)[o22]? fun v23 =>
 (bd (JD prog 27 1 [(0, v23)]) fun p24 =>
 (bd2 (Wa 21 1 ((h).set b (HB.loop cD cV cF cP cA cB .busy)) p24.2 v17) fun v25 h26 =>
 (if ((V.cells v25)).length = 1 then
 (bd2 (Zs h26 (V.cells v25) (V.ptr x5 0)) fun b27 x28 =>
 (lpB ((((h26).set b27 x28))[b]?) fun eD eV eF eP eA eB => some (true, (((h26).set b27 x28)).set b (HB.loop eD eV eF eP eA eB .ready)))) else none)))) else none)))) else none))
theorem zcT (n : Nat) (y0 : Option V) (y1 : Option V) (y4 : Option V) (x5 : Nat) (y7 : Option V) (y8 : Option V) (y9 : Option V) (y10 : Option V) (y11 : Option V) (y12 : Option V) (y13 : Option V) (y14 : Option V) (y15 : Option V) (y16 : Option V) (y17 : Option V) (y18 : Option V) (y19 : Option V) (b : Nat) (z20 : V) (h : zd) : zce prog (call n) QD WG n (L.textDraws prog) true [y0, y1, none, none, y4, some (V.ptr x5 0), none, y7, y8, y9, y10, y11, y12, y13, y14, y15, y16, y17, y18, y19, none, none, none, none, none, none, none, none, none] [20] (jJ (Qm f70)) (jK (Qm f70)) b [z20] h = K8 n x5 b z20 h := by kernel_rfl
noncomputable def zeD (n : Nat) (s : Nat) (k : Int) (h : zd) : Option (Res × zd) :=
 (bd (Qo prog h .eql 117 (V.ptr s 0) (V.val (.pointer none))) fun v0 =>
 (bv v0 fun b1 => if b1 then
 some (Res.ret [(V.row (h).length 1 0 0)], (h ++ [(HB.row 21 1 [] true)]))
 else
 (if (decide (k < 1)) then
 some (Res.ret [(V.row (h).length 1 0 0)], (h ++ [(HB.row 21 1 [] true)]))
 else
 (if (decide (k > 8)) then
 some (Res.ret [(V.row (h).length 1 0 0)], (h ++ [(HB.row 21 1 [] true)]))
 else
 (cl (call n 100 [(V.ptr s 0), (V.int .i64 k)] h) (fun r2 h3 =>
 (ZI r2 fun v5 =>
 (fnK v5 fun f6 c7 => if ((WO prog f6).isNone && (Qb (jJ (Qm f70)) && Qb (jK (Qm f70)))) = true then
 (clN (call n f6 ((V.yld ((((h3 ++ [(HB.box 1 [(V.sl 0 [] true)])]) ++ [(HB.row 21 1 [] true)])).length + 1)) :: c7) (((h3 ++ [(HB.box 1 [(V.sl 0 [] true)])]) ++ [(HB.row 21 1 [] true)]) ++ [HB.defb, HB.loop (((h3 ++ [(HB.box 1 [(V.sl 0 [] true)])]) ++ [(HB.row 21 1 [] true)])).length true [some (V.ptr s 0), some (V.int .i64 k), none, none, some (V.row ((h3 ++ [(HB.box 1 [(V.sl 0 [] true)])])).length 1 0 0), some (V.ptr (h3).length 0), none, some (V.ptr s 0), some v0, some (V.bool false), some (V.int .i64 k), some (V.bool (decide (k < 1))), some (V.bool (decide (k < 1))), some (V.bool false), some (V.int .i64 k), some (V.bool (decide (k > 8))), some (V.bool false), some (V.ptr s 0), some (V.int .i64 k), some v5, none, none, none, none, none, none, none, none, none] [20] (jJ (Qm f70)) (jK (Qm f70)) .ready])) fun h9 => lpE ((h9)[((((h3 ++ [(HB.box 1 [(V.sl 0 [] true)])]) ++ [(HB.row 21 1 [] true)])).length + 1)]?) (
 (bd3 (zu ((h9).set ((((h3 ++ [(HB.box 1 [(V.sl 0 [] true)])]) ++ [(HB.row 21 1 [] true)])).length + 1) HB.dead) (V.ptr (h3).length 0)) fun cs11 m10 o12 => if (o12 + 1 <= m10 /\ 0 < 1) then
 (bd (cs11)[o12]? fun v13 =>
 (dfB ((((h9).set ((((h3 ++ [(HB.box 1 [(V.sl 0 [] true)])]) ++ [(HB.row 21 1 [] true)])).length + 1) HB.dead))[(((h3 ++ [(HB.box 1 [(V.sl 0 [] true)])]) ++ [(HB.row 21 1 [] true)])).length]?) (
 some (Res.ret [v13], ((((h9).set ((((h3 ++ [(HB.box 1 [(V.sl 0 [] true)])]) ++ [(HB.row 21 1 [] true)])).length + 1) HB.dead)).set (((h3 ++ [(HB.box 1 [(V.sl 0 [] true)])]) ++ [(HB.row 21 1 [] true)])).length HB.dead))))) else none)) (
 (dfB ((((h9).set ((((h3 ++ [(HB.box 1 [(V.sl 0 [] true)])]) ++ [(HB.row 21 1 [] true)])).length + 1) HB.dead))[(((h3 ++ [(HB.box 1 [(V.sl 0 [] true)])]) ++ [(HB.row 21 1 [] true)])).length]?) (
 some (Res.ret [(V.row ((h3 ++ [(HB.box 1 [(V.sl 0 [] true)])])).length 1 0 0)], ((((h9).set ((((h3 ++ [(HB.box 1 [(V.sl 0 [] true)])]) ++ [(HB.row 21 1 [] true)])).length + 1) HB.dead)).set (((h3 ++ [(HB.box 1 [(V.sl 0 [] true)])]) ++ [(HB.row 21 1 [] true)])).length HB.dead)))))) else none))) (fun z4 h3 => some (Res.pan z4, h3)))))))
theorem zfG (n : Nat) (s : Nat) (k : Int) (h : zd) : call (n + 1) 70 [(V.ptr s 0), (V.int .i64 k)] h = zeD n s k h := by kernel_rfl
noncomputable def zeE (n : Nat) (s : Nat) (h : zd) : Option (Res × zd) :=
 (cl (call n 70 [(V.ptr s 0), (V.int .i64 1)] h) (fun r0 h1 =>
 (ZI r0 fun v3 =>
 some (Res.ret [v3], h1))) (fun z2 h1 => some (Res.pan z2, h1)))
theorem zfH (n : Nat) (s : Nat) (h : zd) : call (n + 1) 217 [(V.ptr s 0)] h = zeE n s h := by kernel_rfl
noncomputable def JO (n : Nat) (l : V) (st2 : List V) (hh3 : zd) (next4 : List V -> zd -> Option (Res × zd)) : Option (Res × zd) :=
 (bd (bop prog .gtr 3 (gv st2 1) (V.int .i64 0)) fun v5 =>
 (bv v5 fun b6 => if b6 then
 (bdS (nv (gv st2 1)) fun n7 =>
 (bd (ZK 1 n7 l) fun p8 =>
 (bd3 (zu hh3 p8) fun cs10 m9 o11 => if (o11 + 1 <= m9 /\ 0 < 1) then
 (bd (cs10)[o11]? fun v12 =>
 (bd (bop prog .sub 3 (gv st2 1) (V.int .i64 1)) fun v13 =>
 (bdS (nv v13) fun n14 =>
 (bd (ZK 1 n14 l) fun p15 =>
 (bd3 (zu hh3 p15) fun cs17 m16 o18 => if (o18 + 1 <= m16 /\ 0 < 1) then
 (bd (cs17)[o18]? fun v19 =>
 (cl (call n 244 [v12, v19] hh3) (fun r20 h21 =>
 (ZI r20 fun v23 =>
 (bv v23 fun b24 => if b24 then
 some (Res.ret [(V.bool false)], h21)
 else
 (bd (bop prog .sub 3 (gv st2 1) (V.int .i64 1)) fun v25 =>
 (next4 [(gv st2 0), v25] h21))))) (fun z22 h21 => none))) else none))))) else none)))
 else
 some (Res.ret [(V.bool true)], hh3)))
noncomputable def zhn (n : Nat) (l : V) (h : zd) : Option (Res × zd) :=
 (bd (ZW h l) fun p0 =>
 (zV n (JO n l) [(V.bool false), (V.int .i64 (IntKind.i64.wrap (((p0.2).length : Int) - 1)))] h))
theorem zho (n : Nat) (l : V) (h : zd) : call (n + 1) 237 [l] h = zhn n l h := by kernel_rfl
noncomputable def zqi (n : Nat) (x0 : Int) (h : zd) : Option (Res × zd) :=
 some (Res.ret [(V.bool (x0 != x0))], h)
theorem znG (n : Nat) (x0 : Int) (h : zd) : call (n + 1) 247 [(V.int .i32 x0)] h = zqi n x0 h := by kernel_rfl
noncomputable def zkS (n : Nat) (x0 : Int) (x1 : Int) (h : zd) : Option (Res × zd) :=
 (cl (call n 247 [(V.int .i32 x0)] h) (fun r0 h1 =>
 (ZI r0 fun v3 =>
 (bv v3 fun b4 => if b4 then
 (cl (call n 247 [(V.int .i32 x1)] h1) (fun r5 h6 =>
 (ZI r5 fun v8 =>
 (bd (uop .not v8) fun v9 =>
 (bv v9 fun b10 => if b10 then
 some (Res.ret [(V.bool true)], h6)
 else
 some (Res.ret [(V.bool (decide (x0 < x1)))], h6))))) (fun z7 h6 => some (Res.pan z7, h6)))
 else
 some (Res.ret [(V.bool (decide (x0 < x1)))], h1)))) (fun z2 h1 => some (Res.pan z2, h1)))
theorem zjA (n : Nat) (x0 : Int) (x1 : Int) (h : zd) : call (n + 1) 244 [(V.int .i32 x0), (V.int .i32 x1)] h = zkS n x0 x1 h := by kernel_rfl
noncomputable def zcU (n : Nat) (x0 : Int) (x1 : Int) (h : zd) : Option (Res × zd) :=
 (cl (call n 247 [(V.int .i32 x0)] h) (fun r0 h1 =>
 (ZI r0 fun v3 =>
 (cl (call n 247 [(V.int .i32 x1)] h1) (fun r4 h5 =>
 (ZI r4 fun v7 =>
 (bv v3 fun b8 => if b8 then
 (bv v7 fun b9 => if b9 then
 some (Res.ret [(V.int .i64 0)], h5)
 else
 some (Res.ret [(V.int .i64 (-1))], h5))
 else
 (bv v7 fun b10 => if b10 then
 some (Res.ret [(V.int .i64 1)], h5)
 else
 (if (decide (x0 < x1)) then
 some (Res.ret [(V.int .i64 (-1))], h5)
 else
 (if (decide (x0 > x1)) then
 some (Res.ret [(V.int .i64 1)], h5)
 else
 some (Res.ret [(V.int .i64 0)], h5))))))) (fun z6 h5 => some (Res.pan z6, h5))))) (fun z2 h1 => some (Res.pan z2, h1)))
theorem zdL (n : Nat) (x0 : Int) (x1 : Int) (h : zd) : call (n + 1) 242 [(V.int .i32 x0), (V.int .i32 x1)] h = zcU n x0 x1 h := by kernel_rfl
end Go.Proofs.Tryz
set_option linter.unusedSimpArgs false
namespace Go.L
theorem zF {h : zd} {b n : Nat} {cs : List V} (hb : h[b]? = some (.box n cs)) (o : Nat) : zu h (.ptr b o) = some (cs, n, o) := by simp only [zu, hb]
theorem ZC (h : zd) (n : Nat) (cs : List V) (o : Nat) : zu h (.iptr n cs o) = some (cs, n, o) := rfl
theorem Xl {sz n : Nat} {l : List (List V)} {es : List V} (h : l[n]? = some es) (b : Bool) : ZK sz n (.sl sz l b) = some (.iptr sz es 0) := by simp [ZK, h]
@[simp] theorem Xb (h : zd) (sz : Nat) (l : List (List V)) (b : Bool) : ZW h (.sl sz l b) = some (sz, l) := rfl
@[simp] theorem Kj (sz : Nat) (l : List (List V)) (b : Bool) : QC (.sl sz l b) = some l.length := rfl
@[simp] theorem zro {R : Type} (l : List V) (k : List V -> Option R) : zrM (.agg l) k = k l := rfl
theorem zaK {h : zd} {b : Nat} {es : List (V × V)} (hb : h[b]? = some (.map es)) : YD h (.map b) = some es := by simp only [YD, hb]
section
variable {α : Type} [DecidableEq α] {kf : α -> V} {ks : List Nat}
end
end Go.L
namespace Go.L
theorem zhp {h : zd} {b e sz lo hi : Nat} {l : List (List V)} {z : Bool} (hb : h[b]? = some (.row e sz l z)) (h1 : lo <= hi) (h2 : hi <= l.length) : YB h b sz lo hi = some ((l.take hi).drop lo) := by
 simp only [YB, hb]
 rw [if_pos ⟨trivial, h1, h2⟩]
theorem zl5 {h : zd} {b e sz : Nat} {l : List (List V)} {z : Bool} (hb : h[b]? = some (.row e sz l z)) : YB h b sz 0 l.length = some l := by
 rw [zhp hb (Zg _) (zk _), Qq, zN]
theorem Qw {h : zd} {b e sz lo hi : Nat} {l : List (List V)} {z : Bool} (hb : h[b]? = some (.row e sz l z)) (h1 : lo <= hi) (h2 : hi <= l.length) : ZW h (.row b sz lo hi) = some (sz, (l.take hi).drop lo) := by
 simp only [ZW, zhp hb h1 h2, Z0]
theorem qR {h : zd} {b e sz : Nat} {l : List (List V)} {z : Bool} (hb : h[b]? = some (.row e sz l z)) : ZW h (.row b sz 0 l.length) = some (sz, l) := by
 simp only [ZW, zl5 hb, Z0]
theorem W8 (b sz lo hi : Nat) : QC (.row b sz lo hi) = some (hi - lo) := rfl
theorem JG {r sz u v a b : Nat} (h1 : a <= b) (h2 : b <= v - u) (ok : Bool) : ZP sz a b none ok (.row r sz u v) = some (.row r sz (u + a) (u + b)) := by
 simp only [ZP]
 rw [if_pos ⟨⟨h1, h2, trivial⟩, trivial⟩]
theorem XL {b sz lo hi n : Nat} (h : n < hi - lo) : ZK sz n (.row b sz lo hi) = some (.rptr b sz (lo + n) 0) := by
 simp only [ZK]
 rw [if_pos ⟨trivial, h⟩]
theorem Xz {h : zd} {b e sz i c : Nat} {l : List (List V)} {z : Bool} {es : List V} (hb : h[b]? = some (.row e sz l z)) (h0 : 0 < sz) (hi : l[i]? = some es) : zu h (.rptr b sz i c) = some (es, sz, c) := by
 simp only [zu, hb]
 rw [if_pos ⟨trivial, h0⟩]
 simp only [hi]
theorem zl6 (k b sz i c : Nat) : ZU k (.rptr b sz i c) = some (.rptr b sz i (c + k)) := rfl
theorem JP {h : zd} {b e sz i c : Nat} {l : List (List V)} {z : Bool} {es vs : List V} (hb : h[b]? = some (.row e sz l z)) (h0 : 0 < sz) (hc : c + vs.length <= sz) (hi : l[i]? = some es) : Zs h vs (.rptr b sz i c) = some (b, .row e sz (l.set i (setR es c vs)) z) := by
 simp only [Zs, hb]
 rw [if_pos ⟨trivial, h0, hc⟩]
 simp only [hi]
end Go.L
namespace Go.L
theorem ZV {h : zd} {b n o : Nat} {cs vs : List V} (hb : h[b]? = some (.box n cs)) (ho : o + vs.length <= n) : Zs h vs (.ptr b o) = some (b, .box n (setR cs o vs)) := by
 simp only [Zs, hb]
 rw [if_pos ho]
theorem znH {α : Type} {l : List α} {lo hi i : Nat} (h : lo + i < hi) : ((l.take hi).drop lo)[i]? = l[lo + i]? := by
 rw [Zi, Za, if_pos h]
theorem Xq {h : zd} {b : Nat} (hb : b < h.length) (x : HB) : (h.set b x)[b]? = some x := Zq hb
theorem zS {h : zd} {b : Nat} {x : HB} (hb : h[b]? = some x) : b < h.length := (zi.1 hb).1
end Go.L
namespace Go.Sk
open Go.L
def hgt : Nat -> List Bool -> Nat × List Bool
 | n, [] => (n, [])
 | n, b :: r => if n = 8 then (n, b :: r) else if b then hgt (n + 1) r else (n, r)
def qS (x : Bool) : List V := [.bool x]
theorem zkT : ∀ (l : List Bool) (n : Nat), 1 <= n -> n <= 8 -> 1 <= (hgt n l).1 /\ (hgt n l).1 <= 8
 | [], n, h1, h2 => ⟨h1, h2⟩
 | b :: r, n, h1, h2 => by
   simp only [hgt]
   split
   · exact ⟨h1, h2⟩
   · split
     · exact zkT r (n + 1) (by omega) (by omega)
     · exact ⟨h1, h2⟩
end Go.Sk
namespace Go.Proofs.Tryz
open Go.L Go.Rp Go.Sk
set_option maxRecDepth 100000
def BitsAt (h : zd) (c : Nat) (cb : Option Nat) (bits : List Bool) : Prop := match cb with
 | none => bits = [] /\ h[c]? = some (.box 1 [.sl 0 [] true])
 | some b => b ≠ c /\ ∃ lo l z, h[c]? = some (.box 1 [.row b 1 lo (lo + bits.length)]) /\ h[b]? = some (.row 4 1 l z) /\ lo + bits.length <= l.length /\ (l.take (lo + bits.length)).drop lo = bits.map qS
theorem BitsAt.keep {h h' : zd} {c : Nat} {cb : Option Nat} {bits : List Bool} (hb : BitsAt h c cb bits) (hc : h'[c]? = h[c]?) (hk : ∀ b, cb = some b -> h'[b]? = h[b]?) : BitsAt h' c cb bits := by
 cases cb with
 | none => exact ⟨hb.1, hc.trans hb.2⟩
 | some b =>
   obtain ⟨h1, lo, l, z, h2, h3, h4⟩ := hb
   exact ⟨h1, lo, l, z, hc.trans h2, (hk b rfl).trans h3, h4⟩
theorem qT (h : zd) (c : Nat) : Qo prog h .eql 122 (V.ptr c 0) (V.val (.pointer none)) = some (.bool false) := by kernel_rfl
theorem zl7 (n : Nat) {h : zd} {c : Nat} {cb : Option Nat} {bits : List Bool} (hb : BitsAt h c cb bits) : call (n + 1) 243 [.ptr c 0] h = some (.ret [.int .i64 (bits.length : Int)], h) := by
 refine (zhg n c h).trans ?_
 unfold zhf
 rw [qT, za, zm, if_neg (by decide)]
 cases cb with
 | none =>
   obtain ⟨rfl, hc⟩ := hb
   rw [zF hc, zo, if_pos (by decide)]
   rfl
 | some b =>
   obtain ⟨h1, lo, l, z, h2, h3, h4, h5⟩ := hb
   rw [zF h2, zo, if_pos (by decide)]
   simp only [zb, za]
   rw [Qw h3 (by omega) h4, za, h5]
   simp
theorem zeF (n : Nat) {h : zd} {c : Nat} {cb : Option Nat} {bits : List Bool} (hb : BitsAt h c cb bits) :
    ∃ h', call (n + 2) 236 [.ptr c 0] h = some (.ret [.bool (bits.headD false)], h') /\ BitsAt h' c cb bits.tail /\ h'.length = h.length /\ ∀ i, i ≠ c -> h'[i]? = h[i]? := by
 rw [show n + 2 = (n + 1) + 1 from rfl, zhi]
 unfold zhh
 rw [zl7 n hb, zM, zE, Xr, za, zm]
 cases bits with
 | nil =>
   rw [if_pos (by rfl)]
   exact ⟨h, rfl, hb, rfl, fun _ _ => rfl⟩
 | cons x r =>
   rw [if_neg (by simp; omega)]
   cases cb with
   | none => exact absurd hb.1 (by simp)
   | some b =>
     obtain ⟨h1, lo, l, z, h2, h3, h4, h5⟩ := hb
     have hx : l[lo]? = some [.bool x] := by
      have := znH (l := l) (lo := lo) (hi := lo + (x :: r).length) (i := 0) (by simp)
      rw [h5] at this
      simpa [qS] using this.symm
     have hr : (l.take (lo + 1 + r.length)).drop (lo + 1) = r.map qS := by
      have : ((l.take (lo + (x :: r).length)).drop lo).drop 1 = r.map qS := by rw [h5]; rfl
      rw [List.drop_drop] at this
      rw [show lo + 1 + r.length = lo + (x :: r).length by simp; omega]
      exact this
     have hs : ZP 1 1 (x :: r).length none true (.row b 1 lo (lo + (x :: r).length)) = some (.row b 1 (lo + 1) (lo + 1 + r.length)) := by
      rw [JG (by simp) (by omega)]
      congr 2
      simp; omega
     have hcl := zS h2
     rw [zF h2, zo, if_pos (by decide)]
     simp only [zb, za]
     rw [XL (by simp), za, Zb, Xz h3 (by decide) hx, zo, if_pos (by decide)]
     simp only [zb, za]
     rw [zo, if_pos (by decide)]
     simp only [zb, za]
     rw [W8, za, Xw, hs, za]
     simp only [V.cells, zA, zP, zr, if_true]
     rw [ZV h2 (by simp), Zj]
     refine ⟨_, rfl, ⟨h1, lo + 1, l, z, ?_, ?_, ?_, hr⟩, by rw [zq], fun i hi => ze (Ne.symm hi)⟩
     · rw [Xq hcl]; rfl
     · rw [ze (Ne.symm h1)]; exact h3
     · simp at h4 ⊢; omega
theorem zhq (n : Nat) {c : Nat} {cb : Option Nat} : ∀ (bits : List Bool) (k N : Nat) (h : zd), BitsAt h c cb bits -> 1 <= k -> k <= 8 -> 8 < N + k →
    ∃ h', zV N (Wl (n + 2) c) [.int .i64 (k : Int)] h = some (.ret [.int .i64 ((hgt k bits).1 : Int)], h') /\ BitsAt h' c cb (hgt k bits).2 /\ h'.length = h.length /\ ∀ i, i ≠ c -> h'[i]? = h[i]? := by
 intro bits
 induction bits with
 | nil =>
   intro k N h hb h1 h2 hN
   obtain ⟨N, rfl⟩ : ∃ N', N = N' + 1 := ⟨N - 1, by omega⟩
   rw [zD]
   unfold Wl
   simp only [gv, zf, Xr, za, zm]
   by_cases h8 : k = 8
   · subst h8
     exact ⟨h, rfl, hb, rfl, fun _ _ => rfl⟩
   · rw [if_neg (by simp; omega)]
     obtain ⟨h', e, b1, b2, b3⟩ := zeF n hb
     rw [e, zM, zE]
     exact ⟨h', rfl, b1, b2, b3⟩
 | cons x r ih =>
   intro k N h hb h1 h2 hN
   obtain ⟨N, rfl⟩ : ∃ N', N = N' + 1 := ⟨N - 1, by omega⟩
   rw [zD]
   unfold Wl
   simp only [gv, zf, Xr, za, zm]
   by_cases h8 : k = 8
   · subst h8
     exact ⟨h, rfl, by simpa [hgt] using hb, rfl, fun _ _ => rfl⟩
   · rw [if_neg (by simp; omega)]
     obtain ⟨h', e, b1, b2, b3⟩ := zeF n hb
     rw [e, zM, zE]
     simp only [hgt, if_neg h8]
     cases x with
     | false => exact ⟨h', rfl, b1, b2, b3⟩
     | true =>
       simp only [List.headD_cons, Ki, QP, za, zm, zn, if_false, zK, if_true]
       rw [Xv (show k < lim by unfold lim; omega)]
       obtain ⟨h'', e', d1, d2, d3⟩ := ih (k + 1) N h' b1 (by omega) (by omega) (by omega)
       exact ⟨h'', e', d1, d2.trans b2, fun i hi => (d3 i hi).trans (b3 i hi)⟩
theorem zbj (n : Nat) {h : zd} {c : Nat} {cb : Option Nat} {bits : List Bool} (hb : BitsAt h c cb bits) (hn : 8 <= n) :
    ∃ h', call (n + 3) 227 [.ptr c 0] h = some (.ret [.int .i64 ((hgt 1 bits).1 : Int)], h') /\ BitsAt h' c cb (hgt 1 bits).2 /\ h'.length = h.length /\ ∀ i, i ≠ c -> h'[i]? = h[i]? := by
 rw [show n + 3 = (n + 2) + 1 from rfl, zdJ]
 unfold zcO
 exact zhq n bits 1 (n + 2) h hb (zk _) (by omega) (by omega)
def Yp (y : Int) (i : Nat) : Bool := decide (y.toNat / 2 ^ i % 2 = 1)
def zaL (y : Int) : List Bool := (List.range 8).map (Yp y)
theorem zjB (a : Int) (i : Nat) (hi : i <= 8) : bop prog .shr 5 (.int .u8 a) (.int .i64 (i : Int)) = some (.int .u8 (a.fdiv (2 ^ i))) := by
 have e : bop prog .shr 5 (.int .u8 a) (.int .i64 (i : Int)) = zmW .shr .u8 a (i : Int) := by kernel_rfl
 rw [e]
 unfold zmW
 rw [if_neg (by omega)]
 simp only [XI]
 rw [X2 (by exact hi)]
theorem zcV (a : Int) : bop prog .and 5 (.int .u8 a) (.int .u8 1) = some (.int .u8 (IntKind.u8.wrap (BitVec.ofInt 8 a &&& BitVec.ofInt 8 1).toNat)) := by kernel_rfl
theorem zrR : ∀ m : Fin 256, IntKind.u8.wrap ((BitVec.ofInt 8 (m.val : Int) &&& BitVec.ofInt 8 1).toNat : Int) = ((m.val % 2 : Nat) : Int) := by decide +kernel
theorem zbk (a : Int) : bop prog .eql 5 (.int .u8 a) (.int .u8 1) = some (.bool (a == 1)) := by kernel_rfl
theorem znI {y : Int} (h0 : 0 <= y) (h1 : y < 256) (i : Nat) : (IntKind.u8.wrap (BitVec.ofInt 8 (y.fdiv (2 ^ i)) &&& BitVec.ofInt 8 1).toNat == (1 : Int)) = Yp y i := by
 obtain ⟨m, rfl⟩ : ∃ m : Nat, y = (m : Int) := ⟨y.toNat, (ZD h0).symm⟩
 have hp : ((2 : Int) ^ i) = ((2 ^ i : Nat) : Int) := by simp
 have hf : (m : Int).fdiv (2 ^ i) = ((m / 2 ^ i : Nat) : Int) := by rw [hp, Int.fdiv_eq_ediv_of_nonneg _ (Int.natCast_nonneg _)]; rfl
 have hlt : m / 2 ^ i < 256 := Nat.lt_of_le_of_lt (Nat.div_le_self _ _) (by omega)
 have := zrR ⟨m / 2 ^ i, hlt⟩
 simp only at this
 rw [hf, this]
 unfold Yp
 rw [XI]
 by_cases h : m / 2 ^ i % 2 = 1
 · simp [h]
 · have h' : m / 2 ^ i % 2 = 0 := by omega
   simp [h']
theorem zhr (b : Bool) : JD prog 73 1 [(0, .bool b)] = some (1, [[.bool b]]) := by kernel_rfl
structure Fed (h h' : zd) (c : Nat) (cb cb' : Option Nat) : Prop where
 len : h.length <= h'.length
 old : ∀ i, i < h.length -> i ≠ c -> cb ≠ some i -> h'[i]? = h[i]?
 own : ∀ b, cb' = some b -> cb = some b \/ h.length <= b
theorem Fed.refl (h : zd) (c : Nat) (cb : Option Nat) : Fed h h c cb cb := ⟨zk _, fun _ _ _ _ => rfl, fun _ h => .inl h⟩
theorem Fed.trans {h h' h'' : zd} {c : Nat} {cb cb' cb'' : Option Nat} (a : Fed h h' c cb cb') (b : Fed h' h'' c cb' cb'') : Fed h h'' c cb cb'' :=
 ⟨Xn a.len b.len, fun i h1 h2 h3 => (b.old i (by have := a.len; omega) h2 fun e => by rcases a.own i e with h | h; exact h3 h; omega).trans (a.old i h1 h2 h3), fun x hx => by
  rcases b.own x hx with h | h
  · exact a.own x h
  · exact .inr (by have := a.len; omega)⟩
theorem znJ (n : Nat) {h : zd} {c : Nat} {cb : Option Nat} {bits : List Bool} (hb : BitsAt h c cb bits) (st4 : List V) (next6 next18 : List V -> zd -> Option (Res × zd)) {y : Int} (y0 : 0 <= y) (y1 : y < 256) (i : Nat) (hi : i < 8) (hl : bits.length < 20000) :
    ∃ h' cb', Q5 n c st4 next6 (.int .u8 y) [.int .i64 (i : Int)] h next18 = next18 [.int .i64 ((i + 1 : Nat) : Int)] h' /\ BitsAt h' c cb' (bits ++ [Yp y i]) /\ Fed h h' c cb cb' := by
 have hlt : decide ((i : Int) < 8) = true := by simp; omega
 have w1 := zjB y i (by omega)
 have w2 := znI y0 y1 i
 have hne : (((bits.length : Nat) : Int) == 20000) = false := by simp; omega
 unfold Q5
 simp only [gv, zf, zt, za, zm, hlt, if_true]
 cases cb with
 | none =>
   obtain ⟨rfl, hc⟩ := hb
   have hcl := zS hc
   rw [zF hc, zo, if_pos (by decide)]
   simp only [zb, za]
   rw [Xb, za, if_neg (by decide), zo, if_pos (by decide)]
   simp only [zb, za]
   rw [w1, za, zcV, za, zbk, za, w2, zhr, za]
   have Wb : Wa 4 1 h [[.bool (Yp y i)]] (.sl 0 [] true) = some (.row h.length 1 0 1, h ++ [.row 4 1 [[.bool (Yp y i)]] true]) := rfl
   simp only [Wb, Zj, V.cells, zA, zP, zr, if_true]
   have hc' : (h ++ [HB.row 4 1 [[.bool (Yp y i)]] true])[c]? = some (.box 1 [.sl 0 [] true]) := by rw [zl hcl]; exact hc
   rw [ZV hc' (by simp), Zj, zK, za, Xv (show i < lim by unfold lim; omega)]
   refine ⟨_, some h.length, rfl, ⟨by omega, 0, [[.bool (Yp y i)]], true, ?_, ?_, ?_, ?_⟩, ⟨by simp, fun j h1 h2 h3 => ?_, fun b hb => .inr (by cases hb; exact zk _)⟩⟩
   · rw [Xq (by simp; omega)]; rfl
   · rw [ze (by omega)]; exact zJ
   · simp
   · simp [qS]
   · rw [ze (by omega), zl h1]
 | some b =>
   obtain ⟨h1, lo, l, z, h2, h3, h4, h5⟩ := hb
   have hcl := zS h2
   have hbl := zS h3
   rw [zF h2, zo, if_pos (by decide)]
   simp only [zb, za]
   rw [Qw h3 (by omega) h4, za, h5]
   simp only [zx, hne, zn, if_false]
   rw [zo, if_pos (by decide)]
   simp only [zb, za]
   rw [w1, za, zcV, za, zbk, za, w2, zhr, za]
   have Wb : Wa 4 1 h [[.bool (Yp y i)]] (.row b 1 lo (lo + bits.length)) = some (.row h.length 1 0 (bits.length + 1), h.set b .dead ++ [.row 4 1 (bits.map qS ++ [[.bool (Yp y i)]]) (z && lo == 0)]) := by
    simp only [Wa, h3]
    rw [if_pos (by refine ⟨⟨?_, ?_, ?_⟩, ⟨by omega, h4⟩, by simp [lim]; omega⟩ <;> first | trivial | rfl), h5, Xw]
    rfl
   simp only [Wb, Zj, V.cells, zA, zP, zr, if_true]
   have hc' : (h.set b .dead ++ [HB.row 4 1 (bits.map qS ++ [[.bool (Yp y i)]]) (z && lo == 0)])[c]? = some (.box 1 [.row b 1 lo (lo + bits.length)]) := by
    rw [zl (by rw [zq]; exact hcl), ze h1]; exact h2
   rw [ZV hc' (by simp), Zj, zK, za, Xv (show i < lim by unfold lim; omega)]
   refine ⟨_, some h.length, rfl, ⟨by omega, 0, (bits.map qS ++ [[.bool (Yp y i)]]), (z && (lo == 0)), ?_, ?_, ?_, ?_⟩, ⟨by simp, fun j h1 h2 h3 => ?_, fun b hb => .inr (by cases hb; exact zk _)⟩⟩
   · rw [Xq (by simp; omega)]; simp [setR]
   · rw [ze (by omega)]
     have : h.length = (h.set b .dead).length := by rw [zq]
     rw [this]; exact zJ
   · simp
   · simp [qS, zO]
   · rw [ze (by omega), zl (by rw [zq]; exact h1), ze (fun e => h3 (by rw [e]))]
theorem zl8 (n : Nat) {c : Nat} (st4 : List V) (next6 : List V -> zd -> Option (Res × zd)) {y : Int} (y0 : 0 <= y) (y1 : y < 256) : ∀ (d i N : Nat) (h : zd) (cb : Option Nat) (bits : List Bool), BitsAt h c cb bits -> i + d = 8 -> d < N -> bits.length + d <= 20000 →
    ∃ h' cb', zV N (Q5 n c st4 next6 (.int .u8 y)) [.int .i64 (i : Int)] h = next6 [.int .i64 (IntKind.i64.wrap ((match gv st4 0 with | .int _ k => k | _ => 0) + 1))] h' /\ BitsAt h' c cb' (bits ++ ((List.range 8).drop i).map (Yp y)) /\ Fed h h' c cb cb' \/ (∀ k, gv st4 0 ≠ .int .i64 k) := by
 intro d
 induction d with
 | zero =>
   intro i N h cb bits hb h1 h2 h3
   obtain ⟨N, rfl⟩ : ∃ N', N = N' + 1 := ⟨N - 1, by omega⟩
   obtain rfl : i = 8 := by omega
   rcases Classical.em (∃ k, gv st4 0 = .int .i64 k) with ⟨k, hk⟩ | hk
   · refine ⟨h, cb, .inl ⟨?_, by rw [show (List.range 8).drop 8 = [] from rfl]; simpa using hb, .refl _ _ _⟩⟩
     rw [zD]
     unfold Q5
     have hg : gv [V.int .i64 ((8 : Nat) : Int)] 0 = .int .i64 8 := rfl
     rw [hg, zt, za, zm, if_neg (by decide), hk, zK, za]
   · exact ⟨h, cb, .inr fun k e => hk ⟨k, e⟩⟩
 | succ d ih =>
   intro i N h cb bits hb h1 h2 h3
   obtain ⟨N, rfl⟩ : ∃ N', N = N' + 1 := ⟨N - 1, by omega⟩
   obtain ⟨h', cb', e, b1, b2⟩ := znJ n hb st4 next6 (zV N (Q5 n c st4 next6 (.int .u8 y))) y0 y1 i (by omega) (by omega)
   obtain ⟨h'', cb'', e' | e'⟩ := ih (i + 1) N h' cb' (bits ++ [Yp y i]) b1 (by omega) (by omega) (by rw [zB, zA, zP]; omega)
   · obtain ⟨e', d1, d2⟩ := e'
     refine ⟨h'', cb'', .inl ⟨?_, ?_, b2.trans d2⟩⟩
     · rw [zD, e]; exact e'
     · have hd : (List.range 8).drop i = i :: (List.range 8).drop (i + 1) := by
         rw [zT (by simp; omega)]; simp
       rw [hd, zU]
       rwa [List.append_assoc] at d1
   · exact ⟨h'', cb'', .inr e'⟩
theorem zl9 (n : Nat) {c : Nat} (bs : List Int) (bb : Bool) (hs : Jg bs = true) (hn : 8 < n) (hlim : bs.length < lim) : ∀ (d k N : Nat) (h : zd) (cb : Option Nat) (bits : List Bool), BitsAt h c cb bits -> k + d = bs.length -> d < N -> bits.length + 8 * d <= 20000 →
    ∃ h' cb', zV N (JM n c (.sl 1 (bs.map (Xf .u8)) bb) (1, bs.map (Xf .u8))) [.int .i64 (k : Int)] h = some (.ret [], h') /\ BitsAt h' c cb' (bits ++ (bs.drop k).flatMap zaL) /\ Fed h h' c cb cb' := by
 intro d
 induction d with
 | zero =>
   intro k N h cb bits hb h1 h2 h3
   obtain ⟨N, rfl⟩ : ∃ N', N = N' + 1 := ⟨N - 1, by omega⟩
   refine ⟨h, cb, ?_, by rw [Zx (by omega)]; simpa using hb, .refl _ _ _⟩
   rw [zD]
   unfold JM
   simp only [gv, zf, zx, zt, za, zm]
   rw [if_neg (by simp; omega)]
 | succ d ih =>
   intro k N h cb bits hb h1 h2 h3
   obtain ⟨N, rfl⟩ : ∃ N', N = N' + 1 := ⟨N - 1, by omega⟩
   obtain ⟨y, hy⟩ : ∃ y, bs[k]? = some y := ⟨_, zg (by omega)⟩
   have hyv : (bs.map (Xf .u8))[k]? = some [.int .u8 y] := by rw [zcL, hy]; rfl
   have hyb : 0 <= y /\ y < 256 := by
    unfold Jg at hs
    have := Zo.1 hs y (zH hy)
    simp at this
    omega
   have hlt : decide ((k : Int) < (bs.length : Int)) = true := by simp; omega
   obtain ⟨h', cb', e | e⟩ := zl8 n (c := c) [.int .i64 (k : Int)] (zV N (JM n c (.sl 1 (bs.map (Xf .u8)) bb) (1, bs.map (Xf .u8)))) hyb.1 hyb.2 8 0 n h cb bits hb (by omega) hn (by omega)
   · obtain ⟨e, b1, b2⟩ := e
     obtain ⟨h'', cb'', e', d1, d2⟩ := ih (k + 1) N h' cb' _ b1 (by omega) (by omega) (by simp; omega)
     refine ⟨h'', cb'', ?_, ?_, b2.trans d2⟩
     · have key : ∀ next, JM n c (.sl 1 (bs.map (Xf .u8)) bb) (1, bs.map (Xf .u8)) [.int .i64 (k : Int)] h next = zV n (Q5 n c [.int .i64 (k : Int)] next (.int .u8 y)) [.int .i64 ((0 : Nat) : Int)] h := by
         intro next
         unfold JM
         simp only [gv, zf, zx, zt, za, zm, hlt, if_true, Zd, zw, Xl hyv, ZC, zo, zr, zk, Nat.reduceLT, and_self, zb]
         rfl
       rw [zD, key]
       refine e.trans ?_
       simp only [gv, zf]
       rw [Xv (show k < lim by omega)]
       exact e'
     · have hd : bs.drop k = y :: bs.drop (k + 1) := by
         rw [zT (by omega)]
         rw [zg (by omega)] at hy
         rw [Option.some.inj hy]
       rw [hd, List.flatMap_cons]
       rw [List.append_assoc] at d1
       exact d1
   · exact absurd rfl (e (k : Int))
theorem zma (n : Nat) {h : zd} {c : Nat} {cb : Option Nat} {bits : List Bool} (hb : BitsAt h c cb bits) (bs : List Int) (bb : Bool) (hs : Jg bs = true) (hl : bits.length + 8 * bs.length <= 20000) (hn : bs.length + 8 < n) :
    ∃ h' cb', call (n + 1) 65 [.ptr c 0, .sl 1 (bs.map (Xf .u8)) bb] h = some (.ret [], h') /\ BitsAt h' c cb' (bits ++ bs.flatMap zaL) /\ Fed h h' c cb cb' := by
 obtain ⟨h', cb', e, b1, b2⟩ := zl9 n bs bb hs (by omega) (by unfold lim; omega) bs.length 0 n h cb bits hb (by omega) (by omega) hl
 refine ⟨h', cb', (zhk n c _ h).trans ?_, b1, b2⟩
 unfold zhj
 rw [qT, za, zm, if_neg (by decide), Xb, za]
 exact e
theorem zdM (n : Nat) (h : zd) : call (n + 1) 62 [] h = some (.ret [.ptr h.length 0], h ++ [.box 1 [.sl 0 [] true]]) := zju n h
end Go.Proofs.Tryz
namespace Go.Sk
open Go.L
def Kk (x : Int) : List V := [.int .i32 x]
def zhs (c v : Int) : V := .agg [.int .u8 c, .int .i32 v]
def Z4 (most : Int) (c x : Int) (xs : List Int) : (Int × Int) × List Int :=
 if c = 1 then (if (xs.length : Int) < most then ((1, 0), xs ++ [x]) else ((3, 0), xs))
 else if c = 2 then (match xs.getLast? with | some y => ((2, y), xs.dropLast) | none => ((4, 0), xs))
 else ((5, 0), xs)
end Go.Sk
namespace Go.Proofs.Tryz
open Go.L Go.Rp Go.Sk
set_option maxRecDepth 100000
def StkAt (h : zd) (s : Nat) (sb : Option Nat) (most : Int) (xs : List Int) : Prop := match sb with
 | none => xs = [] /\ h[s]? = some (.box 2 [.sl 0 [] true, .int .i64 most])
 | some b => b ≠ s /\ ∃ l z, h[s]? = some (.box 2 [.row b 1 0 xs.length, .int .i64 most]) /\ h[b]? = some (.row 21 1 l z) /\ xs.length <= l.length /\ l.take xs.length = xs.map Kk
theorem StkAt.keep {h h' : zd} {s : Nat} {sb : Option Nat} {most : Int} {xs : List Int} (hb : StkAt h s sb most xs) (hc : h'[s]? = h[s]?) (hk : ∀ b, sb = some b -> h'[b]? = h[b]?) : StkAt h' s sb most xs := by
 cases sb with
 | none => exact ⟨hb.1, hc.trans hb.2⟩
 | some b =>
   obtain ⟨h1, l, z, h2, h3, h4⟩ := hb
   exact ⟨h1, l, z, hc.trans h2, (hk b rfl).trans h3, h4⟩
theorem Wu (h : zd) (c : Nat) : Qo prog h .eql 109 (V.ptr c 0) (V.val (.pointer none)) = some (.bool false) := by kernel_rfl
theorem StkAt.box {h : zd} {s : Nat} {sb : Option Nat} {most : Int} {xs : List Int} (hb : StkAt h s sb most xs) : ∃ v sz, h[s]? = some (.box 2 [v, .int .i64 most]) /\ ZW h v = some (sz, xs.map Kk) /\ (sz = 1 \/ xs = []) := by
 cases sb with
 | none =>
   obtain ⟨rfl, hc⟩ := hb
   exact ⟨_, 0, hc, Xb .., .inr rfl⟩
 | some b =>
   obtain ⟨h1, l, z, h2, h3, h4, h5⟩ := hb
   refine ⟨_, 1, h2, ?_, .inl rfl⟩
   rw [Qw h3 (Zg _) h4, zN, h5]
theorem Km (n : Nat) {h : zd} {s : Nat} {sb : Option Nat} {most : Int} {xs : List Int} (hb : StkAt h s sb most xs) : call (n + 1) 169 [.ptr s 0] h = some (.ret [.int .i64 (xs.length : Int)], h) := by
 obtain ⟨v, sz, h1, h2, h3⟩ := hb.box
 refine (zl1 n s h).trans ?_
 unfold znC
 rw [Wu, za, zm, if_neg (by decide), zF h1, zo, if_pos (by decide)]
 simp only [zb, za]
 rw [h2, za]
 simp
theorem zdN (n : Nat) {h : zd} {s : Nat} {sb : Option Nat} {most : Int} {xs : List Int} (hb : StkAt h s sb most xs) : call (n + 1) 178 [.ptr s 0] h = some (.ret [.int .i64 most], h) := by
 obtain ⟨v, sz, h1, h2, h3⟩ := hb.box
 refine (zjr n s h).trans ?_
 unfold zkM
 rw [Wu, za, zm, if_neg (by decide), zF h1, zo, if_pos (by decide)]
 rfl
theorem zcW (n : Nat) {h : zd} {s : Nat} {sb : Option Nat} {most : Int} {xs : List Int} (hb : StkAt h s sb most xs) (hl : xs.length < lim) : call (n + 1) 168 [.ptr s 0] h = some (.ret [.sl 1 (xs.map Kk) false], h) := by
 obtain ⟨v, sz, h1, h2, h3⟩ := hb.box
 refine (zhe n s h).trans ?_
 unfold zhd
 rw [Wu, za, zm, if_neg (by decide), zF h1, zo, if_pos (by decide)]
 simp only [zb, za]
 rw [h2, za, if_pos ⟨h3.imp id (fun e => by rw [e]; rfl), by simpa using hl⟩]
theorem zdO (n : Nat) {h : zd} {s : Nat} {sb : Option Nat} {most : Int} {xs : List Int} (hb : StkAt h s sb most xs) (x : Int) (hm : most <= xs.length) : call (n + 1) 180 [.ptr s 0, .int .i32 x] h = some (.ret [.bool false], h) := by
 obtain ⟨v, sz, h1, h2, h3⟩ := hb.box
 refine (zcN n s x h).trans ?_
 unfold zfC
 rw [Wu, za, zm, if_neg (by decide), zF h1, zo, if_pos (by decide)]
 simp only [zb, za]
 rw [h2, za, zF h1, zo, if_pos (by decide)]
 simp only [zb, zj, za]
 rw [Xa, za, zm, if_pos (by simpa using hm)]
theorem jW (n : Nat) {h : zd} {s : Nat} {sb : Option Nat} {most : Int} {xs : List Int} (hb : StkAt h s sb most xs) (x : Int) (hm : (xs.length : Int) < most) (hl : xs.length + 1 < lim) :
    ∃ h' sb', call (n + 1) 180 [.ptr s 0, .int .i32 x] h = some (.ret [.bool true], h') /\ StkAt h' s sb' most (xs ++ [x]) /\ Fed h h' s sb sb' := by
 rw [zcN n s x h]
 unfold zfC
 rw [Wu, za, zm, if_neg (by decide)]
 cases sb with
 | none =>
   obtain ⟨rfl, hc⟩ := hb
   have hcl := zS hc
   rw [zF hc, zo, if_pos (by decide)]
   simp only [zb, za]
   rw [Xb, za, zF hc, zo, if_pos (by decide)]
   simp only [zb, zj, za]
   rw [Xa, za, zm, if_neg (by simpa using hm), zo, if_pos (by decide)]
   simp only [zb, za]
   have Wb : Wa 21 1 h [[.int .i32 x]] (.sl 0 [] true) = some (.row h.length 1 0 1, h ++ [.row 21 1 [[.int .i32 x]] true]) := rfl
   simp only [Wb, Zj, V.cells, zA, zP, zr, if_true]
   have hc' : (h ++ [HB.row 21 1 [[.int .i32 x]] true])[s]? = some (.box 2 [.sl 0 [] true, .int .i64 most]) := by rw [zl hcl]; exact hc
   rw [ZV hc' (by simp), Zj]
   refine ⟨_, some h.length, rfl, ⟨by omega, [[.int .i32 x]], true, ?_, ?_, ?_, ?_⟩, ⟨by simp, fun j h1 h2 h3 => ?_, fun b hb => .inr (by cases hb; exact zk _)⟩⟩
   · rw [Xq (by simp; omega)]; rfl
   · rw [ze (by omega)]; exact zJ
   · simp
   · simp [Kk]
   · rw [ze (by omega), zl h1]
 | some b =>
   obtain ⟨h1, l, z, h2, h3, h4, h5⟩ := hb
   have hcl := zS h2
   have hbl := zS h3
   rw [zF h2, zo, if_pos (by decide)]
   simp only [zb, za]
   rw [Qw h3 (Zg _) h4, za, zF h2, zo, if_pos (by decide)]
   simp only [zb, zj, za]
   rw [Xa, za, zm, if_neg (by rw [zN, h5]; simpa using hm), zo, if_pos (by decide)]
   simp only [zb, za]
   have Wb : Wa 21 1 h [[.int .i32 x]] (.row b 1 0 xs.length) = some (.row h.length 1 0 (xs.length + 1), h.set b .dead ++ [.row 21 1 (xs.map Kk ++ [[.int .i32 x]]) z]) := by
    simp only [Wa, h3]
    rw [if_pos (by refine ⟨⟨?_, ?_, ?_⟩, ⟨by omega, h4⟩, by simp; omega⟩ <;> first | trivial | rfl), zN, h5]
    simp
   rw [Wb, Zj]
   simp only [V.cells, zA, zP, zr, if_true]
   have hc' : (h.set b .dead ++ [HB.row 21 1 (xs.map Kk ++ [[.int .i32 x]]) z])[s]? = some (.box 2 [.row b 1 0 xs.length, .int .i64 most]) := by
    rw [zl (by simpa using hcl), ze h1]; exact h2
   rw [ZV hc' (by simp), Zj]
   refine ⟨_, some h.length, rfl, ⟨by omega, xs.map Kk ++ [[.int .i32 x]], z, ?_, ?_, ?_, ?_⟩, ⟨by simp, fun j k1 k2 k3 => ?_, fun b hb => .inr (by cases hb; exact zk _)⟩⟩
   · rw [Xq (by simp; omega)]; simp; rfl
   · rw [ze (by omega), zG (by simp)]; simp
   · simp
   · simp [Kk, zO]
   · rw [ze (by omega), zl (by simpa using k1), ze (fun e => k3 (by rw [e]))]
theorem zfI (n : Nat) {h : zd} {s : Nat} {sb : Option Nat} {most : Int} (hb : StkAt h s sb most []) : call (n + 2) 184 [.ptr s 0] h = some (.ret [.int .i32 0, .bool false], h) := by
 rw [show n + 2 = (n + 1) + 1 from rfl, zey]
 unfold zjq
 rw [Km n hb, zM, zE, Xr, za, zm, if_pos (by rfl)]
theorem qU (n : Nat) {h : zd} {s : Nat} {sb : Option Nat} {most : Int} {xs : List Int} {x : Int} (hb : StkAt h s sb most (xs ++ [x])) (hl : xs.length + 1 < lim) :
    ∃ h', call (n + 2) 184 [.ptr s 0] h = some (.ret [.int .i32 x, .bool true], h') /\ StkAt h' s sb most xs /\ h'.length = h.length /\ ∀ i, i ≠ s -> h'[i]? = h[i]? := by
 rw [show n + 2 = (n + 1) + 1 from rfl, zey]
 unfold zjq
 rw [Km n hb, zM, zE, Xr, za, zm, if_neg (by simp; omega)]
 cases sb with
 | none => exact absurd hb.1 (by simp)
 | some b =>
   obtain ⟨h1, l, z, h2, h3, h4, h5⟩ := hb
   rw [zB, ZA] at h2 h4 h5
   have hcl := zS h2
   have hx : l[xs.length]? = some [.int .i32 x] := by
    have := congrArg (fun t : List (List V) => t[xs.length]?) h5
    simpa [Kk, Za] using this
   have hr : l.take xs.length = xs.map Kk := by
    have := congrArg (List.take xs.length) h5
    rw [List.take_take, X2 (by omega)] at this
    rw [this, ZG, XH (by simp), zO (by simp)]
   have hw : IntKind.i64.wrap ((((l.take (xs.length + 1)).drop 0).length : Int) - 1) = (xs.length : Int) := by
    rw [zN, h5]
    rw [show (((List.map Kk (xs ++ [x])).length : Int) - 1) = (xs.length : Int) by simp]
    unfold lim at hl; rw [w64] <;> omega
   have hn : nv (V.int .i64 (xs.length : Int)) = some xs.length := by simp [nv]
   rw [zF h2, zo, if_pos (by decide)]
   simp only [zb, za]
   rw [Qw h3 (Zg _) h4, za, zo, if_pos (by decide)]
   simp only [zb, za]
   rw [hw, hn, zw, XL (by omega), za, zr, Xz h3 (by decide) hx, zo, if_pos (by decide)]
   simp only [zb, za]
   rw [zo, if_pos (by decide)]
   simp only [zb, za]
   rw [W8, za, zw, JG (Zg _) (by omega), za]
   simp only [V.cells, zA, zP, zr, if_true]
   rw [ZV h2 (by simp), Zj]
   refine ⟨_, rfl, ⟨h1, l, z, ?_, ?_, by omega, hr⟩, by rw [zq], fun i hi => ze (Ne.symm hi)⟩
   · rw [Xq hcl]; rfl
   · rw [ze (Ne.symm h1)]; exact h3
theorem znK (c v : Int) : Q4 prog 35 [(0, .int .u8 c), (1, .int .i32 v)] = some [.int .u8 c, .int .i32 v] := by kernel_rfl
theorem znL {P : Nat -> Prop} {m : Nat} (h : ∀ k, 3 <= k -> k < m -> P k) (hm : P m) : ∀ k, 3 <= k -> k < m + 1 -> P k := fun k h3 hk => by
 rcases Z2 k m with e | e
 · exact h k h3 e
 · obtain rfl : k = m := by omega
   exact hm
theorem zjC (n s : Nat) (x : Int) (h : zd) : ∀ k : Nat, 3 <= k -> k < 256 -> call (n + 2) 177 [.ptr s 0, .agg [.int .u8 (k : Int), .int .i32 x]] h = some (.ret [zhs 5 0], h) := by
 iterate 253 (refine znL (m := _) ?_ (by show call _ _ _ _ = _; kernel_rfl))
 intro k h1 h2
 omega
theorem zht (n : Nat) {h : zd} {s : Nat} {sb : Option Nat} {most : Int} {xs : List Int} (hb : StkAt h s sb most xs) (hl : xs.length + 1 < lim) (c x : Int) (c0 : 0 <= c) (c1 : c < 256) :
    ∃ h' sb', call (n + 5) 177 [.ptr s 0, .agg [.int .u8 c, .int .i32 x]] h = some (.ret [zhs (Z4 most c x xs).1.1 (Z4 most c x xs).1.2], h') /\ StkAt h' s sb' most (Z4 most c x xs).2 /\ Fed h h' s sb sb' := by
 obtain ⟨k, rfl⟩ : ∃ k : Nat, c = (k : Int) := ⟨c.toNat, (ZD c0).symm⟩
 by_cases k3 : 3 <= k
 · have : Z4 most (k : Int) x xs = ((5, 0), xs) := by unfold Z4; rw [if_neg (by omega), if_neg (by omega)]
   rw [this]
   exact ⟨h, sb, zjC (n + 3) s x h k k3 (by omega), hb, Fed.refl ..⟩
 obtain rfl | rfl | rfl : k = 0 \/ k = 1 \/ k = 2 := by omega
 · exact ⟨h, sb, (zl2 (n + 3) s x h).trans (by unfold znD; rw [if_neg (by decide)]; rfl), hb, Fed.refl ..⟩
 · by_cases hm : (xs.length : Int) < most
   · obtain ⟨h', sb', e, b1, b2⟩ := jW (n + 2) hb x hm hl
     have : Z4 most ((1 : Nat) : Int) x xs = ((1, 0), xs ++ [x]) := by unfold Z4; rw [if_pos (by decide), if_pos hm]
     rw [this]
     refine ⟨h', sb', (zez (n + 3) s x h).trans ?_, b1, b2⟩
     unfold zjs
     rw [if_neg (by decide), zcM]
     unfold zfB
     rw [e, zM, zE, zm, if_pos (by rfl)]
     rfl
   · have e := zdO (n + 2) hb x (by omega)
     have : Z4 most ((1 : Nat) : Int) x xs = ((3, 0), xs) := by unfold Z4; rw [if_pos (by decide), if_neg hm]
     rw [this]
     refine ⟨h, sb, (zez (n + 3) s x h).trans ?_, hb, Fed.refl ..⟩
     unfold zjs
     rw [if_neg (by decide), zcM]
     unfold zfB
     rw [e, zM, zE, zm, if_neg (by decide)]
     rfl
 · have e2 : ∀ (m : Nat) (h : zd), call (m + 1) 190 [.ptr s 0, .int .i32 x] h = zjp m s h := fun m h => by kernel_rfl
   rcases Zt xs with rfl | ⟨ys, y, rfl⟩
   · have e := zfI (n + 1) hb
     have : Z4 most ((2 : Nat) : Int) x [] = ((4, 0), []) := rfl
     rw [this]
     refine ⟨h, sb, (zeA (n + 3) s x h).trans ?_, hb, Fed.refl ..⟩
     unfold zjt
     rw [if_neg (by decide), e2]
     unfold zjp
     rw [e, zM]
     rfl
   · rw [Xt] at hb hl ⊢
     obtain ⟨h', e, b1, b2, b3⟩ := qU (n + 1) hb (by simp at hl; omega)
     have : Z4 most ((2 : Nat) : Int) x (ys ++ [y]) = ((2, y), ys) := by unfold Z4; rw [if_neg (by decide), if_pos (by decide)]; simp
     rw [this]
     refine ⟨h', sb, (zeA (n + 3) s x h).trans ?_, b1, ⟨by omega, fun i h1 h2 h3 => b3 i h2, fun b hb => .inl hb⟩⟩
     unfold zjt
     rw [if_neg (by decide), e2]
     unfold zjp
     rw [e, zM]
     simp only [zb, zj, za, zm, if_true]
     rw [znK, za]
     rfl
end Go.Proofs.Tryz
namespace Go.Proofs.Tryz
open Go.L
set_option maxRecDepth 100000
noncomputable def zfJ (n : Nat) (s : Nat) (i : Int) (h : zd) : Option (Res × zd) :=
 (bd3 (zu h (V.ptr s 1)) fun cs1 m0 o2 => if (o2 + 1 <= m0 /\ 0 < 1) then
 (bd (cs1)[o2]? fun v3 =>
 (bd3 (zu h (V.ptr s 0)) fun cs5 m4 o6 => if (o6 + 1 <= m4 /\ 0 < 1) then
 (bd (cs5)[o6]? fun v7 =>
 (bd (ZW h v7) fun p8 =>
 (bd (bop prog .add 3 v3 (V.int .i64 ((p8.2).length : Int))) fun v9 =>
 (bd3 (zu h (V.ptr s 2)) fun cs11 m10 o12 => if (o12 + 1 <= m10 /\ 0 < 1) then
 (bd (cs11)[o12]? fun v13 =>
 (bd (bop prog .geq 3 v9 v13) fun v14 =>
 (bv v14 fun b15 => if b15 then
 some (Res.ret [(V.bool false)], h)
 else
 (bd3 (zu h (V.ptr s 0)) fun cs17 m16 o18 => if (o18 + 1 <= m16 /\ 0 < 1) then
 (bd (cs17)[o18]? fun v19 =>
 (bd2 (Wa 3 1 h [[(V.int .i64 i)]] v19) fun v20 h21 =>
 (if ((V.cells v20)).length = 1 then
 (bd2 (Zs h21 (V.cells v20) (V.ptr s 0)) fun b22 x23 =>
 some (Res.ret [(V.bool true)], ((h21).set b22 x23))) else none))) else none)))) else none)))) else none)) else none)
theorem zcX (n : Nat) (s : Nat) (i : Int) (h : zd) : call (n + 1) 186 [(V.ptr s 0), (V.int .i64 i)] h = zfJ n s i h := by kernel_rfl
noncomputable def zjD (n : Nat) (s : Nat) (h : zd) : Option (Res × zd) :=
 (bd3 (zu h (V.ptr s 0)) fun cs1 m0 o2 => if (o2 + 1 <= m0 /\ 0 < 1) then
 (bd (cs1)[o2]? fun v3 =>
 (bd (ZW h v3) fun p4 =>
 (if (decide ((IntKind.i64.wrap (((p4.2).length : Int) - 1)) < 0)) then
 some (Res.ret [(V.int .i64 (-1)), (V.bool false)], h)
 else
 (bd3 (zu h (V.ptr s 0)) fun cs6 m5 o7 => if (o7 + 1 <= m5 /\ 0 < 1) then
 (bd (cs6)[o7]? fun v8 =>
 (bdS (nv (V.int .i64 (IntKind.i64.wrap (((p4.2).length : Int) - 1)))) fun n9 =>
 (bd (ZK 1 n9 v8) fun p10 =>
 (bd3 (zu h p10) fun cs12 m11 o13 => if (o13 + 1 <= m11 /\ 0 < 1) then
 (bd (cs12)[o13]? fun v14 =>
 (bd3 (zu h (V.ptr s 0)) fun cs16 m15 o17 => if (o17 + 1 <= m15 /\ 0 < 1) then
 (bd (cs16)[o17]? fun v18 =>
 (bd (QC v18) fun n19 =>
 (bdS (nv (V.int .i64 (IntKind.i64.wrap (((p4.2).length : Int) - 1)))) fun n20 =>
 (bd (ZP 1 0 n20 (none : Option Nat) true v18) fun v21 =>
 (if ((V.cells v21)).length = 1 then
 (bd2 (Zs h (V.cells v21) (V.ptr s 0)) fun b22 x23 =>
 some (Res.ret [v14, (V.bool true)], ((h).set b22 x23))) else none))))) else none)) else none)))) else none)))) else none)
theorem zeG (n : Nat) (s : Nat) (h : zd) : call (n + 1) 187 [(V.ptr s 0)] h = zjD n s h := by kernel_rfl
noncomputable def zcY (n : Nat) (s : Nat) (h : zd) : Option (Res × zd) :=
 (bd3 (zu h (V.ptr s 1)) fun cs1 m0 o2 => if (o2 + 1 <= m0 /\ 0 < 1) then
 (bd (cs1)[o2]? fun v3 =>
 (bd (bop prog .eql 3 v3 (V.int .i64 0)) fun v4 =>
 (bv v4 fun b5 => if b5 then
 some (Res.ret [(V.bool false)], h)
 else
 (bd3 (zu h (V.ptr s 1)) fun cs7 m6 o8 => if (o8 + 1 <= m6 /\ 0 < 1) then
 (bd (cs7)[o8]? fun v9 =>
 (bd (bop prog .sub 3 v9 (V.int .i64 1)) fun v10 =>
 (if ((V.cells v10)).length = 1 then
 (bd2 (Zs h (V.cells v10) (V.ptr s 1)) fun b11 x12 =>
 some (Res.ret [(V.bool true)], ((h).set b11 x12))) else none))) else none)))) else none)
theorem zbl (n : Nat) (s : Nat) (h : zd) : call (n + 1) 188 [(V.ptr s 0)] h = zcY n s h := by kernel_rfl
noncomputable def zqj (n : Nat) (i : Int) (j : Int) (bo : Nat) (r : Nat) (l : Nat) (h : zd) : Option (Res × zd) :=
 (bd3 (zu h (V.ptr bo 0)) fun cs1 m0 o2 => if (o2 + 1 <= m0 /\ 0 < 1) then
 (bd (cs1)[o2]? fun v3 =>
 (bdS (nv (V.int .i64 j)) fun n4 =>
 (bd (ZK 2 n4 v3) fun p5 =>
 (bd (ZU 1 p5) fun p6 =>
 (bd3 (zu h p6) fun cs8 m7 o9 => if (o9 + 1 <= m7 /\ 0 < 1) then
 (bd (cs8)[o9]? fun v10 =>
 (bdS (nv (V.int .i64 i)) fun n11 =>
 (bd (ZK 1 n11 (V.row r 1 0 l)) fun p12 =>
 (if ((V.cells v10)).length = 1 then
 (bd2 (Zs h (V.cells v10) p12) fun b13 x14 =>
 some (Res.ret [], ((h).set b13 x14))) else none)))) else none))))) else none)
theorem znM (n : Nat) (i : Int) (j : Int) (bo : Nat) (r : Nat) (l : Nat) (h : zd) : call (n + 1) 182 [(V.int .i64 i), (V.int .i64 j), (V.ptr bo 0), (V.iptr 1 [(V.row r 1 0 l)] 0)] h = zqj n i j bo r l h := by kernel_rfl
noncomputable def zqk (n : Nat) (i : Int) (bs : Nat) (r : Nat) (l : Nat) (h : zd) : Option (Res × zd) :=
 (bd3 (zu h (V.ptr bs 0)) fun cs1 m0 o2 => if (o2 + 1 <= m0 /\ 0 < 1) then
 (bd (cs1)[o2]? fun v3 =>
 (clH (call n 184 [v3] h) fun r4 h5 =>
 (bd (r4)[0]? fun v7 =>
 (bd (r4)[1]? fun v8 =>
 (bdS (nv (V.int .i64 i)) fun n9 =>
 (bd (ZK 1 n9 (V.row r 1 0 l)) fun p10 =>
 (if ((V.cells v7)).length = 1 then
 (bd2 (Zs h5 (V.cells v7) (V.rptr r 1 (ixP p10) 0)) fun b11 x12 =>
 some (Res.ret [], ((h5).set b11 x12))) else none))))))) else none)
theorem znN (n : Nat) (i : Int) (bs : Nat) (r : Nat) (l : Nat) (h : zd) : call (n + 1) 183 [(V.int .i64 i), (V.ptr bs 0), (V.iptr 1 [(V.row r 1 0 l)] 0)] h = zqk n i bs r l h := by kernel_rfl
noncomputable def QE (n : Nat) (s : Nat) (os : List (List V)) (osb : Bool) (bo : Nat) (bs : Nat) (r : Nat) (l : Nat) (st3 : List V) (hh4 : zd) (next5 : List V -> zd -> Option (Res × zd)) : Option (Res × zd) :=
 (bd (bop prog .lss 3 (gv st3 3) (V.int .i64 ((os).length : Int))) fun v6 =>
 (bv v6 fun b7 => if b7 then
 (bdS (nv (gv st3 3)) fun n8 =>
 (bd (ZK 2 n8 (V.sl 2 os osb)) fun p9 =>
 (bd3 (zu hh4 p9) fun cs11 m10 o12 => if (o12 + 2 <= m10 /\ 0 < 2) then
 (if (((cs11).drop o12 |>.take 2)).length = 2 then
 (if ((((cs11).drop o12 |>.take 2)).length <= 2) then
 (bdS (nv (gv st3 3)) fun n13 =>
 (if (2 = 2 /\ n13 < ((lsl (gv st3 1))).length /\ (some 27 : Option Nat) ≠ some 9) then
 (bd ((setR [(V.int .u8 0), (V.int .i32 0)] 0 ((cs11).drop o12 |>.take 2)))[0]? fun v14 =>
 (bd (bop prog .eql 5 v14 (V.int .u8 1)) fun v15 =>
 (bv v15 fun b16 => if b16 then
 (bd ((lsl (gv st3 1)))[n13]? fun es17 =>
 (cl (call n 186 [(V.ptr s 0), (gv st3 3)] hh4) (fun r18 h19 =>
 (ZI r18 fun v21 =>
 (bv v21 fun b22 => if b22 then
 (bd ((((lsl (gv st3 1))).set n13 (setR es17 0 [(V.int .u8 3)])))[n13]? fun es23 =>
 (bd (bop prog .add 3 (gv st3 3) (V.int .i64 1)) fun v24 =>
 (next5 [(V.sl 2 (lsl (gv st3 0)) false), (V.sl 2 (((((lsl (gv st3 1))).set n13 (setR es17 0 [(V.int .u8 3)]))).set n13 (setR es23 0 [(V.int .u8 1)])) false), (V.bool false), v24] h19)))
 else
 (bd (bop prog .add 3 (gv st3 3) (V.int .i64 1)) fun v25 =>
 (next5 [(V.sl 2 (lsl (gv st3 0)) false), (V.sl 2 (((lsl (gv st3 1))).set n13 (setR es17 0 [(V.int .u8 3)])) false), (V.bool false), v25] h19))))) (fun z20 h19 => some (Res.pan z20, h19))))
 else
 (bd (bop prog .eql 5 v14 (V.int .u8 2)) fun v26 =>
 (bv v26 fun b27 => if b27 then
 (bd ((lsl (gv st3 1)))[n13]? fun es28 =>
 (cl (call n 187 [(V.ptr s 0)] hh4) (fun r29 h30 =>
 (bd (r29)[0]? fun v32 =>
 (bd (r29)[1]? fun v33 =>
 (bv v33 fun b34 => if b34 then
 (cl (call n 182 [(gv st3 3), v32, (V.ptr bo 0), (V.iptr 1 [(V.row r 1 0 l)] 0)] h30) (fun r35 h36 =>
 (bd (bop prog .add 3 (gv st3 3) (V.int .i64 1)) fun v38 =>
 (next5 [(V.sl 2 (lsl (gv st3 0)) false), (V.sl 2 (((lsl (gv st3 1))).set n13 (setR es28 0 [(V.int .u8 2)])) false), (V.bool false), v38] h36))) (fun z37 h36 => some (Res.pan z37, h36)))
 else
 (cl (call n 188 [(V.ptr s 0)] h30) (fun r39 h40 =>
 (ZI r39 fun v42 =>
 (bv v42 fun b43 => if b43 then
 (cl (call n 183 [(gv st3 3), (V.ptr bs 0), (V.iptr 1 [(V.row r 1 0 l)] 0)] h40) (fun r44 h45 =>
 (bd (bop prog .add 3 (gv st3 3) (V.int .i64 1)) fun v47 =>
 (next5 [(V.sl 2 (lsl (gv st3 0)) false), (V.sl 2 (((lsl (gv st3 1))).set n13 (setR es28 0 [(V.int .u8 2)])) false), (V.bool false), v47] h45))) (fun z46 h45 => some (Res.pan z46, h45)))
 else
 (bd ((((lsl (gv st3 1))).set n13 (setR es28 0 [(V.int .u8 2)])))[n13]? fun es48 =>
 (bd (bop prog .add 3 (gv st3 3) (V.int .i64 1)) fun v49 =>
 (next5 [(V.sl 2 (lsl (gv st3 0)) false), (V.sl 2 (((((lsl (gv st3 1))).set n13 (setR es28 0 [(V.int .u8 2)]))).set n13 (setR es48 0 [(V.int .u8 4)])) false), (V.bool false), v49] h40)))))) (fun z41 h40 => some (Res.pan z41, h40))))))) (fun z31 h30 => some (Res.pan z31, h30))))
 else
 (bd ((lsl (gv st3 1)))[n13]? fun es50 =>
 (bd (bop prog .add 3 (gv st3 3) (V.int .i64 1)) fun v51 =>
 (next5 [(V.sl 2 (lsl (gv st3 0)) false), (V.sl 2 (((lsl (gv st3 1))).set n13 (setR es50 0 [(V.int .u8 5)])) false), (V.bool false), v51] hh4)))))))) else none)) else none) else none) else none)))
 else
 some (Res.ret [(V.row (hh4).length 2 0 ((lsl (gv st3 1))).length)], (hh4 ++ [(HB.row 35 2 (lsl (gv st3 1)) true)]))))
noncomputable def znO (n : Nat) (s : Nat) (os : List (List V)) (osb : Bool) (bo : Nat) (bs : Nat) (r : Nat) (l : Nat) (h : zd) : Option (Res × zd) :=
 (bdS (nv (V.int .i64 ((os).length : Int))) fun n0 =>
 (bdS (nv (V.int .i64 ((os).length : Int))) fun n1 =>
 (if (n0 <= n1 /\ n1 < lim /\ 2 = 2) then
 (zV n (QE n s os osb bo bs r l) [(V.sl 2 [] false), (V.sl 2 (List.replicate n0 [(V.int .u8 0), (V.int .i32 0)]) false), (V.bool false), (V.int .i64 0)] h) else none)))
theorem zmb (n : Nat) (s : Nat) (os : List (List V)) (osb : Bool) (bo : Nat) (bs : Nat) (r : Nat) (l : Nat) (h : zd) : call (n + 1) 181 [(V.ptr s 0), (V.sl 2 os osb), (V.fn 182 [(V.ptr bo 0), (V.iptr 1 [(V.row r 1 0 l)] 0)]), (V.fn 183 [(V.ptr bs 0), (V.iptr 1 [(V.row r 1 0 l)] 0)])] h = znO n s os osb bo bs r l h := by kernel_rfl
noncomputable def J3 (n : Nat) (s : Nat) (os : List (List V)) (osb : Bool) (h5 : zd) (cs8 : List V) (n14 : Nat) (v27 : V) (p28 : Nat × List (List V)) (st30 : List V) (hh31 : zd) (next32 : List V -> zd -> Option (Res × zd)) : Option (Res × zd) :=
 (bd (bop prog .lss 3 (gv st30 1) (V.int .i64 ((p28.2).length : Int))) fun v33 =>
 (bv v33 fun b34 => if b34 then
 (bdS (nv (gv st30 1)) fun n35 =>
 (bd (ZK 1 n35 (V.row (((((h5 ++ [(HB.box 3 cs8)]) ++ [(HB.box 1 [(V.ptr (h5).length 0)])]) ++ [(HB.box 1 [(V.ptr s 0)])]) ++ [(HB.box 1 [(V.sl 2 os osb)])])).length 1 0 ((List.replicate n14 [(V.int .i32 0)])).length)) fun p36 =>
 (bd3 (zu hh31 p36) fun cs38 m37 o39 => if (o39 + 1 <= m37 /\ 0 < 1) then
 (bd (cs38)[o39]? fun v40 =>
 (bdS (nv (gv st30 1)) fun n41 =>
 (bd (ZK 2 n41 v27) fun p42 =>
 (bd (ZU 1 p42) fun p43 =>
 (if ((V.cells v40)).length = 1 then
 (bd2 (Zs hh31 (V.cells v40) p43) fun b44 x45 =>
 (bd (bop prog .add 3 (gv st30 1) (V.int .i64 1)) fun v46 =>
 (next32 [(V.sl 2 (lsl (gv st30 0)) false), v46] ((hh31).set b44 x45)))) else none))))) else none)))
 else
 (bd2 (dcl n 179 [(V.ptr ((h5 ++ [(HB.box 3 cs8)])).length 0), (V.ptr (((h5 ++ [(HB.box 3 cs8)]) ++ [(HB.box 1 [(V.ptr (h5).length 0)])])).length 0), (V.ptr ((((h5 ++ [(HB.box 3 cs8)]) ++ [(HB.box 1 [(V.ptr (h5).length 0)])]) ++ [(HB.box 1 [(V.ptr s 0)])])).length 0)] hh31 none) fun h47 b48 =>
 some (Res.ret [v27], h47))))
noncomputable def zhu (n : Nat) (s : Nat) (os : List (List V)) (osb : Bool) (h : zd) : Option (Res × zd) :=
 (clH (call n 169 [(V.ptr s 0)] h) fun r0 h1 =>
 (ZI r0 fun v3 =>
 (clH (call n 178 [(V.ptr s 0)] h1) fun r4 h5 =>
 (ZI r4 fun v7 =>
 (bd (Q4 prog 249 [(1, v3), (2, v7)]) fun cs8 =>
 (if (cs8).length = 3 then
 (bd3 (zu ((((h5 ++ [(HB.box 3 cs8)]) ++ [(HB.box 1 [(V.ptr (h5).length 0)])]) ++ [(HB.box 1 [(V.ptr s 0)])]) ++ [(HB.box 1 [(V.sl 2 os osb)])]) (V.ptr ((((h5 ++ [(HB.box 3 cs8)]) ++ [(HB.box 1 [(V.ptr (h5).length 0)])]) ++ [(HB.box 1 [(V.ptr s 0)])])).length 0)) fun cs10 m9 o11 => if (o11 + 1 <= m9 /\ 0 < 1) then
 (bd (cs10)[o11]? fun v12 =>
 (bd (ZW ((((h5 ++ [(HB.box 3 cs8)]) ++ [(HB.box 1 [(V.ptr (h5).length 0)])]) ++ [(HB.box 1 [(V.ptr s 0)])]) ++ [(HB.box 1 [(V.sl 2 os osb)])]) v12) fun p13 =>
 (bdS (nv (V.int .i64 ((p13.2).length : Int))) fun n14 =>
 (bdS (nv (V.int .i64 ((p13.2).length : Int))) fun n15 =>
 (if (n14 <= n15 /\ n15 < lim /\ 1 = 1) then
 (bd3 (zu (((((h5 ++ [(HB.box 3 cs8)]) ++ [(HB.box 1 [(V.ptr (h5).length 0)])]) ++ [(HB.box 1 [(V.ptr s 0)])]) ++ [(HB.box 1 [(V.sl 2 os osb)])]) ++ [(HB.row 21 1 (List.replicate n14 [(V.int .i32 0)]) true)]) (V.ptr ((h5 ++ [(HB.box 3 cs8)])).length 0)) fun cs17 m16 o18 => if (o18 + 1 <= m16 /\ 0 < 1) then
 (bd (cs17)[o18]? fun v19 =>
 (bd3 (zu (((((h5 ++ [(HB.box 3 cs8)]) ++ [(HB.box 1 [(V.ptr (h5).length 0)])]) ++ [(HB.box 1 [(V.ptr s 0)])]) ++ [(HB.box 1 [(V.sl 2 os osb)])]) ++ [(HB.row 21 1 (List.replicate n14 [(V.int .i32 0)]) true)]) (V.ptr ((((h5 ++ [(HB.box 3 cs8)]) ++ [(HB.box 1 [(V.ptr (h5).length 0)])]) ++ [(HB.box 1 [(V.ptr s 0)])])).length 0)) fun cs21 m20 o22 => if (o22 + 1 <= m20 /\ 0 < 1) then
 (bd (cs21)[o22]? fun v23 =>
 (cl (call n 181 [v19, v23, (V.fn 182 [(V.ptr ((((h5 ++ [(HB.box 3 cs8)]) ++ [(HB.box 1 [(V.ptr (h5).length 0)])]) ++ [(HB.box 1 [(V.ptr s 0)])])).length 0), (V.iptr 1 [(V.row (((((h5 ++ [(HB.box 3 cs8)]) ++ [(HB.box 1 [(V.ptr (h5).length 0)])]) ++ [(HB.box 1 [(V.ptr s 0)])]) ++ [(HB.box 1 [(V.sl 2 os osb)])])).length 1 0 ((List.replicate n14 [(V.int .i32 0)])).length)] 0)]), (V.fn 183 [(V.ptr (((h5 ++ [(HB.box 3 cs8)]) ++ [(HB.box 1 [(V.ptr (h5).length 0)])])).length 0), (V.iptr 1 [(V.row (((((h5 ++ [(HB.box 3 cs8)]) ++ [(HB.box 1 [(V.ptr (h5).length 0)])]) ++ [(HB.box 1 [(V.ptr s 0)])]) ++ [(HB.box 1 [(V.sl 2 os osb)])])).length 1 0 ((List.replicate n14 [(V.int .i32 0)])).length)] 0)])] (((((h5 ++ [(HB.box 3 cs8)]) ++ [(HB.box 1 [(V.ptr (h5).length 0)])]) ++ [(HB.box 1 [(V.ptr s 0)])]) ++ [(HB.box 1 [(V.sl 2 os osb)])]) ++ [(HB.row 21 1 (List.replicate n14 [(V.int .i32 0)]) true)])) (fun r24 h25 =>
 (ZI r24 fun v27 =>
 (bd (ZW h25 (V.row (((((h5 ++ [(HB.box 3 cs8)]) ++ [(HB.box 1 [(V.ptr (h5).length 0)])]) ++ [(HB.box 1 [(V.ptr s 0)])]) ++ [(HB.box 1 [(V.sl 2 os osb)])])).length 1 0 ((List.replicate n14 [(V.int .i32 0)])).length)) fun p28 =>
 (zV n (J3 n s os osb h5 cs8 n14 v27 p28) [(V.sl 2 [] false), (V.int .i64 0)] h25)))) (fun z26 h25 => (bd2 (dcl n 179 [(V.ptr ((h5 ++ [(HB.box 3 cs8)])).length 0), (V.ptr (((h5 ++ [(HB.box 3 cs8)]) ++ [(HB.box 1 [(V.ptr (h5).length 0)])])).length 0), (V.ptr ((((h5 ++ [(HB.box 3 cs8)]) ++ [(HB.box 1 [(V.ptr (h5).length 0)])]) ++ [(HB.box 1 [(V.ptr s 0)])])).length 0)] h25 (some z26)) fun h49 b50 => if b50 then
 some (Res.ret [(V.row (h49).length 2 0 0)], (h49 ++ [(HB.row 35 2 [] true)]))
 else
 some (Res.pan z26, h49))))) else none)) else none) else none))))) else none) else none))))))
theorem zhv (n : Nat) (s : Nat) (os : List (List V)) (osb : Bool) (h : zd) : call (n + 1) 174 [(V.ptr s 0), (V.sl 2 os osb)] h = zhu n s os osb h := by kernel_rfl
noncomputable def YL (n : Nat) (bs : Nat) (bo : Nat) (v9 : V) (p10 : Nat × List (List V)) (st12 : List V) (hh13 : zd) (next14 : List V -> zd -> Option (zd × Bool)) : Option (zd × Bool) :=
 (bd (bop prog .lss 3 (gv st12 0) (V.int .i64 ((p10.2).length : Int))) fun v15 =>
 (bv v15 fun b16 => if b16 then
 (bdS (nv (gv st12 0)) fun n17 =>
 (bd (ZK 1 n17 v9) fun p18 =>
 (bd3 (zu hh13 p18) fun cs20 m19 o21 => if (o21 + 1 <= m19 /\ 0 < 1) then
 (bd (cs20)[o21]? fun v22 =>
 (bd3 (zu hh13 (V.ptr bs 0)) fun cs24 m23 o25 => if (o25 + 1 <= m23 /\ 0 < 1) then
 (bd (cs24)[o25]? fun v26 =>
 (bd3 (zu hh13 (V.ptr bo 0)) fun cs28 m27 o29 => if (o29 + 1 <= m27 /\ 0 < 1) then
 (bd (cs28)[o29]? fun v30 =>
 (bdS (nv v22) fun n31 =>
 (bd (ZK 2 n31 v30) fun p32 =>
 (bd (ZU 1 p32) fun p33 =>
 (bd3 (zu hh13 p33) fun cs35 m34 o36 => if (o36 + 1 <= m34 /\ 0 < 1) then
 (bd (cs35)[o36]? fun v37 =>
 (cl (call n 180 [v26, v37] hh13) (fun r38 h39 =>
 (ZI r38 fun v41 =>
 (bd (bop prog .add 3 (gv st12 0) (V.int .i64 1)) fun v42 =>
 (next14 [v42] h39)))) (fun z40 h39 => none))) else none))))) else none)) else none)) else none)))
 else
 some (hh13, false)))
noncomputable def zql (n : Nat) (b : Nat) (bs : Nat) (bo : Nat) (h : zd) : Option (zd × Bool) :=
 (bd3 (zu h (V.ptr b 0)) fun cs1 m0 o2 => if (o2 + 1 <= m0 /\ 0 < 1) then
 (bd (cs1)[o2]? fun v3 =>
 (bd (ZU 0 v3) fun p4 =>
 (bd (ZU 0 p4) fun p5 =>
 (bd3 (zu h p5) fun cs7 m6 o8 => if (o8 + 1 <= m6 /\ 0 < 1) then
 (bd (cs7)[o8]? fun v9 =>
 (bd (ZW h v9) fun p10 =>
 (zV n (YL n bs bo v9 p10) [(V.int .i64 0)] h))) else none)))) else none)
theorem znP (n : Nat) (b : Nat) (bs : Nat) (bo : Nat) (h : zd) : dcl n 179 [(V.ptr b 0), (V.ptr bs 0), (V.ptr bo 0)] h none = zql n b bs bo h := by kernel_rfl
end Go.Proofs.Tryz
namespace Go.Rp
end Go.Rp
namespace Go.Proofs.Tryz
open Go.L Go.Rp
set_option maxRecDepth 100000
def _root_.Go.Rp.O.w (o : O) : List V := [.int .u8 o.k, .int .i32 o.v]
def _root_.Go.Rp.R.w (r : R) : List V := [.int .u8 r.c, .int .i32 r.v]
theorem zqR (e : Nat) (a : List O) (x : O) (h : a.length + 1 < lim) : app e 2 (.own e 2 (a.map O.w)) [O.w x] = some ((a ++ [x]).map O.w) := by
 simp [app, h]
theorem zrp (x : O) : JD prog 23 1 [(0, .agg (O.w x))] = some (2, [O.w x]) := by kernel_rfl
theorem Yx (l : List O) (n : Nat) : (l.map O.w)[n]? = (l[n]?).map O.w := zI
theorem Kn (l : List R) (n : Nat) : (l.map R.w)[n]? = (l[n]?).map R.w := zI
theorem QH (o : O) : List.take 2 (O.w o) = O.w o := rfl
theorem XU (o : O) : (O.w o).length = 2 := rfl
theorem W9 (o : O) : setR [V.int .u8 0, .int .i32 0] 0 (O.w o) = O.w o := rfl
end Go.Proofs.Tryz
namespace Go.Sk
open Go.L
def JV (x : Nat) : List V := [.int .i64 (x : Int)]
end Go.Sk
namespace Go.Proofs.Tryz
open Go.L Go.Rp Go.Sk
set_option maxRecDepth 100000
def MatAt (h : zd) (s : Nat) (sb : Option Nat) (u m : Nat) (xs : List Nat) : Prop := match sb with
 | none => xs = [] /\ h[s]? = some (.box 3 [.sl 0 [] true, .int .i64 (u : Int), .int .i64 (m : Int)])
 | some b => b ≠ s /\ ∃ l z, h[s]? = some (.box 3 [.row b 1 0 xs.length, .int .i64 (u : Int), .int .i64 (m : Int)]) /\ h[b]? = some (.row 3 1 l z) /\ xs.length <= l.length /\ l.take xs.length = xs.map JV
theorem MatAt.keep {h h' : zd} {s : Nat} {sb : Option Nat} {u m : Nat} {xs : List Nat} (hb : MatAt h s sb u m xs) (hc : h'[s]? = h[s]?) (hk : ∀ b, sb = some b -> h'[b]? = h[b]?) : MatAt h' s sb u m xs := by
 cases sb with
 | none => exact ⟨hb.1, hc.trans hb.2⟩
 | some b =>
   obtain ⟨h1, l, z, h2, h3, h4⟩ := hb
   exact ⟨h1, l, z, hc.trans h2, (hk b rfl).trans h3, h4⟩
theorem MatAt.box {h : zd} {s : Nat} {sb : Option Nat} {u m : Nat} {xs : List Nat} (hb : MatAt h s sb u m xs) : ∃ v sz, h[s]? = some (.box 3 [v, .int .i64 (u : Int), .int .i64 (m : Int)]) /\ ZW h v = some (sz, xs.map JV) := by
 cases sb with
 | none =>
   obtain ⟨rfl, hc⟩ := hb
   exact ⟨_, 0, hc, Xb ..⟩
 | some b =>
   obtain ⟨h1, l, z, h2, h3, h4, h5⟩ := hb
   refine ⟨_, 1, h2, ?_⟩
   rw [Qw h3 (Zg _) h4, zN, h5]
theorem zdP (n : Nat) {h : zd} {s : Nat} {sb : Option Nat} {u m : Nat} {xs : List Nat} (hb : MatAt h s sb u m xs) (i : Int) (hm : m <= u + xs.length) (hl : u + xs.length < lim) : call (n + 1) 186 [.ptr s 0, .int .i64 i] h = some (.ret [.bool false], h) := by
 obtain ⟨v, sz, h1, h2⟩ := hb.box
 refine (zcX n s i h).trans ?_
 unfold zfJ
 rw [zF h1, zo, if_pos (by decide)]
 simp only [zb, zj, za]
 rw [zF h1, zo, if_pos (by decide)]
 simp only [zb, za]
 rw [h2, za, zK, za, zF h1, zo, if_pos (by decide)]
 simp only [zb, zj, za]
 rw [Xa, za, zm, zx, w64 (by omega) (by unfold lim at hl; omega), if_pos (by simp; omega)]
theorem zdQ (n : Nat) {h : zd} {s : Nat} {sb : Option Nat} {u m : Nat} {xs : List Nat} (hb : MatAt h s sb u m xs) (i : Nat) (hm : u + xs.length < m) (hl : u + xs.length + 1 < lim) :
    ∃ h' sb', call (n + 1) 186 [.ptr s 0, .int .i64 (i : Int)] h = some (.ret [.bool true], h') /\ MatAt h' s sb' u m (xs ++ [i]) /\ Fed h h' s sb sb' := by
 rw [zcX n s i h]
 unfold zfJ
 obtain ⟨v, sz, k1, k2⟩ := hb.box
 rw [zF k1, zo, if_pos (by decide)]
 simp only [zb, zj, za]
 rw [zF k1, zo, if_pos (by decide)]
 simp only [zb, za]
 rw [k2, za, zK, za, zF k1, zo, if_pos (by decide)]
 simp only [zb, zj, za]
 rw [Xa, za, zm, zx, w64 (by omega) (by unfold lim at hl; omega), if_neg (by simp; omega), zo, if_pos (by decide)]
 simp only [zb, za]
 cases sb with
 | none =>
   obtain ⟨rfl, hc⟩ := hb
   have hcl := zS hc
   obtain rfl : v = .sl 0 [] true := by rw [hc] at k1; simpa using k1.symm
   have Wb : Wa 3 1 h [[.int .i64 (i : Int)]] (.sl 0 [] true) = some (.row h.length 1 0 1, h ++ [.row 3 1 [[.int .i64 (i : Int)]] true]) := rfl
   simp only [Wb, Zj, V.cells, zA, zP, zr, if_true]
   have hc' : (h ++ [HB.row 3 1 [[.int .i64 (i : Int)]] true])[s]? = some (.box 3 [.sl 0 [] true, .int .i64 (u : Int), .int .i64 (m : Int)]) := by rw [zl hcl]; exact hc
   rw [ZV hc' (by simp), Zj]
   refine ⟨_, some h.length, rfl, ⟨by omega, [[.int .i64 (i : Int)]], true, ?_, ?_, ?_, ?_⟩, ⟨by simp, fun j h1 h2 h3 => ?_, fun b hb => .inr (by cases hb; exact zk _)⟩⟩
   · rw [Xq (by simp; omega)]; rfl
   · rw [ze (by omega)]; exact zJ
   · simp
   · simp [JV]
   · rw [ze (by omega), zl h1]
 | some b =>
   obtain ⟨h1, l, z, h2, h3, h4, h5⟩ := hb
   have hcl := zS h2
   have hbl := zS h3
   obtain rfl : v = .row b 1 0 xs.length := by rw [h2] at k1; simpa using k1.symm
   have Wb : Wa 3 1 h [[.int .i64 (i : Int)]] (.row b 1 0 xs.length) = some (.row h.length 1 0 (xs.length + 1), h.set b .dead ++ [.row 3 1 (xs.map JV ++ [[.int .i64 (i : Int)]]) z]) := by
    simp only [Wa, h3]
    rw [if_pos (by refine ⟨⟨?_, ?_, ?_⟩, ⟨by omega, h4⟩, by simp; omega⟩ <;> first | trivial | rfl), zN, h5]
    simp
   rw [Wb, Zj]
   simp only [V.cells, zA, zP, zr, if_true]
   have hc' : (h.set b .dead ++ [HB.row 3 1 (xs.map JV ++ [[.int .i64 (i : Int)]]) z])[s]? = some (.box 3 [.row b 1 0 xs.length, .int .i64 (u : Int), .int .i64 (m : Int)]) := by
    rw [zl (by simpa using hcl), ze h1]; exact h2
   rw [ZV hc' (by simp), Zj]
   refine ⟨_, some h.length, rfl, ⟨by omega, xs.map JV ++ [[.int .i64 (i : Int)]], z, ?_, ?_, ?_, ?_⟩, ⟨by simp, fun j k1 k2 k3 => ?_, fun b hb => .inr (by cases hb; exact zk _)⟩⟩
   · rw [Xq (by simp; omega)]; simp; rfl
   · rw [ze (by omega), zG (by simp)]; simp
   · simp
   · simp [JV, zO]
   · rw [ze (by omega), zl (by simpa using k1), ze (fun e => k3 (by rw [e]))]
theorem zcZ (n : Nat) {h : zd} {s : Nat} {sb : Option Nat} {m : Nat} {xs : List Nat} (hb : MatAt h s sb 0 m xs) : call (n + 1) 188 [.ptr s 0] h = some (.ret [.bool false], h) := by
 obtain ⟨v, sz, h1, h2⟩ := hb.box
 refine (zbl n s h).trans ?_
 unfold zcY
 rw [zF h1, zo, if_pos (by decide)]
 simp only [zb, zj, za]
 rw [Xr, za, zm, if_pos (by rfl)]
theorem zc0 (n : Nat) {h : zd} {s : Nat} {sb : Option Nat} {u m : Nat} {xs : List Nat} (hb : MatAt h s sb (u + 1) m xs) (hu : u < lim) :
    ∃ h', call (n + 1) 188 [.ptr s 0] h = some (.ret [.bool true], h') /\ MatAt h' s sb u m xs /\ h'.length = h.length /\ ∀ i, i ≠ s -> h'[i]? = h[i]? := by
 have hw : IntKind.i64.wrap (((u + 1 : Nat) : Int) - 1) = (u : Int) := by unfold lim at hu; rw [w64] <;> omega
 rw [zbl n s h]
 unfold zcY
 cases sb with
 | none =>
   obtain ⟨rfl, hc⟩ := hb
   rw [zF hc, zo, if_pos (by decide)]
   simp only [zb, zj, za]
   rw [Xr, za, zm, if_neg (by simp; omega), zo, if_pos (by decide)]
   simp only [zb, zj, za]
   rw [ZN, za, hw, if_pos (by rfl), ZV hc (by simp [V.cells]), Zj]
   refine ⟨_, rfl, ⟨rfl, ?_⟩, by rw [zq], fun i hi => ze (Ne.symm hi)⟩
   rw [Xq (zS hc)]; rfl
 | some b =>
   obtain ⟨h1, l, z, h2, h3, h4, h5⟩ := hb
   rw [zF h2, zo, if_pos (by decide)]
   simp only [zb, zj, za]
   rw [Xr, za, zm, if_neg (by simp; omega), zo, if_pos (by decide)]
   simp only [zb, zj, za]
   rw [ZN, za, hw, if_pos (by rfl), ZV h2 (by simp [V.cells]), Zj]
   refine ⟨_, rfl, ⟨h1, l, z, ?_, ?_, h4, h5⟩, by rw [zq], fun i hi => ze (Ne.symm hi)⟩
   · rw [Xq (zS h2)]; rfl
   · rw [ze (Ne.symm h1)]; exact h3
theorem zfK (n : Nat) {h : zd} {s : Nat} {sb : Option Nat} {u m : Nat} (hb : MatAt h s sb u m []) : call (n + 1) 187 [.ptr s 0] h = some (.ret [.int .i64 (-1), .bool false], h) := by
 obtain ⟨v, sz, h1, h2⟩ := hb.box
 refine (zeG n s h).trans ?_
 unfold zjD
 rw [zF h1, zo, if_pos (by decide)]
 simp only [zb, za]
 rw [h2, za, if_pos (by show decide (IntKind.i64.wrap (((0 : Nat) : Int) - 1) < 0) = true; decide)]
theorem zfL (n : Nat) {h : zd} {s : Nat} {sb : Option Nat} {u m : Nat} {xs : List Nat} {x : Nat} (hb : MatAt h s sb u m (xs ++ [x])) (hl : xs.length + 1 < lim) :
    ∃ h', call (n + 1) 187 [.ptr s 0] h = some (.ret [.int .i64 (x : Int), .bool true], h') /\ MatAt h' s sb u m xs /\ h'.length = h.length /\ ∀ i, i ≠ s -> h'[i]? = h[i]? := by
 rw [zeG]
 unfold zjD
 cases sb with
 | none => exact absurd hb.1 (by simp)
 | some b =>
   obtain ⟨h1, l, z, h2, h3, h4, h5⟩ := hb
   rw [zB, ZA] at h2 h4 h5
   have hcl := zS h2
   have hx : l[xs.length]? = some [.int .i64 (x : Int)] := by
    have := congrArg (fun t : List (List V) => t[xs.length]?) h5
    simpa [JV, Za] using this
   have hr : l.take xs.length = xs.map JV := by
    have := congrArg (List.take xs.length) h5
    rw [List.take_take, X2 (by omega)] at this
    rw [this, ZG, XH (by simp), zO (by simp)]
   have hw : IntKind.i64.wrap ((((l.take (xs.length + 1)).drop 0).length : Int) - 1) = (xs.length : Int) := by
    rw [zN, h5]
    rw [show (((List.map JV (xs ++ [x])).length : Int) - 1) = (xs.length : Int) by simp]
    unfold lim at hl; rw [w64] <;> omega
   have hn : nv (V.int .i64 (xs.length : Int)) = some xs.length := by simp [nv]
   rw [zF h2, zo, if_pos (by decide)]
   simp only [zb, za]
   rw [Qw h3 (Zg _) h4, za, hw, if_neg (by simp), zo, if_pos (by decide)]
   simp only [zb, za]
   rw [hn, zw, XL (by omega), za, zr, Xz h3 (by decide) hx, zo, if_pos (by decide)]
   simp only [zb, za]
   rw [zo, if_pos (by decide)]
   simp only [zb, za]
   rw [W8, za, zw, JG (Zg _) (by omega), za]
   simp only [V.cells, zA, zP, zr, if_true]
   rw [ZV h2 (by simp), Zj]
   refine ⟨_, rfl, ⟨h1, l, z, ?_, ?_, by omega, hr⟩, by rw [zq], fun i hi => ze (Ne.symm hi)⟩
   · rw [Xq hcl]; rfl
   · rw [ze (Ne.symm h1)]; exact h3
theorem zhw (n : Nat) {h : zd} {bo r : Nat} {os : List O} {osb : Bool} {l : List (List V)} {z : Bool} {i j : Nat} (ho : h[bo]? = some (.box 1 [.sl 2 (os.map O.w) osb])) (hr : h[r]? = some (.row 21 1 l z)) (hl : ∀ es ∈ l, es.length = 1) (hi : i < l.length) (hj : j < os.length) :
    call (n + 1) 182 [.int .i64 (i : Int), .int .i64 (j : Int), .ptr bo 0, .iptr 1 [.row r 1 0 l.length] 0] h = some (.ret [], h.set r (.row 21 1 (l.set i [.int .i32 os[j].v]) z)) := by
 refine (znM n _ _ bo r _ h).trans ?_
 unfold zqj
 have hx : l[i]? = some l[i] := zg hi
 have h1 : l[i].length = 1 := hl _ (Z9 hi)
 rw [zF ho, zo, if_pos (by decide)]
 simp only [zb, za]
 rw [Zd, zw, Xl (es := O.w os[j]) (by rw [zI, zg hj]; rfl), za]
 simp only [ZU, za]
 rw [ZC, zo, if_pos (by decide)]
 simp only [O.w, zr, zj, zb, za]
 rw [Zd, zw, XL (by omega), za, zr]
 simp only [V.cells, zA, zP, zr, if_true]
 have hw : Zs h [V.int .i32 os[j].v] (.rptr r 1 i 0) = some (r, .row 21 1 (l.set i [.int .i32 os[j].v]) z) := by
  obtain ⟨e, he⟩ : ∃ e, l[i] = [e] := ZS.1 h1
  simp [Zs, hr, hx, he, setR]
 rw [hw, Zj]
theorem zhx (n : Nat) {h : zd} {bs r s : Nat} {sb : Option Nat} {most : Int} {xs : List Int} {x : Int} {l : List (List V)} {z : Bool} {i : Nat} (hbs : h[bs]? = some (.box 1 [.ptr s 0])) (hs : StkAt h s sb most (xs ++ [x])) (hm : xs.length + 1 < lim) (hr : h[r]? = some (.row 21 1 l z)) (hrs : r ≠ s) (hrb : sb ≠ some r) (hl : ∀ es ∈ l, es.length = 1) (hi : i < l.length) :
    ∃ h', call (n + 3) 183 [.int .i64 (i : Int), .ptr bs 0, .iptr 1 [.row r 1 0 l.length] 0] h = some (.ret [], h') /\ StkAt h' s sb most xs /\ h'[r]? = some (.row 21 1 (l.set i [.int .i32 x]) z) /\ h'.length = h.length /\ ∀ j, j ≠ s -> j ≠ r -> h'[j]? = h[j]? := by
 obtain ⟨h1, e, b1, b2, b3⟩ := qU n hs hm
 have hr1 : h1[r]? = some (.row 21 1 l z) := (b3 r hrs).trans hr
 have hx : l[i]? = some l[i] := zg hi
 have hw : Zs h1 [V.int .i32 x] (.rptr r 1 i 0) = some (r, .row 21 1 (l.set i [.int .i32 x]) z) := by
  obtain ⟨e, he⟩ : ∃ e, l[i] = [e] := ZS.1 (hl _ (Z9 hi))
  simp [Zs, hr1, hx, he, setR]
 rw [znN]
 unfold zqk
 rw [zF hbs, zo, if_pos (by decide)]
 simp only [zb, za]
 rw [e]
 simp only [clH, zb, zj, za]
 rw [Zd, zw, XL (by omega), za, zr]
 simp only [V.cells, ixP, zA, zP, zr, if_true]
 rw [hw, Zj]
 refine ⟨_, rfl, b1.keep (ze hrs) (fun b hb => ze (fun e => hrb (by rw [hb, e]))), Xq (zS hr1) _, by rw [zq]; exact b2, fun j h2 h3 => ?_⟩
 rw [ze (Ne.symm h3)]
 exact b3 j h2
end Go.Proofs.Tryz
namespace Go.Proofs.Tryz
open Go.L
set_option maxRecDepth 100000
noncomputable def znQ (n : Nat) (x0 : Int) (h : zd) : Option (Res × zd) :=
 (bdS (nv (V.int .i64 (if 0 < (if 1000 < x0 then 1000 else x0) then (if 1000 < x0 then 1000 else x0) else 0))) fun n0 =>
 (bdS (nv (V.int .i64 (if 0 < (if 1000 < x0 then 1000 else x0) then (if 1000 < x0 then 1000 else x0) else 0))) fun n1 =>
 (if (n0 <= n1 /\ n1 < lim /\ 1 = 1) then
 some (Res.ret [(V.ptr ((h ++ [(HB.row 21 1 (List.replicate n0 [(V.int .i32 0)]) true)])).length 0)], ((h ++ [(HB.row 21 1 (List.replicate n0 [(V.int .i32 0)]) true)]) ++ [(HB.box 3 [(V.row (h).length 1 0 ((List.replicate n0 [(V.int .i32 0)])).length), (V.int .i64 0), (V.int .i64 0)])])) else none)))
theorem zmc (n : Nat) (x0 : Int) (h : zd) : call (n + 1) 59 [(V.int .i64 x0)] h = znQ n x0 h := by kernel_rfl
noncomputable def qq (n : Nat) (x3 : Nat) (b : Nat) (z17 : V) (h : zd) : Option (Bool × zd) :=
 (lpR ((h)[b]?) fun cD cV cF cP cA cB =>
 (bd3 (zu ((h).set b (HB.loop cD cV cF cP cA cB .busy)) (V.ptr x3 0)) fun cs20 m19 o21 => if (o21 + 1 <= m19 /\ 0 < 1) then
 (bd (cs20)[o21]? fun v22 =>
 (bd (JD prog 27 1 [(0, z17)]) fun p23 =>
 (bd2 (Wa 21 1 ((h).set b (HB.loop cD cV cF cP cA cB .busy)) p23.2 v22) fun v24 h25 =>
 (if ((V.cells v24)).length = 1 then
 (bd2 (Zs h25 (V.cells v24) (V.ptr x3 0)) fun b26 x27 =>
 (lpB ((((h25).set b26 x27))[b]?) fun eD eV eF eP eA eB => some (true, (((h25).set b26 x27)).set b (HB.loop eD eV eF eP eA eB .ready)))) else none)))) else none))
theorem zdR (n : Nat) (y0 : Option V) (y2 : Option V) (x3 : Nat) (y5 : Option V) (y6 : Option V) (y7 : Option V) (y8 : Option V) (y9 : Option V) (y10 : Option V) (y11 : Option V) (y12 : Option V) (y13 : Option V) (y14 : Option V) (y15 : Option V) (y16 : Option V) (b : Nat) (z17 : V) (h : zd) : zce prog (call n) QD WG n (L.textDraws prog) true [y0, none, y2, some (V.ptr x3 0), none, y5, y6, y7, y8, y9, y10, y11, y12, y13, y14, y15, y16, none, none, none, none, none, none] [17] (jJ (Qm f191)) (jK (Qm f191)) b [z17] h = qq n x3 b z17 h := by kernel_rfl
noncomputable def zhy (n : Nat) (s : Nat) (h : zd) : Option (Res × zd) :=
 (bd (Qo prog h .eql 113 (V.ptr s 0) (V.val (.pointer none))) fun v0 =>
 (bv v0 fun b1 => if b1 then
 some (Res.ret [(V.row (h).length 1 0 0)], (h ++ [(HB.row 21 1 [] true)]))
 else
 (bd3 (zu h (V.ptr s 2)) fun cs3 m2 o4 => if (o4 + 1 <= m2 /\ 0 < 1) then
 (bd (cs3)[o4]? fun v5 =>
 (bdS (nv v5) fun n6 =>
 (if (0 <= n6 /\ n6 < lim /\ 1 = 1) then
 (cl (call n 193 [(V.ptr s 0)] (h ++ [(HB.row 21 1 (List.replicate 0 [(V.int .i32 0)]) true)])) (fun r7 h8 =>
 (ZI r7 fun v10 =>
 (fnK v10 fun f11 c12 => if ((WO prog f11).isNone && (Qb (jJ (Qm f191)) && Qb (jK (Qm f191)))) = true then
 (clN (call n f11 ((V.yld ((((h8 ++ [(HB.box 1 [(V.row (h).length 1 0 ((List.replicate 0 [(V.int .i32 0)])).length)])]) ++ [(HB.row 21 1 [] true)])).length + 1)) :: c12) (((h8 ++ [(HB.box 1 [(V.row (h).length 1 0 ((List.replicate 0 [(V.int .i32 0)])).length)])]) ++ [(HB.row 21 1 [] true)]) ++ [HB.defb, HB.loop (((h8 ++ [(HB.box 1 [(V.row (h).length 1 0 ((List.replicate 0 [(V.int .i32 0)])).length)])]) ++ [(HB.row 21 1 [] true)])).length true [some (V.ptr s 0), none, some (V.row ((h8 ++ [(HB.box 1 [(V.row (h).length 1 0 ((List.replicate 0 [(V.int .i32 0)])).length)])])).length 1 0 0), some (V.ptr (h8).length 0), none, some (V.ptr s 0), some (V.bool false), some (V.ptr s 0), some (V.ptr s 0), some (V.ptr s 0), some (V.ptr s 2), some v5, some (V.row (h).length 1 0 ((List.replicate 0 [(V.int .i32 0)])).length), some (V.ptr s 0), some (V.ptr s 0), some (V.ptr s 0), some v10, none, none, none, none, none, none] [17] (jJ (Qm f191)) (jK (Qm f191)) .ready])) fun h14 => lpE ((h14)[((((h8 ++ [(HB.box 1 [(V.row (h).length 1 0 ((List.replicate 0 [(V.int .i32 0)])).length)])]) ++ [(HB.row 21 1 [] true)])).length + 1)]?) (
 (bd3 (zu ((h14).set ((((h8 ++ [(HB.box 1 [(V.row (h).length 1 0 ((List.replicate 0 [(V.int .i32 0)])).length)])]) ++ [(HB.row 21 1 [] true)])).length + 1) HB.dead) (V.ptr (h8).length 0)) fun cs16 m15 o17 => if (o17 + 1 <= m15 /\ 0 < 1) then
 (bd (cs16)[o17]? fun v18 =>
 (dfB ((((h14).set ((((h8 ++ [(HB.box 1 [(V.row (h).length 1 0 ((List.replicate 0 [(V.int .i32 0)])).length)])]) ++ [(HB.row 21 1 [] true)])).length + 1) HB.dead))[(((h8 ++ [(HB.box 1 [(V.row (h).length 1 0 ((List.replicate 0 [(V.int .i32 0)])).length)])]) ++ [(HB.row 21 1 [] true)])).length]?) (
 some (Res.ret [v18], ((((h14).set ((((h8 ++ [(HB.box 1 [(V.row (h).length 1 0 ((List.replicate 0 [(V.int .i32 0)])).length)])]) ++ [(HB.row 21 1 [] true)])).length + 1) HB.dead)).set (((h8 ++ [(HB.box 1 [(V.row (h).length 1 0 ((List.replicate 0 [(V.int .i32 0)])).length)])]) ++ [(HB.row 21 1 [] true)])).length HB.dead))))) else none)) (
 (dfB ((((h14).set ((((h8 ++ [(HB.box 1 [(V.row (h).length 1 0 ((List.replicate 0 [(V.int .i32 0)])).length)])]) ++ [(HB.row 21 1 [] true)])).length + 1) HB.dead))[(((h8 ++ [(HB.box 1 [(V.row (h).length 1 0 ((List.replicate 0 [(V.int .i32 0)])).length)])]) ++ [(HB.row 21 1 [] true)])).length]?) (
 some (Res.ret [(V.row ((h8 ++ [(HB.box 1 [(V.row (h).length 1 0 ((List.replicate 0 [(V.int .i32 0)])).length)])])).length 1 0 0)], ((((h14).set ((((h8 ++ [(HB.box 1 [(V.row (h).length 1 0 ((List.replicate 0 [(V.int .i32 0)])).length)])]) ++ [(HB.row 21 1 [] true)])).length + 1) HB.dead)).set (((h8 ++ [(HB.box 1 [(V.row (h).length 1 0 ((List.replicate 0 [(V.int .i32 0)])).length)])]) ++ [(HB.row 21 1 [] true)])).length HB.dead)))))) else none))) (fun z9 h8 => some (Res.pan z9, h8))) else none))) else none)))
theorem zhz (n : Nat) (s : Nat) (h : zd) : call (n + 1) 191 [(V.ptr s 0)] h = zhy n s h := by kernel_rfl
noncomputable def znR (n : Nat) (s : Nat) (h : zd) : Option (Res × zd) :=
 (bd (Qo prog h .eql 113 (V.ptr s 0) (V.val (.pointer none))) fun v0 =>
 (bv v0 fun b1 => if b1 then
 some (Res.ret [(V.int .i64 0)], h)
 else
 (bd3 (zu h (V.ptr s 2)) fun cs3 m2 o4 => if (o4 + 1 <= m2 /\ 0 < 1) then
 (bd (cs3)[o4]? fun v5 =>
 some (Res.ret [v5], h)) else none)))
theorem zmd (n : Nat) (s : Nat) (h : zd) : call (n + 1) 192 [(V.ptr s 0)] h = znR n s h := by kernel_rfl
noncomputable def zkU (n : Nat) (s : Nat) (h : zd) : Option (Res × zd) :=
 (bd (Qo prog h .eql 113 (V.ptr s 0) (V.val (.pointer none))) fun v0 =>
 (bv v0 fun b1 => if b1 then
 some (Res.ret [(V.int .i64 0)], h)
 else
 (bd3 (zu h (V.ptr s 0)) fun cs3 m2 o4 => if (o4 + 1 <= m2 /\ 0 < 1) then
 (bd (cs3)[o4]? fun v5 =>
 (bd (ZW h v5) fun p6 =>
 some (Res.ret [(V.int .i64 ((p6.2).length : Int))], h))) else none)))
theorem zjE (n : Nat) (s : Nat) (h : zd) : call (n + 1) 202 [(V.ptr s 0)] h = zkU n s h := by kernel_rfl
noncomputable def zqm (n : Nat) (s : Nat) (c : Int) (x : Int) (h : zd) : Option (Res × zd) :=
 (if (c == 1) then
 (cl (call n 205 [(V.ptr s 0), (V.int .i32 x)] h) (fun r0 h1 =>
 (ZI r0 fun v3 =>
 (cl (call n 209 [v3] h1) (fun r4 h5 =>
 (ZI r4 fun v7 =>
 (if ((V.cells v7)).length = 2 then
 (if (((V.cells v7)).length <= 2) then
 some (Res.ret [(V.agg (((setR [(V.int .u8 0), (V.int .i32 0)] 0 (V.cells v7))).drop 0 |>.take 2))], h5) else none) else none))) (fun z6 h5 => some (Res.pan z6, h5))))) (fun z2 h1 => some (Res.pan z2, h1)))
 else
 (if (c == 2) then
 (cl (call n 206 [(V.ptr s 0), (V.int .i32 x)] h) (fun r8 h9 =>
 (ZI r8 fun v11 =>
 (cl (call n 209 [v11] h9) (fun r12 h13 =>
 (ZI r12 fun v15 =>
 (if ((V.cells v15)).length = 2 then
 (if (((V.cells v15)).length <= 2) then
 some (Res.ret [(V.agg (((setR [(V.int .u8 0), (V.int .i32 0)] 0 (V.cells v15))).drop 0 |>.take 2))], h13) else none) else none))) (fun z14 h13 => some (Res.pan z14, h13))))) (fun z10 h9 => some (Res.pan z10, h9)))
 else
 (if (c == 3) then
 (cl (call n 203 [(V.ptr s 0)] h) (fun r16 h17 =>
 (bd (r16)[0]? fun v19 =>
 (bd (r16)[1]? fun v20 =>
 (cl (call n 210 [v19, v20] h17) (fun r21 h22 =>
 (ZI r21 fun v24 =>
 (if ((V.cells v24)).length = 2 then
 (if (((V.cells v24)).length <= 2) then
 some (Res.ret [(V.agg (((setR [(V.int .u8 0), (V.int .i32 0)] 0 (V.cells v24))).drop 0 |>.take 2))], h22) else none) else none))) (fun z23 h22 => some (Res.pan z23, h22)))))) (fun z18 h17 => some (Res.pan z18, h17)))
 else
 (if (c == 4) then
 (cl (call n 204 [(V.ptr s 0)] h) (fun r25 h26 =>
 (bd (r25)[0]? fun v28 =>
 (bd (r25)[1]? fun v29 =>
 (cl (call n 210 [v28, v29] h26) (fun r30 h31 =>
 (ZI r30 fun v33 =>
 (if ((V.cells v33)).length = 2 then
 (if (((V.cells v33)).length <= 2) then
 some (Res.ret [(V.agg (((setR [(V.int .u8 0), (V.int .i32 0)] 0 (V.cells v33))).drop 0 |>.take 2))], h31) else none) else none))) (fun z32 h31 => some (Res.pan z32, h31)))))) (fun z27 h26 => some (Res.pan z27, h26)))
 else
 some (Res.ret [(V.agg [(V.int .u8 5), (V.int .i32 0)])], h)))))
theorem znS (n : Nat) (s : Nat) (c : Int) (x : Int) (h : zd) : call (n + 1) 201 [(V.ptr s 0), (V.agg [(V.int .u8 c), (V.int .i32 x)])] h = zqm n s c x h := by kernel_rfl
noncomputable def zfM (n : Nat) (s : Nat) (h : zd) : Option (Res × zd) :=
 (cl (call n 192 [(V.ptr s 0)] h) (fun r0 h1 =>
 (ZI r0 fun v3 =>
 (bd (bop prog .eql 3 v3 (V.int .i64 0)) fun v4 =>
 (bv v4 fun b5 => if b5 then
 some (Res.ret [(V.int .i32 0), (V.bool false)], h1)
 else
 (cl (call n 195 [(V.ptr s 0), (V.int .i64 0)] h1) (fun r6 h7 =>
 (ZI r6 fun v9 =>
 (bd (ZU 0 v9) fun p10 =>
 (bd3 (zu h7 p10) fun cs12 m11 o13 => if (o13 + 1 <= m11 /\ 0 < 1) then
 (bd (cs12)[o13]? fun v14 =>
 (cl (call n 211 [(V.ptr s 0), (V.int .i64 1)] h7) (fun r15 h16 =>
 (bd3 (zu h16 (V.ptr s 2)) fun cs19 m18 o20 => if (o20 + 1 <= m18 /\ 0 < 1) then
 (bd (cs19)[o20]? fun v21 =>
 (bd (bop prog .sub 3 v21 (V.int .i64 1)) fun v22 =>
 (if ((V.cells v22)).length = 1 then
 (bd2 (Zs h16 (V.cells v22) (V.ptr s 2)) fun b23 x24 =>
 some (Res.ret [v14, (V.bool true)], ((h16).set b23 x24))) else none))) else none)) (fun z17 h16 => some (Res.pan z17, h16)))) else none)))) (fun z8 h7 => some (Res.pan z8, h7))))))) (fun z2 h1 => some (Res.pan z2, h1)))
theorem zc1 (n : Nat) (s : Nat) (h : zd) : call (n + 1) 203 [(V.ptr s 0)] h = zfM n s h := by kernel_rfl
noncomputable def zfN (n : Nat) (s : Nat) (h : zd) : Option (Res × zd) :=
 (cl (call n 192 [(V.ptr s 0)] h) (fun r0 h1 =>
 (ZI r0 fun v3 =>
 (bd (bop prog .eql 3 v3 (V.int .i64 0)) fun v4 =>
 (bv v4 fun b5 => if b5 then
 some (Res.ret [(V.int .i32 0), (V.bool false)], h1)
 else
 (bd3 (zu h1 (V.ptr s 2)) fun cs7 m6 o8 => if (o8 + 1 <= m6 /\ 0 < 1) then
 (bd (cs7)[o8]? fun v9 =>
 (bd (bop prog .sub 3 v9 (V.int .i64 1)) fun v10 =>
 (if ((V.cells v10)).length = 1 then
 (bd2 (Zs h1 (V.cells v10) (V.ptr s 2)) fun b11 x12 =>
 (bd3 (zu ((h1).set b11 x12) (V.ptr s 2)) fun cs14 m13 o15 => if (o15 + 1 <= m13 /\ 0 < 1) then
 (bd (cs14)[o15]? fun v16 =>
 (clH (call n 195 [(V.ptr s 0), v16] ((h1).set b11 x12)) fun r17 h18 =>
 (ZI r17 fun v20 =>
 (bd (ZU 0 v20) fun p21 =>
 (bd3 (zu h18 p21) fun cs23 m22 o24 => if (o24 + 1 <= m22 /\ 0 < 1) then
 (bd (cs23)[o24]? fun v25 =>
 some (Res.ret [v25, (V.bool true)], h18)) else none))))) else none)) else none))) else none))))) (fun z2 h1 => some (Res.pan z2, h1)))
theorem zc2 (n : Nat) (s : Nat) (h : zd) : call (n + 1) 204 [(V.ptr s 0)] h = zfN n s h := by kernel_rfl
noncomputable def zc3 (n : Nat) (s : Nat) (x : Int) (h : zd) : Option (Res × zd) :=
 (cl (call n 192 [(V.ptr s 0)] h) (fun r0 h1 =>
 (ZI r0 fun v3 =>
 (cl (call n 202 [(V.ptr s 0)] h1) (fun r4 h5 =>
 (ZI r4 fun v7 =>
 (bd (bop prog .geq 3 v3 v7) fun v8 =>
 (bv v8 fun b9 => if b9 then
 some (Res.ret [(V.bool false)], h5)
 else
 (cl (call n 211 [(V.ptr s 0), (V.int .i64 (-1))] h5) (fun r10 h11 =>
 (cl (call n 195 [(V.ptr s 0), (V.int .i64 0)] h11) (fun r13 h14 =>
 (ZI r13 fun v16 =>
 (bd (ZU 0 v16) fun p17 =>
 (bd2 (Zs h14 [(V.int .i32 x)] p17) fun b18 x19 =>
 (bd3 (zu ((h14).set b18 x19) (V.ptr s 2)) fun cs21 m20 o22 => if (o22 + 1 <= m20 /\ 0 < 1) then
 (bd (cs21)[o22]? fun v23 =>
 (bd (bop prog .add 3 v23 (V.int .i64 1)) fun v24 =>
 (if ((V.cells v24)).length = 1 then
 (bd2 (Zs ((h14).set b18 x19) (V.cells v24) (V.ptr s 2)) fun b25 x26 =>
 some (Res.ret [(V.bool true)], ((((h14).set b18 x19)).set b25 x26))) else none))) else none))))) (fun z15 h14 => some (Res.pan z15, h14)))) (fun z12 h11 => some (Res.pan z12, h11))))))) (fun z6 h5 => some (Res.pan z6, h5))))) (fun z2 h1 => some (Res.pan z2, h1)))
theorem zbm (n : Nat) (s : Nat) (x : Int) (h : zd) : call (n + 1) 205 [(V.ptr s 0), (V.int .i32 x)] h = zc3 n s x h := by kernel_rfl
noncomputable def zc4 (n : Nat) (s : Nat) (x : Int) (h : zd) : Option (Res × zd) :=
 (cl (call n 192 [(V.ptr s 0)] h) (fun r0 h1 =>
 (ZI r0 fun v3 =>
 (cl (call n 202 [(V.ptr s 0)] h1) (fun r4 h5 =>
 (ZI r4 fun v7 =>
 (bd (bop prog .geq 3 v3 v7) fun v8 =>
 (bv v8 fun b9 => if b9 then
 some (Res.ret [(V.bool false)], h5)
 else
 (bd3 (zu h5 (V.ptr s 2)) fun cs11 m10 o12 => if (o12 + 1 <= m10 /\ 0 < 1) then
 (bd (cs11)[o12]? fun v13 =>
 (clH (call n 195 [(V.ptr s 0), v13] h5) fun r14 h15 =>
 (ZI r14 fun v17 =>
 (bd (ZU 0 v17) fun p18 =>
 (bd2 (Zs h15 [(V.int .i32 x)] p18) fun b19 x20 =>
 (bd3 (zu ((h15).set b19 x20) (V.ptr s 2)) fun cs22 m21 o23 => if (o23 + 1 <= m21 /\ 0 < 1) then
 (bd (cs22)[o23]? fun v24 =>
 (bd (bop prog .add 3 v24 (V.int .i64 1)) fun v25 =>
 (if ((V.cells v25)).length = 1 then
 (bd2 (Zs ((h15).set b19 x20) (V.cells v25) (V.ptr s 2)) fun b26 x27 =>
 some (Res.ret [(V.bool true)], ((((h15).set b19 x20)).set b26 x27))) else none))) else none)))))) else none))))) (fun z6 h5 => some (Res.pan z6, h5))))) (fun z2 h1 => some (Res.pan z2, h1)))
theorem zbn (n : Nat) (s : Nat) (x : Int) (h : zd) : call (n + 1) 206 [(V.ptr s 0), (V.int .i32 x)] h = zc4 n s x h := by kernel_rfl
noncomputable def znT (n : Nat) (s : Nat) (h : zd) : Option (Res × zd) :=
 some (Res.ret [(V.fn 194 [(V.ptr (h).length 0)])], (h ++ [(HB.box 1 [(V.ptr s 0)])]))
theorem zme (n : Nat) (s : Nat) (h : zd) : call (n + 1) 193 [(V.ptr s 0)] h = znT n s h := by kernel_rfl
noncomputable def Wv (n : Nat) (y : Nat) (b : Nat) (v9 : V) (st11 : List V) (hh12 : zd) (next13 : List V -> zd -> Option (Res × zd)) : Option (Res × zd) :=
 (bd (bop prog .lss 3 (gv st11 0) v9) fun v14 =>
 (bv v14 fun b15 => if b15 then
 (bd3 (zu hh12 (V.ptr b 0)) fun cs17 m16 o18 => if (o18 + 1 <= m16 /\ 0 < 1) then
 (bd (cs17)[o18]? fun v19 =>
 (cl (call n 195 [v19, (gv st11 0)] hh12) (fun r20 h21 =>
 (ZI r20 fun v23 =>
 (bd (ZU 0 v23) fun p24 =>
 (bd3 (zu h21 p24) fun cs26 m25 o27 => if (o27 + 1 <= m25 /\ 0 < 1) then
 (bd (cs26)[o27]? fun v28 =>
 (bd2 (rnd n y [v28] h21) fun t29 h30 =>
 (if (!t29) then
 some (Res.ret [], h30)
 else
 (bd (bop prog .add 3 (gv st11 0) (V.int .i64 1)) fun v31 =>
 (next13 [v31] h30))))) else none)))) (fun z22 h21 => some (Res.pan z22, h21)))) else none)
 else
 some (Res.ret [], hh12)))
noncomputable def zkV (n : Nat) (y : Nat) (b : Nat) (h : zd) : Option (Res × zd) :=
 (bd3 (zu h (V.ptr b 0)) fun cs1 m0 o2 => if (o2 + 1 <= m0 /\ 0 < 1) then
 (bd (cs1)[o2]? fun v3 =>
 (bd (ZU 0 v3) fun p4 =>
 (bd (ZU 2 p4) fun p5 =>
 (bd3 (zu h p5) fun cs7 m6 o8 => if (o8 + 1 <= m6 /\ 0 < 1) then
 (bd (cs7)[o8]? fun v9 =>
 (zV n (Wv n y b v9) [(V.int .i64 0)] h)) else none)))) else none)
theorem zjF (n : Nat) (y : Nat) (b : Nat) (h : zd) : call (n + 1) 194 [(V.yld y), (V.ptr b 0)] h = zkV n y b h := by kernel_rfl
noncomputable def zqn (n : Nat) (s : Nat) (i : Int) (h : zd) : Option (Res × zd) :=
 (bd3 (zu h (V.ptr s 0)) fun cs1 m0 o2 => if (o2 + 1 <= m0 /\ 0 < 1) then
 (bd (cs1)[o2]? fun v3 =>
 (bd3 (zu h (V.ptr s 1)) fun cs5 m4 o6 => if (o6 + 1 <= m4 /\ 0 < 1) then
 (bd (cs5)[o6]? fun v7 =>
 (bd (bop prog .add 3 v7 (V.int .i64 i)) fun v8 =>
 (bd3 (zu h (V.ptr s 0)) fun cs10 m9 o11 => if (o11 + 1 <= m9 /\ 0 < 1) then
 (bd (cs10)[o11]? fun v12 =>
 (bd (ZW h v12) fun p13 =>
 (bd (bop prog .add 3 v8 (V.int .i64 ((p13.2).length : Int))) fun v14 =>
 (bd3 (zu h (V.ptr s 0)) fun cs16 m15 o17 => if (o17 + 1 <= m15 /\ 0 < 1) then
 (bd (cs16)[o17]? fun v18 =>
 (bd (ZW h v18) fun p19 =>
 (bd (bop prog .rem 3 v14 (V.int .i64 ((p19.2).length : Int))) fun v20 =>
 (bdS (nv v20) fun n21 =>
 (bd (ZK 1 n21 v3) fun p22 =>
 some (Res.ret [(zmX v3 p22)], h)))))) else none)))) else none))) else none)) else none)
theorem znU (n : Nat) (s : Nat) (i : Int) (h : zd) : call (n + 1) 195 [(V.ptr s 0), (V.int .i64 i)] h = zqn n s i h := by kernel_rfl
noncomputable def zkW (n : Nat) (s : Nat) (i : Int) (h : zd) : Option (Res × zd) :=
 (bd3 (zu h (V.ptr s 1)) fun cs1 m0 o2 => if (o2 + 1 <= m0 /\ 0 < 1) then
 (bd (cs1)[o2]? fun v3 =>
 (bd (bop prog .add 3 v3 (V.int .i64 i)) fun v4 =>
 (bd3 (zu h (V.ptr s 0)) fun cs6 m5 o7 => if (o7 + 1 <= m5 /\ 0 < 1) then
 (bd (cs6)[o7]? fun v8 =>
 (bd (ZW h v8) fun p9 =>
 (bd (bop prog .add 3 v4 (V.int .i64 ((p9.2).length : Int))) fun v10 =>
 (bd3 (zu h (V.ptr s 0)) fun cs12 m11 o13 => if (o13 + 1 <= m11 /\ 0 < 1) then
 (bd (cs12)[o13]? fun v14 =>
 (bd (ZW h v14) fun p15 =>
 (bd (bop prog .rem 3 v10 (V.int .i64 ((p15.2).length : Int))) fun v16 =>
 (if ((V.cells v16)).length = 1 then
 (bd2 (Zs h (V.cells v16) (V.ptr s 1)) fun b17 x18 =>
 some (Res.ret [], ((h).set b17 x18))) else none)))) else none)))) else none))) else none)
theorem zjG (n : Nat) (s : Nat) (i : Int) (h : zd) : call (n + 1) 211 [(V.ptr s 0), (V.int .i64 i)] h = zkW n s i h := by kernel_rfl
noncomputable def zeH (n : Nat) (x0 : Bool) (h : zd) : Option (Res × zd) :=
 (if x0 then
 some (Res.ret [(V.agg [(V.int .u8 1), (V.int .i32 0)])], h)
 else
 some (Res.ret [(V.agg [(V.int .u8 3), (V.int .i32 0)])], h))
theorem zfO (n : Nat) (x0 : Bool) (h : zd) : call (n + 1) 209 [(V.bool x0)] h = zeH n x0 h := by kernel_rfl
noncomputable def zeI (n : Nat) (x0 : Int) (x1 : Bool) (h : zd) : Option (Res × zd) :=
 (if x1 then
 some (Res.ret [(V.agg [(V.int .u8 2), (V.int .i32 x0)])], h)
 else
 some (Res.ret [(V.agg [(V.int .u8 4), (V.int .i32 0)])], h))
theorem zfP (n : Nat) (x0 : Int) (x1 : Bool) (h : zd) : call (n + 1) 210 [(V.int .i32 x0), (V.bool x1)] h = zeI n x0 x1 h := by kernel_rfl
end Go.Proofs.Tryz
namespace Go.Sk
open Go.L
def Zw (most : Int) (c x : Int) (xs : List Int) : (Int × Int) × List Int :=
 if c = 1 then (if (xs.length : Int) < most then ((1, 0), x :: xs) else ((3, 0), xs))
 else if c = 2 then (if (xs.length : Int) < most then ((1, 0), xs ++ [x]) else ((3, 0), xs))
 else if c = 3 then (match xs with | y :: r => ((2, y), r) | [] => ((4, 0), xs))
 else if c = 4 then (match xs.getLast? with | some y => ((2, y), xs.dropLast) | none => ((4, 0), xs))
 else ((5, 0), xs)
theorem znV {f c i : Nat} (hc : 0 < c) : ((f + 1) % c + i) % c = (f + (i + 1)) % c := by
 rw [Nat.mod_add_mod]; congr 1; omega
theorem znW {f c i : Nat} (hc : 0 < c) (hf : f < c) : ((f + c - 1) % c + (i + 1)) % c = (f + i) % c := by
 rw [Nat.mod_add_mod, show f + c - 1 + (i + 1) = f + i + c by omega, Nat.add_mod_right]
theorem znX {f c i j : Nat} (hi : i < c) (hj : j < c) (h : i ≠ j) : (f + i) % c ≠ (f + j) % c := by
 intro e
 have h1 := Nat.div_add_mod (f + i) c
 have h2 := Nat.div_add_mod (f + j) c
 rw [e] at h1
 have h3 : c * ((f + i) / c) + j = c * ((f + j) / c) + i := by omega
 rcases Nat.lt_trichotomy ((f + i) / c) ((f + j) / c) with hlt | heq | hgt
 · have : c * ((f + i) / c + 1) <= c * ((f + j) / c) := Nat.mul_le_mul_left c hlt
   rw [Nat.mul_add] at this; omega
 · rw [heq] at h3; omega
 · have : c * ((f + j) / c + 1) <= c * ((f + i) / c) := Nat.mul_le_mul_left c hgt
   rw [Nat.mul_add] at this; omega
end Go.Sk
namespace Go.Proofs.Tryz
open Go.L Go.Rp Go.Sk
set_option maxRecDepth 100000
def RngAt (h : zd) (s b : Nat) (c : Nat) (xs : List Int) : Prop :=
 b ≠ s /\ ∃ l z f, h[s]? = some (.box 3 [.row b 1 0 c, .int .i64 ((f : Nat) : Int), .int .i64 (xs.length : Int)]) /\ h[b]? = some (.row 21 1 l z) /\ l.length = c /\ (f < c \/ (c = 0 /\ f = 0)) /\ xs.length <= c /\ (∀ i (hi : i < xs.length), l[(f + i) % c]? = some (Kk xs[i])) /\ ∀ es ∈ l, es.length = 1
theorem RngAt.keep {h h' : zd} {s b c : Nat} {xs : List Int} (hb : RngAt h s b c xs) (h1 : h'[s]? = h[s]?) (h2 : h'[b]? = h[b]?) : RngAt h' s b c xs := by
 obtain ⟨k, l, z, f, e1, e2, e3⟩ := hb
 exact ⟨k, l, z, f, h1.trans e1, h2.trans e2, e3⟩
theorem K9 (h : zd) (c : Nat) : Qo prog h .eql 113 (V.ptr c 0) (V.val (.pointer none)) = some (.bool false) := by kernel_rfl
theorem zbo {a b : Nat} (h : b ≠ 0) : bop prog .rem 3 (.int .i64 (a : Int)) (.int .i64 (b : Int)) = some (.int .i64 ((a % b : Nat) : Int)) := by
 have : bop prog .rem 3 (.int .i64 (a : Int)) (.int .i64 (b : Int)) = if (b : Int) = 0 then none else some (.int .i64 ((a : Int).tmod b)) := by kernel_rfl
 rw [this, if_neg (by omega)]; rfl
theorem Qk (n : Nat) {h : zd} {s b c : Nat} {xs : List Int} (hb : RngAt h s b c xs) : call (n + 1) 192 [.ptr s 0] h = some (.ret [.int .i64 (xs.length : Int)], h) := by
 obtain ⟨k, l, z, f, e1, e2, e3, e4, e5, e6, e7⟩ := hb
 refine (zmd n s h).trans ?_
 unfold znR
 rw [K9, za, zm, if_neg (by decide), zF e1, zo, if_pos (by decide)]
 rfl
theorem Jz (n : Nat) {h : zd} {s b c : Nat} {xs : List Int} (hb : RngAt h s b c xs) : call (n + 1) 202 [.ptr s 0] h = some (.ret [.int .i64 (c : Int)], h) := by
 obtain ⟨k, l, z, f, e1, e2, e3, e4, e5, e6, e7⟩ := hb
 refine (zjE n s h).trans ?_
 unfold zkU
 rw [K9, za, zm, if_neg (by decide), zF e1, zo, if_pos (by decide)]
 simp only [zb, za]
 rw [Qw e2 (Zg _) (by omega), za]
 simp [e3]
theorem Ww (n : Nat) {h : zd} {s b c f m : Nat} {l : List (List V)} {z : Bool} {w : V} (e1 : h[s]? = some (.box 3 [.row b 1 0 c, .int .i64 (f : Int), w])) (e2 : h[b]? = some (.row 21 1 l z)) (e3 : l.length = c) (hf : f < c) (hm : m <= c) (hc : c < 100000) :
    call (n + 1) 195 [.ptr s 0, .int .i64 (m : Int)] h = some (.ret [.rptr b 1 ((f + m) % c) 0], h) := by
 refine (znU n s _ h).trans ?_
 unfold zqn
 rw [zF e1, zo, if_pos (by decide)]
 simp only [zb, za]
 rw [zF e1, zo, if_pos (by decide)]
 simp only [zb, zj, za]
 rw [zK, za, zo, if_pos (by decide)]
 simp only [zb, za]
 rw [Qw e2 (Zg _) (by omega), za, zK, za, zo, if_pos (by decide)]
 simp only [zb, za]
 have hl : ((l.take c).drop 0).length = c := by simp [e3]
 rw [Qw e2 (Zg _) (by omega), za, hl, w64 (n := (f : Int) + (m : Int)) (by omega) (by omega), w64 (by omega) (by omega), show ((f : Int) + (m : Int) + (c : Int)) = ((f + m + c : Nat) : Int) by omega, zbo (by omega), za, Zd, zw, Nat.add_mod_right]
 have hlt : (f + m) % c < c := Nat.mod_lt _ (by omega)
 rw [XL (by omega), za, zr]
 rfl
theorem jX (n : Nat) {h : zd} {s b c f y : Nat} {i : Int} {l : List (List V)} {z : Bool} {w : V} (e1 : h[s]? = some (.box 3 [.row b 1 0 c, .int .i64 (f : Int), w])) (e2 : h[b]? = some (.row 21 1 l z)) (e3 : l.length = c) (hf : f < c) (hy : (f : Int) + i + c = (y : Int)) (hi : -10 <= i /\ i <= 10) (hc : c < 100000) :
    call (n + 1) 211 [.ptr s 0, .int .i64 i] h = some (.ret [], h.set s (.box 3 [.row b 1 0 c, .int .i64 ((y % c : Nat) : Int), w])) := by
 refine (zjG n s _ h).trans ?_
 unfold zkW
 rw [zF e1, zo, if_pos (by decide)]
 simp only [zb, zj, za]
 rw [zK, za, zF e1, zo, if_pos (by decide)]
 simp only [zb, za]
 rw [Qw e2 (Zg _) (by omega), za, zK, za, zo, if_pos (by decide)]
 simp only [zb, za]
 have hl : ((l.take c).drop 0).length = c := by simp [e3]
 rw [Qw e2 (Zg _) (by omega), za, hl, w64 (n := (f : Int) + i) (by omega) (by omega), w64 (by omega) (by omega), hy, zbo (by omega), za, if_pos (by rfl), ZV e1 (by simp [V.cells]), Zj]
 rfl
theorem zc5 (n : Nat) {h : zd} {s b c : Nat} {xs : List Int} (hb : RngAt h s b c xs) (x : Int) (hm : c <= xs.length) : call (n + 2) 205 [.ptr s 0, .int .i32 x] h = some (.ret [.bool false], h) := by
 refine (zbm (n + 1) s x h).trans ?_
 unfold zc3
 rw [Qk n hb, zM, zE, Jz n hb, zM, zE, Xa, za, zm, if_pos (by simp; omega)]
theorem zc6 (n : Nat) {h : zd} {s b c : Nat} {xs : List Int} (hb : RngAt h s b c xs) (x : Int) (hm : c <= xs.length) : call (n + 2) 206 [.ptr s 0, .int .i32 x] h = some (.ret [.bool false], h) := by
 refine (zbn (n + 1) s x h).trans ?_
 unfold zc4
 rw [Qk n hb, zM, zE, Jz n hb, zM, zE, Xa, za, zm, if_pos (by simp; omega)]
theorem zdS (n : Nat) {h : zd} {s b c : Nat} (hb : RngAt h s b c []) : call (n + 2) 203 [.ptr s 0] h = some (.ret [.int .i32 0, .bool false], h) := by
 refine (zc1 (n + 1) s h).trans ?_
 unfold zfM
 rw [Qk n hb, zM, zE, Xr, za, zm, if_pos (by rfl)]
theorem zdT (n : Nat) {h : zd} {s b c : Nat} (hb : RngAt h s b c []) : call (n + 2) 204 [.ptr s 0] h = some (.ret [.int .i32 0, .bool false], h) := by
 refine (zc2 (n + 1) s h).trans ?_
 unfold zfN
 rw [Qk n hb, zM, zE, Xr, za, zm, if_pos (by rfl)]
structure RFed (h h' : zd) (s b : Nat) : Prop where
 len : h'.length = h.length
 old : ∀ i, i ≠ s -> i ≠ b -> h'[i]? = h[i]?
theorem RFed.refl (h : zd) (s b : Nat) : RFed h h s b := ⟨rfl, fun _ _ _ => rfl⟩
theorem RFed.trans {h h' h'' : zd} {s b : Nat} (x : RFed h h' s b) (y : RFed h' h'' s b) : RFed h h'' s b := ⟨y.len.trans x.len, fun i h1 h2 => (y.old i h1 h2).trans (x.old i h1 h2)⟩
theorem ja (n : Nat) {h : zd} {s b c : Nat} {xs : List Int} (hb : RngAt h s b c xs) (x : Int) (hm : xs.length < c) (hc : c < 100000) :
    ∃ h', call (n + 2) 205 [.ptr s 0, .int .i32 x] h = some (.ret [.bool true], h') /\ RngAt h' s b c (x :: xs) /\ RFed h h' s b := by
 have hb0 := hb
 obtain ⟨k, l, z, f, e1, e2, e3, e4, e5, e6, e7⟩ := hb
 have hf : f < c := by omega
 have hcl := zS e1
 have hbl := zS e2
 rw [show n + 2 = (n + 1) + 1 from rfl, zbm]
 unfold zc3
 rw [Qk n hb0, zM, zE, Jz n hb0, zM, zE, Xa, za, zm, if_neg (by simp; omega)]
 have hy : (f : Int) + (-1) + c = ((f + c - 1 : Nat) : Int) := by omega
 rw [jX n e1 e2 e3 hf hy (by omega) hc, zM]
 have hg : (f + c - 1) % c < c := Nat.mod_lt _ (by omega)
 generalize hgd : (f + c - 1) % c = g at hg ⊢
 have m1 : (h.set s (HB.box 3 [V.row b 1 0 c, V.int .i64 (g : Int), V.int .i64 (xs.length : Int)]))[s]? = some (.box 3 [V.row b 1 0 c, V.int .i64 (g : Int), V.int .i64 (xs.length : Int)]) := Xq hcl _
 have m2 : (h.set s (HB.box 3 [V.row b 1 0 c, V.int .i64 (g : Int), V.int .i64 (xs.length : Int)]))[b]? = some (.row 21 1 l z) := by rw [ze (Ne.symm k)]; exact e2
 have hgl : g < l.length := by omega
 have ea := Ww n (m := 0) m1 m2 e3 hg (by omega) hc
 rw [show (g + 0) % c = g by rw [Zb]; exact Nat.mod_eq_of_lt hg] at ea
 have hx : l[g]? = some l[g] := zg hgl
 rw [show ((0 : Nat) : Int) = 0 from rfl] at ea
 rw [ea, zM, zE]
 simp only [ZU, za, Zb]
 rw [JP m2 (by decide) (by simp) hx, Zj]
 have m3 : ((h.set s (HB.box 3 [V.row b 1 0 c, V.int .i64 (g : Int), V.int .i64 (xs.length : Int)])).set b (.row 21 1 (l.set g (setR l[g] 0 [V.int .i32 x])) z))[s]? = some (.box 3 [V.row b 1 0 c, V.int .i64 (g : Int), V.int .i64 (xs.length : Int)]) := by rw [ze k]; exact m1
 rw [zF m3, zo, if_pos (by decide)]
 simp only [zb, zj, za]
 rw [zK, za, w64 (by omega) (by omega)]
 simp only [V.cells, zA, zP, zr, if_true]
 rw [ZV m3 (by simp), Zj]
 have hone : setR l[g] 0 [V.int .i32 x] = Kk x := by
  obtain ⟨e, he⟩ : ∃ e, l[g] = [e] := ZS.1 (e7 _ (Z9 hgl))
  rw [he]; rfl
 refine ⟨_, rfl, ⟨k, l.set g (Kk x), z, g, ?_, ?_, by simpa using e3, .inl hg, by simp; omega, ?_, ?_⟩, ⟨by simp, fun i h1 h2 => ?_⟩⟩
 · rw [Xq (by simpa using hcl)]
   simp [setR]
 · rw [ze (Ne.symm k), Xq (by simpa using hbl), hone]
 · intro i hi
   cases i with
   | zero =>
     rw [Zb, Nat.mod_eq_of_lt hg, Zq hgl]; rfl
   | succ j =>
     have hj : j < xs.length := by simpa using hi
     have q1 : (g + (j + 1)) % c = (f + j) % c := by rw [<- hgd]; exact znW (by omega) hf
     have q2 : (f + j) % c ≠ g := by rw [<- hgd, show f + c - 1 = f + (c - 1) by omega]; exact znX (by omega) (by omega) (by omega)
     rw [q1, ze (Ne.symm q2), e6 j hj]; rfl
 · intro es hes
   rcases XF hes with h1 | rfl
   · exact e7 es h1
   · rfl
 · rw [ze (Ne.symm h1), ze (Ne.symm h2), ze (Ne.symm h1)]
theorem jb (n : Nat) {h : zd} {s b c : Nat} {xs : List Int} (hb : RngAt h s b c xs) (x : Int) (hm : xs.length < c) (hc : c < 100000) :
    ∃ h', call (n + 2) 206 [.ptr s 0, .int .i32 x] h = some (.ret [.bool true], h') /\ RngAt h' s b c (xs ++ [x]) /\ RFed h h' s b := by
 have hb0 := hb
 obtain ⟨k, l, z, f, e1, e2, e3, e4, e5, e6, e7⟩ := hb
 have hf : f < c := by omega
 have hcl := zS e1
 have hbl := zS e2
 rw [show n + 2 = (n + 1) + 1 from rfl, zbn]
 unfold zc4
 rw [Qk n hb0, zM, zE, Jz n hb0, zM, zE, Xa, za, zm, if_neg (by simp; omega), zF e1, zo, if_pos (by decide)]
 simp only [zb, zj, za]
 have hg : (f + xs.length) % c < c := Nat.mod_lt _ (by omega)
 rw [Ww n e1 e2 e3 hf e5 hc]
 generalize hgd : (f + xs.length) % c = g at hg ⊢
 have hgl : g < l.length := by omega
 have hx : l[g]? = some l[g] := zg hgl
 simp only [clH, ZU, za, Zb]
 rw [zE, za, JP e2 (by decide) (by simp) hx, Zj]
 have m3 : (h.set b (.row 21 1 (l.set g (setR l[g] 0 [V.int .i32 x])) z))[s]? = some (.box 3 [V.row b 1 0 c, V.int .i64 (f : Int), V.int .i64 (xs.length : Int)]) := by rw [ze k]; exact e1
 rw [zF m3, zo, if_pos (by decide)]
 simp only [zb, zj, za]
 rw [zK, za, w64 (by omega) (by omega)]
 simp only [V.cells, zA, zP, zr, if_true]
 rw [ZV m3 (by simp), Zj]
 have hone : setR l[g] 0 [V.int .i32 x] = Kk x := by
  obtain ⟨e, he⟩ : ∃ e, l[g] = [e] := ZS.1 (e7 _ (Z9 hgl))
  rw [he]; rfl
 refine ⟨_, rfl, ⟨k, l.set g (Kk x), z, f, ?_, ?_, by simpa using e3, .inl hf, by simp; omega, ?_, ?_⟩, ⟨by simp, fun i h1 h2 => ?_⟩⟩
 · rw [Xq (by simpa using hcl)]
   simp [setR]
 · rw [ze (Ne.symm k), Xq (by simpa using hbl), hone]
 · intro i hi
   rw [zB, ZA] at hi
   rcases Z2 i xs.length with h1 | h1
   · have q2 : (f + i) % c ≠ g := by rw [<- hgd]; exact znX (by omega) (by omega) (by omega)
     rw [ze (Ne.symm q2), e6 i h1, List.getElem_append_left h1]
   · obtain rfl : i = xs.length := by omega
     rw [hgd, Zq hgl]; simp
 · intro es hes
   rcases XF hes with h1 | rfl
   · exact e7 es h1
   · rfl
 · rw [ze (Ne.symm h1), ze (Ne.symm h2)]
theorem jY (n : Nat) {h : zd} {s b c : Nat} {x : Int} {xs : List Int} (hb : RngAt h s b c (x :: xs)) (hc : c < 100000) :
    ∃ h', call (n + 2) 203 [.ptr s 0] h = some (.ret [.int .i32 x, .bool true], h') /\ RngAt h' s b c xs /\ RFed h h' s b := by
 have hb0 := hb
 obtain ⟨k, l, z, f, e1, e2, e3, e4, e5, e6, e7⟩ := hb
 simp only [zA] at e1 e5 e6
 have hf : f < c := by omega
 have hcl := zS e1
 have hbl := zS e2
 rw [show n + 2 = (n + 1) + 1 from rfl, zc1]
 unfold zfM
 rw [Qk n hb0, zM, zE, Xr, za, zm, if_neg (by simp; omega)]
 have ea := Ww n (m := 0) e1 e2 e3 hf (by omega) hc
 rw [show ((0 : Nat) : Int) = 0 from rfl] at ea
 rw [ea, zM, zE]
 simp only [ZU, za, Zb]
 have h0 := e6 0 (by omega)
 rw [Zb] at h0
 rw [Xz e2 (by decide) h0, zo, if_pos (by decide)]
 simp only [Kk, zb, za, List.getElem_cons_zero]
 have hy : (f : Int) + 1 + c = ((f + 1 + c : Nat) : Int) := by omega
 rw [jX n e1 e2 e3 hf hy (by omega) hc, zM, Nat.add_mod_right]
 have hg : (f + 1) % c < c := Nat.mod_lt _ (by omega)
 generalize hgd : (f + 1) % c = g at hg ⊢
 have m1 : (h.set s (HB.box 3 [V.row b 1 0 c, V.int .i64 (g : Int), V.int .i64 ((xs.length + 1 : Nat) : Int)]))[s]? = some (.box 3 [V.row b 1 0 c, V.int .i64 (g : Int), V.int .i64 ((xs.length + 1 : Nat) : Int)]) := Xq hcl _
 rw [zF m1, zo, if_pos (by decide)]
 simp only [zb, zj, za]
 rw [ZN, za, w64 (by omega) (by omega)]
 simp only [V.cells, zA, zP, zr, if_true]
 rw [ZV m1 (by simp), Zj]
 refine ⟨_, rfl, ⟨k, l, z, g, ?_, ?_, e3, .inl hg, by omega, ?_, e7⟩, ⟨by simp, fun i h1 h2 => ?_⟩⟩
 · rw [Xq (by simpa using hcl)]
   simp [setR]
 · rw [ze (Ne.symm k), ze (Ne.symm k)]; exact e2
 · intro i hi
   have q := e6 (i + 1) (by omega)
   rw [<- hgd, znV (by omega), q]; rfl
 · rw [ze (Ne.symm h1), ze (Ne.symm h1)]
theorem jZ (n : Nat) {h : zd} {s b c : Nat} {x : Int} {xs : List Int} (hb : RngAt h s b c (xs ++ [x])) (hc : c < 100000) :
    ∃ h', call (n + 2) 204 [.ptr s 0] h = some (.ret [.int .i32 x, .bool true], h') /\ RngAt h' s b c xs /\ RFed h h' s b := by
 have hb0 := hb
 obtain ⟨k, l, z, f, e1, e2, e3, e4, e5, e6, e7⟩ := hb
 rw [zB, ZA] at e1 e5
 have hf : f < c := by omega
 have hcl := zS e1
 have hbl := zS e2
 rw [show n + 2 = (n + 1) + 1 from rfl, zc2]
 unfold zfN
 rw [Qk n hb0, zM, zE, Xr, za, zm, if_neg (by simp; omega), zF e1, zo, if_pos (by decide)]
 simp only [zb, zj, za]
 rw [ZN, za, w64 (by omega) (by omega)]
 simp only [V.cells, zA, zP, zr, if_true]
 rw [ZV e1 (by simp), Zj]
 have m1 : (h.set s (HB.box 3 [V.row b 1 0 c, V.int .i64 (f : Int), V.int .i64 (xs.length : Int)]))[s]? = some (.box 3 [V.row b 1 0 c, V.int .i64 (f : Int), V.int .i64 (xs.length : Int)]) := Xq hcl _
 have m2 : (h.set s (HB.box 3 [V.row b 1 0 c, V.int .i64 (f : Int), V.int .i64 (xs.length : Int)]))[b]? = some (.row 21 1 l z) := by rw [ze (Ne.symm k)]; exact e2
 have hset : setR [V.row b 1 0 c, V.int .i64 (f : Int), V.int .i64 ((xs.length + 1 : Nat) : Int)] 2 [V.int .i64 (((xs.length + 1 : Nat) : Int) - 1)] = [V.row b 1 0 c, V.int .i64 (f : Int), V.int .i64 (xs.length : Int)] := by
  rw [show (((xs.length + 1 : Nat) : Int) - 1) = (xs.length : Int) by omega]; rfl
 rw [hset, zF m1, zo, if_pos (by decide)]
 simp only [zb, zj, za]
 rw [Ww n m1 m2 e3 hf (by omega) hc]
 have hl0 := e6 xs.length (by simp)
 simp only [clH, ZU, za, Zb]
 rw [zE, za, Xz m2 (by decide) hl0, zo, if_pos (by decide)]
 simp only [Kk, zb, za]
 refine ⟨_, by simp, ⟨k, l, z, f, m1, m2, e3, .inl hf, by omega, ?_, e7⟩, ⟨by simp, fun i h1 h2 => ?_⟩⟩
 · intro i hi
   have q := e6 i (by simp; omega)
   rw [q, List.getElem_append_left hi]
 · rw [ze (Ne.symm h1)]
theorem zhA (n : Nat) {h : zd} {s b c : Nat} {xs : List Int} (hb : RngAt h s b c xs) (hc : c < 100000) (k x : Int) :
    ∃ h', call (n + 3) 201 [.ptr s 0, .agg [.int .u8 k, .int .i32 x]] h = some (.ret [zhs (Zw c k x xs).1.1 (Zw c k x xs).1.2], h') /\ RngAt h' s b c (Zw c k x xs).2 /\ RFed h h' s b := by
 rw [show n + 3 = (n + 2) + 1 from rfl, znS]
 unfold zqm
 have ep : ∀ (w : Bool) (h : zd), call (n + 2) 209 [.bool w] h = some (.ret [zhs (if w then 1 else 3) 0], h) := fun w h => by
  rw [show n + 2 = (n + 1) + 1 from rfl, zfO]; unfold zeH; cases w <;> rfl
 have eq : ∀ (y : Int) (w : Bool) (h : zd), call (n + 2) 210 [.int .i32 y, .bool w] h = some (.ret [if w then zhs 2 y else zhs 4 0], h) := fun y w h => by
  rw [show n + 2 = (n + 1) + 1 from rfl, zfP]; unfold zeI; cases w <;> rfl
 by_cases k1 : k = 1
 · rw [if_pos (by simp [k1])]
   by_cases hm : xs.length < c
   · obtain ⟨h', e, b1, b2⟩ := ja n hb x hm hc
     have ht : Zw c k x xs = ((1, 0), x :: xs) := by unfold Zw; rw [if_pos k1, if_pos (by omega)]
     refine ⟨h', ?_, by rw [ht]; exact b1, b2⟩
     rw [e, zM, zE, ep, zM, zE, ht]
     rfl
   · have ht : Zw c k x xs = ((3, 0), xs) := by unfold Zw; rw [if_pos k1, if_neg (by omega)]
     refine ⟨h, ?_, by rw [ht]; exact hb, RFed.refl ..⟩
     rw [zc5 n hb x (by omega), zM, zE, ep, zM, zE, ht]
     rfl
 rw [if_neg (by simp [k1])]
 by_cases k2 : k = 2
 · rw [if_pos (by simp [k2])]
   by_cases hm : xs.length < c
   · obtain ⟨h', e, b1, b2⟩ := jb n hb x hm hc
     have ht : Zw c k x xs = ((1, 0), xs ++ [x]) := by unfold Zw; rw [if_neg k1, if_pos k2, if_pos (by omega)]
     refine ⟨h', ?_, by rw [ht]; exact b1, b2⟩
     rw [e, zM, zE, ep, zM, zE, ht]
     rfl
   · have ht : Zw c k x xs = ((3, 0), xs) := by unfold Zw; rw [if_neg k1, if_pos k2, if_neg (by omega)]
     refine ⟨h, ?_, by rw [ht]; exact hb, RFed.refl ..⟩
     rw [zc6 n hb x (by omega), zM, zE, ep, zM, zE, ht]
     rfl
 rw [if_neg (by simp [k2])]
 by_cases k3 : k = 3
 · rw [if_pos (by simp [k3])]
   cases xs with
   | nil =>
     have ht : Zw c k x [] = ((4, 0), []) := by unfold Zw; rw [if_neg k1, if_neg k2, if_pos k3]
     refine ⟨h, ?_, by rw [ht]; exact hb, RFed.refl ..⟩
     rw [zdS n hb, zM]
     simp only [zb, zj, za]
     rw [eq, zM, zE, ht]
     rfl
   | cons y xs =>
     obtain ⟨h', e, b1, b2⟩ := jY n hb hc
     have ht : Zw c k x (y :: xs) = ((2, y), xs) := by unfold Zw; rw [if_neg k1, if_neg k2, if_pos k3]
     refine ⟨h', ?_, by rw [ht]; exact b1, b2⟩
     rw [e, zM]
     simp only [zb, zj, za]
     rw [eq, zM, zE, ht]
     rfl
 rw [if_neg (by simp [k3])]
 by_cases k4 : k = 4
 · rw [if_pos (by simp [k4])]
   rcases Zt xs with rfl | ⟨ys, y, rfl⟩
   · have ht : Zw c k x [] = ((4, 0), []) := by unfold Zw; rw [if_neg k1, if_neg k2, if_neg k3, if_pos k4]; rfl
     refine ⟨h, ?_, by rw [ht]; exact hb, RFed.refl ..⟩
     rw [zdT n hb, zM]
     simp only [zb, zj, za]
     rw [eq, zM, zE, ht]
     rfl
   · rw [Xt] at hb ⊢
     obtain ⟨h', e, b1, b2⟩ := jZ n hb hc
     have ht : Zw c k x (ys ++ [y]) = ((2, y), ys) := by unfold Zw; rw [if_neg k1, if_neg k2, if_neg k3, if_pos k4]; simp
     refine ⟨h', ?_, by rw [ht]; exact b1, b2⟩
     rw [e, zM]
     simp only [zb, zj, za]
     rw [eq, zM, zE, ht]
     rfl
 rw [if_neg (by simp [k4])]
 have ht : Zw c k x xs = ((5, 0), xs) := by unfold Zw; rw [if_neg k1, if_neg k2, if_neg k3, if_neg k4]
 exact ⟨h, by rw [ht]; rfl, by rw [ht]; exact hb, RFed.refl ..⟩
end Go.Proofs.Tryz
namespace Go.Proofs.Tryz
open Go.L
set_option maxRecDepth 100000
noncomputable def zkX (n : Nat) (h : zd) : Option (Res × zd) :=
 (zg6 ((h ++ [(HB.map [])]))[(h).length]? fun es0 => (bd (kds prog 12 5) fun ksr1 => bd (QQ ksr1 (V.int .u8 1) es0 0) fun r1 => if (((V.int .u8 1)).one = !false /\ ((V.int .u8 1)).cells.length = ksr1.length) then
 (zg6 ((((h ++ [(HB.map [])])).set (h).length (HB.map (upd es0 (V.int .u8 1) (V.agg [(V.bool true), (V.int .i64 0)]) r1))))[(h).length]? fun es3 => (bd (kds prog 12 5) fun ksr4 => bd (QQ ksr4 (V.int .u8 2) es3 0) fun r4 => if (((V.int .u8 2)).one = !false /\ ((V.int .u8 2)).cells.length = ksr4.length) then
 (zg6 ((((((h ++ [(HB.map [])])).set (h).length (HB.map (upd es0 (V.int .u8 1) (V.agg [(V.bool true), (V.int .i64 0)]) r1)))).set (h).length (HB.map (upd es3 (V.int .u8 2) (V.agg [(V.bool true), (V.int .i64 1)]) r4))))[(h).length]? fun es6 => (bd (kds prog 12 5) fun ksr7 => bd (QQ ksr7 (V.int .u8 3) es6 0) fun r7 => if (((V.int .u8 3)).one = !false /\ ((V.int .u8 3)).cells.length = ksr7.length) then
 (zg6 ((((((((h ++ [(HB.map [])])).set (h).length (HB.map (upd es0 (V.int .u8 1) (V.agg [(V.bool true), (V.int .i64 0)]) r1)))).set (h).length (HB.map (upd es3 (V.int .u8 2) (V.agg [(V.bool true), (V.int .i64 1)]) r4)))).set (h).length (HB.map (upd es6 (V.int .u8 3) (V.agg [(V.bool false), (V.int .i64 0)]) r7))))[(h).length]? fun es9 => (bd (kds prog 12 5) fun ksr10 => bd (QQ ksr10 (V.int .u8 4) es9 0) fun r10 => if (((V.int .u8 4)).one = !false /\ ((V.int .u8 4)).cells.length = ksr10.length) then
 some (Res.ret [(V.map (h).length)], (((((((((h ++ [(HB.map [])])).set (h).length (HB.map (upd es0 (V.int .u8 1) (V.agg [(V.bool true), (V.int .i64 0)]) r1)))).set (h).length (HB.map (upd es3 (V.int .u8 2) (V.agg [(V.bool true), (V.int .i64 1)]) r4)))).set (h).length (HB.map (upd es6 (V.int .u8 3) (V.agg [(V.bool false), (V.int .i64 0)]) r7)))).set (h).length (HB.map (upd es9 (V.int .u8 4) (V.agg [(V.bool false), (V.int .i64 1)]) r10)))) else none)) else none)) else none)) else none))
theorem zjH (n : Nat) (h : zd) : call (n + 1) 212 [] h = zkX n h := by kernel_rfl
noncomputable def zfQ (n : Nat) (s : Nat) (d : Int) (i : Int) (h : zd) : Option (Res × zd) :=
 (bd3 (zu h (V.ptr s 2)) fun cs1 m0 o2 => if (o2 + 1 <= m0 /\ 0 < 1) then
 (bd (cs1)[o2]? fun v3 =>
 (bd3 (zu h (V.ptr s 0)) fun cs5 m4 o6 => if (o6 + 1 <= m4 /\ 0 < 1) then
 (bd (cs5)[o6]? fun v7 =>
 (bd (ZW h v7) fun p8 =>
 (bd (bop prog .add 3 v3 (V.int .i64 ((p8.2).length : Int))) fun v9 =>
 (bd3 (zu h (V.ptr s 1)) fun cs11 m10 o12 => if (o12 + 1 <= m10 /\ 0 < 1) then
 (bd (cs11)[o12]? fun v13 =>
 (bd (ZW h v13) fun p14 =>
 (bd (bop prog .add 3 v9 (V.int .i64 ((p14.2).length : Int))) fun v15 =>
 (bd3 (zu h (V.ptr s 3)) fun cs17 m16 o18 => if (o18 + 1 <= m16 /\ 0 < 1) then
 (bd (cs17)[o18]? fun v19 =>
 (bd (bop prog .geq 3 v15 v19) fun v20 =>
 (bv v20 fun b21 => if b21 then
 some (Res.ret [(V.bool false)], h)
 else
 (bd (nv (V.int .i64 d)) fun n22 =>
 (if (n22 < 2) then
 (bd3 (zu h (V.ptr s ((0 + (n22 * 1)) + 0))) fun cs24 m23 o25 => if (o25 + 1 <= m23 /\ 0 < 1) then
 (bd (cs24)[o25]? fun v26 =>
 (bd2 (Wa 3 1 h [[(V.int .i64 i)]] v26) fun v27 h28 =>
 (bd (nv (V.int .i64 d)) fun n29 =>
 (if (n29 < 2) then
 (if ((V.cells v27)).length = 1 then
 (bd2 (Zs h28 (V.cells v27) (V.ptr s ((0 + (n29 * 1)) + 0))) fun b30 x31 =>
 some (Res.ret [(V.bool true)], ((h28).set b30 x31))) else none) else none)))) else none) else none))))) else none)))) else none)))) else none)) else none)
theorem zc7 (n : Nat) (s : Nat) (d : Int) (i : Int) (h : zd) : call (n + 1) 213 [(V.ptr s 0), (V.int .i64 d), (V.int .i64 i)] h = zfQ n s d i h := by kernel_rfl
noncomputable def zc8 (n : Nat) (s : Nat) (d : Int) (h : zd) : Option (Res × zd) :=
 (bd (nv (V.int .i64 d)) fun n0 =>
 (if (n0 < 2) then
 (bd (nv (V.int .i64 (IntKind.i64.wrap (1 - d)))) fun n1 =>
 (if (n1 < 2) then
 (bd3 (zu h (V.ptr s (((0 + (n0 * 1)) + 0) + 0))) fun cs3 m2 o4 => if (o4 + 1 <= m2 /\ 0 < 1) then
 (bd (cs3)[o4]? fun v5 =>
 (bd (ZW h v5) fun p6 =>
 (if (decide (((p6.2).length : Int) > 0)) then
 (cl (call n 215 [(V.ptr s (0 + (n0 * 1)))] h) (fun r7 h8 =>
 (ZI r7 fun v10 =>
 some (Res.ret [v10, (V.bool true)], h8))) (fun z9 h8 => some (Res.pan z9, h8)))
 else
 (bd3 (zu h (V.ptr s 2)) fun cs12 m11 o13 => if (o13 + 1 <= m11 /\ 0 < 1) then
 (bd (cs12)[o13]? fun v14 =>
 (bd (bop prog .gtr 3 v14 (V.int .i64 0)) fun v15 =>
 (bv v15 fun b16 => if b16 then
 (bd3 (zu h (V.ptr s 2)) fun cs18 m17 o19 => if (o19 + 1 <= m17 /\ 0 < 1) then
 (bd (cs18)[o19]? fun v20 =>
 (bd (bop prog .sub 3 v20 (V.int .i64 1)) fun v21 =>
 (if ((V.cells v21)).length = 1 then
 (bd2 (Zs h (V.cells v21) (V.ptr s 2)) fun b22 x23 =>
 some (Res.ret [(V.int .i64 (-1)), (V.bool true)], ((h).set b22 x23))) else none))) else none)
 else
 (bd3 (zu h (V.ptr s (((0 + (n1 * 1)) + 0) + 0))) fun cs25 m24 o26 => if (o26 + 1 <= m24 /\ 0 < 1) then
 (bd (cs25)[o26]? fun v27 =>
 (bd (ZW h v27) fun p28 =>
 (if (decide (((p28.2).length : Int) > 0)) then
 (cl (call n 216 [(V.ptr s (0 + (n1 * 1)))] h) (fun r29 h30 =>
 (ZI r29 fun v32 =>
 some (Res.ret [v32, (V.bool true)], h30))) (fun z31 h30 => some (Res.pan z31, h30)))
 else
 some (Res.ret [(V.int .i64 0), (V.bool false)], h)))) else none)))) else none)))) else none) else none)) else none))
theorem jA (n : Nat) (s : Nat) (d : Int) (h : zd) : call (n + 1) 214 [(V.ptr s 0), (V.int .i64 d)] h = zc8 n s d h := by kernel_rfl
noncomputable def zhB (n : Nat) (x0 : V) (h : zd) : Option (Res × zd) :=
 (bd (ZU 0 x0) fun p0 =>
 (bd (ZU 0 p0) fun p1 =>
 (bd3 (zu h p1) fun cs3 m2 o4 => if (o4 + 1 <= m2 /\ 0 < 1) then
 (bd (cs3)[o4]? fun v5 =>
 (bd (ZU 0 x0) fun p6 =>
 (bd (ZU 0 p6) fun p7 =>
 (bd3 (zu h p7) fun cs9 m8 o10 => if (o10 + 1 <= m8 /\ 0 < 1) then
 (bd (cs9)[o10]? fun v11 =>
 (bd (ZW h v11) fun p12 =>
 (bdS (nv (V.int .i64 (IntKind.i64.wrap (((p12.2).length : Int) - 1)))) fun n13 =>
 (bd (ZK 1 n13 v5) fun p14 =>
 (bd3 (zu h (zmX v5 p14)) fun cs16 m15 o17 => if (o17 + 1 <= m15 /\ 0 < 1) then
 (bd (cs16)[o17]? fun v18 =>
 (bd (ZU 0 x0) fun p19 =>
 (bd (ZU 0 p19) fun p20 =>
 (bd3 (zu h p20) fun cs22 m21 o23 => if (o23 + 1 <= m21 /\ 0 < 1) then
 (bd (cs22)[o23]? fun v24 =>
 (bd (ZU 0 x0) fun p25 =>
 (bd (ZU 0 p25) fun p26 =>
 (bd3 (zu h p26) fun cs28 m27 o29 => if (o29 + 1 <= m27 /\ 0 < 1) then
 (bd (cs28)[o29]? fun v30 =>
 (bd (ZW h v30) fun p31 =>
 (bd (QC v24) fun n32 =>
 (bdS (nv (V.int .i64 (IntKind.i64.wrap (((p31.2).length : Int) - 1)))) fun n33 =>
 (bd (ZP 1 0 n33 (none : Option Nat) true v24) fun v34 =>
 (bd (ZU 0 x0) fun p35 =>
 (bd (ZU 0 p35) fun p36 =>
 (if ((V.cells v34)).length = 1 then
 (bd2 (Zs h (V.cells v34) p36) fun b37 x38 =>
 some (Res.ret [v18], ((h).set b37 x38))) else none)))))))) else none)))) else none)))) else none))))) else none)))) else none)))
theorem zhC (n : Nat) (x0 : V) (h : zd) : call (n + 1) 215 [x0] h = zhB n x0 h := by kernel_rfl
noncomputable def zhD (n : Nat) (x0 : V) (h : zd) : Option (Res × zd) :=
 (bd (ZU 0 x0) fun p0 =>
 (bd (ZU 0 p0) fun p1 =>
 (bd3 (zu h p1) fun cs3 m2 o4 => if (o4 + 1 <= m2 /\ 0 < 1) then
 (bd (cs3)[o4]? fun v5 =>
 (bd (ZK 1 0 v5) fun p6 =>
 (bd3 (zu h p6) fun cs8 m7 o9 => if (o9 + 1 <= m7 /\ 0 < 1) then
 (bd (cs8)[o9]? fun v10 =>
 (bd (ZU 0 x0) fun p11 =>
 (bd (ZU 0 p11) fun p12 =>
 (bd3 (zu h p12) fun cs14 m13 o15 => if (o15 + 1 <= m13 /\ 0 < 1) then
 (bd (cs14)[o15]? fun v16 =>
 (bd (QC v16) fun n17 =>
 (bd (ZP 1 1 n17 (none : Option Nat) true v16) fun v18 =>
 (bd (ZU 0 x0) fun p19 =>
 (bd (ZU 0 p19) fun p20 =>
 (if ((V.cells v18)).length = 1 then
 (bd2 (Zs h (V.cells v18) p20) fun b21 x22 =>
 some (Res.ret [v10], ((h).set b21 x22))) else none)))))) else none)))) else none))) else none)))
theorem zhE (n : Nat) (x0 : V) (h : zd) : call (n + 1) 216 [x0] h = zhD n x0 h := by kernel_rfl
noncomputable def znY (n : Nat) (i : Int) (j : Int) (q : Nat) (r : Nat) (l : Nat) (os : List (List V)) (osb : Bool) (h : zd) : Option (Res × zd) :=
 (if (decide (j < 0)) then
 (clH (call n 203 [(V.ptr q 0)] h) fun r0 h1 =>
 (bd (r0)[0]? fun v3 =>
 (bd (r0)[1]? fun v4 =>
 (bdS (nv (V.int .i64 i)) fun n5 =>
 (bd (ZK 1 n5 (V.row r 1 0 l)) fun p6 =>
 (if ((V.cells v3)).length = 1 then
 (bd2 (Zs h1 (V.cells v3) (V.rptr r 1 (ixP p6) 0)) fun b7 x8 =>
 some (Res.ret [], ((h1).set b7 x8))) else none))))))
 else
 (bdS (nv (V.int .i64 j)) fun n9 =>
 (bd (ZK 2 n9 (V.sl 2 os osb)) fun p10 =>
 (bd (ZU 1 p10) fun p11 =>
 (bd3 (zu h p11) fun cs13 m12 o14 => if (o14 + 1 <= m12 /\ 0 < 1) then
 (bd (cs13)[o14]? fun v15 =>
 (bdS (nv (V.int .i64 i)) fun n16 =>
 (bd (ZK 1 n16 (V.row r 1 0 l)) fun p17 =>
 (if ((V.cells v15)).length = 1 then
 (bd2 (Zs h (V.cells v15) p17) fun b18 x19 =>
 some (Res.ret [], ((h).set b18 x19))) else none)))) else none)))))
theorem zhF (n : Nat) (i : Int) (j : Int) (q : Nat) (r : Nat) (l : Nat) (os : List (List V)) (osb : Bool) (h : zd) : call (n + 1) 208 [(V.int .i64 i), (V.int .i64 0), (V.int .i64 j), (V.iptr 2 [(V.bf 203 [(V.ptr q 0)]), (V.bf 204 [(V.ptr q 0)])] 0), (V.iptr 1 [(V.row r 1 0 l)] 0), (V.iptr 1 [(V.sl 2 os osb)] 0)] h = znY n i j q r l os osb h := by kernel_rfl
noncomputable def znZ (n : Nat) (i : Int) (j : Int) (q : Nat) (r : Nat) (l : Nat) (os : List (List V)) (osb : Bool) (h : zd) : Option (Res × zd) :=
 (if (decide (j < 0)) then
 (clH (call n 204 [(V.ptr q 0)] h) fun r0 h1 =>
 (bd (r0)[0]? fun v3 =>
 (bd (r0)[1]? fun v4 =>
 (bdS (nv (V.int .i64 i)) fun n5 =>
 (bd (ZK 1 n5 (V.row r 1 0 l)) fun p6 =>
 (if ((V.cells v3)).length = 1 then
 (bd2 (Zs h1 (V.cells v3) (V.rptr r 1 (ixP p6) 0)) fun b7 x8 =>
 some (Res.ret [], ((h1).set b7 x8))) else none))))))
 else
 (bdS (nv (V.int .i64 j)) fun n9 =>
 (bd (ZK 2 n9 (V.sl 2 os osb)) fun p10 =>
 (bd (ZU 1 p10) fun p11 =>
 (bd3 (zu h p11) fun cs13 m12 o14 => if (o14 + 1 <= m12 /\ 0 < 1) then
 (bd (cs13)[o14]? fun v15 =>
 (bdS (nv (V.int .i64 i)) fun n16 =>
 (bd (ZK 1 n16 (V.row r 1 0 l)) fun p17 =>
 (if ((V.cells v15)).length = 1 then
 (bd2 (Zs h (V.cells v15) p17) fun b18 x19 =>
 some (Res.ret [], ((h).set b18 x19))) else none)))) else none)))))
theorem zhG (n : Nat) (i : Int) (j : Int) (q : Nat) (r : Nat) (l : Nat) (os : List (List V)) (osb : Bool) (h : zd) : call (n + 1) 208 [(V.int .i64 i), (V.int .i64 1), (V.int .i64 j), (V.iptr 2 [(V.bf 203 [(V.ptr q 0)]), (V.bf 204 [(V.ptr q 0)])] 0), (V.iptr 1 [(V.row r 1 0 l)] 0), (V.iptr 1 [(V.sl 2 os osb)] 0)] h = znZ n i j q r l os osb h := by kernel_rfl
noncomputable def QU (n : Nat) (s : Nat) (os : List (List V)) (osb : Bool) (q : Nat) (r : Nat) (l : Nat) (v5 : V) (st7 : List V) (hh8 : zd) (next9 : List V -> zd -> Option (Res × zd)) : Option (Res × zd) :=
 (bd (bop prog .lss 3 (gv st7 3) (V.int .i64 ((os).length : Int))) fun v10 =>
 (bv v10 fun b11 => if b11 then
 (bdS (nv (gv st7 3)) fun n12 =>
 (bd (ZK 2 n12 (V.sl 2 os osb)) fun p13 =>
 (bd3 (zu hh8 p13) fun cs15 m14 o16 => if (o16 + 2 <= m14 /\ 0 < 2) then
 (if (((cs15).drop o16 |>.take 2)).length = 2 then
 (if ((((cs15).drop o16 |>.take 2)).length <= 2) then
 (bd ((setR [(V.int .u8 0), (V.int .i32 0)] 0 ((cs15).drop o16 |>.take 2)))[0]? fun v17 =>
 (bdS (YD hh8 v5) fun es18 =>
 (bd (kds prog 12 5) fun ksr19 => bdS (QQ ksr19 v17 es18 0) fun r19 => bd (Wy es18 (V.agg [(V.bool false), (V.int .i64 0)]) r19) fun v20 => if ((v17).one = !false /\ (v17).cells.length = ksr19.length /\ true = true) then
 (if ((V.cells v20)).length = 2 then
 (if (((V.cells v20)).length <= 2) then
 (if (!r19.isSome) then
 (bdS (nv (gv st7 3)) fun n21 =>
 (if (2 = 2 /\ n21 < ((lsl (gv st7 1))).length /\ (some 60 : Option Nat) ≠ some 7) then
 (bd ((lsl (gv st7 1)))[n21]? fun es22 =>
 (bd (bop prog .add 3 (gv st7 3) (V.int .i64 1)) fun v23 =>
 (next9 [(V.sl 2 (lsl (gv st7 0)) false), (V.sl 2 (((lsl (gv st7 1))).set n21 (setR es22 0 [(V.int .u8 5)])) false), (V.bool false), v23] hh8))) else none))
 else
 (bd ((setR [(V.bool false), (V.int .i64 0)] 0 (V.cells v20)))[0]? fun v24 =>
 (bv v24 fun b25 => if b25 then
 (bd ((setR [(V.bool false), (V.int .i64 0)] 0 (V.cells v20)))[1]? fun v26 =>
 (cl (call n 213 [(V.ptr s 0), v26, (gv st7 3)] hh8) (fun r27 h28 =>
 (ZI r27 fun v30 =>
 (bv v30 fun b31 => if b31 then
 (bdS (nv (gv st7 3)) fun n32 =>
 (if (2 = 2 /\ n32 < ((lsl (gv st7 1))).length /\ (some 74 : Option Nat) ≠ some 7) then
 (bd ((lsl (gv st7 1)))[n32]? fun es33 =>
 (bd (bop prog .add 3 (gv st7 3) (V.int .i64 1)) fun v34 =>
 (next9 [(V.sl 2 (lsl (gv st7 0)) false), (V.sl 2 (((lsl (gv st7 1))).set n32 (setR es33 0 [(V.int .u8 1)])) false), (V.bool false), v34] h28))) else none))
 else
 (bd ((setR [(V.bool false), (V.int .i64 0)] 0 (V.cells v20)))[0]? fun v35 =>
 (bv v35 fun b36 => if b36 then
 (bdS (nv (gv st7 3)) fun n37 =>
 (if (2 = 2 /\ n37 < ((lsl (gv st7 1))).length /\ (some 81 : Option Nat) ≠ some 7) then
 (bd ((lsl (gv st7 1)))[n37]? fun es38 =>
 (bd (bop prog .add 3 (gv st7 3) (V.int .i64 1)) fun v39 =>
 (next9 [(V.sl 2 (lsl (gv st7 0)) false), (V.sl 2 (((lsl (gv st7 1))).set n37 (setR es38 0 [(V.int .u8 3)])) false), (V.bool false), v39] h28))) else none))
 else
 (bdS (nv (gv st7 3)) fun n40 =>
 (if (2 = 2 /\ n40 < ((lsl (gv st7 1))).length /\ (some 35 : Option Nat) ≠ some 7) then
 (bd ((lsl (gv st7 1)))[n40]? fun es41 =>
 (bd ((setR [(V.bool false), (V.int .i64 0)] 0 (V.cells v20)))[1]? fun v42 =>
 (cl (call n 214 [(V.ptr s 0), v42] h28) (fun r43 h44 =>
 (bd (r43)[0]? fun v46 =>
 (bd (r43)[1]? fun v47 =>
 (bv v47 fun b48 => if b48 then
 (bdS (nv (gv st7 3)) fun n49 =>
 (if (2 = 2 /\ n49 < ((((lsl (gv st7 1))).set n40 (setR es41 0 [(V.int .u8 4)]))).length /\ (some 47 : Option Nat) ≠ some 7) then
 (bd ((((lsl (gv st7 1))).set n40 (setR es41 0 [(V.int .u8 4)])))[n49]? fun es50 =>
 (bd ((setR [(V.bool false), (V.int .i64 0)] 0 (V.cells v20)))[1]? fun v51 =>
 (cl (call n 208 [(gv st7 3), v51, v46, (V.iptr 2 [(V.bf 203 [(V.ptr q 0)]), (V.bf 204 [(V.ptr q 0)])] 0), (V.iptr 1 [(V.row r 1 0 l)] 0), (V.iptr 1 [(V.sl 2 os osb)] 0)] h44) (fun r52 h53 =>
 (bd (bop prog .add 3 (gv st7 3) (V.int .i64 1)) fun v55 =>
 (next9 [(V.sl 2 (lsl (gv st7 0)) false), (V.sl 2 (((((lsl (gv st7 1))).set n40 (setR es41 0 [(V.int .u8 4)]))).set n49 (setR es50 0 [(V.int .u8 2)])) false), (V.bool false), v55] h53))) (fun z54 h53 => some (Res.pan z54, h53))))) else none))
 else
 (bd (bop prog .add 3 (gv st7 3) (V.int .i64 1)) fun v56 =>
 (next9 [(V.sl 2 (lsl (gv st7 0)) false), (V.sl 2 (((lsl (gv st7 1))).set n40 (setR es41 0 [(V.int .u8 4)])) false), (V.bool false), v56] h44)))))) (fun z45 h44 => some (Res.pan z45, h44))))) else none))))))) (fun z29 h28 => some (Res.pan z29, h28))))
 else
 (bd ((setR [(V.bool false), (V.int .i64 0)] 0 (V.cells v20)))[0]? fun v57 =>
 (bv v57 fun b58 => if b58 then
 (bdS (nv (gv st7 3)) fun n59 =>
 (if (2 = 2 /\ n59 < ((lsl (gv st7 1))).length /\ (some 81 : Option Nat) ≠ some 7) then
 (bd ((lsl (gv st7 1)))[n59]? fun es60 =>
 (bd (bop prog .add 3 (gv st7 3) (V.int .i64 1)) fun v61 =>
 (next9 [(V.sl 2 (lsl (gv st7 0)) false), (V.sl 2 (((lsl (gv st7 1))).set n59 (setR es60 0 [(V.int .u8 3)])) false), (V.bool false), v61] hh8))) else none))
 else
 (bdS (nv (gv st7 3)) fun n62 =>
 (if (2 = 2 /\ n62 < ((lsl (gv st7 1))).length /\ (some 35 : Option Nat) ≠ some 7) then
 (bd ((lsl (gv st7 1)))[n62]? fun es63 =>
 (bd ((setR [(V.bool false), (V.int .i64 0)] 0 (V.cells v20)))[1]? fun v64 =>
 (cl (call n 214 [(V.ptr s 0), v64] hh8) (fun r65 h66 =>
 (bd (r65)[0]? fun v68 =>
 (bd (r65)[1]? fun v69 =>
 (bv v69 fun b70 => if b70 then
 (bdS (nv (gv st7 3)) fun n71 =>
 (if (2 = 2 /\ n71 < ((((lsl (gv st7 1))).set n62 (setR es63 0 [(V.int .u8 4)]))).length /\ (some 47 : Option Nat) ≠ some 7) then
 (bd ((((lsl (gv st7 1))).set n62 (setR es63 0 [(V.int .u8 4)])))[n71]? fun es72 =>
 (bd ((setR [(V.bool false), (V.int .i64 0)] 0 (V.cells v20)))[1]? fun v73 =>
 (cl (call n 208 [(gv st7 3), v73, v68, (V.iptr 2 [(V.bf 203 [(V.ptr q 0)]), (V.bf 204 [(V.ptr q 0)])] 0), (V.iptr 1 [(V.row r 1 0 l)] 0), (V.iptr 1 [(V.sl 2 os osb)] 0)] h66) (fun r74 h75 =>
 (bd (bop prog .add 3 (gv st7 3) (V.int .i64 1)) fun v77 =>
 (next9 [(V.sl 2 (lsl (gv st7 0)) false), (V.sl 2 (((((lsl (gv st7 1))).set n62 (setR es63 0 [(V.int .u8 4)]))).set n71 (setR es72 0 [(V.int .u8 2)])) false), (V.bool false), v77] h75))) (fun z76 h75 => some (Res.pan z76, h75))))) else none))
 else
 (bd (bop prog .add 3 (gv st7 3) (V.int .i64 1)) fun v78 =>
 (next9 [(V.sl 2 (lsl (gv st7 0)) false), (V.sl 2 (((lsl (gv st7 1))).set n62 (setR es63 0 [(V.int .u8 4)])) false), (V.bool false), v78] h66)))))) (fun z67 h66 => some (Res.pan z67, h66))))) else none))))))) else none) else none) else none))) else none) else none) else none)))
 else
 some (Res.ret [(V.row (hh8).length 2 0 ((lsl (gv st7 1))).length)], (hh8 ++ [(HB.row 35 2 (lsl (gv st7 1)) true)]))))
noncomputable def zn0 (n : Nat) (s : Nat) (os : List (List V)) (osb : Bool) (q : Nat) (r : Nat) (l : Nat) (h : zd) : Option (Res × zd) :=
 (bdS (nv (V.int .i64 ((os).length : Int))) fun n0 =>
 (bdS (nv (V.int .i64 ((os).length : Int))) fun n1 =>
 (if (n0 <= n1 /\ n1 < lim /\ 2 = 2) then
 (cl (call n 212 [] h) (fun r2 h3 =>
 (ZI r2 fun v5 =>
 (zV n (QU n s os osb q r l v5) [(V.sl 2 [] false), (V.sl 2 (List.replicate n0 [(V.int .u8 0), (V.int .i32 0)]) false), (V.bool false), (V.int .i64 0)] h3))) (fun z4 h3 => some (Res.pan z4, h3))) else none)))
theorem zmf (n : Nat) (s : Nat) (os : List (List V)) (osb : Bool) (q : Nat) (r : Nat) (l : Nat) (h : zd) : call (n + 1) 207 [(V.ptr s 0), (V.sl 2 os osb), (V.fn 208 [(V.iptr 2 [(V.bf 203 [(V.ptr q 0)]), (V.bf 204 [(V.ptr q 0)])] 0), (V.iptr 1 [(V.row r 1 0 l)] 0), (V.iptr 1 [(V.sl 2 os osb)] 0)])] h = zn0 n s os osb q r l h := by kernel_rfl
noncomputable def Jn (n : Nat) (os : List (List V)) (osb : Bool) (st19 : List V) (next21 : List V -> zd -> Option (Res × zd)) (v25 : V) (p26 : Nat × List (List V)) (st28 : List V) (hh29 : zd) (next30 : List V -> zd -> Option (Res × zd)) : Option (Res × zd) :=
 (bd (bop prog .lss 3 (gv st28 3) (V.int .i64 ((p26.2).length : Int))) fun v31 =>
 (bv v31 fun b32 => if b32 then
 (bdS (nv (gv st28 3)) fun n33 =>
 (bd (ZK 1 n33 v25) fun p34 =>
 (bd3 (zu hh29 p34) fun cs36 m35 o37 => if (o37 + 1 <= m35 /\ 0 < 1) then
 (bd (cs36)[o37]? fun v38 =>
 (bd (nv (gv st19 2)) fun n39 =>
 (if (n39 < 2) then
 (if ((n39 * 1) + 1 <= 2 /\ 0 < 1) then
 (bd ((lcs (gv st28 1)))[(n39 * 1)]? fun v40 =>
 (bdS (nv v38) fun n41 =>
 (bd (ZK 2 n41 (V.sl 2 os osb)) fun p42 =>
 (bd (ZU 1 p42) fun p43 =>
 (bd3 (zu hh29 p43) fun cs45 m44 o46 => if (o46 + 1 <= m44 /\ 0 < 1) then
 (bd (cs45)[o46]? fun v47 =>
 (zrj v40 (fun f48 c49 => if (okV prog 4 f48 = true) then (if QD f48 then
 (cl (call n f48 ([v47] ++ c49) hh29) (fun r50 h51 =>
 (ZI r50 fun v53 =>
 (bd (bop prog .add 3 (gv st28 3) (V.int .i64 1)) fun v54 =>
 (next30 [(V.sl 2 (lsl (gv st28 0)) false), (V.agg (lcs (gv st28 1))), (V.agg (lcs (gv st28 2))), v54] h51)))) (fun z52 h51 => none))
 else if WG f48 then
 (bd (jV [(YC hh29 v47)]) fun a55 => cl (call n f48 (a55 ++ c49) hh29) (fun r50 h51 => if V.simple.simpleL r50 then
 (ZI r50 fun v56 =>
 (bd (bop prog .add 3 (gv st28 3) (V.int .i64 1)) fun v57 =>
 (next30 [(V.sl 2 (lsl (gv st28 0)) false), (V.agg (lcs (gv st28 1))), (V.agg (lcs (gv st28 2))), v57] h51))) else none) (fun z52 h51 => if z52.simple then none else none))
 else none) else none) (fun f58 c59 => if (QD f58 = true /\ okV prog 4 f58 = true) then
 (cl (call n f58 (c59 ++ [v47]) hh29) (fun r60 h61 =>
 (ZI r60 fun v63 =>
 (bd (bop prog .add 3 (gv st28 3) (V.int .i64 1)) fun v64 =>
 (next30 [(V.sl 2 (lsl (gv st28 0)) false), (V.agg (lcs (gv st28 1))), (V.agg (lcs (gv st28 2))), v64] h61)))) (fun z62 h61 => none)) else none) (fun t67 s68 => if (zca prog t67 = false /\ (prog.underlying t67).isSome = true) then bd2 (Jc prog t67 v47 s68) fun f65 w66 => if (QD f65 = true /\ okV prog 4 f65 = true) then
 (cl (call n f65 ([w66] ++ []) hh29) (fun r69 h70 =>
 (ZI r69 fun v72 =>
 (bd (bop prog .add 3 (gv st28 3) (V.int .i64 1)) fun v73 =>
 (next30 [(V.sl 2 (lsl (gv st28 0)) false), (V.agg (lcs (gv st28 1))), (V.agg (lcs (gv st28 2))), v73] h70)))) (fun z71 h70 => none)) else none else none))) else none))))) else none) else none))) else none)))
 else
 (bd (bop prog .add 3 (gv st19 2) (V.int .i64 1)) fun v74 =>
 (next21 [(V.sl 2 (lsl (gv st28 0)) false), (V.agg (lcs (gv st28 1))), v74] hh29))))
noncomputable def J4 (n : Nat) (h5 : zd) (n9 : Nat) (v14 : V) (p75 : Nat × List (List V)) (st77 : List V) (hh78 : zd) (next79 : List V -> zd -> Option (Res × zd)) : Option (Res × zd) :=
 (bd (bop prog .lss 3 (gv st77 2) (V.int .i64 ((p75.2).length : Int))) fun v80 =>
 (bv v80 fun b81 => if b81 then
 (bdS (nv (gv st77 2)) fun n82 =>
 (bd (ZK 1 n82 (V.row (h5).length 1 0 ((List.replicate n9 [(V.int .i32 0)])).length)) fun p83 =>
 (bd3 (zu hh78 p83) fun cs85 m84 o86 => if (o86 + 1 <= m84 /\ 0 < 1) then
 (bd (cs85)[o86]? fun v87 =>
 (bdS (nv (gv st77 2)) fun n88 =>
 (bd (ZK 2 n88 v14) fun p89 =>
 (bd (ZU 1 p89) fun p90 =>
 (if ((V.cells v87)).length = 1 then
 (bd2 (Zs hh78 (V.cells v87) p90) fun b91 x92 =>
 (bd (bop prog .add 3 (gv st77 2) (V.int .i64 1)) fun v93 =>
 (next79 [(V.sl 2 (lsl (gv st77 0)) false), (V.agg (lcs (gv st77 1))), v93] ((hh78).set b91 x92)))) else none))))) else none)))
 else
 some (Res.ret [v14], hh78)))
noncomputable def Q6 (n : Nat) (os : List (List V)) (osb : Bool) (h5 : zd) (n9 : Nat) (v14 : V) (cs16 : List V) (o17 : Nat) (st19 : List V) (hh20 : zd) (next21 : List V -> zd -> Option (Res × zd)) : Option (Res × zd) :=
 (bd (bop prog .lss 3 (gv st19 2) (V.int .i64 2)) fun v22 =>
 (bv v22 fun b23 => if b23 then
 (bdS (nv (gv st19 2)) fun n24 =>
 (if (n24 < 2 /\ (n24 * 1) + 1 <= (((cs16).drop o17 |>.take 2)).length) then
 (if (((((cs16).drop o17 |>.take 2)).drop (n24 * 1) |>.take 1)).length = 1 then
 (if ((((((cs16).drop o17 |>.take 2)).drop (n24 * 1) |>.take 1)).length <= 1) then
 (bd ((setR [(V.sl 0 [] true)] 0 ((((cs16).drop o17 |>.take 2)).drop (n24 * 1) |>.take 1)))[0]? fun v25 =>
 (bd (ZW hh20 v25) fun p26 =>
 (zV n (Jn n os osb st19 next21 v25 p26) [(V.sl 2 (lsl (gv st19 0)) false), (V.agg (lcs (gv st19 1))), (V.agg (setR [(V.sl 0 [] true)] 0 ((((cs16).drop o17 |>.take 2)).drop (n24 * 1) |>.take 1))), (V.int .i64 0)] hh20))) else none) else none) else none))
 else
 (bd (ZW hh20 (V.row (h5).length 1 0 ((List.replicate n9 [(V.int .i32 0)])).length)) fun p75 =>
 (zV n (J4 n h5 n9 v14 p75) [(V.sl 2 (lsl (gv st19 0)) false), (V.agg (lcs (gv st19 1))), (V.int .i64 0)] hh20))))
noncomputable def zhH (n : Nat) (s : Nat) (os : List (List V)) (osb : Bool) (h : zd) : Option (Res × zd) :=
 (cl (call n 192 [(V.ptr s 0)] h) (fun r0 h1 =>
 (ZI r0 fun v3 =>
 (cl (call n 202 [(V.ptr s 0)] h1) (fun r4 h5 =>
 (ZI r4 fun v7 =>
 (bd (Q4 prog 274 [(1, v3), (2, v7)]) fun cs8 =>
 (if (cs8).length = 4 then
 (bdS (nv (V.int .i64 ((os).length : Int))) fun n9 =>
 (bdS (nv (V.int .i64 ((os).length : Int))) fun n10 =>
 (if (n9 <= n10 /\ n10 < lim /\ 1 = 1) then
 (cl (call n 207 [(V.ptr ((h5 ++ [(HB.row 21 1 (List.replicate n9 [(V.int .i32 0)]) true)])).length 0), (V.sl 2 os osb), (V.fn 208 [(V.iptr 2 [(V.bf 203 [(V.ptr s 0)]), (V.bf 204 [(V.ptr s 0)])] 0), (V.iptr 1 [(V.row (h5).length 1 0 ((List.replicate n9 [(V.int .i32 0)])).length)] 0), (V.iptr 1 [(V.sl 2 os osb)] 0)])] ((h5 ++ [(HB.row 21 1 (List.replicate n9 [(V.int .i32 0)]) true)]) ++ [(HB.box 4 cs8)])) (fun r11 h12 =>
 (ZI r11 fun v14 =>
 (bd3 (zu h12 (V.ptr ((h5 ++ [(HB.row 21 1 (List.replicate n9 [(V.int .i32 0)]) true)])).length 0)) fun cs16 m15 o17 => if (o17 + 2 <= m15 /\ 0 < 2) then
 (zV n (Q6 n os osb h5 n9 v14 cs16 o17) [(V.sl 2 [] false), (V.agg [(V.bf 205 [(V.ptr s 0)]), (V.bf 206 [(V.ptr s 0)])]), (V.int .i64 0)] h12) else none))) (fun z13 h12 => some (Res.pan z13, h12))) else none))) else none)))) (fun z6 h5 => some (Res.pan z6, h5))))) (fun z2 h1 => some (Res.pan z2, h1)))
theorem zhI (n : Nat) (s : Nat) (os : List (List V)) (osb : Bool) (h : zd) : call (n + 1) 199 [(V.ptr s 0), (V.sl 2 os osb)] h = zhH n s os osb h := by kernel_rfl
end Go.Proofs.Tryz
namespace Go.Sk
open Go.L Go.Rp
def JW {α : Type} (d : Nat) (x : α) (v : Nat -> α) : Nat -> α := fun j => if j = d then x else v j
theorem Jo {α : Type} (d : Nat) (x : α) (v : Nat -> α) : JW d x v d = x := if_pos rfl
theorem WT {α : Type} {d e : Nat} (x : α) (v : Nat -> α) (h : e ≠ d) : JW d x v e = v e := if_neg h
end Go.Sk
namespace Go.Proofs.Tryz
open Go.L Go.Rp Go.Sk
set_option maxRecDepth 100000
def SideV (h : zd) (v : V) (ob : Option Nat) (ws : List Nat) : Prop := match ob with
 | none => v = .sl 0 [] true /\ ws = []
 | some b => ∃ lo l z, v = .row b 1 lo (lo + ws.length) /\ h[b]? = some (.row 3 1 l z) /\ lo + ws.length <= l.length /\ (l.take (lo + ws.length)).drop lo = ws.map JV
theorem SideV.keep {h h' : zd} {v : V} {ob : Option Nat} {ws : List Nat} (hv : SideV h v ob ws) (hk : ∀ b, ob = some b -> h'[b]? = h[b]?) : SideV h' v ob ws := by
 cases ob with
 | none => exact hv
 | some b =>
   obtain ⟨lo, l, z, h1, h2, h3⟩ := hv
   exact ⟨lo, l, z, h1, (hk b rfl).trans h2, h3⟩
theorem SideV.lt {h : zd} {v : V} {b : Nat} {ws : List Nat} (hv : SideV h v (some b) ws) : b < h.length := by
 obtain ⟨lo, l, z, h1, h2, h3⟩ := hv
 exact zS h2
theorem SideV.slc {h : zd} {v : V} {ob : Option Nat} {ws : List Nat} (hv : SideV h v ob ws) : ∃ sz, ZW h v = some (sz, ws.map JV) := by
 cases ob with
 | none =>
   obtain ⟨rfl, rfl⟩ := hv
   exact ⟨0, Xb ..⟩
 | some b =>
   obtain ⟨lo, l, z, rfl, h2, h3, h4⟩ := hv
   exact ⟨1, by rw [Qw h2 (Nat.le_add_right _ _) h3, h4]⟩
theorem SideV.one {h : zd} {v : V} {ob : Option Nat} {ws : List Nat} (hv : SideV h v ob ws) : V.cells v = [v] := by
 cases ob with
 | none =>
   obtain ⟨rfl, rfl⟩ := hv
   rfl
 | some b =>
   obtain ⟨lo, l, z, rfl, h2, h3, h4⟩ := hv
   rfl
theorem SideV.app {h : zd} {v : V} {ob : Option Nat} {ws : List Nat} (hv : SideV h v ob ws) (i : Nat) (hl : ws.length + 1 < lim) : ∃ v' h', Wa 3 1 h [[.int .i64 (i : Int)]] v = some (v', h') /\ SideV h' v' (some h.length) (ws ++ [i]) /\ h'.length = h.length + 1 /\ ∀ j, j < h.length -> ob ≠ some j -> h'[j]? = h[j]? := by
 cases ob with
 | none =>
   obtain ⟨rfl, rfl⟩ := hv
   exact ⟨.row h.length 1 0 1, h ++ [.row 3 1 [[.int .i64 (i : Int)]] true], rfl, ⟨0, _, _, rfl, zJ, by simp, by simp [JV]⟩, by simp, fun j h1 h2 => zl h1⟩
 | some b =>
   obtain ⟨lo, l, z, rfl, h2, h3, h4⟩ := hv
   have hbl := zS h2
   have Wb : Wa 3 1 h [[.int .i64 (i : Int)]] (.row b 1 lo (lo + ws.length)) = some (.row h.length 1 0 (ws.length + 1), h.set b .dead ++ [.row 3 1 (ws.map JV ++ [[.int .i64 (i : Int)]]) (z && lo == 0)]) := by
    simp only [Wa, h2]
    rw [if_pos (by refine ⟨⟨?_, ?_, ?_⟩, ⟨by omega, h3⟩, by simp; omega⟩ <;> first | trivial | rfl), h4]
    simp
   refine ⟨_, _, Wb, ⟨0, ws.map JV ++ [[.int .i64 (i : Int)]], (z && lo == 0), by simp, ?_, by simp, ?_⟩, by simp, fun j h1 h2 => ?_⟩
   · rw [zG (by simp)]; simp
   · simp [JV, zO]
   · rw [zl (by simpa using h1), ze (fun e => h2 (by rw [e]))]
theorem SideV.outer {h : zd} {v : V} {ob : Option Nat} {w0 : List Nat} {w : Nat} (hv : SideV h v ob (w0 ++ [w])) : ∃ p cs m o v', ZK 1 w0.length v = some p /\ zmX v p = p /\ zu h p = some (cs, m, o) /\ (o + 1 <= m /\ 0 < 1) /\ cs[o]? = some (.int .i64 (w : Int)) /\ QC v = some (w0.length + 1) /\ ZP 1 0 w0.length none true v = some v' /\ SideV h v' ob w0 := by
 cases ob with
 | none => exact absurd hv.2 (by simp)
 | some b =>
   obtain ⟨lo, l, z, rfl, h2, h3, h4⟩ := hv
   rw [zB, ZA] at h3 h4 ⊢
   have hx : l[lo + w0.length]? = some [.int .i64 (w : Int)] := by
    have := congrArg (fun t : List (List V) => t[w0.length]?) h4
    simpa [JV, Za] using this
   have hr : (l.take (lo + w0.length)).drop lo = w0.map JV := by
    have := congrArg (List.take w0.length) h4
    rw [List.take_drop, List.take_take, X2 (by omega)] at this
    rw [this, ZG, XH (by simp), zO (by simp)]
   exact ⟨_, _, _, _, _, XL (by omega), rfl, Xz h2 (by decide) hx, by decide, rfl, by rw [W8]; congr 1; omega, JG (Zg _) (by omega) true, ⟨lo, l, z, rfl, h2, by omega, hr⟩⟩
theorem SideV.inner {h : zd} {v : V} {ob : Option Nat} {w0 : List Nat} {w : Nat} (hv : SideV h v ob (w :: w0)) : ∃ p cs m o v', ZK 1 0 v = some p /\ zu h p = some (cs, m, o) /\ (o + 1 <= m /\ 0 < 1) /\ cs[o]? = some (.int .i64 (w : Int)) /\ QC v = some (w0.length + 1) /\ ZP 1 1 (w0.length + 1) none true v = some v' /\ SideV h v' ob w0 := by
 cases ob with
 | none => exact absurd hv.2 (by simp)
 | some b =>
   obtain ⟨lo, l, z, rfl, h2, h3, h4⟩ := hv
   rw [zA] at h3 h4 ⊢
   have hx : l[lo]? = some [.int .i64 (w : Int)] := by
    have := congrArg (fun t : List (List V) => t[0]?) h4
    simpa [JV, Za] using this
   have hr : (l.take (lo + (w0.length + 1))).drop (lo + 1) = w0.map JV := by
    have := congrArg (List.drop 1) h4
    rw [List.drop_drop] at this
    rw [this]; rfl
   exact ⟨_, _, _, _, _, XL (by omega), Xz h2 (by decide) (by rw [Zb]; exact hx), by decide, rfl, by rw [W8]; congr 1; omega, JG (by omega) (by omega) true, ⟨lo + 1, l, z, by congr 1; omega, h2, by omega, by rw [show lo + 1 + w0.length = lo + (w0.length + 1) by omega]; exact hr⟩⟩
structure EndAt (h : zd) (s : Nat) (sb : Nat -> Option Nat) (u m : Nat) (ws : Nat -> List Nat) (v : Nat -> V) : Prop where
 box : h[s]? = some (.box 4 [v 0, v 1, .int .i64 (u : Int), .int .i64 (m : Int)])
 side : ∀ d, d < 2 -> SideV h (v d) (sb d) (ws d)
 own : ∀ d, d < 2 -> sb d ≠ some s
 apart : ∀ b, sb 0 = some b -> sb 1 ≠ some b
structure EFed (h h' : zd) (s : Nat) (sb sb' : Nat -> Option Nat) : Prop where
 len : h.length <= h'.length
 old : ∀ j, j < h.length -> j ≠ s -> sb 0 ≠ some j -> sb 1 ≠ some j -> h'[j]? = h[j]?
 new : ∀ d b, d < 2 -> sb' d = some b -> sb d = some b \/ h.length <= b
theorem EFed.of {h h' : zd} {s : Nat} {sb : Nat -> Option Nat} (h1 : h'.length = h.length) (h2 : ∀ j, j ≠ s -> h'[j]? = h[j]?) : EFed h h' s sb sb := ⟨by omega, fun j _ k _ _ => h2 j k, fun _ _ _ e => .inl e⟩
theorem QV {v : Nat -> V} {a b : V} {d : Nat} (hd : d < 2) : [v 0, v 1, a, b][d]? = some (v d) := by
 obtain rfl | rfl : d = 0 \/ d = 1 := by omega
 · rfl
 · rfl
theorem zn1 {v : Nat -> V} {a b x : V} {d : Nat} (hd : d < 2) : setR [v 0, v 1, a, b] d [x] = [JW d x v 0, JW d x v 1, a, b] := by
 obtain rfl | rfl : d = 0 \/ d = 1 := by omega
 · rfl
 · rfl
theorem EndAt.write {h h' h2 : zd} {s : Nat} {sb : Nat -> Option Nat} {u m : Nat} {ws : Nat -> List Nat} {v : Nat -> V} (E : EndAt h s sb u m ws v) {d : Nat} (hd : d < 2) {x : V} {ob : Option Nat} {w : List Nat} (hx : SideV h2 x ob w) (ho : ob ≠ some s) (ha : ∀ e, e < 2 -> e ≠ d -> ∀ b, sb e = some b -> ob ≠ some b)
    (hk : ∀ e, e < 2 -> e ≠ d -> ∀ b, sb e = some b -> h2[b]? = h[b]?) (hs : s < h2.length) (he : h' = h2.set s (.box 4 (setR [v 0, v 1, .int .i64 (u : Int), .int .i64 (m : Int)] d [x]))) : EndAt h' s (JW d ob sb) u m (JW d w ws) (JW d x v) := by
 subst he
 refine ⟨?_, fun e he => ?_, fun e he => ?_, fun b hb hb1 => ?_⟩
 · rw [Xq hs, zn1 hd]
 · by_cases k : e = d
   · subst k
     rw [Jo, Jo, Jo]
     exact hx.keep (fun b hb => ze (fun k => ho (by rw [hb, k])))
   · rw [WT _ _ k, WT _ _ k, WT _ _ k]
     exact (E.side e he).keep (fun b hb => (ze (fun k2 => E.own e he (by rw [hb, k2]))).trans (hk e he k b hb))
 · by_cases k : e = d
   · subst k; rw [Jo]; exact ho
   · rw [WT _ _ k]; exact E.own e he
 · obtain rfl | rfl : d = 0 \/ d = 1 := by omega
   · rw [Jo] at hb
     rw [WT _ _ (by decide)] at hb1
     exact ha 1 (by decide) (by decide) b hb1 hb
   · rw [Jo] at hb1
     rw [WT _ _ (by decide)] at hb
     exact ha 0 (by decide) (by decide) b hb hb1
theorem zdU (n : Nat) {h : zd} {s : Nat} {sb : Nat -> Option Nat} {u m : Nat} {ws : Nat -> List Nat} {v : Nat -> V} (E : EndAt h s sb u m ws v) (d i : Int) (hm : m <= u + (ws 0).length + (ws 1).length) (hl : u + (ws 0).length + (ws 1).length < lim) : call (n + 1) 213 [.ptr s 0, .int .i64 d, .int .i64 i] h = some (.ret [.bool false], h) := by
 obtain ⟨z0, k0⟩ := (E.side 0 (by decide)).slc
 obtain ⟨z1, k1⟩ := (E.side 1 (by decide)).slc
 unfold lim at hl
 refine (zc7 n s d i h).trans ?_
 unfold zfQ
 rw [zF E.box, zo, if_pos (by decide)]
 simp only [zb, zj, za]
 rw [zF E.box, zo, if_pos (by decide)]
 simp only [zb, zj, za]
 rw [k0, za, zK, za, zF E.box, zo, if_pos (by decide)]
 simp only [zb, zj, za]
 rw [k1, za, zK, za, zF E.box, zo, if_pos (by decide)]
 simp only [zb, zj, za]
 rw [Xa, za, zm, zx, zx, w64 (n := (u : Int) + _) (by omega) (by omega), w64 (by omega) (by omega), if_pos (by simp; omega)]
theorem zdV (n : Nat) {h : zd} {s : Nat} {sb : Nat -> Option Nat} {u m : Nat} {ws : Nat -> List Nat} {v : Nat -> V} (E : EndAt h s sb u m ws v) {d : Nat} (hd : d < 2) (i : Nat) (hm : u + (ws 0).length + (ws 1).length < m) (hl : u + (ws 0).length + (ws 1).length + 1 < lim) :
    ∃ h' v', call (n + 1) 213 [.ptr s 0, .int .i64 (d : Int), .int .i64 (i : Int)] h = some (.ret [.bool true], h') /\ EndAt h' s (JW d (some h.length) sb) u m (JW d (ws d ++ [i]) ws) v' /\ EFed h h' s sb (JW d (some h.length) sb) := by
 obtain ⟨z0, k0⟩ := (E.side 0 (by decide)).slc
 obtain ⟨z1, k1⟩ := (E.side 1 (by decide)).slc
 have hwd : (ws d).length <= (ws 0).length + (ws 1).length := by
  obtain rfl | rfl : d = 0 \/ d = 1 := by omega
  · omega
  · omega
 obtain ⟨x, h2, a1, a2, a3, a4⟩ := (E.side d hd).app i (by omega)
 have hcl := zS E.box
 have e2 : h2[s]? = some (.box 4 [v 0, v 1, .int .i64 (u : Int), .int .i64 (m : Int)]) := (a4 s hcl (E.own d hd)).trans E.box
 have hds : ∀ e, e < 2 -> e ≠ d -> ∀ b, sb e = some b -> sb d ≠ some b := by
  intro e he hed b hb hb'
  obtain rfl | rfl : d = 0 \/ d = 1 := by omega
  · obtain rfl : e = 1 := by omega
    exact E.apart b hb' hb
  · obtain rfl : e = 0 := by omega
    exact E.apart b hb hb'
 refine ⟨_, _, ?_, E.write (h2 := h2) hd a2 (fun e => by cases e; omega) (fun e he hed b hb e2 => by have := (hb ▸ E.side e he : SideV h (v e) (some b) (ws e)).lt; cases e2; omega) (fun e he hed b hb => a4 b (hb ▸ E.side e he : SideV h (v e) (some b) (ws e)).lt (fun e2 => hds e he hed b hb e2)) (by omega) rfl, ⟨by rw [zq]; omega, fun j h1 h3 h4 h5 => ?_, fun e b he hb => ?_⟩⟩
 · unfold lim at hl
   rw [zc7]
   unfold zfQ
   rw [zF E.box, zo, if_pos (by decide)]
   simp only [zb, zj, za]
   rw [zF E.box, zo, if_pos (by decide)]
   simp only [zb, zj, za]
   rw [k0, za, zK, za, zF E.box, zo, if_pos (by decide)]
   simp only [zb, zj, za]
   rw [k1, za, zK, za, zF E.box, zo, if_pos (by decide)]
   simp only [zb, zj, za]
   rw [Xa, za, zm, zx, zx, w64 (n := (u : Int) + _) (by omega) (by omega), w64 (by omega) (by omega), if_neg (by simp; omega), Zd, za, if_pos hd]
   simp only [zr, Z6, Zb]
   rw [zF E.box, zo, if_pos (by omega), QV hd, za, a1, Zj, za, if_pos hd, a2.one, if_pos (by rfl), ZV e2 (by simp; omega), Zj]
 · rw [ze (Ne.symm h3)]
   have hdj : sb d ≠ some j := by
    rcases (show d = 0 \/ d = 1 by omega) with rfl | rfl
    · exact h4
    · exact h5
   exact a4 j h1 hdj
 · by_cases k : e = d
   · subst k; rw [Jo] at hb; cases hb; exact .inr (zk _)
   · rw [WT _ _ k] at hb; exact .inl hb
theorem Kw {d : Nat} (hd : d < 2) : IntKind.i64.wrap (1 - (d : Int)) = ((1 - d : Nat) : Int) := by rw [w64] <;> omega
theorem zc9 (n : Nat) {h : zd} {s : Nat} {sb : Nat -> Option Nat} {u m : Nat} {ws : Nat -> List Nat} {v : Nat -> V} (E : EndAt h s sb u m ws v) {d : Nat} (hd : d < 2) {w0 : List Nat} {w : Nat} (hw : ws d = w0 ++ [w]) (hl : w0.length + 1 < lim) :
    ∃ h' v', call (n + 1) 215 [.ptr s d] h = some (.ret [.int .i64 (w : Int)], h') /\ EndAt h' s sb u m (JW d w0 ws) v' /\ h'.length = h.length /\ ∀ j, j ≠ s -> h'[j]? = h[j]? := by
 have hs := E.side d hd
 rw [hw] at hs
 obtain ⟨z, k⟩ := hs.slc
 obtain ⟨p, cs, m', o, v', a1, a2, a3, a4, a5, a6, a7, a8⟩ := hs.outer
 have hcl := zS E.box
 have hds : ∀ e, e < 2 -> e ≠ d -> ∀ b, sb e = some b -> sb d ≠ some b := by
  intro e he hed b hb hb'
  obtain rfl | rfl : d = 0 \/ d = 1 := by omega
  · obtain rfl : e = 1 := by omega
    exact E.apart b hb' hb
  · obtain rfl : e = 0 := by omega
    exact E.apart b hb hb'
 have W := E.write (h2 := h) hd a8 (E.own d hd) hds (fun e he hed b hb => rfl) hcl rfl
 have hp : JW d (sb d) sb = sb := by funext j; unfold JW; split <;> simp_all
 rw [hp] at W
 refine ⟨_, _, ?_, W, by rw [zq], fun j hj => ze (Ne.symm hj)⟩
 unfold lim at hl
 have hlen : IntKind.i64.wrap ((((w0 ++ [w]).map JV).length : Int) - 1) = (w0.length : Int) := by
  rw [zx, zB, ZA, w64 (by omega) (by omega)]; omega
 rw [zhC]
 unfold zhB
 simp only [ZU, Zb, za]
 rw [zF E.box, zo, if_pos (by omega), QV hd, za, zo, if_pos (by omega), QV hd, za, k, za, hlen, Zd, zw, a1, za, a2, a3, zo, if_pos a4, a5, za, zo, if_pos (by omega), QV hd, za, zo, if_pos (by omega), QV hd, za, k, za, a6, za, hlen, Zd, zw, a7, za, a8.one, if_pos (by rfl), ZV E.box (by simp; omega), Zj]
theorem zda (n : Nat) {h : zd} {s : Nat} {sb : Nat -> Option Nat} {u m : Nat} {ws : Nat -> List Nat} {v : Nat -> V} (E : EndAt h s sb u m ws v) {d : Nat} (hd : d < 2) {w0 : List Nat} {w : Nat} (hw : ws d = w :: w0) :
    ∃ h' v', call (n + 1) 216 [.ptr s d] h = some (.ret [.int .i64 (w : Int)], h') /\ EndAt h' s sb u m (JW d w0 ws) v' /\ h'.length = h.length /\ ∀ j, j ≠ s -> h'[j]? = h[j]? := by
 have hs := E.side d hd
 rw [hw] at hs
 obtain ⟨p, cs, m', o, v', a1, a3, a4, a5, a6, a7, a8⟩ := hs.inner
 have hcl := zS E.box
 have hds : ∀ e, e < 2 -> e ≠ d -> ∀ b, sb e = some b -> sb d ≠ some b := by
  intro e he hed b hb hb'
  obtain rfl | rfl : d = 0 \/ d = 1 := by omega
  · obtain rfl : e = 1 := by omega
    exact E.apart b hb' hb
  · obtain rfl : e = 0 := by omega
    exact E.apart b hb hb'
 have W := E.write (h2 := h) hd a8 (E.own d hd) hds (fun e he hed b hb => rfl) hcl rfl
 have hp : JW d (sb d) sb = sb := by funext j; unfold JW; split <;> simp_all
 rw [hp] at W
 refine ⟨_, _, ?_, W, by rw [zq], fun j hj => ze (Ne.symm hj)⟩
 rw [zhE]
 unfold zhD
 simp only [ZU, Zb, za]
 rw [zF E.box, zo, if_pos (by omega), QV hd, za, a1, za, a3, zo, if_pos a4, a5, za, zo, if_pos (by omega), QV hd, za, a6, za, a7, za, a8.one, if_pos (by rfl), ZV E.box (by simp; omega), Zj]
theorem zfR (n : Nat) {h : zd} {s : Nat} {sb : Nat -> Option Nat} {u m : Nat} {ws : Nat -> List Nat} {v : Nat -> V} (E : EndAt h s sb u m ws v) {d : Nat} (hd : d < 2) {w0 : List Nat} {w : Nat} (hw : ws d = w0 ++ [w]) (hl : w0.length + 1 < lim) :
    ∃ h' v', call (n + 2) 214 [.ptr s 0, .int .i64 (d : Int)] h = some (.ret [.int .i64 (w : Int), .bool true], h') /\ EndAt h' s sb u m (JW d w0 ws) v' /\ h'.length = h.length /\ ∀ j, j ≠ s -> h'[j]? = h[j]? := by
 obtain ⟨h', v', e, b1, b2, b3⟩ := zc9 n E hd hw hl
 obtain ⟨z, k⟩ := (E.side d hd).slc
 refine ⟨h', v', ?_, b1, b2, b3⟩
 rw [show n + 2 = (n + 1) + 1 from rfl, jA]
 unfold zc8
 rw [Zd, za, if_pos hd, Kw hd, Zd, za, if_pos (by omega)]
 simp only [zr, Z6, Zb]
 rw [zF E.box, zo, if_pos (by omega), QV hd, za, k, za, if_pos (by rw [hw]; simp), e, zM, zE]
theorem zhJ (n : Nat) {h : zd} {s : Nat} {sb : Nat -> Option Nat} {u m : Nat} {ws : Nat -> List Nat} {v : Nat -> V} (E : EndAt h s sb (u + 1) m ws v) {d : Nat} (hd : d < 2) (hw : ws d = []) (hu : u + 1 < lim) :
    ∃ h' v', call (n + 2) 214 [.ptr s 0, .int .i64 (d : Int)] h = some (.ret [.int .i64 (-1), .bool true], h') /\ EndAt h' s sb u m ws v' /\ h'.length = h.length /\ ∀ j, j ≠ s -> h'[j]? = h[j]? := by
 obtain ⟨z, k⟩ := (E.side d hd).slc
 have hcl := zS E.box
 refine ⟨h.set s (.box 4 [v 0, v 1, .int .i64 (u : Int), .int .i64 (m : Int)]), v, ?_, ⟨Xq hcl _, fun e he => (E.side e he).keep (fun b hb => ze (fun k2 => E.own e he (by rw [hb, k2]))), E.own, E.apart⟩, by rw [zq], fun j hj => ze (Ne.symm hj)⟩
 unfold lim at hu
 rw [show n + 2 = (n + 1) + 1 from rfl, jA]
 unfold zc8
 rw [Zd, za, if_pos hd, Kw hd, Zd, za, if_pos (by omega)]
 simp only [zr, Z6, Zb]
 rw [zF E.box, zo, if_pos (by omega), QV hd, za, k, za, if_neg (by rw [hw]; simp), zF E.box, zo, if_pos (by decide)]
 simp only [zb, zj, za]
 rw [Xy, za, zm, if_pos (by simp), zo, if_pos (by decide)]
 simp only [zb, zj, za]
 rw [ZN, za, if_pos (by rfl), ZV E.box (by simp [V.cells]), Zj, w64 (by omega) (by omega), show (((u + 1 : Nat) : Int) - 1) = (u : Int) by omega]
 rfl
theorem zhK (n : Nat) {h : zd} {s : Nat} {sb : Nat -> Option Nat} {m : Nat} {ws : Nat -> List Nat} {v : Nat -> V} (E : EndAt h s sb 0 m ws v) {d : Nat} (hd : d < 2) (hw : ws d = []) {w0 : List Nat} {w : Nat} (hw2 : ws (1 - d) = w :: w0) :
    ∃ h' v', call (n + 2) 214 [.ptr s 0, .int .i64 (d : Int)] h = some (.ret [.int .i64 (w : Int), .bool true], h') /\ EndAt h' s sb 0 m (JW (1 - d) w0 ws) v' /\ h'.length = h.length /\ ∀ j, j ≠ s -> h'[j]? = h[j]? := by
 have hd' : 1 - d < 2 := by omega
 obtain ⟨h', v', e, b1, b2, b3⟩ := zda n E hd' hw2
 obtain ⟨z, k⟩ := (E.side d hd).slc
 obtain ⟨z', k'⟩ := (E.side (1 - d) hd').slc
 refine ⟨h', v', ?_, b1, b2, b3⟩
 rw [show n + 2 = (n + 1) + 1 from rfl, jA]
 unfold zc8
 rw [Zd, za, if_pos hd, Kw hd, Zd, za, if_pos (by omega)]
 simp only [zr, Z6, Zb]
 rw [zF E.box, zo, if_pos (by omega), QV hd, za, k, za, if_neg (by rw [hw]; simp), zF E.box, zo, if_pos (by decide)]
 simp only [zb, zj, za]
 rw [Xy, za, zm, if_neg (by decide), zF E.box, zo, if_pos (by omega), QV hd', za, k', za, if_pos (by rw [hw2]; simp), e, zM, zE]
theorem zfS (n : Nat) {h : zd} {s : Nat} {sb : Nat -> Option Nat} {m : Nat} {ws : Nat -> List Nat} {v : Nat -> V} (E : EndAt h s sb 0 m ws v) {d : Nat} (hd : d < 2) (hw : ws d = []) (hw2 : ws (1 - d) = []) :
    call (n + 2) 214 [.ptr s 0, .int .i64 (d : Int)] h = some (.ret [.int .i64 0, .bool false], h) := by
 have hd' : 1 - d < 2 := by omega
 obtain ⟨z, k⟩ := (E.side d hd).slc
 obtain ⟨z', k'⟩ := (E.side (1 - d) hd').slc
 rw [show n + 2 = (n + 1) + 1 from rfl, jA]
 unfold zc8
 rw [Zd, za, if_pos hd, Kw hd, Zd, za, if_pos (by omega)]
 simp only [zr, Z6, Zb]
 rw [zF E.box, zo, if_pos (by omega), QV hd, za, k, za, if_neg (by rw [hw]; simp), zF E.box, zo, if_pos (by decide)]
 simp only [zb, zj, za]
 rw [Xy, za, zm, if_neg (by decide), zF E.box, zo, if_pos (by omega), QV hd', za, k', za, if_neg (by rw [hw2]; simp)]
end Go.Proofs.Tryz
namespace Go.Proofs.Tryz
open Go.L
set_option maxRecDepth 100000
noncomputable def zkY (n : Nat) (x0 : Int) (h : zd) : Option (Res × zd) :=
 (cl (call n 57 [(V.int .i64 x0)] h) (fun r0 h1 =>
 (ZI r0 fun v3 =>
 (bd (Q4 prog 112 [(0, v3)]) fun cs4 =>
 some (Res.ret [(V.iface 112 (V.agg cs4))], h1)))) (fun z2 h1 => some (Res.pan z2, h1)))
theorem zjI (n : Nat) (x0 : Int) (h : zd) : call (n + 1) 56 [(V.int .i64 x0)] h = zkY n x0 h := by kernel_rfl
noncomputable def zkZ (n : Nat) (x0 : Int) (h : zd) : Option (Res × zd) :=
 (cl (call n 59 [(V.int .i64 x0)] h) (fun r0 h1 =>
 (ZI r0 fun v3 =>
 (bd (Q4 prog 116 [(0, v3)]) fun cs4 =>
 some (Res.ret [(V.iface 116 (V.agg cs4))], h1)))) (fun z2 h1 => some (Res.pan z2, h1)))
theorem zjJ (n : Nat) (x0 : Int) (h : zd) : call (n + 1) 58 [(V.int .i64 x0)] h = zkZ n x0 h := by kernel_rfl
noncomputable def zk0 (n : Nat) (x0 : Int) (h : zd) : Option (Res × zd) :=
 (cl (call n 61 [(V.int .i64 x0)] h) (fun r0 h1 =>
 (ZI r0 fun v3 =>
 (bd (Q4 prog 120 [(0, v3)]) fun cs4 =>
 some (Res.ret [(V.iface 120 (V.agg cs4))], h1)))) (fun z2 h1 => some (Res.pan z2, h1)))
theorem zjK (n : Nat) (x0 : Int) (h : zd) : call (n + 1) 60 [(V.int .i64 x0)] h = zk0 n x0 h := by kernel_rfl
noncomputable def zqo (n : Nat) (s : Nat) (os : List (List V)) (osb : Bool) (h : zd) : Option (Res × zd) :=
 (bd (Qo prog h .eql 25 (V.ptr s 0) (V.val (.pointer none))) fun v0 =>
 (bv v0 fun b1 => if b1 then
 some (Res.ret [(V.sl 2 [] false)], h)
 else
 (bd3 (zu h (V.ptr s 2)) fun cs3 m2 o4 => if (o4 + 1 <= m2 /\ 0 < 1) then
 (bd (cs3)[o4]? fun v5 =>
 (bv v5 fun b6 => if b6 then
 (bd3 (zu h (V.ptr s 0)) fun cs8 m7 o9 => if (o9 + 1 <= m7 /\ 0 < 1) then
 (bd (cs8)[o9]? fun v10 =>
 (bd3 (zu h (V.ptr s 1)) fun cs12 m11 o13 => if (o13 + 1 <= m11 /\ 0 < 1) then
 (bd (cs12)[o13]? fun v14 =>
 (if (zlw v10 = true) then
 (ifK v10 fun t15 w16 => bd2 (Jc prog t15 w16 "reaper/object.plain") fun f17 w18 => if (QD f17 = true /\ okV prog 28 f17 = true) then
 (clH (call n f17 ([w18] ++ [v14, (V.sl 2 os osb)]) h) fun r19 h20 =>
 (ZI r19 fun v22 =>
 some (Res.ret [v22], h20))) else none) else none)) else none)) else none)
 else
 (bd3 (zu h (V.ptr s 0)) fun cs24 m23 o25 => if (o25 + 1 <= m23 /\ 0 < 1) then
 (bd (cs24)[o25]? fun v26 =>
 (bd3 (zu h (V.ptr s 1)) fun cs28 m27 o29 => if (o29 + 1 <= m27 /\ 0 < 1) then
 (bd (cs28)[o29]? fun v30 =>
 (if (zlw v26 = true) then
 (ifK v26 fun t31 w32 => bd2 (Jc prog t31 w32 "reaper/object.batch") fun f33 w34 => if (QD f33 = true /\ okV prog 28 f33 = true) then
 (clH (call n f33 ([w34] ++ [v30, (V.sl 2 os osb)]) h) fun r35 h36 =>
 (ZI r35 fun v38 =>
 some (Res.ret [v38], h36))) else none) else none)) else none)) else none))) else none)))
theorem zn2 (n : Nat) (s : Nat) (os : List (List V)) (osb : Bool) (h : zd) : call (n + 1) 17 [(V.ptr s 0), (V.sl 2 os osb)] h = zqo n s os osb h := by kernel_rfl
noncomputable def zk1 (n : Nat) (s : Nat) (bs : List (List V)) (bsb : Bool) (h : zd) : Option (Res × zd) :=
 (bd (Qo prog h .neq 25 (V.ptr s 0) (V.val (.pointer none))) fun v0 =>
 (bv v0 fun b1 => if b1 then
 (bd3 (zu h (V.ptr s 1)) fun cs3 m2 o4 => if (o4 + 1 <= m2 /\ 0 < 1) then
 (bd (cs3)[o4]? fun v5 =>
 (cl (call n 65 [v5, (V.sl 1 bs bsb)] h) (fun r6 h7 =>
 some (Res.ret [], h7)) (fun z8 h7 => some (Res.pan z8, h7)))) else none)
 else
 some (Res.ret [], h)))
theorem zjL (n : Nat) (s : Nat) (bs : List (List V)) (bsb : Bool) (h : zd) : call (n + 1) 23 [(V.ptr s 0), (V.sl 1 bs bsb)] h = zk1 n s bs bsb h := by kernel_rfl
noncomputable def zhL (n : Nat) (s : Nat) (h : zd) : Option (Res × zd) :=
 (bd (Qo prog h .eql 25 (V.ptr s 0) (V.val (.pointer none))) fun v0 =>
 (bv v0 fun b1 => if b1 then
 some (Res.ret [(V.sl 1 [] false)], h)
 else
 (bd3 (zu h (V.ptr s 0)) fun cs3 m2 o4 => if (o4 + 1 <= m2 /\ 0 < 1) then
 (bd (cs3)[o4]? fun v5 =>
 (ifK v5 fun t6 w7 => bd2 (Jc prog t6 w7 "Items") fun f8 w9 => if (QD f8 = true /\ okV prog 27 f8 = true) then
 (cl (call n f8 ([w9] ++ []) h) (fun r10 h11 =>
 (ZI r10 fun v13 =>
 some (Res.ret [v13], h11))) (fun z12 h11 => some (Res.pan z12, h11))) else none)) else none)))
theorem zhM (n : Nat) (s : Nat) (h : zd) : call (n + 1) 20 [(V.ptr s 0)] h = zhL n s h := by kernel_rfl
noncomputable def Ya (n : Nat) (s : Nat) (os : List (List V)) (osb : Bool) (st3 : List V) (hh4 : zd) (next5 : List V -> zd -> Option (Res × zd)) : Option (Res × zd) :=
 (bd (bop prog .lss 3 (gv st3 3) (V.int .i64 ((os).length : Int))) fun v6 =>
 (bv v6 fun b7 => if b7 then
 (bdS (nv (gv st3 3)) fun n8 =>
 (bd (ZK 2 n8 (V.sl 2 os osb)) fun p9 =>
 (bd3 (zu hh4 p9) fun cs11 m10 o12 => if (o12 + 2 <= m10 /\ 0 < 2) then
 (if (((cs11).drop o12 |>.take 2)).length = 2 then
 (if ((((cs11).drop o12 |>.take 2)).length <= 2) then
 (cl (call n 177 [(V.ptr s 0), (V.agg (((setR [(V.int .u8 0), (V.int .i32 0)] 0 ((cs11).drop o12 |>.take 2))).drop 0 |>.take 2))] hh4) (fun r13 h14 =>
 (ZI r13 fun v16 =>
 (bdS (nv (gv st3 3)) fun n17 =>
 (if (2 = 2 /\ n17 < ((lsl (gv st3 1))).length /\ (some 23 : Option Nat) ≠ some 5) then
 (if ((V.cells v16)).length = 2 then
 (if (2 = 2 /\ 0 < 2 /\ 0 + ((V.cells v16)).length <= 2) then
 (bd ((lsl (gv st3 1)))[n17]? fun es18 =>
 (bd (bop prog .add 3 (gv st3 3) (V.int .i64 1)) fun v19 =>
 (next5 [(V.sl 2 (lsl (gv st3 0)) false), (V.sl 2 (((lsl (gv st3 1))).set n17 (setR es18 0 (V.cells v16))) false), (V.bool false), v19] h14))) else none) else none) else none)))) (fun z15 h14 => some (Res.pan z15, h14))) else none) else none) else none)))
 else
 some (Res.ret [(V.row (hh4).length 2 0 ((lsl (gv st3 1))).length)], (hh4 ++ [(HB.row 35 2 (lsl (gv st3 1)) true)]))))
noncomputable def zk2 (n : Nat) (s : Nat) (os : List (List V)) (osb : Bool) (h : zd) : Option (Res × zd) :=
 (bdS (nv (V.int .i64 ((os).length : Int))) fun n0 =>
 (bdS (nv (V.int .i64 ((os).length : Int))) fun n1 =>
 (if (n0 <= n1 /\ n1 < lim /\ 2 = 2) then
 (zV n (Ya n s os osb) [(V.sl 2 [] false), (V.sl 2 (List.replicate n0 [(V.int .u8 0), (V.int .i32 0)]) false), (V.bool false), (V.int .i64 0)] h) else none)))
theorem zjM (n : Nat) (s : Nat) (os : List (List V)) (osb : Bool) (h : zd) : call (n + 1) 176 [(V.bf 177 [(V.ptr s 0)]), (V.sl 2 os osb)] h = zk2 n s os osb h := by kernel_rfl
noncomputable def Yb (n : Nat) (s : Nat) (os : List (List V)) (osb : Bool) (st3 : List V) (hh4 : zd) (next5 : List V -> zd -> Option (Res × zd)) : Option (Res × zd) :=
 (bd (bop prog .lss 3 (gv st3 3) (V.int .i64 ((os).length : Int))) fun v6 =>
 (bv v6 fun b7 => if b7 then
 (bdS (nv (gv st3 3)) fun n8 =>
 (bd (ZK 2 n8 (V.sl 2 os osb)) fun p9 =>
 (bd3 (zu hh4 p9) fun cs11 m10 o12 => if (o12 + 2 <= m10 /\ 0 < 2) then
 (if (((cs11).drop o12 |>.take 2)).length = 2 then
 (if ((((cs11).drop o12 |>.take 2)).length <= 2) then
 (cl (call n 201 [(V.ptr s 0), (V.agg (((setR [(V.int .u8 0), (V.int .i32 0)] 0 ((cs11).drop o12 |>.take 2))).drop 0 |>.take 2))] hh4) (fun r13 h14 =>
 (ZI r13 fun v16 =>
 (bdS (nv (gv st3 3)) fun n17 =>
 (if (2 = 2 /\ n17 < ((lsl (gv st3 1))).length /\ (some 23 : Option Nat) ≠ some 5) then
 (if ((V.cells v16)).length = 2 then
 (if (2 = 2 /\ 0 < 2 /\ 0 + ((V.cells v16)).length <= 2) then
 (bd ((lsl (gv st3 1)))[n17]? fun es18 =>
 (bd (bop prog .add 3 (gv st3 3) (V.int .i64 1)) fun v19 =>
 (next5 [(V.sl 2 (lsl (gv st3 0)) false), (V.sl 2 (((lsl (gv st3 1))).set n17 (setR es18 0 (V.cells v16))) false), (V.bool false), v19] h14))) else none) else none) else none)))) (fun z15 h14 => some (Res.pan z15, h14))) else none) else none) else none)))
 else
 some (Res.ret [(V.row (hh4).length 2 0 ((lsl (gv st3 1))).length)], (hh4 ++ [(HB.row 35 2 (lsl (gv st3 1)) true)]))))
noncomputable def zk3 (n : Nat) (s : Nat) (os : List (List V)) (osb : Bool) (h : zd) : Option (Res × zd) :=
 (bdS (nv (V.int .i64 ((os).length : Int))) fun n0 =>
 (bdS (nv (V.int .i64 ((os).length : Int))) fun n1 =>
 (if (n0 <= n1 /\ n1 < lim /\ 2 = 2) then
 (zV n (Yb n s os osb) [(V.sl 2 [] false), (V.sl 2 (List.replicate n0 [(V.int .u8 0), (V.int .i32 0)]) false), (V.bool false), (V.int .i64 0)] h) else none)))
theorem zjN (n : Nat) (s : Nat) (os : List (List V)) (osb : Bool) (h : zd) : call (n + 1) 176 [(V.bf 201 [(V.ptr s 0)]), (V.sl 2 os osb)] h = zk3 n s os osb h := by kernel_rfl
noncomputable def zhN (n : Nat) (s : Nat) (c : Nat) (os : List (List V)) (osb : Bool) (h : zd) : Option (Res × zd) :=
 (cl (call n 174 [(V.ptr s 0), (V.sl 2 os osb)] h) (fun r0 h1 =>
 (ZI r0 fun v3 =>
 some (Res.ret [v3], h1))) (fun z2 h1 => some (Res.pan z2, h1)))
theorem zhO (n : Nat) (s : Nat) (c : Nat) (os : List (List V)) (osb : Bool) (h : zd) : call (n + 1) 171 [(V.agg [(V.ptr s 0)]), (V.ptr c 0), (V.sl 2 os osb)] h = zhN n s c os osb h := by kernel_rfl
noncomputable def zhP (n : Nat) (s : Nat) (c : Nat) (os : List (List V)) (osb : Bool) (h : zd) : Option (Res × zd) :=
 (cl (call n 176 [(V.bf 177 [(V.ptr s 0)]), (V.sl 2 os osb)] h) (fun r0 h1 =>
 (ZI r0 fun v3 =>
 some (Res.ret [v3], h1))) (fun z2 h1 => some (Res.pan z2, h1)))
theorem zhQ (n : Nat) (s : Nat) (c : Nat) (os : List (List V)) (osb : Bool) (h : zd) : call (n + 1) 173 [(V.agg [(V.ptr s 0)]), (V.ptr c 0), (V.sl 2 os osb)] h = zhP n s c os osb h := by kernel_rfl
noncomputable def zhR (n : Nat) (s : Nat) (c : Nat) (os : List (List V)) (osb : Bool) (h : zd) : Option (Res × zd) :=
 (cl (call n 199 [(V.ptr s 0), (V.sl 2 os osb)] h) (fun r0 h1 =>
 (ZI r0 fun v3 =>
 some (Res.ret [v3], h1))) (fun z2 h1 => some (Res.pan z2, h1)))
theorem zhS (n : Nat) (s : Nat) (c : Nat) (os : List (List V)) (osb : Bool) (h : zd) : call (n + 1) 196 [(V.agg [(V.ptr s 0)]), (V.ptr c 0), (V.sl 2 os osb)] h = zhR n s c os osb h := by kernel_rfl
noncomputable def zhT (n : Nat) (s : Nat) (c : Nat) (os : List (List V)) (osb : Bool) (h : zd) : Option (Res × zd) :=
 (cl (call n 176 [(V.bf 201 [(V.ptr s 0)]), (V.sl 2 os osb)] h) (fun r0 h1 =>
 (ZI r0 fun v3 =>
 some (Res.ret [v3], h1))) (fun z2 h1 => some (Res.pan z2, h1)))
theorem zhU (n : Nat) (s : Nat) (c : Nat) (os : List (List V)) (osb : Bool) (h : zd) : call (n + 1) 198 [(V.agg [(V.ptr s 0)]), (V.ptr c 0), (V.sl 2 os osb)] h = zhT n s c os osb h := by kernel_rfl
noncomputable def zhV (n : Nat) (s : Nat) (c : Nat) (os : List (List V)) (osb : Bool) (h : zd) : Option (Res × zd) :=
 (cl (call n 222 [(V.ptr s 0), (V.ptr c 0), (V.sl 2 os osb)] h) (fun r0 h1 =>
 (ZI r0 fun v3 =>
 some (Res.ret [v3], h1))) (fun z2 h1 => some (Res.pan z2, h1)))
theorem zhW (n : Nat) (s : Nat) (c : Nat) (os : List (List V)) (osb : Bool) (h : zd) : call (n + 1) 219 [(V.agg [(V.ptr s 0)]), (V.ptr c 0), (V.sl 2 os osb)] h = zhV n s c os osb h := by kernel_rfl
noncomputable def zhX (n : Nat) (s : Nat) (c : Nat) (os : List (List V)) (osb : Bool) (h : zd) : Option (Res × zd) :=
 (cl (call n 224 [(V.ptr s 0), (V.ptr c 0), (V.sl 2 os osb)] h) (fun r0 h1 =>
 (ZI r0 fun v3 =>
 some (Res.ret [v3], h1))) (fun z2 h1 => some (Res.pan z2, h1)))
theorem zhY (n : Nat) (s : Nat) (c : Nat) (os : List (List V)) (osb : Bool) (h : zd) : call (n + 1) 221 [(V.agg [(V.ptr s 0)]), (V.ptr c 0), (V.sl 2 os osb)] h = zhX n s c os osb h := by kernel_rfl
end Go.Proofs.Tryz
namespace Go.Sk
open Go.L Go.Rp
def zdb (most : Int) (o : O) (xs : List Int) : R := ⟨(Z4 most o.k o.v xs).1.1, (Z4 most o.k o.v xs).1.2⟩
def Ql (most : Int) : List O -> List Int -> List R × List Int
 | [], xs => ([], xs)
 | o :: r, xs => (zdb most o xs :: (Ql most r (Z4 most o.k o.v xs).2).1, (Ql most r (Z4 most o.k o.v xs).2).2)
theorem zdc (most : Int) : ∀ (l : List O) (xs : List Int), (Ql most l xs).1.length = l.length
 | [], _ => rfl
 | o :: r, xs => by simp [Ql, zdc most r]
theorem zbp (most c x : Int) (xs : List Int) : (Z4 most c x xs).2.length <= xs.length + 1 := by
 unfold Z4
 split
 · split <;> simp
 · split
   · split <;> simp <;> omega
   · simp
end Go.Sk
namespace Go.Proofs.Tryz
open Go.L Go.Rp Go.Sk
set_option maxRecDepth 100000
theorem zfT (n s : Nat) (osb : Bool) (most : Int) (os : List O) (hk : ∀ o ∈ os, 0 <= o.k /\ o.k < 256) (hos : os.length < lim) : ∀ (d i N : Nat) (h : zd) (sb : Option Nat) (xs : List Int) (done : List R), StkAt h s sb most xs -> i + d = os.length -> done.length = i -> d < N -> xs.length + d < lim →
    ∃ h' sb', zV N (Ya (n + 5) s (os.map O.w) osb) [.sl 2 [] false, .sl 2 (done.map R.w ++ List.replicate d [.int .u8 0, .int .i32 0]) false, .bool false, .int .i64 (i : Int)] h = some (.ret [.row h'.length 2 0 os.length], h' ++ [.row 35 2 ((done ++ (Ql most (os.drop i) xs).1).map R.w) true]) /\ StkAt h' s sb' most (Ql most (os.drop i) xs).2 /\ Fed h h' s sb sb' := by
 intro d
 induction d with
 | zero =>
   intro i N h sb xs done hb h1 h2 h3 h4
   obtain ⟨N, rfl⟩ : ∃ N', N = N' + 1 := ⟨N - 1, by omega⟩
   rw [zD]
   unfold Ya
   simp only [gv, zf, zh]
   rw [zt, za, zm, if_neg (by simp; omega), ZT (by omega)]
   refine ⟨h, sb, ?_, hb, Fed.refl ..⟩
   simp only [lsl, Ql, Zm, QR, zx]
   rw [show done.length = os.length by omega]
 | succ d ih =>
   intro i N h sb xs done hb h1 h2 h3 h4
   obtain ⟨N, rfl⟩ : ∃ N', N = N' + 1 := ⟨N - 1, by omega⟩
   have hi : i < os.length := by omega
   obtain ⟨h', sb', e, b1, b2⟩ := zht n hb (by omega) os[i].k os[i].v (hk _ (Z9 hi)).1 (hk _ (Z9 hi)).2
   obtain ⟨h'', sb'', e', d1, d2⟩ := ih (i + 1) N h' sb' _ (done ++ [zdb most os[i] xs]) b1 (by omega) (by simp; omega) (by omega) (by have := zbp most os[i].k os[i].v xs; omega)
   have hd : os.drop i = os[i] :: os.drop (i + 1) := zT hi
   refine ⟨h'', sb'', ?_, by rw [hd]; exact d1, b2.trans d2⟩
   rw [hd]
   simp only [Ql]
   rw [show done ++ (zdb most os[i] xs :: (Ql most (os.drop (i + 1)) (Z4 most os[i].k os[i].v xs).2).1) = done ++ [zdb most os[i] xs] ++ (Ql most (os.drop (i + 1)) (Z4 most os[i].k os[i].v xs).2).1 by simp, <- e', zD]
   have hix : ZK 2 i (.sl 2 (os.map O.w) osb) = some (.iptr 2 (O.w os[i]) 0) := by
    simp [ZK, zg hi]
   have key : ∀ next, Ya (n + 5) s (os.map O.w) osb [.sl 2 [] false, .sl 2 (done.map R.w ++ List.replicate (d + 1) [.int .u8 0, .int .i32 0]) false, .bool false, .int .i64 (i : Int)] h next = next [.sl 2 [] false, .sl 2 ((done ++ [zdb most os[i] xs]).map R.w ++ List.replicate d [.int .u8 0, .int .i32 0]) false, .bool false, .int .i64 ((i + 1 : Nat) : Int)] h' := by
    intro next
    unfold Ya
    simp only [gv, zf, zh]
    rw [zt, za, zm, if_pos (by simp; omega), Zd, zw, hix, za]
    simp only [zu]
    rw [zo, if_pos (by decide), zN, QH, if_pos (XU _), if_pos (by rw [XU]; decide), W9, zN, QH]
    show cl (call (n + 5) _ [.ptr s 0, .agg [.int .u8 os[i].k, .int .i32 os[i].v]] h) _ _ = _
    rw [e, zM, zE, zw]
    have hlen : i < (done.map R.w ++ List.replicate (d + 1) [V.int .u8 0, V.int .i32 0]).length := by simp; omega
    have hget : (done.map R.w ++ List.replicate (d + 1) [V.int .u8 0, V.int .i32 0])[i]? = some [.int .u8 0, .int .i32 0] := by
     rw [zG (by simp; omega)]; simp [h2]
    rw [if_pos (by refine ⟨?_, hlen, by decide⟩; first | trivial | rfl), if_pos (by rfl), if_pos (by refine ⟨?_, by decide, zk 2⟩; first | trivial | rfl)]
    simp only [lsl, zhs, V.cells]
    rw [hget, za, zK, za, Xv (by omega)]
    have hset : (done.map R.w ++ List.replicate (d + 1) [V.int .u8 0, V.int .i32 0]).set i (setR [V.int .u8 0, V.int .i32 0] 0 [V.int .u8 (Z4 most os[i].k os[i].v xs).1.1, V.int .i32 (Z4 most os[i].k os[i].v xs).1.2]) = (done ++ [zdb most os[i] xs]).map R.w ++ List.replicate d [V.int .u8 0, V.int .i32 0] := by
     rw [Zu _ _ (by simp; omega)]
     simp [h2, Xo, R.w, setR, zdb]
    rw [hset]
   rw [key]
theorem zfU (n s : Nat) {h : zd} {sb : Option Nat} {most : Int} {xs : List Int} (hb : StkAt h s sb most xs) (os : List O) (osb : Bool) (hk : ∀ o ∈ os, 0 <= o.k /\ o.k < 256) (hos : xs.length + os.length < lim) (hn : os.length < n) :
    ∃ h' sb', call (n + 6) 176 [.bf 177 [.ptr s 0], .sl 2 (os.map O.w) osb] h = some (.ret [.row h'.length 2 0 os.length], h' ++ [.row 35 2 ((Ql most os xs).1.map R.w) true]) /\ StkAt h' s sb' most (Ql most os xs).2 /\ Fed h h' s sb sb' := by
 obtain ⟨h', sb', e, b1, b2⟩ := zfT n s osb most os hk (by omega) os.length 0 (n + 5) h sb xs [] hb (by omega) rfl (by omega) hos
 refine ⟨h', sb', (zjM (n + 5) s _ osb h).trans ?_, b1, b2⟩
 unfold zk2
 rw [zx, Zd, zw, zw, if_pos ⟨zk _, by omega, rfl⟩]
 exact e
end Go.Proofs.Tryz
namespace Go.Sk
open Go.L Go.Rp
def Qn (most : Int) (vals : Nat -> Int) (i : Nat) (c : Int) (ws : List Nat) (xs : List Int) : (Int × Int) × List Nat × List Int :=
 if c = 1 then (if ((xs.length + ws.length : Nat) : Int) < most then ((1, 0), ws ++ [i], xs) else ((3, 0), ws, xs))
 else if c = 2 then (match ws.getLast? with
  | some w => ((2, vals w), ws.dropLast, xs)
  | none => (match xs.getLast? with | some y => ((2, y), ws, xs.dropLast) | none => ((4, 0), ws, xs)))
 else ((5, 0), ws, xs)
theorem zmg (most : Int) (vals : Nat -> Int) (i : Nat) (c : Int) (ws : List Nat) (xs : List Int) :
    Z4 most c (vals i) (xs ++ ws.map vals) = ((Qn most vals i c ws xs).1, (Qn most vals i c ws xs).2.2 ++ (Qn most vals i c ws xs).2.1.map vals) := by
 unfold Z4 Qn
 by_cases h1 : c = 1
 · rw [if_pos h1, if_pos h1, zB, zx]
   by_cases h : ((xs.length + ws.length : Nat) : Int) < most
   · rw [if_pos h, if_pos h]; simp
   · rw [if_neg h, if_neg h]
 · rw [if_neg h1, if_neg h1]
   by_cases h2 : c = 2
   · rw [if_pos h2, if_pos h2]
     rcases Zt ws with rfl | ⟨w0, w, rfl⟩
     · rcases Zt xs with rfl | ⟨x0, x, rfl⟩
       · simp
       · simp
     · simp [<- List.append_assoc]
   · rw [if_neg h2, if_neg h2]
end Go.Sk
namespace Go.Sk
open Go.L Go.Rp
def cdC (t : R) : List V := [.int .u8 t.c, .int .i32 0]
def vlC (t : R) : List V := [.int .i32 t.v]
def KJ (most : Int) (vals : Nat -> Int) : List O -> Nat -> List Nat -> List Int -> List R × List Nat × List Int
 | [], i, ws, xs => ([], ws, xs)
 | o :: l, i, ws, xs =>
   let t := Qn most vals i o.k ws xs
   let z := KJ most vals l (i + 1) t.2.1 t.2.2
   (⟨t.1.1, t.1.2⟩ :: z.1, z.2)
theorem zhZ (most : Int) (vals : Nat -> Int) : ∀ (l : List O) (i : Nat) (ws : List Nat) (xs : List Int), (KJ most vals l i ws xs).1.length = l.length
 | [], _, _, _ => rfl
 | o :: l, i, ws, xs => by simp [KJ, zhZ most vals l]
theorem zh0 (most : Int) (vals : Nat -> Int) : ∀ (l : List O) (i : Nat) (ws : List Nat) (xs : List Int), (∀ j o, l[j]? = some o -> vals (i + j) = o.v) →
    Ql most l (xs ++ ws.map vals) = ((KJ most vals l i ws xs).1, (KJ most vals l i ws xs).2.2 ++ (KJ most vals l i ws xs).2.1.map vals)
 | [], i, ws, xs, hv => rfl
 | o :: l, i, ws, xs, hv => by
   have h0 : vals i = o.v := hv 0 o rfl
   have hs := zmg most vals i o.k ws xs
   rw [h0] at hs
   have ih := zh0 most vals l (i + 1) (Qn most vals i o.k ws xs).2.1 (Qn most vals i o.k ws xs).2.2 (fun j p hj => by rw [show i + 1 + j = i + (j + 1) by omega]; exact hv (j + 1) p hj)
   simp only [Ql, KJ, zdb, hs, ih]
theorem zh1 (most : Int) (vals : Nat -> Int) (i : Nat) (c : Int) (ws : List Nat) (xs : List Int) (h : ∀ w ∈ ws, w < i) : ∀ w ∈ (Qn most vals i c ws xs).2.1, w < i + 1 := by
 have h' : ∀ w ∈ ws, w < i + 1 := fun w hw => Nat.lt_succ_of_lt (h w hw)
 unfold Qn
 split
 · split
   · intro w hw
     rcases Zl.1 hw with hw | hw
     · exact h' w hw
     · rw [Zy.1 hw]; exact Nat.lt_succ_self i
   · exact h'
 · split
   · split
     · exact fun w hw => h' w (List.dropLast_subset _ hw)
     · split <;> exact h'
   · exact h'
theorem zmh (most : Int) (vals : Nat -> Int) (i : Nat) (c : Int) (ws : List Nat) (xs : List Int) : (Qn most vals i c ws xs).2.1.length + (Qn most vals i c ws xs).2.2.length <= ws.length + xs.length + 1 := by
 unfold Qn
 split
 · split <;> simp <;> omega
 · split
   · split
     · simp; omega
     · split <;> simp; omega
   · simp
structure Lay (B s q bo bs r : Nat) (qb : Option Nat) : Prop where
 s1 : s < B
 q1 : q < B
 o1 : bo < B
 b1 : bs < B
 r1 : r < B
 sq : s ≠ q
 so : s ≠ bo
 sb : s ≠ bs
 sr : s ≠ r
 qo : q ≠ bo
 qb' : q ≠ bs
 qr : q ≠ r
 ro : r ≠ bo
 rb : r ≠ bs
 own : ∀ b, qb = some b -> b < B /\ b ≠ s /\ b ≠ q /\ b ≠ r
end Go.Sk
namespace Go.Proofs.Tryz
open Go.L Go.Rp Go.Sk
set_option maxRecDepth 100000
structure MInv (B s q r : Nat) (qb : Option Nat) (m : Nat) (h0 h : zd) (sb : Option Nat) (ws : List Nat) (xs : List Int) (done : List R) (d : Nat) : Prop where
 mt : MatAt h s sb xs.length m ws
 fr : ∀ b, sb = some b -> B <= b
 le : B <= h.length
 st : StkAt h q qb (m : Int) xs
 row : h[r]? = some (.row 21 1 (done.map vlC ++ List.replicate d [.int .i32 0]) true)
 rest : ∀ j, j < B -> j ≠ s -> j ≠ q -> j ≠ r -> h[j]? = h0[j]?
theorem MInv.meet {B s q bo bs r : Nat} {qb : Option Nat} {m : Nat} {h0 h h' : zd} {sb sb' : Option Nat} {ws ws' : List Nat} {xs : List Int} {done : List R} {d : Nat} (L : Lay B s q bo bs r qb) (I : MInv B s q r qb m h0 h sb ws xs done d)
    (b1 : MatAt h' s sb' xs.length m ws') (b2 : Fed h h' s sb sb') : MInv B s q r qb m h0 h' sb' ws' xs done d := by
 have hk : ∀ j, j < B -> j ≠ s -> h'[j]? = h[j]? := fun j h1 h2 => b2.old j (ZZ h1 I.le) h2 (fun e => by have := I.fr j e; omega)
 exact ⟨b1, fun b hb => by rcases b2.own b hb with e | e; exact I.fr b e; exact Xn I.le e, Xn I.le b2.len, I.st.keep (hk q L.q1 L.sq.symm) (fun b hb => hk b (L.own b hb).1 (L.own b hb).2.1), (hk r L.r1 L.sr.symm).trans I.row, fun j h1 h2 h3 h4 => (hk j h1 h2).trans (I.rest j h1 h2 h3 h4)⟩
theorem MInv.told {B s q r : Nat} {qb : Option Nat} {m : Nat} {h0 h : zd} {sb : Option Nat} {ws : List Nat} {xs : List Int} {done : List R} {d : Nat} (I : MInv B s q r qb m h0 h sb ws xs done (d + 1)) (c : Int) : MInv B s q r qb m h0 h sb ws xs (done ++ [⟨c, 0⟩]) d :=
 ⟨I.mt, I.fr, I.le, I.st, by rw [I.row]; simp [Xo, vlC], I.rest⟩
theorem qV {done : List R} {d : Nat} : ∀ es ∈ done.map vlC ++ List.replicate d [V.int .i32 0], es.length = 1 := by
 intro es hes
 rcases Zl.1 hes with h | h
 · obtain ⟨t, _, rfl⟩ := ZR.1 h; rfl
 · rw [(List.mem_replicate.1 h).2]; rfl
theorem zbX (done : List R) (d : Nat) (c v : Int) : (done.map vlC ++ List.replicate (d + 1) [V.int .i32 0]).set done.length [.int .i32 v] = (done ++ [(⟨c, v⟩ : R)]).map vlC ++ List.replicate d [.int .i32 0] := by
 rw [Zu _ _ (by simp)]
 simp [Xo, vlC]
theorem X4 (done : List R) (d : Nat) (a : Int) : (done.map cdC ++ ([V.int .u8 a, V.int .i32 0] :: List.replicate d [V.int .u8 0, V.int .i32 0]))[done.length]? = some [.int .u8 a, .int .i32 0] := by
 rw [zG (by simp)]; simp
theorem XJ (done : List R) (d : Nat) (c a : Int) : (done.map cdC ++ ([V.int .u8 a, V.int .i32 0] :: List.replicate d [V.int .u8 0, V.int .i32 0])).set done.length (setR [V.int .u8 a, .int .i32 0] 0 [V.int .u8 c]) = done.map cdC ++ ([V.int .u8 c, V.int .i32 0] :: List.replicate d [V.int .u8 0, V.int .i32 0]) := by
 rw [Zu _ _ (by simp)]
 simp [setR]
theorem QW (done : List R) (d : Nat) (c v : Int) : done.map cdC ++ ([V.int .u8 c, V.int .i32 0] :: List.replicate d [V.int .u8 0, V.int .i32 0]) = (done ++ [(⟨c, v⟩ : R)]).map cdC ++ List.replicate d [.int .u8 0, .int .i32 0] := by simp [cdC]
def valsOf (os : List O) (j : Nat) : Int := (os[j]?.map O.v).getD 0
theorem zfV (n s q bo bs r B : Nat) (osb : Bool) (m : Nat) (os : List O) {qb sb : Option Nat} {h0 h : zd} {ws : List Nat} {xs : List Int} {done : List R} {d : Nat} (L : Lay B s q bo bs r qb) (I : MInv B s q r qb m h0 h sb ws xs done (d + 1))
    (hbo : h0[bo]? = some (.box 1 [.sl 2 (os.map O.w) osb])) (hbs : h0[bs]? = some (.box 1 [.ptr q 0])) (hd : done.length + (d + 1) = os.length) (hw : ∀ w ∈ ws, w < done.length) (hl : ws.length + xs.length + 1 < lim) (hos : os.length < lim) (o : O) (ho : os[done.length]? = some o) :
    ∃ h' sb' t, t = Qn (m : Int) (valsOf os) done.length o.k ws xs /\ (∀ next, QE (n + 3) s (os.map O.w) osb bo bs r os.length [.sl 2 [] false, .sl 2 (done.map cdC ++ List.replicate (d + 1) [.int .u8 0, .int .i32 0]) false, .bool false, .int .i64 (done.length : Int)] h next = next [.sl 2 [] false, .sl 2 ((done ++ [(⟨t.1.1, t.1.2⟩ : R)]).map cdC ++ List.replicate d [.int .u8 0, .int .i32 0]) false, .bool false, .int .i64 ((done.length + 1 : Nat) : Int)] h') /\ MInv B s q r qb m h0 h' sb' t.2.1 t.2.2 (done ++ [⟨t.1.1, t.1.2⟩]) d := by
 have hlt : done.length < os.length := by omega
 have hix : ZK 2 done.length (.sl 2 (os.map O.w) osb) = some (.iptr 2 (O.w o) 0) := by simp [ZK, ho]
 have hbo' := (I.rest bo L.o1 L.so.symm L.qo.symm L.ro.symm).trans hbo
 have hbs' := (I.rest bs L.b1 L.sb.symm L.qb'.symm L.rb.symm).trans hbs
 have hwrap : IntKind.i64.wrap ((done.length : Int) + 1) = ((done.length + 1 : Nat) : Int) := Xv (by omega)
 have front : ∀ next, QE (n + 3) s (os.map O.w) osb bo bs r os.length [.sl 2 [] false, .sl 2 (done.map cdC ++ List.replicate (d + 1) [.int .u8 0, .int .i32 0]) false, .bool false, .int .i64 (done.length : Int)] h next = QE (n + 3) s (os.map O.w) osb bo bs r os.length [.sl 2 [] false, .sl 2 (done.map cdC ++ ([.int .u8 0, .int .i32 0] :: List.replicate d [.int .u8 0, .int .i32 0])) false, .bool false, .int .i64 (done.length : Int)] h next := fun next => by rw [Xo]
 have hlen : done.length < (done.map cdC ++ ([V.int .u8 0, V.int .i32 0] :: List.replicate d [V.int .u8 0, V.int .i32 0])).length := by simp
 have hput : ∀ k : Int, setR [V.int .u8 0, V.int .i32 0] 0 (O.w o) = O.w o := fun _ => rfl
 have hll : (done.map vlC ++ List.replicate (d + 1) [V.int .i32 0]).length = os.length := by simp; omega
 by_cases k1 : o.k = 1
 · by_cases hm : xs.length + ws.length < m
   · obtain ⟨h', sb', e, c1, c2⟩ := zdQ (n + 2) I.mt done.length hm (by omega)
     have ht : Qn (m : Int) (valsOf os) done.length o.k ws xs = ((1, 0), ws ++ [done.length], xs) := by unfold Qn; rw [if_pos k1, if_pos (by omega)]
     refine ⟨h', sb', _, rfl, ?_, ?_⟩
     · intro next
       rw [ht]
       rw [front]
       unfold QE
       simp only [gv, zf, zh, lsl]
       rw [zt, za, zm, if_pos (by simp; omega), Zd, zw, hix, za]
       simp only [zu]
       rw [zo, if_pos (by decide), zN, QH, if_pos (XU _), if_pos (by rw [XU]; decide), zw, if_pos ⟨trivial, hlen, by decide⟩, W9]
       simp only [O.w, zb, za]
       rw [QN, za, zm, if_pos (by simp [k1]), X4, za, e, zM, zE, zm, if_pos rfl, XJ, X4, za, zK, za, hwrap, XJ, QW (v := 0)]
     · rw [ht]
       exact (I.meet L c1 c2).told 1
   · have e := zdP (n + 2) I.mt (done.length : Int) (by omega) (by omega)
     have ht : Qn (m : Int) (valsOf os) done.length o.k ws xs = ((3, 0), ws, xs) := by unfold Qn; rw [if_pos k1, if_neg (by omega)]
     refine ⟨h, sb, _, rfl, ?_, ?_⟩
     · intro next
       rw [ht]
       rw [front]
       unfold QE
       simp only [gv, zf, zh, lsl]
       rw [zt, za, zm, if_pos (by simp; omega), Zd, zw, hix, za]
       simp only [zu]
       rw [zo, if_pos (by decide), zN, QH, if_pos (XU _), if_pos (by rw [XU]; decide), zw, if_pos ⟨trivial, hlen, by decide⟩, W9]
       simp only [O.w, zb, za]
       rw [QN, za, zm, if_pos (by simp [k1]), X4, za, e, zM, zE, zm, if_neg (by decide), zK, za, hwrap, XJ, QW (v := 0)]
     · rw [ht]
       exact I.told 3
 by_cases k2 : o.k = 2
 · rcases Zt ws with rfl | ⟨w0, w, rfl⟩
   · have e := zfK (n + 2) I.mt
     rcases Zt xs with rfl | ⟨x0, x, rfl⟩
     · have e2 := zcZ (n + 2) I.mt
       have ht : Qn (m : Int) (valsOf os) done.length o.k [] [] = ((4, 0), [], []) := by unfold Qn; rw [if_neg k1, if_pos k2]; rfl
       refine ⟨h, sb, _, rfl, ?_, ?_⟩
       · intro next
         rw [ht]
         rw [front]
         unfold QE
         simp only [gv, zf, zh, lsl]
         rw [zt, za, zm, if_pos (by simp; omega), Zd, zw, hix, za]
         simp only [zu]
         rw [zo, if_pos (by decide), zN, QH, if_pos (XU _), if_pos (by rw [XU]; decide), zw, if_pos ⟨trivial, hlen, by decide⟩, W9]
         simp only [O.w, zb, za]
         rw [QN, za, zm, if_neg (by simp [k1]), QN, za, zm, if_pos (by simp [k2]), X4, za, e, zM]
         simp only [zb, zj, za]
         rw [zm, if_neg (by decide), e2, zM, zE, zm, if_neg (by decide), XJ, X4, za, zK, za, hwrap, XJ, QW (v := 0)]
       · rw [ht]
         exact I.told 4
     · rw [Xt] at I hl ⊢
       have hmt := I.mt
       rw [zB, ZA] at hmt
       obtain ⟨h1, e2, c1, c2, c3⟩ := zc0 (n + 2) hmt (by simp at hl; omega)
       have hq1 : StkAt h1 q qb (m : Int) (x0 ++ [x]) := I.st.keep (c3 q L.sq.symm) (fun b hb => c3 b (L.own b hb).2.1)
       have hr1 := (c3 r L.sr.symm).trans I.row
       obtain ⟨h2, e3, d1, d2, d3, d4⟩ := zhx n (i := done.length) ((c3 bs L.sb.symm).trans hbs') hq1 (by simp at hl; omega) hr1 L.qr.symm (fun e => (L.own r e).2.2.2 rfl) qV (by rw [hll]; exact hlt)
       rw [hll] at e3
       have ht : Qn (m : Int) (valsOf os) done.length o.k [] (x0 ++ [x]) = ((2, x), [], x0) := by unfold Qn; rw [if_neg k1, if_pos k2]; simp
       refine ⟨h2, sb, _, rfl, ?_, ?_⟩
       · intro next
         rw [ht]
         rw [front]
         unfold QE
         simp only [gv, zf, zh, lsl]
         rw [zt, za, zm, if_pos (by simp; omega), Zd, zw, hix, za]
         simp only [zu]
         rw [zo, if_pos (by decide), zN, QH, if_pos (XU _), if_pos (by rw [XU]; decide), zw, if_pos ⟨trivial, hlen, by decide⟩, W9]
         simp only [O.w, zb, za]
         rw [QN, za, zm, if_neg (by simp [k1]), QN, za, zm, if_pos (by simp [k2]), X4, za, e, zM]
         simp only [zb, zj, za]
         rw [zm, if_neg (by decide), e2, zM, zE, zm, if_pos rfl, e3, zM, zK, za, hwrap, XJ, QW (v := x)]
       · rw [ht]
         refine ⟨c1.keep (d4 s L.sq L.sr) (fun b hb => d4 b (fun e => by have := I.fr b hb; have := L.q1; omega) (fun e => by have := I.fr b hb; have := L.r1; omega)), I.fr, by rw [d3, c2]; exact I.le, d1, by rw [d2, zbX done d 2 x], fun j j1 j2 j3 j4 => (d4 j j3 j4).trans ((c3 j j2).trans (I.rest j j1 j2 j3 j4))⟩
   · rw [Xt] at I hl hw ⊢
     obtain ⟨h1, e, c1, c2, c3⟩ := zfL (n + 2) I.mt (by simp at hl; omega)
     have hwl : w < os.length := by have := hw w (by simp); omega
     have I1 := I.meet L c1 ⟨by omega, fun j _ j2 _ => c3 j j2, fun b hb => .inl hb⟩
     have e2 := zhw (n + 2) (j := w) (i := done.length) ((c3 bo L.so.symm).trans hbo') I1.row qV (by rw [hll]; exact hlt) hwl
     rw [hll] at e2
     have hv : valsOf os w = os[w].v := by simp [valsOf, zg hwl]
     have ht : Qn (m : Int) (valsOf os) done.length o.k (w0 ++ [w]) xs = ((2, os[w].v), w0, xs) := by unfold Qn; rw [if_neg k1, if_pos k2, <- hv]; simp
     refine ⟨h1.set r (.row 21 1 ((done.map vlC ++ List.replicate (d + 1) [V.int .i32 0]).set done.length [.int .i32 os[w].v]) true), sb, _, rfl, ?_, ?_⟩
     · intro next
       rw [ht]
       rw [front]
       unfold QE
       simp only [gv, zf, zh, lsl]
       rw [zt, za, zm, if_pos (by simp; omega), Zd, zw, hix, za]
       simp only [zu]
       rw [zo, if_pos (by decide), zN, QH, if_pos (XU _), if_pos (by rw [XU]; decide), zw, if_pos ⟨trivial, hlen, by decide⟩, W9]
       simp only [O.w, zb, za]
       rw [QN, za, zm, if_neg (by simp [k1]), QN, za, zm, if_pos (by simp [k2]), X4, za, e, zM]
       simp only [zb, zj, za]
       rw [zm, if_pos rfl, e2, zM, zK, za, hwrap, XJ, QW (v := os[w].v)]
     · rw [ht]
       refine ⟨I1.mt.keep (ze L.sr.symm) (fun b hb => ze (fun e => by have := I1.fr b hb; have := L.r1; omega)), I1.fr, by rw [zq]; exact I1.le, I1.st.keep (ze L.qr.symm) (fun b hb => ze (L.own b hb).2.2.2.symm), ?_, fun j j1 j2 j3 j4 => (ze j4.symm).trans (I1.rest j j1 j2 j3 j4)⟩
       rw [Xq (zS I1.row), zbX done d 2]
 · have ht : Qn (m : Int) (valsOf os) done.length o.k ws xs = ((5, 0), ws, xs) := by unfold Qn; rw [if_neg k1, if_neg k2]
   refine ⟨h, sb, _, rfl, ?_, ?_⟩
   · intro next
     rw [ht]
     rw [front]
     unfold QE
     simp only [gv, zf, zh, lsl]
     rw [zt, za, zm, if_pos (by simp; omega), Zd, zw, hix, za]
     simp only [zu]
     rw [zo, if_pos (by decide), zN, QH, if_pos (XU _), if_pos (by rw [XU]; decide), zw, if_pos ⟨trivial, hlen, by decide⟩, W9]
     simp only [O.w, zb, za]
     rw [QN, za, zm, if_neg (by simp [k1]), QN, za, zm, if_neg (by simp [k2]), X4, za, zK, za, hwrap, XJ, QW (v := 0)]
   · rw [ht]
     exact I.told 5
theorem zfW (n s q bo bs r B : Nat) (osb : Bool) (m : Nat) (os : List O) {qb : Option Nat} {h0 : zd} (L : Lay B s q bo bs r qb)
    (hbo : h0[bo]? = some (.box 1 [.sl 2 (os.map O.w) osb])) (hbs : h0[bs]? = some (.box 1 [.ptr q 0])) (hos : os.length < lim) : ∀ (d N : Nat) (h : zd) (sb : Option Nat) (ws : List Nat) (xs : List Int) (done : List R), MInv B s q r qb m h0 h sb ws xs done d -> done.length + d = os.length -> d < N -> (∀ w ∈ ws, w < done.length) -> ws.length + xs.length + d < lim →
    ∃ h' sb' z, z = KJ (m : Int) (valsOf os) (os.drop done.length) done.length ws xs /\ zV N (QE (n + 3) s (os.map O.w) osb bo bs r os.length) [.sl 2 [] false, .sl 2 (done.map cdC ++ List.replicate d [.int .u8 0, .int .i32 0]) false, .bool false, .int .i64 (done.length : Int)] h = some (.ret [.row h'.length 2 0 os.length], h' ++ [.row 35 2 ((done ++ z.1).map cdC) true]) /\ MInv B s q r qb m h0 h' sb' z.2.1 z.2.2 (done ++ z.1) 0 := by
 intro d
 induction d with
 | zero =>
   intro N h sb ws xs done I h1 h2 hw hl
   obtain ⟨N, rfl⟩ : ∃ N', N = N' + 1 := ⟨N - 1, by omega⟩
   refine ⟨h, sb, _, rfl, ?_, ?_⟩
   · rw [zD]
     unfold QE
     simp only [gv, zf, zh]
     rw [zt, za, zm, if_neg (by simp; omega), ZT (by omega)]
     simp only [lsl, KJ, Zm, QR, zx]
     rw [show done.length = os.length by omega]
   · rw [ZT (by omega)]
     simp only [KJ, Zm]
     exact I
 | succ d ih =>
   intro N h sb ws xs done I h1 h2 hw hl
   obtain ⟨N, rfl⟩ : ∃ N', N = N' + 1 := ⟨N - 1, by omega⟩
   have hi : done.length < os.length := by omega
   obtain ⟨h', sb', t, rfl, key, I'⟩ := zfV n s q bo bs r B osb m os L I hbo hbs h1 hw (by omega) hos os[done.length] (zg hi)
   have hlen := zmh (m : Int) (valsOf os) done.length os[done.length].k ws xs
   have hws := zh1 (m : Int) (valsOf os) done.length os[done.length].k ws xs hw
   obtain ⟨h'', sb'', z, hz, e', I''⟩ := ih N h' sb' _ _ _ I' (by simp; omega) (by omega) (by simpa using hws) (by omega)
   have hd : os.drop done.length = os[done.length] :: os.drop (done.length + 1) := zT hi
   rw [zB, ZA] at hz e'
   refine ⟨h'', sb'', _, rfl, ?_, ?_⟩
   · rw [hd, zD, key, e', hz]
     simp [KJ]
   · rw [hd]
     rw [hz] at I''
     simpa [KJ] using I''
theorem zfX (n s q bo bs r B : Nat) (osb : Bool) (m : Nat) (os : List O) {qb : Option Nat} {h : zd} (L : Lay B s q bo bs r qb)
    (hbo : h[bo]? = some (.box 1 [.sl 2 (os.map O.w) osb])) (hbs : h[bs]? = some (.box 1 [.ptr q 0])) {xs : List Int} (hos : os.length + xs.length < lim) (hn : os.length < n) (I : MInv B s q r qb m h h none [] xs [] os.length) :
    ∃ h' sb' z, z = KJ (m : Int) (valsOf os) os 0 [] xs /\ call (n + 4) 181 [.ptr s 0, .sl 2 (os.map O.w) osb, .fn 182 [.ptr bo 0, .iptr 1 [.row r 1 0 os.length] 0], .fn 183 [.ptr bs 0, .iptr 1 [.row r 1 0 os.length] 0]] h = some (.ret [.row h'.length 2 0 os.length], h' ++ [.row 35 2 (z.1.map cdC) true]) /\ MInv B s q r qb m h h' sb' z.2.1 z.2.2 z.1 0 := by
 obtain ⟨h', sb', z, hz, e, I'⟩ := zfW n s q bo bs r B osb m os L hbo hbs (by omega) os.length (n + 3) h none [] xs [] I (by simp) (by omega) (by simp) (by simp; omega)
 refine ⟨h', sb', z, by simpa using hz, (zmb (n + 3) s _ osb bo bs r _ h).trans ?_, by simpa using I'⟩
 unfold znO
 rw [zx, Zd, zw, zw, if_pos ⟨zk _, by omega, rfl⟩]
 simpa using e
end Go.Proofs.Tryz
