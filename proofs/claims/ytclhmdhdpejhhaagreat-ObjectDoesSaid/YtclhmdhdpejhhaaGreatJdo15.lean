/- Pm Tm Pr Tr Pe Te Po To Tq Ta Tf Tg Tb Th Ti Tj: what the law needs of these -/import Derived.Test.YtclhmdhdpejhhaaGreatJdo14
set_option linter.unusedVariables false
namespace Go.Proofs.Tryz
open Go.L
set_option maxRecDepth 100000
noncomputable def zht(n:Nat)(s:Nat)(i:Int)(h:zd):Option (Res×zd) :=
 (bd3 (zu h (V.ptr s 1)) fun cs1 m0 o2=>if (o2+1<=m0/\0 < 1) then
 (bd (cs1)[o2]? fun v3 =>
 (bd3 (zu h (V.ptr s 0)) fun cs5 m4 o6=>if (o6+1<=m4/\0 < 1) then
 (bd (cs5)[o6]? fun v7 =>
 (bd (ZR h v7) fun p8 =>
 (bd (bop prog .add 3 v3 (V.int .i64 ((p8.2).length:Int))) fun v9 =>
 (bd3 (zu h (V.ptr s 2)) fun cs11 m10 o12=>if (o12+1<=m10/\0 < 1) then
 (bd (cs11)[o12]? fun v13 =>
 (bd (bop prog .geq 3 v9 v13) fun v14 =>
 (bv v14 fun b15=>if b15 then
 some (Res.ret [(V.bool false)],h)
 else
 (bd3 (zu h (V.ptr s 0)) fun cs17 m16 o18=>if (o18+1<=m16/\0 < 1) then
 (bd (cs17)[o18]? fun v19 =>
 (bd2 (WG 3 1 h [[(V.int .i64 i)]] v19) fun v20 h21 =>
 (if ((V.cells v20)).length=1 then
 (bd2 (Zt h21 (V.cells v20) (V.ptr s 0)) fun b22 x23 =>
 some (Res.ret [(V.bool true)],((h21).set b22 x23))) else none))) else none)))) else none)))) else none)) else none)
theorem zer(n:Nat)(s:Nat)(i:Int)(h:zd):call (n+1) 186 [(V.ptr s 0),(V.int .i64 i)] h=zht n s i h:=by kernel_rfl
noncomputable def zl7(n:Nat)(s:Nat)(h:zd):Option (Res×zd) :=
 (bd3 (zu h (V.ptr s 0)) fun cs1 m0 o2=>if (o2+1<=m0/\0 < 1) then
 (bd (cs1)[o2]? fun v3 =>
 (bd (ZR h v3) fun p4 =>
 (if (decide ((IntKind.i64.wrap (((p4.2).length:Int) - 1)) < 0)) then
 some (Res.ret [(V.int .i64 (-1)),(V.bool false)],h)
 else
 (bd3 (zu h (V.ptr s 0)) fun cs6 m5 o7=>if (o7+1<=m5/\0 < 1) then
 (bd (cs6)[o7]? fun v8 =>
 (bdS (nv (V.int .i64 (IntKind.i64.wrap (((p4.2).length:Int) - 1)))) fun n9 =>
 (bd (ZE 1 n9 v8) fun p10 =>
 (bd3 (zu h p10) fun cs12 m11 o13=>if (o13+1<=m11/\0 < 1) then
 (bd (cs12)[o13]? fun v14 =>
 (bd3 (zu h (V.ptr s 0)) fun cs16 m15 o17=>if (o17+1<=m15/\0 < 1) then
 (bd (cs16)[o17]? fun v18 =>
 (bd (QZ v18) fun n19 =>
 (bdS (nv (V.int .i64 (IntKind.i64.wrap (((p4.2).length:Int) - 1)))) fun n20 =>
 (bd (Z4 1 0 n20 (none:Option Nat) true v18) fun v21 =>
 (if ((V.cells v21)).length=1 then
 (bd2 (Zt h (V.cells v21) (V.ptr s 0)) fun b22 x23 =>
 some (Res.ret [v14,(V.bool true)],((h).set b22 x23))) else none))))) else none)) else none)))) else none)))) else none)
theorem zgn(n:Nat)(s:Nat)(h:zd):call (n+1) 187 [(V.ptr s 0)] h=zl7 n s h:=by kernel_rfl
noncomputable def zes(n:Nat)(s:Nat)(h:zd):Option (Res×zd) :=
 (bd3 (zu h (V.ptr s 1)) fun cs1 m0 o2=>if (o2+1<=m0/\0 < 1) then
 (bd (cs1)[o2]? fun v3 =>
 (bd (bop prog .eql 3 v3 (V.int .i64 0)) fun v4 =>
 (bv v4 fun b5=>if b5 then
 some (Res.ret [(V.bool false)],h)
 else
 (bd3 (zu h (V.ptr s 1)) fun cs7 m6 o8=>if (o8+1<=m6/\0 < 1) then
 (bd (cs7)[o8]? fun v9 =>
 (bd (bop prog .sub 3 v9 (V.int .i64 1)) fun v10 =>
 (if ((V.cells v10)).length=1 then
 (bd2 (Zt h (V.cells v10) (V.ptr s 1)) fun b11 x12 =>
 some (Res.ret [(V.bool true)],((h).set b11 x12))) else none))) else none)))) else none)
theorem zct(n:Nat)(s:Nat)(h:zd):call (n+1) 188 [(V.ptr s 0)] h=zes n s h:=by kernel_rfl
noncomputable def ztw(n:Nat)(i:Int)(j:Int)(bo:Nat)(r:Nat)(l:Nat)(h:zd):Option (Res×zd) :=
 (bd3 (zu h (V.ptr bo 0)) fun cs1 m0 o2=>if (o2+1<=m0/\0 < 1) then
 (bd (cs1)[o2]? fun v3 =>
 (bdS (nv (V.int .i64 j)) fun n4 =>
 (bd (ZE 2 n4 v3) fun p5 =>
 (bd (ZL 1 p5) fun p6 =>
 (bd3 (zu h p6) fun cs8 m7 o9=>if (o9+1<=m7/\0 < 1) then
 (bd (cs8)[o9]? fun v10 =>
 (bdS (nv (V.int .i64 i)) fun n11 =>
 (bd (ZE 1 n11 (V.row r 1 0 l)) fun p12 =>
 (if ((V.cells v10)).length=1 then
 (bd2 (Zt h (V.cells v10) p12) fun b13 x14 =>
 some (Res.ret [],((h).set b13 x14))) else none)))) else none))))) else none)
theorem zq2(n:Nat)(i:Int)(j:Int)(bo:Nat)(r:Nat)(l:Nat)(h:zd):call (n+1) 182 [(V.int .i64 i),(V.int .i64 j),(V.ptr bo 0),(V.iptr 1 [(V.row r 1 0 l)] 0)] h=ztw n i j bo r l h:=by kernel_rfl
noncomputable def ztx(n:Nat)(i:Int)(bs:Nat)(r:Nat)(l:Nat)(h:zd):Option (Res×zd) :=
 (bd3 (zu h (V.ptr bs 0)) fun cs1 m0 o2=>if (o2+1<=m0/\0 < 1) then
 (bd (cs1)[o2]? fun v3 =>
 (clH (call n 184 [v3] h) fun r4 h5 =>
 (bd (r4)[0]? fun v7 =>
 (bd (r4)[1]? fun v8 =>
 (bdS (nv (V.int .i64 i)) fun n9 =>
 (bd (ZE 1 n9 (V.row r 1 0 l)) fun p10 =>
 (if ((V.cells v7)).length=1 then
 (bd2 (Zt h5 (V.cells v7) (V.rptr r 1 (ixP p10) 0)) fun b11 x12 =>
 some (Res.ret [],((h5).set b11 x12))) else none))))))) else none)
theorem zq3(n:Nat)(i:Int)(bs:Nat)(r:Nat)(l:Nat)(h:zd):call (n+1) 183 [(V.int .i64 i),(V.ptr bs 0),(V.iptr 1 [(V.row r 1 0 l)] 0)] h=ztx n i bs r l h:=by kernel_rfl
noncomputable def QP(n:Nat)(s:Nat)(os:List (List V))(osb:Bool)(bo:Nat)(bs:Nat)(r:Nat)(l:Nat)(st3:List V)(hh4:zd)(next5:List V->zd->Option (Res×zd)):Option (Res×zd) :=
 (bd (bop prog .lss 3 (gv st3 3) (V.int .i64 ((os).length:Int))) fun v6 =>
 (bv v6 fun b7=>if b7 then
 (bdS (nv (gv st3 3)) fun n8 =>
 (bd (ZE 2 n8 (V.sl 2 os osb)) fun p9 =>
 (bd3 (zu hh4 p9) fun cs11 m10 o12=>if (o12+2<=m10/\0 < 2) then
 (if (((cs11).drop o12 |>.take 2)).length=2 then
 (if ((((cs11).drop o12 |>.take 2)).length<=2) then
 (bdS (nv (gv st3 3)) fun n13 =>
 (if (2=2/\n13 < ((lsl (gv st3 1))).length/\(some 27:Option Nat)≠some 9) then
 (bd ((setR [(V.int .u8 0),(V.int .i32 0)] 0 ((cs11).drop o12 |>.take 2)))[0]? fun v14 =>
 (bd (bop prog .eql 5 v14 (V.int .u8 1)) fun v15 =>
 (bv v15 fun b16=>if b16 then
 (bd ((lsl (gv st3 1)))[n13]? fun es17 =>
 (cl (call n 186 [(V.ptr s 0),(gv st3 3)] hh4) (fun r18 h19 =>
 (Zr r18 fun v21 =>
 (bv v21 fun b22=>if b22 then
 (bd ((((lsl (gv st3 1))).set n13 (setR es17 0 [(V.int .u8 3)])))[n13]? fun es23 =>
 (bd (bop prog .add 3 (gv st3 3) (V.int .i64 1)) fun v24 =>
 (next5 [(V.sl 2 (lsl (gv st3 0)) false),(V.sl 2 (((((lsl (gv st3 1))).set n13 (setR es17 0 [(V.int .u8 3)]))).set n13 (setR es23 0 [(V.int .u8 1)])) false),(V.bool false),v24] h19)))
 else
 (bd (bop prog .add 3 (gv st3 3) (V.int .i64 1)) fun v25 =>
 (next5 [(V.sl 2 (lsl (gv st3 0)) false),(V.sl 2 (((lsl (gv st3 1))).set n13 (setR es17 0 [(V.int .u8 3)])) false),(V.bool false),v25] h19))))) (fun z20 h19=>some (Res.pan z20,h19))))
 else
 (bd (bop prog .eql 5 v14 (V.int .u8 2)) fun v26 =>
 (bv v26 fun b27=>if b27 then
 (bd ((lsl (gv st3 1)))[n13]? fun es28 =>
 (cl (call n 187 [(V.ptr s 0)] hh4) (fun r29 h30 =>
 (bd (r29)[0]? fun v32 =>
 (bd (r29)[1]? fun v33 =>
 (bv v33 fun b34=>if b34 then
 (cl (call n 182 [(gv st3 3),v32,(V.ptr bo 0),(V.iptr 1 [(V.row r 1 0 l)] 0)] h30) (fun r35 h36 =>
 (bd (bop prog .add 3 (gv st3 3) (V.int .i64 1)) fun v38 =>
 (next5 [(V.sl 2 (lsl (gv st3 0)) false),(V.sl 2 (((lsl (gv st3 1))).set n13 (setR es28 0 [(V.int .u8 2)])) false),(V.bool false),v38] h36))) (fun z37 h36=>some (Res.pan z37,h36)))
 else
 (cl (call n 188 [(V.ptr s 0)] h30) (fun r39 h40 =>
 (Zr r39 fun v42 =>
 (bv v42 fun b43=>if b43 then
 (cl (call n 183 [(gv st3 3),(V.ptr bs 0),(V.iptr 1 [(V.row r 1 0 l)] 0)] h40) (fun r44 h45 =>
 (bd (bop prog .add 3 (gv st3 3) (V.int .i64 1)) fun v47 =>
 (next5 [(V.sl 2 (lsl (gv st3 0)) false),(V.sl 2 (((lsl (gv st3 1))).set n13 (setR es28 0 [(V.int .u8 2)])) false),(V.bool false),v47] h45))) (fun z46 h45=>some (Res.pan z46,h45)))
 else
 (bd ((((lsl (gv st3 1))).set n13 (setR es28 0 [(V.int .u8 2)])))[n13]? fun es48 =>
 (bd (bop prog .add 3 (gv st3 3) (V.int .i64 1)) fun v49 =>
 (next5 [(V.sl 2 (lsl (gv st3 0)) false),(V.sl 2 (((((lsl (gv st3 1))).set n13 (setR es28 0 [(V.int .u8 2)]))).set n13 (setR es48 0 [(V.int .u8 4)])) false),(V.bool false),v49] h40)))))) (fun z41 h40=>some (Res.pan z41,h40))))))) (fun z31 h30=>some (Res.pan z31,h30))))
 else
 (bd ((lsl (gv st3 1)))[n13]? fun es50 =>
 (bd (bop prog .add 3 (gv st3 3) (V.int .i64 1)) fun v51 =>
 (next5 [(V.sl 2 (lsl (gv st3 0)) false),(V.sl 2 (((lsl (gv st3 1))).set n13 (setR es50 0 [(V.int .u8 5)])) false),(V.bool false),v51] hh4)))))))) else none)) else none) else none) else none)))
 else
 some (Res.ret [(V.row (hh4).length 2 0 ((lsl (gv st3 1))).length)],(hh4++[(HB.row 35 2 (lsl (gv st3 1)) true)]))))
noncomputable def zq4(n:Nat)(s:Nat)(os:List (List V))(osb:Bool)(bo:Nat)(bs:Nat)(r:Nat)(l:Nat)(h:zd):Option (Res×zd) :=
 (bdS (nv (V.int .i64 ((os).length:Int))) fun n0 =>
 (bdS (nv (V.int .i64 ((os).length:Int))) fun n1 =>
 (if (n0<=n1/\n1 < lim/\2=2) then
 (zR n (QP n s os osb bo bs r l) [(V.sl 2 [] false),(V.sl 2 (List.replicate n0 [(V.int .u8 0),(V.int .i32 0)]) false),(V.bool false),(V.int .i64 0)] h) else none)))
theorem zoV(n:Nat)(s:Nat)(os:List (List V))(osb:Bool)(bo:Nat)(bs:Nat)(r:Nat)(l:Nat)(h:zd):call (n+1) 181 [(V.ptr s 0),(V.sl 2 os osb),(V.fn 182 [(V.ptr bo 0),(V.iptr 1 [(V.row r 1 0 l)] 0)]),(V.fn 183 [(V.ptr bs 0),(V.iptr 1 [(V.row r 1 0 l)] 0)])] h=zq4 n s os osb bo bs r l h:=by kernel_rfl
noncomputable def Wy(n:Nat)(s:Nat)(os:List (List V))(osb:Bool)(h5:zd)(cs8:List V)(n14:Nat)(v27:V)(p28:Nat×List (List V))(st30:List V)(hh31:zd)(next32:List V->zd->Option (Res×zd)):Option (Res×zd) :=
 (bd (bop prog .lss 3 (gv st30 1) (V.int .i64 ((p28.2).length:Int))) fun v33 =>
 (bv v33 fun b34=>if b34 then
 (bdS (nv (gv st30 1)) fun n35 =>
 (bd (ZE 1 n35 (V.row (((((h5++[(HB.box 3 cs8)])++[(HB.box 1 [(V.ptr (h5).length 0)])])++[(HB.box 1 [(V.ptr s 0)])])++[(HB.box 1 [(V.sl 2 os osb)])])).length 1 0 ((List.replicate n14 [(V.int .i32 0)])).length)) fun p36 =>
 (bd3 (zu hh31 p36) fun cs38 m37 o39=>if (o39+1<=m37/\0 < 1) then
 (bd (cs38)[o39]? fun v40 =>
 (bdS (nv (gv st30 1)) fun n41 =>
 (bd (ZE 2 n41 v27) fun p42 =>
 (bd (ZL 1 p42) fun p43 =>
 (if ((V.cells v40)).length=1 then
 (bd2 (Zt hh31 (V.cells v40) p43) fun b44 x45 =>
 (bd (bop prog .add 3 (gv st30 1) (V.int .i64 1)) fun v46 =>
 (next32 [(V.sl 2 (lsl (gv st30 0)) false),v46] ((hh31).set b44 x45)))) else none))))) else none)))
 else
 (bd2 (dcl n 179 [(V.ptr ((h5++[(HB.box 3 cs8)])).length 0),(V.ptr (((h5++[(HB.box 3 cs8)])++[(HB.box 1 [(V.ptr (h5).length 0)])])).length 0),(V.ptr ((((h5++[(HB.box 3 cs8)])++[(HB.box 1 [(V.ptr (h5).length 0)])])++[(HB.box 1 [(V.ptr s 0)])])).length 0)] hh31 none) fun h47 b48 =>
 some (Res.ret [v27],h47))))
noncomputable def zjT(n:Nat)(s:Nat)(os:List (List V))(osb:Bool)(h:zd):Option (Res×zd) :=
 (clH (call n 169 [(V.ptr s 0)] h) fun r0 h1 =>
 (Zr r0 fun v3 =>
 (clH (call n 178 [(V.ptr s 0)] h1) fun r4 h5 =>
 (Zr r4 fun v7 =>
 (bd (Qo prog 249 [(1,v3),(2,v7)]) fun cs8 =>
 (if (cs8).length=3 then
 (bd3 (zu ((((h5++[(HB.box 3 cs8)])++[(HB.box 1 [(V.ptr (h5).length 0)])])++[(HB.box 1 [(V.ptr s 0)])])++[(HB.box 1 [(V.sl 2 os osb)])]) (V.ptr ((((h5++[(HB.box 3 cs8)])++[(HB.box 1 [(V.ptr (h5).length 0)])])++[(HB.box 1 [(V.ptr s 0)])])).length 0)) fun cs10 m9 o11=>if (o11+1<=m9/\0 < 1) then
 (bd (cs10)[o11]? fun v12 =>
 (bd (ZR ((((h5++[(HB.box 3 cs8)])++[(HB.box 1 [(V.ptr (h5).length 0)])])++[(HB.box 1 [(V.ptr s 0)])])++[(HB.box 1 [(V.sl 2 os osb)])]) v12) fun p13 =>
 (bdS (nv (V.int .i64 ((p13.2).length:Int))) fun n14 =>
 (bdS (nv (V.int .i64 ((p13.2).length:Int))) fun n15 =>
 (if (n14<=n15/\n15 < lim/\1=1) then
 (bd3 (zu (((((h5++[(HB.box 3 cs8)])++[(HB.box 1 [(V.ptr (h5).length 0)])])++[(HB.box 1 [(V.ptr s 0)])])++[(HB.box 1 [(V.sl 2 os osb)])])++[(HB.row 21 1 (List.replicate n14 [(V.int .i32 0)]) true)]) (V.ptr ((h5++[(HB.box 3 cs8)])).length 0)) fun cs17 m16 o18=>if (o18+1<=m16/\0 < 1) then
 (bd (cs17)[o18]? fun v19 =>
 (bd3 (zu (((((h5++[(HB.box 3 cs8)])++[(HB.box 1 [(V.ptr (h5).length 0)])])++[(HB.box 1 [(V.ptr s 0)])])++[(HB.box 1 [(V.sl 2 os osb)])])++[(HB.row 21 1 (List.replicate n14 [(V.int .i32 0)]) true)]) (V.ptr ((((h5++[(HB.box 3 cs8)])++[(HB.box 1 [(V.ptr (h5).length 0)])])++[(HB.box 1 [(V.ptr s 0)])])).length 0)) fun cs21 m20 o22=>if (o22+1<=m20/\0 < 1) then
 (bd (cs21)[o22]? fun v23 =>
 (cl (call n 181 [v19,v23,(V.fn 182 [(V.ptr ((((h5++[(HB.box 3 cs8)])++[(HB.box 1 [(V.ptr (h5).length 0)])])++[(HB.box 1 [(V.ptr s 0)])])).length 0),(V.iptr 1 [(V.row (((((h5++[(HB.box 3 cs8)])++[(HB.box 1 [(V.ptr (h5).length 0)])])++[(HB.box 1 [(V.ptr s 0)])])++[(HB.box 1 [(V.sl 2 os osb)])])).length 1 0 ((List.replicate n14 [(V.int .i32 0)])).length)] 0)]),(V.fn 183 [(V.ptr (((h5++[(HB.box 3 cs8)])++[(HB.box 1 [(V.ptr (h5).length 0)])])).length 0),(V.iptr 1 [(V.row (((((h5++[(HB.box 3 cs8)])++[(HB.box 1 [(V.ptr (h5).length 0)])])++[(HB.box 1 [(V.ptr s 0)])])++[(HB.box 1 [(V.sl 2 os osb)])])).length 1 0 ((List.replicate n14 [(V.int .i32 0)])).length)] 0)])] (((((h5++[(HB.box 3 cs8)])++[(HB.box 1 [(V.ptr (h5).length 0)])])++[(HB.box 1 [(V.ptr s 0)])])++[(HB.box 1 [(V.sl 2 os osb)])])++[(HB.row 21 1 (List.replicate n14 [(V.int .i32 0)]) true)])) (fun r24 h25 =>
 (Zr r24 fun v27 =>
 (bd (ZR h25 (V.row (((((h5++[(HB.box 3 cs8)])++[(HB.box 1 [(V.ptr (h5).length 0)])])++[(HB.box 1 [(V.ptr s 0)])])++[(HB.box 1 [(V.sl 2 os osb)])])).length 1 0 ((List.replicate n14 [(V.int .i32 0)])).length)) fun p28 =>
 (zR n (Wy n s os osb h5 cs8 n14 v27 p28) [(V.sl 2 [] false),(V.int .i64 0)] h25)))) (fun z26 h25=>(bd2 (dcl n 179 [(V.ptr ((h5++[(HB.box 3 cs8)])).length 0),(V.ptr (((h5++[(HB.box 3 cs8)])++[(HB.box 1 [(V.ptr (h5).length 0)])])).length 0),(V.ptr ((((h5++[(HB.box 3 cs8)])++[(HB.box 1 [(V.ptr (h5).length 0)])])++[(HB.box 1 [(V.ptr s 0)])])).length 0)] h25 (some z26)) fun h49 b50=>if b50 then
 some (Res.ret [(V.row (h49).length 2 0 0)],(h49++[(HB.row 35 2 [] true)]))
 else
 some (Res.pan z26,h49))))) else none)) else none) else none))))) else none) else none))))))
theorem zjU(n:Nat)(s:Nat)(os:List (List V))(osb:Bool)(h:zd):call (n+1) 174 [(V.ptr s 0),(V.sl 2 os osb)] h=zjT n s os osb h:=by kernel_rfl
noncomputable def KO(n:Nat)(bs:Nat)(bo:Nat)(v9:V)(p10:Nat×List (List V))(st12:List V)(hh13:zd)(next14:List V->zd->Option (zd×Bool)):Option (zd×Bool) :=
 (bd (bop prog .lss 3 (gv st12 0) (V.int .i64 ((p10.2).length:Int))) fun v15 =>
 (bv v15 fun b16=>if b16 then
 (bdS (nv (gv st12 0)) fun n17 =>
 (bd (ZE 1 n17 v9) fun p18 =>
 (bd3 (zu hh13 p18) fun cs20 m19 o21=>if (o21+1<=m19/\0 < 1) then
 (bd (cs20)[o21]? fun v22 =>
 (bd3 (zu hh13 (V.ptr bs 0)) fun cs24 m23 o25=>if (o25+1<=m23/\0 < 1) then
 (bd (cs24)[o25]? fun v26 =>
 (bd3 (zu hh13 (V.ptr bo 0)) fun cs28 m27 o29=>if (o29+1<=m27/\0 < 1) then
 (bd (cs28)[o29]? fun v30 =>
 (bdS (nv v22) fun n31 =>
 (bd (ZE 2 n31 v30) fun p32 =>
 (bd (ZL 1 p32) fun p33 =>
 (bd3 (zu hh13 p33) fun cs35 m34 o36=>if (o36+1<=m34/\0 < 1) then
 (bd (cs35)[o36]? fun v37 =>
 (cl (call n 180 [v26,v37] hh13) (fun r38 h39 =>
 (Zr r38 fun v41 =>
 (bd (bop prog .add 3 (gv st12 0) (V.int .i64 1)) fun v42 =>
 (next14 [v42] h39)))) (fun z40 h39=>none))) else none))))) else none)) else none)) else none)))
 else
 some (hh13,false)))
noncomputable def zty(n:Nat)(b:Nat)(bs:Nat)(bo:Nat)(h:zd):Option (zd×Bool) :=
 (bd3 (zu h (V.ptr b 0)) fun cs1 m0 o2=>if (o2+1<=m0/\0 < 1) then
 (bd (cs1)[o2]? fun v3 =>
 (bd (ZL 0 v3) fun p4 =>
 (bd (ZL 0 p4) fun p5 =>
 (bd3 (zu h p5) fun cs7 m6 o8=>if (o8+1<=m6/\0 < 1) then
 (bd (cs7)[o8]? fun v9 =>
 (bd (ZR h v9) fun p10 =>
 (zR n (KO n bs bo v9 p10) [(V.int .i64 0)] h))) else none)))) else none)
theorem zq5(n:Nat)(b:Nat)(bs:Nat)(bo:Nat)(h:zd):dcl n 179 [(V.ptr b 0),(V.ptr bs 0),(V.ptr bo 0)] h none=zty n b bs bo h:=by kernel_rfl
end Go.Proofs.Tryz
set_option linter.unusedSimpArgs false
namespace Go.Sk
open Go.L
def Wl(x:Nat):List V:=[.int .i64 (x:Int)]
end Go.Sk
namespace Go.Proofs.Tryz
open Go.L Go.Rp Go.Sk
set_option maxRecDepth 100000
def MatAt(h:zd)(s:Nat)(sb:Option Nat)(u m:Nat)(xs:List Nat):Prop:=match sb with
 | none=>xs=[]/\h[s]?=some (.box 3 [.sl 0 [] true,.int .i64 (u:Int),.int .i64 (m:Int)])
 | some b=>b≠s/\∃ l z,h[s]?=some (.box 3 [.row b 1 0 xs.length,.int .i64 (u:Int),.int .i64 (m:Int)])/\h[b]?=some (.row 3 1 l z)/\xs.length<=l.length/\l.take xs.length=xs.map Wl
theorem MatAt.keep{h h':zd}{s:Nat}{sb:Option Nat}{u m:Nat}{xs:List Nat}(hb:MatAt h s sb u m xs)(hc:h'[s]?=h[s]?)(hk:∀ b,sb=some b->h'[b]?=h[b]?):MatAt h' s sb u m xs:=by
 cases sb with
 | none=>exact⟨hb.1,hc.trans hb.2⟩
 | some b =>
   obtain⟨h1,l,z,h2,h3,h4⟩:=hb;exact⟨h1,l,z,hc.trans h2,(hk b rfl).trans h3,h4⟩
theorem MatAt.box{h:zd}{s:Nat}{sb:Option Nat}{u m:Nat}{xs:List Nat}(hb:MatAt h s sb u m xs):∃ v sz,h[s]?=some (.box 3 [v,.int .i64 (u:Int),.int .i64 (m:Int)])/\ZR h v=some (sz,xs.map Wl):=by
 cases sb with
 | none =>
   obtain⟨rfl,hc⟩:=hb;exact⟨_,0,hc,ZW ..⟩
 | some b =>
   obtain⟨h1,l,z,h2,h3,h4,h5⟩:=hb;refine⟨_,1,h2,?_⟩;rw[Qx h3 (Ze _) h4,zO,h5]
theorem zfk(n:Nat){h:zd}{s:Nat}{sb:Option Nat}{u m:Nat}{xs:List Nat}(hb:MatAt h s sb u m xs)(i:Int)(hm:m<=u+xs.length)(hl:u+xs.length < lim):call (n+1) 186 [.ptr s 0,.int .i64 i] h=some (.ret [.bool false],h):=by
 obtain⟨v,sz,h1,h2⟩:=hb.box;refine(zer n s i h).trans ?_;unfold zht;rw[zC h1,zn,if_pos (by decide)];simp only[zb,zj,za];rw[zC h1,zn,if_pos (by decide)];simp only[zb,za];rw[h2,za,zH,za,zC h1,zn,if_pos (by decide)];simp only[zb,zj,za];rw[Z8,za,zm,zo,w64 (by omega) (by unfold lim at hl;omega),if_pos (by simp;omega)]
theorem zfl (n : Nat) {h : zd} {s : Nat} {sb : Option Nat} {u m : Nat} {xs : List Nat} (hb : MatAt h s sb u m xs) (i : Nat) (hm : u + xs.length < m) (hl : u + xs.length + 1 < lim) :
    ∃ h' sb',call (n+1) 186 [.ptr s 0,.int .i64 (i:Int)] h=some (.ret [.bool true],h')/\MatAt h' s sb' u m (xs++[i])/\Fed h h' s sb sb':=by
 rw[zer n s i h];unfold zht;obtain⟨v,sz,k1,k2⟩:=hb.box;rw[zC k1,zn,if_pos (by decide)];simp only[zb,zj,za];rw[zC k1,zn,if_pos (by decide)];simp only[zb,za];rw[k2,za,zH,za,zC k1,zn,if_pos (by decide)];simp only[zb,zj,za];rw[Z8,za,zm,zo,w64 (by omega) (by unfold lim at hl;omega),if_neg (by simp;omega),zn,if_pos (by decide)];simp only[zb,za];cases sb with
 | none =>
   obtain⟨rfl,hc⟩:=hb;have hcl:=zT hc;obtain rfl:v=.sl 0 [] true:=by rw[hc] at k1;simpa using k1.symm
   have Wr:WG 3 1 h [[.int .i64 (i:Int)]] (.sl 0 [] true)=some (.row h.length 1 0 1,h++[.row 3 1 [[.int .i64 (i:Int)]] true]):=rfl;simp only[Wr,Zf,V.cells,zD,zP,zq,if_true];have hc':(h++[HB.row 3 1 [[.int .i64 (i:Int)]] true])[s]?=some (.box 3 [.sl 0 [] true,.int .i64 (u:Int),.int .i64 (m:Int)]):=by rw[zk hcl];exact hc
   rw[ZV hc' (by simp),Zf];refine⟨_,some h.length,rfl,⟨by omega,[[.int .i64 (i:Int)]],true,?_,?_,?_,?_⟩,⟨by simp,fun j h1 h2 h3=>?_,fun b hb=>.inr (by cases hb;exact zl _)⟩⟩
   . rw[Xr (by simp;omega)];rfl
   . rw[ze (by omega)];exact zI
   . simp
   . simp[Wl]
   . rw[ze (by omega),zk h1]
 | some b =>
   obtain⟨h1,l,z,h2,h3,h4,h5⟩:=hb;have hcl:=zT h2;have hbl:=zT h3;obtain rfl:v=.row b 1 0 xs.length:=by rw[h2] at k1;simpa using k1.symm
   have Wr:WG 3 1 h [[.int .i64 (i:Int)]] (.row b 1 0 xs.length)=some (.row h.length 1 0 (xs.length+1),h.set b .dead++[.row 3 1 (xs.map Wl++[[.int .i64 (i:Int)]]) z]):=by
    simp only[WG,h3];rw[if_pos (by refine⟨⟨?_,?_,?_⟩,⟨by omega,h4⟩,by simp;omega⟩ <;> first|trivial|rfl),zO,h5];simp
   rw[Wr,Zf];simp only[V.cells,zD,zP,zq,if_true];have hc':(h.set b .dead++[HB.row 3 1 (xs.map Wl++[[.int .i64 (i:Int)]]) z])[s]?=some (.box 3 [.row b 1 0 xs.length,.int .i64 (u:Int),.int .i64 (m:Int)]):=by
    rw[zk (by simpa using hcl),ze h1];exact h2
   rw[ZV hc' (by simp),Zf];refine⟨_,some h.length,rfl,⟨by omega,xs.map Wl++[[.int .i64 (i:Int)]],z,?_,?_,?_,?_⟩,⟨by simp,fun j k1 k2 k3=>?_,fun b hb=>.inr (by cases hb;exact zl _)⟩⟩
   . rw[Xr (by simp;omega)];simp;rfl
   . rw[ze (by omega),zK (by simp)];simp
   . simp
   . simp[Wl,zN]
   . rw[ze (by omega),zk (by simpa using k1),ze (fun e=>k3 (by rw[e]))]
theorem zet(n:Nat){h:zd}{s:Nat}{sb:Option Nat}{m:Nat}{xs:List Nat}(hb:MatAt h s sb 0 m xs):call (n+1) 188 [.ptr s 0] h=some (.ret [.bool false],h):=by
 obtain⟨v,sz,h1,h2⟩:=hb.box;refine(zct n s h).trans ?_;unfold zes;rw[zC h1,zn,if_pos (by decide)];simp only[zb,zj,za];rw[Xv,za,zm,if_pos (by rfl)]
theorem zeu (n : Nat) {h : zd} {s : Nat} {sb : Option Nat} {u m : Nat} {xs : List Nat} (hb : MatAt h s sb (u + 1) m xs) (hu : u < lim) :
    ∃ h',call (n+1) 188 [.ptr s 0] h=some (.ret [.bool true],h')/\MatAt h' s sb u m xs/\h'.length=h.length/\∀ i,i≠s->h'[i]?=h[i]?:=by
 have hw:IntKind.i64.wrap (((u+1:Nat):Int) - 1)=(u:Int):=by unfold lim at hu;rw[w64] <;> omega
 rw[zct n s h];unfold zes;cases sb with
 | none =>
   obtain⟨rfl,hc⟩:=hb;rw[zC hc,zn,if_pos (by decide)];simp only[zb,zj,za];rw[Xv,za,zm,if_neg (by simp;omega),zn,if_pos (by decide)];simp only[zb,zj,za];rw[ZQ,za,hw,if_pos (by rfl),ZV hc (by simp[V.cells]),Zf];refine⟨_,rfl,⟨rfl,?_⟩,by rw[zt],fun i hi=>ze (Ne.symm hi)⟩;rw[Xr (zT hc)];rfl
 | some b =>
   obtain⟨h1,l,z,h2,h3,h4,h5⟩:=hb;rw[zC h2,zn,if_pos (by decide)];simp only[zb,zj,za];rw[Xv,za,zm,if_neg (by simp;omega),zn,if_pos (by decide)];simp only[zb,zj,za];rw[ZQ,za,hw,if_pos (by rfl),ZV h2 (by simp[V.cells]),Zf];refine⟨_,rfl,⟨h1,l,z,?_,?_,h4,h5⟩,by rw[zt],fun i hi=>ze (Ne.symm hi)⟩
   . rw[Xr (zT h2)];rfl
   . rw[ze (Ne.symm h1)];exact h3
theorem zhu(n:Nat){h:zd}{s:Nat}{sb:Option Nat}{u m:Nat}(hb:MatAt h s sb u m []):call (n+1) 187 [.ptr s 0] h=some (.ret [.int .i64 (-1),.bool false],h):=by
 obtain⟨v,sz,h1,h2⟩:=hb.box;refine(zgn n s h).trans ?_;unfold zl7;rw[zC h1,zn,if_pos (by decide)];simp only[zb,za];rw[h2,za,if_pos (by show decide (IntKind.i64.wrap (((0:Nat):Int) - 1) < 0)=true;decide)]
theorem zhv (n : Nat) {h : zd} {s : Nat} {sb : Option Nat} {u m : Nat} {xs : List Nat} {x : Nat} (hb : MatAt h s sb u m (xs ++ [x])) (hl : xs.length + 1 < lim) :
    ∃ h',call (n+1) 187 [.ptr s 0] h=some (.ret [.int .i64 (x:Int),.bool true],h')/\MatAt h' s sb u m xs/\h'.length=h.length/\∀ i,i≠s->h'[i]?=h[i]?:=by
 rw[zgn];unfold zl7;cases sb with
 | none=>exact absurd hb.1 (by simp)
 | some b =>
   obtain⟨h1,l,z,h2,h3,h4,h5⟩:=hb;rw[zE,ZM] at h2 h4 h5;have hcl:=zT h2;have hx:l[xs.length]?=some [.int .i64 (x:Int)]:=by
    have:=congrArg (fun t:List (List V)=>t[xs.length]?) h5;simpa[Wl,Zb] using this
   have hr:l.take xs.length=xs.map Wl:=by
    have:=congrArg (List.take xs.length) h5;rw[List.take_take,XT (by omega)] at this;rw[this,Zu,XO (by simp),zN (by simp)]
   have hw:IntKind.i64.wrap ((((l.take (xs.length+1)).drop 0).length:Int) - 1)=(xs.length:Int):=by
    rw[zO,h5];rw[show (((List.map Wl (xs++[x])).length:Int) - 1)=(xs.length:Int) by simp];unfold lim at hl;rw[w64] <;> omega
   have hn:nv (V.int .i64 (xs.length:Int))=some xs.length:=by simp[nv]
   rw[zC h2,zn,if_pos (by decide)];simp only[zb,za];rw[Qx h3 (Ze _) h4,za,hw,if_neg (by simp),zn,if_pos (by decide)];simp only[zb,za];rw[hn,zy,XR (by omega),za,zq,XD h3 (by decide) hx,zn,if_pos (by decide)];simp only[zb,za];rw[zn,if_pos (by decide)];simp only[zb,za];rw[YI,za,zy,J0 (Ze _) (by omega),za];simp only[V.cells,zD,zP,zq,if_true];rw[ZV h2 (by simp),Zf];refine⟨_,rfl,⟨h1,l,z,?_,?_,by omega,hr⟩,by rw[zt],fun i hi=>ze (Ne.symm hi)⟩
   . rw[Xr hcl];rfl
   . rw[ze (Ne.symm h1)];exact h3
theorem zjV (n : Nat) {h : zd} {bo r : Nat} {os : List O} {osb : Bool} {l : List (List V)} {z : Bool} {i j : Nat} (ho : h[bo]? = some (.box 1 [.sl 2 (os.map O.w) osb])) (hr : h[r]? = some (.row 21 1 l z)) (hl : ∀ es ∈ l, es.length = 1) (hi : i < l.length) (hj : j < os.length) :
    call (n+1) 182 [.int .i64 (i:Int),.int .i64 (j:Int),.ptr bo 0,.iptr 1 [.row r 1 0 l.length] 0] h=some (.ret [],h.set r (.row 21 1 (l.set i [.int .i32 os[j].v]) z)):=by
 refine(zq2 n _ _ bo r _ h).trans ?_;unfold ztw;have hx:l[i]?=some l[i]:=zg hi;have h1:l[i].length=1:=hl _ (Xd hi);rw[zC ho,zn,if_pos (by decide)];simp only[zb,za];rw[Za,zy,Xb (es:=O.w os[j]) (by rw[zG,zg hj];rfl),za];simp only[ZL,za];rw[Zl,zn,if_pos (by decide)];simp only[O.w,zq,zj,zb,za];rw[Za,zy,XR (by omega),za,zq];simp only[V.cells,zD,zP,zq,if_true];have hw:Zt h [V.int .i32 os[j].v] (.rptr r 1 i 0)=some (r,.row 21 1 (l.set i [.int .i32 os[j].v]) z):=by
  obtain⟨e,he⟩:∃ e,l[i]=[e]:=ZY.1 h1;simp[Zt,hr,hx,he,setR]
 rw[hw,Zf]
theorem zjW (n : Nat) {h : zd} {bs r s : Nat} {sb : Option Nat} {most : Int} {xs : List Int} {x : Int} {l : List (List V)} {z : Bool} {i : Nat} (hbs : h[bs]? = some (.box 1 [.ptr s 0])) (hs : StkAt h s sb most (xs ++ [x])) (hm : xs.length + 1 < lim) (hr : h[r]? = some (.row 21 1 l z)) (hrs : r ≠ s) (hrb : sb ≠ some r) (hl : ∀ es ∈ l, es.length = 1) (hi : i < l.length) :
    ∃ h',call (n+3) 183 [.int .i64 (i:Int),.ptr bs 0,.iptr 1 [.row r 1 0 l.length] 0] h=some (.ret [],h')/\StkAt h' s sb most xs/\h'[r]?=some (.row 21 1 (l.set i [.int .i32 x]) z)/\h'.length=h.length/\∀ j,j≠s->j≠r->h'[j]?=h[j]?:=by
 obtain⟨h1,e,b1,b2,b3⟩:=za7 n hs hm;have hr1:h1[r]?=some (.row 21 1 l z):=(b3 r hrs).trans hr;have hx:l[i]?=some l[i]:=zg hi;have hw:Zt h1 [V.int .i32 x] (.rptr r 1 i 0)=some (r,.row 21 1 (l.set i [.int .i32 x]) z):=by
  obtain⟨e,he⟩:∃ e,l[i]=[e]:=ZY.1 (hl _ (Xd hi));simp[Zt,hr1,hx,he,setR]
 rw[zq3];unfold ztx;rw[zC hbs,zn,if_pos (by decide)];simp only[zb,za];rw[e];simp only[clH,zb,zj,za];rw[Za,zy,XR (by omega),za,zq];simp only[V.cells,ixP,zD,zP,zq,if_true];rw[hw,Zf];refine⟨_,rfl,b1.keep (ze hrs) (fun b hb=>ze (fun e=>hrb (by rw[hb,e]))),Xr (zT hr1) _,by rw[zt];exact b2,fun j h2 h3=>?_⟩;rw[ze (Ne.symm h3)];exact b3 j h2
end Go.Proofs.Tryz
namespace Go.Proofs.Tryz
open Go.L
set_option maxRecDepth 100000
noncomputable def zq6(n:Nat)(x0:Int)(h:zd):Option (Res×zd) :=
 (bdS (nv (V.int .i64 (if 0 < (if 1000 < x0 then 1000 else x0) then(if 1000 < x0 then 1000 else x0) else 0))) fun n0 =>
 (bdS (nv (V.int .i64 (if 0 < (if 1000 < x0 then 1000 else x0) then(if 1000 < x0 then 1000 else x0) else 0))) fun n1 =>
 (if (n0<=n1/\n1 < lim/\1=1) then
 some (Res.ret [(V.ptr ((h++[(HB.row 21 1 (List.replicate n0 [(V.int .i32 0)]) true)])).length 0)],((h++[(HB.row 21 1 (List.replicate n0 [(V.int .i32 0)]) true)])++[(HB.box 3 [(V.row (h).length 1 0 ((List.replicate n0 [(V.int .i32 0)])).length),(V.int .i64 0),(V.int .i64 0)])])) else none)))
theorem zoW(n:Nat)(x0:Int)(h:zd):call (n+1) 59 [(V.int .i64 x0)] h=zq6 n x0 h:=by kernel_rfl
noncomputable def zar(n:Nat)(x3:Nat)(b:Nat)(z17:V)(h:zd):Option (Bool×zd) :=
 (lpR ((h)[b]?) fun cD cV cF cP cA cB =>
 (bd3 (zu ((h).set b (HB.loop cD cV cF cP cA cB .busy)) (V.ptr x3 0)) fun cs20 m19 o21=>if (o21+1<=m19/\0 < 1) then
 (bd (cs20)[o21]? fun v22 =>
 (bd (JY prog 27 1 [(0,z17)]) fun p23 =>
 (bd2 (WG 21 1 ((h).set b (HB.loop cD cV cF cP cA cB .busy)) p23.2 v22) fun v24 h25 =>
 (if ((V.cells v24)).length=1 then
 (bd2 (Zt h25 (V.cells v24) (V.ptr x3 0)) fun b26 x27 =>
 (lpB ((((h25).set b26 x27))[b]?) fun eD eV eF eP eA eB=>some (true,(((h25).set b26 x27)).set b (HB.loop eD eV eF eP eA eB .ready)))) else none)))) else none))
theorem zfm(n:Nat)(y0:Option V)(y2:Option V)(x3:Nat)(y5:Option V)(y6:Option V)(y7:Option V)(y8:Option V)(y9:Option V)(y10:Option V)(y11:Option V)(y12:Option V)(y13:Option V)(y14:Option V)(y15:Option V)(y16:Option V)(b:Nat)(z17:V)(h:zd):zbs prog (call n) X0 W1 n (L.textDraws prog) true [y0,none,y2,some (V.ptr x3 0),none,y5,y6,y7,y8,y9,y10,y11,y12,y13,y14,y15,y16,none,none,none,none,none,none] [17] (Yn (XB f191)) (Yo (XB f191)) b [z17] h=zar n x3 b z17 h:=by kernel_rfl
noncomputable def zjX(n:Nat)(s:Nat)(h:zd):Option (Res×zd) :=
 (bd (Qb prog h .eql 113 (V.ptr s 0) (V.val (.pointer none))) fun v0 =>
 (bv v0 fun b1=>if b1 then
 some (Res.ret [(V.row (h).length 1 0 0)],(h++[(HB.row 21 1 [] true)]))
 else
 (bd3 (zu h (V.ptr s 2)) fun cs3 m2 o4=>if (o4+1<=m2/\0 < 1) then
 (bd (cs3)[o4]? fun v5 =>
 (bdS (nv v5) fun n6 =>
 (if (0<=n6/\n6 < lim/\1=1) then
 (cl (call n 193 [(V.ptr s 0)] (h++[(HB.row 21 1 (List.replicate 0 [(V.int .i32 0)]) true)])) (fun r7 h8 =>
 (Zr r7 fun v10 =>
 (fnK v10 fun f11 c12=>if ((WW prog f11).isNone && (XX (Yn (XB f191)) && XX (Yo (XB f191))))=true then
 (clN (call n f11 ((V.yld ((((h8++[(HB.box 1 [(V.row (h).length 1 0 ((List.replicate 0 [(V.int .i32 0)])).length)])])++[(HB.row 21 1 [] true)])).length+1)) :: c12) (((h8++[(HB.box 1 [(V.row (h).length 1 0 ((List.replicate 0 [(V.int .i32 0)])).length)])])++[(HB.row 21 1 [] true)])++[HB.defb,HB.loop (((h8++[(HB.box 1 [(V.row (h).length 1 0 ((List.replicate 0 [(V.int .i32 0)])).length)])])++[(HB.row 21 1 [] true)])).length true [some (V.ptr s 0),none,some (V.row ((h8++[(HB.box 1 [(V.row (h).length 1 0 ((List.replicate 0 [(V.int .i32 0)])).length)])])).length 1 0 0),some (V.ptr (h8).length 0),none,some (V.ptr s 0),some (V.bool false),some (V.ptr s 0),some (V.ptr s 0),some (V.ptr s 0),some (V.ptr s 2),some v5,some (V.row (h).length 1 0 ((List.replicate 0 [(V.int .i32 0)])).length),some (V.ptr s 0),some (V.ptr s 0),some (V.ptr s 0),some v10,none,none,none,none,none,none] [17] (Yn (XB f191)) (Yo (XB f191)) .ready])) fun h14=>lpE ((h14)[((((h8++[(HB.box 1 [(V.row (h).length 1 0 ((List.replicate 0 [(V.int .i32 0)])).length)])])++[(HB.row 21 1 [] true)])).length+1)]?) (
 (bd3 (zu ((h14).set ((((h8++[(HB.box 1 [(V.row (h).length 1 0 ((List.replicate 0 [(V.int .i32 0)])).length)])])++[(HB.row 21 1 [] true)])).length+1) HB.dead) (V.ptr (h8).length 0)) fun cs16 m15 o17=>if (o17+1<=m15/\0 < 1) then
 (bd (cs16)[o17]? fun v18 =>
 (dfB ((((h14).set ((((h8++[(HB.box 1 [(V.row (h).length 1 0 ((List.replicate 0 [(V.int .i32 0)])).length)])])++[(HB.row 21 1 [] true)])).length+1) HB.dead))[(((h8++[(HB.box 1 [(V.row (h).length 1 0 ((List.replicate 0 [(V.int .i32 0)])).length)])])++[(HB.row 21 1 [] true)])).length]?) (
 some (Res.ret [v18],((((h14).set ((((h8++[(HB.box 1 [(V.row (h).length 1 0 ((List.replicate 0 [(V.int .i32 0)])).length)])])++[(HB.row 21 1 [] true)])).length+1) HB.dead)).set (((h8++[(HB.box 1 [(V.row (h).length 1 0 ((List.replicate 0 [(V.int .i32 0)])).length)])])++[(HB.row 21 1 [] true)])).length HB.dead))))) else none)) (
 (dfB ((((h14).set ((((h8++[(HB.box 1 [(V.row (h).length 1 0 ((List.replicate 0 [(V.int .i32 0)])).length)])])++[(HB.row 21 1 [] true)])).length+1) HB.dead))[(((h8++[(HB.box 1 [(V.row (h).length 1 0 ((List.replicate 0 [(V.int .i32 0)])).length)])])++[(HB.row 21 1 [] true)])).length]?) (
 some (Res.ret [(V.row ((h8++[(HB.box 1 [(V.row (h).length 1 0 ((List.replicate 0 [(V.int .i32 0)])).length)])])).length 1 0 0)],((((h14).set ((((h8++[(HB.box 1 [(V.row (h).length 1 0 ((List.replicate 0 [(V.int .i32 0)])).length)])])++[(HB.row 21 1 [] true)])).length+1) HB.dead)).set (((h8++[(HB.box 1 [(V.row (h).length 1 0 ((List.replicate 0 [(V.int .i32 0)])).length)])])++[(HB.row 21 1 [] true)])).length HB.dead)))))) else none))) (fun z9 h8=>some (Res.pan z9,h8))) else none))) else none)))
theorem zjY(n:Nat)(s:Nat)(h:zd):call (n+1) 191 [(V.ptr s 0)] h=zjX n s h:=by kernel_rfl
noncomputable def zq7(n:Nat)(s:Nat)(h:zd):Option (Res×zd) :=
 (bd (Qb prog h .eql 113 (V.ptr s 0) (V.val (.pointer none))) fun v0 =>
 (bv v0 fun b1=>if b1 then
 some (Res.ret [(V.int .i64 0)],h)
 else
 (bd3 (zu h (V.ptr s 2)) fun cs3 m2 o4=>if (o4+1<=m2/\0 < 1) then
 (bd (cs3)[o4]? fun v5 =>
 some (Res.ret [v5],h)) else none)))
theorem zoX(n:Nat)(s:Nat)(h:zd):call (n+1) 192 [(V.ptr s 0)] h=zq7 n s h:=by kernel_rfl
noncomputable def zno(n:Nat)(s:Nat)(h:zd):Option (Res×zd) :=
 (bd (Qb prog h .eql 113 (V.ptr s 0) (V.val (.pointer none))) fun v0 =>
 (bv v0 fun b1=>if b1 then
 some (Res.ret [(V.int .i64 0)],h)
 else
 (bd3 (zu h (V.ptr s 0)) fun cs3 m2 o4=>if (o4+1<=m2/\0 < 1) then
 (bd (cs3)[o4]? fun v5 =>
 (bd (ZR h v5) fun p6 =>
 some (Res.ret [(V.int .i64 ((p6.2).length:Int))],h))) else none)))
theorem zl8(n:Nat)(s:Nat)(h:zd):call (n+1) 202 [(V.ptr s 0)] h=zno n s h:=by kernel_rfl
noncomputable def ztz(n:Nat)(s:Nat)(c:Int)(x:Int)(h:zd):Option (Res×zd) :=
 (if (c == 1) then
 (cl (call n 205 [(V.ptr s 0),(V.int .i32 x)] h) (fun r0 h1 =>
 (Zr r0 fun v3 =>
 (cl (call n 209 [v3] h1) (fun r4 h5 =>
 (Zr r4 fun v7 =>
 (if ((V.cells v7)).length=2 then
 (if (((V.cells v7)).length<=2) then
 some (Res.ret [(V.agg (((setR [(V.int .u8 0),(V.int .i32 0)] 0 (V.cells v7))).drop 0 |>.take 2))],h5) else none) else none))) (fun z6 h5=>some (Res.pan z6,h5))))) (fun z2 h1=>some (Res.pan z2,h1)))
 else
 (if (c == 2) then
 (cl (call n 206 [(V.ptr s 0),(V.int .i32 x)] h) (fun r8 h9 =>
 (Zr r8 fun v11 =>
 (cl (call n 209 [v11] h9) (fun r12 h13 =>
 (Zr r12 fun v15 =>
 (if ((V.cells v15)).length=2 then
 (if (((V.cells v15)).length<=2) then
 some (Res.ret [(V.agg (((setR [(V.int .u8 0),(V.int .i32 0)] 0 (V.cells v15))).drop 0 |>.take 2))],h13) else none) else none))) (fun z14 h13=>some (Res.pan z14,h13))))) (fun z10 h9=>some (Res.pan z10,h9)))
 else
 (if (c == 3) then
 (cl (call n 203 [(V.ptr s 0)] h) (fun r16 h17 =>
 (bd (r16)[0]? fun v19 =>
 (bd (r16)[1]? fun v20 =>
 (cl (call n 210 [v19,v20] h17) (fun r21 h22 =>
 (Zr r21 fun v24 =>
 (if ((V.cells v24)).length=2 then
 (if (((V.cells v24)).length<=2) then
 some (Res.ret [(V.agg (((setR [(V.int .u8 0),(V.int .i32 0)] 0 (V.cells v24))).drop 0 |>.take 2))],h22) else none) else none))) (fun z23 h22=>some (Res.pan z23,h22)))))) (fun z18 h17=>some (Res.pan z18,h17)))
 else
 (if (c == 4) then
 (cl (call n 204 [(V.ptr s 0)] h) (fun r25 h26 =>
 (bd (r25)[0]? fun v28 =>
 (bd (r25)[1]? fun v29 =>
 (cl (call n 210 [v28,v29] h26) (fun r30 h31 =>
 (Zr r30 fun v33 =>
 (if ((V.cells v33)).length=2 then
 (if (((V.cells v33)).length<=2) then
 some (Res.ret [(V.agg (((setR [(V.int .u8 0),(V.int .i32 0)] 0 (V.cells v33))).drop 0 |>.take 2))],h31) else none) else none))) (fun z32 h31=>some (Res.pan z32,h31)))))) (fun z27 h26=>some (Res.pan z27,h26)))
 else
 some (Res.ret [(V.agg [(V.int .u8 5),(V.int .i32 0)])],h)))))
theorem zq8(n:Nat)(s:Nat)(c:Int)(x:Int)(h:zd):call (n+1) 201 [(V.ptr s 0),(V.agg [(V.int .u8 c),(V.int .i32 x)])] h=ztz n s c x h:=by kernel_rfl
noncomputable def zhw(n:Nat)(s:Nat)(h:zd):Option (Res×zd) :=
 (cl (call n 192 [(V.ptr s 0)] h) (fun r0 h1 =>
 (Zr r0 fun v3 =>
 (bd (bop prog .eql 3 v3 (V.int .i64 0)) fun v4 =>
 (bv v4 fun b5=>if b5 then
 some (Res.ret [(V.int .i32 0),(V.bool false)],h1)
 else
 (cl (call n 195 [(V.ptr s 0),(V.int .i64 0)] h1) (fun r6 h7 =>
 (Zr r6 fun v9 =>
 (bd (ZL 0 v9) fun p10 =>
 (bd3 (zu h7 p10) fun cs12 m11 o13=>if (o13+1<=m11/\0 < 1) then
 (bd (cs12)[o13]? fun v14 =>
 (cl (call n 211 [(V.ptr s 0),(V.int .i64 1)] h7) (fun r15 h16 =>
 (bd3 (zu h16 (V.ptr s 2)) fun cs19 m18 o20=>if (o20+1<=m18/\0 < 1) then
 (bd (cs19)[o20]? fun v21 =>
 (bd (bop prog .sub 3 v21 (V.int .i64 1)) fun v22 =>
 (if ((V.cells v22)).length=1 then
 (bd2 (Zt h16 (V.cells v22) (V.ptr s 2)) fun b23 x24 =>
 some (Res.ret [v14,(V.bool true)],((h16).set b23 x24))) else none))) else none)) (fun z17 h16=>some (Res.pan z17,h16)))) else none)))) (fun z8 h7=>some (Res.pan z8,h7))))))) (fun z2 h1=>some (Res.pan z2,h1)))
theorem zev(n:Nat)(s:Nat)(h:zd):call (n+1) 203 [(V.ptr s 0)] h=zhw n s h:=by kernel_rfl
noncomputable def zhx(n:Nat)(s:Nat)(h:zd):Option (Res×zd) :=
 (cl (call n 192 [(V.ptr s 0)] h) (fun r0 h1 =>
 (Zr r0 fun v3 =>
 (bd (bop prog .eql 3 v3 (V.int .i64 0)) fun v4 =>
 (bv v4 fun b5=>if b5 then
 some (Res.ret [(V.int .i32 0),(V.bool false)],h1)
 else
 (bd3 (zu h1 (V.ptr s 2)) fun cs7 m6 o8=>if (o8+1<=m6/\0 < 1) then
 (bd (cs7)[o8]? fun v9 =>
 (bd (bop prog .sub 3 v9 (V.int .i64 1)) fun v10 =>
 (if ((V.cells v10)).length=1 then
 (bd2 (Zt h1 (V.cells v10) (V.ptr s 2)) fun b11 x12 =>
 (bd3 (zu ((h1).set b11 x12) (V.ptr s 2)) fun cs14 m13 o15=>if (o15+1<=m13/\0 < 1) then
 (bd (cs14)[o15]? fun v16 =>
 (clH (call n 195 [(V.ptr s 0),v16] ((h1).set b11 x12)) fun r17 h18 =>
 (Zr r17 fun v20 =>
 (bd (ZL 0 v20) fun p21 =>
 (bd3 (zu h18 p21) fun cs23 m22 o24=>if (o24+1<=m22/\0 < 1) then
 (bd (cs23)[o24]? fun v25 =>
 some (Res.ret [v25,(V.bool true)],h18)) else none))))) else none)) else none))) else none))))) (fun z2 h1=>some (Res.pan z2,h1)))
theorem zew(n:Nat)(s:Nat)(h:zd):call (n+1) 204 [(V.ptr s 0)] h=zhx n s h:=by kernel_rfl
noncomputable def zex(n:Nat)(s:Nat)(x:Int)(h:zd):Option (Res×zd) :=
 (cl (call n 192 [(V.ptr s 0)] h) (fun r0 h1 =>
 (Zr r0 fun v3 =>
 (cl (call n 202 [(V.ptr s 0)] h1) (fun r4 h5 =>
 (Zr r4 fun v7 =>
 (bd (bop prog .geq 3 v3 v7) fun v8 =>
 (bv v8 fun b9=>if b9 then
 some (Res.ret [(V.bool false)],h5)
 else
 (cl (call n 211 [(V.ptr s 0),(V.int .i64 (-1))] h5) (fun r10 h11 =>
 (cl (call n 195 [(V.ptr s 0),(V.int .i64 0)] h11) (fun r13 h14 =>
 (Zr r13 fun v16 =>
 (bd (ZL 0 v16) fun p17 =>
 (bd2 (Zt h14 [(V.int .i32 x)] p17) fun b18 x19 =>
 (bd3 (zu ((h14).set b18 x19) (V.ptr s 2)) fun cs21 m20 o22=>if (o22+1<=m20/\0 < 1) then
 (bd (cs21)[o22]? fun v23 =>
 (bd (bop prog .add 3 v23 (V.int .i64 1)) fun v24 =>
 (if ((V.cells v24)).length=1 then
 (bd2 (Zt ((h14).set b18 x19) (V.cells v24) (V.ptr s 2)) fun b25 x26 =>
 some (Res.ret [(V.bool true)],((((h14).set b18 x19)).set b25 x26))) else none))) else none))))) (fun z15 h14=>some (Res.pan z15,h14)))) (fun z12 h11=>some (Res.pan z12,h11))))))) (fun z6 h5=>some (Res.pan z6,h5))))) (fun z2 h1=>some (Res.pan z2,h1)))
theorem zcu(n:Nat)(s:Nat)(x:Int)(h:zd):call (n+1) 205 [(V.ptr s 0),(V.int .i32 x)] h=zex n s x h:=by kernel_rfl
noncomputable def zey(n:Nat)(s:Nat)(x:Int)(h:zd):Option (Res×zd) :=
 (cl (call n 192 [(V.ptr s 0)] h) (fun r0 h1 =>
 (Zr r0 fun v3 =>
 (cl (call n 202 [(V.ptr s 0)] h1) (fun r4 h5 =>
 (Zr r4 fun v7 =>
 (bd (bop prog .geq 3 v3 v7) fun v8 =>
 (bv v8 fun b9=>if b9 then
 some (Res.ret [(V.bool false)],h5)
 else
 (bd3 (zu h5 (V.ptr s 2)) fun cs11 m10 o12=>if (o12+1<=m10/\0 < 1) then
 (bd (cs11)[o12]? fun v13 =>
 (clH (call n 195 [(V.ptr s 0),v13] h5) fun r14 h15 =>
 (Zr r14 fun v17 =>
 (bd (ZL 0 v17) fun p18 =>
 (bd2 (Zt h15 [(V.int .i32 x)] p18) fun b19 x20 =>
 (bd3 (zu ((h15).set b19 x20) (V.ptr s 2)) fun cs22 m21 o23=>if (o23+1<=m21/\0 < 1) then
 (bd (cs22)[o23]? fun v24 =>
 (bd (bop prog .add 3 v24 (V.int .i64 1)) fun v25 =>
 (if ((V.cells v25)).length=1 then
 (bd2 (Zt ((h15).set b19 x20) (V.cells v25) (V.ptr s 2)) fun b26 x27 =>
 some (Res.ret [(V.bool true)],((((h15).set b19 x20)).set b26 x27))) else none))) else none)))))) else none))))) (fun z6 h5=>some (Res.pan z6,h5))))) (fun z2 h1=>some (Res.pan z2,h1)))
theorem zcv(n:Nat)(s:Nat)(x:Int)(h:zd):call (n+1) 206 [(V.ptr s 0),(V.int .i32 x)] h=zey n s x h:=by kernel_rfl
noncomputable def zq9(n:Nat)(s:Nat)(h:zd):Option (Res×zd) :=
 some (Res.ret [(V.fn 194 [(V.ptr (h).length 0)])],(h++[(HB.box 1 [(V.ptr s 0)])]))
theorem zoY(n:Nat)(s:Nat)(h:zd):call (n+1) 193 [(V.ptr s 0)] h=zq9 n s h:=by kernel_rfl
noncomputable def W4(n:Nat)(y:Nat)(b:Nat)(v9:V)(st11:List V)(hh12:zd)(next13:List V->zd->Option (Res×zd)):Option (Res×zd) :=
 (bd (bop prog .lss 3 (gv st11 0) v9) fun v14 =>
 (bv v14 fun b15=>if b15 then
 (bd3 (zu hh12 (V.ptr b 0)) fun cs17 m16 o18=>if (o18+1<=m16/\0 < 1) then
 (bd (cs17)[o18]? fun v19 =>
 (cl (call n 195 [v19,(gv st11 0)] hh12) (fun r20 h21 =>
 (Zr r20 fun v23 =>
 (bd (ZL 0 v23) fun p24 =>
 (bd3 (zu h21 p24) fun cs26 m25 o27=>if (o27+1<=m25/\0 < 1) then
 (bd (cs26)[o27]? fun v28 =>
 (bd2 (rnd n y [v28] h21) fun t29 h30 =>
 (if (!t29) then
 some (Res.ret [],h30)
 else
 (bd (bop prog .add 3 (gv st11 0) (V.int .i64 1)) fun v31 =>
 (next13 [v31] h30))))) else none)))) (fun z22 h21=>some (Res.pan z22,h21)))) else none)
 else
 some (Res.ret [],hh12)))
noncomputable def znp(n:Nat)(y:Nat)(b:Nat)(h:zd):Option (Res×zd) :=
 (bd3 (zu h (V.ptr b 0)) fun cs1 m0 o2=>if (o2+1<=m0/\0 < 1) then
 (bd (cs1)[o2]? fun v3 =>
 (bd (ZL 0 v3) fun p4 =>
 (bd (ZL 2 p4) fun p5 =>
 (bd3 (zu h p5) fun cs7 m6 o8=>if (o8+1<=m6/\0 < 1) then
 (bd (cs7)[o8]? fun v9 =>
 (zR n (W4 n y b v9) [(V.int .i64 0)] h)) else none)))) else none)
theorem zl9(n:Nat)(y:Nat)(b:Nat)(h:zd):call (n+1) 194 [(V.yld y),(V.ptr b 0)] h=znp n y b h:=by kernel_rfl
noncomputable def ztA(n:Nat)(s:Nat)(i:Int)(h:zd):Option (Res×zd) :=
 (bd3 (zu h (V.ptr s 0)) fun cs1 m0 o2=>if (o2+1<=m0/\0 < 1) then
 (bd (cs1)[o2]? fun v3 =>
 (bd3 (zu h (V.ptr s 1)) fun cs5 m4 o6=>if (o6+1<=m4/\0 < 1) then
 (bd (cs5)[o6]? fun v7 =>
 (bd (bop prog .add 3 v7 (V.int .i64 i)) fun v8 =>
 (bd3 (zu h (V.ptr s 0)) fun cs10 m9 o11=>if (o11+1<=m9/\0 < 1) then
 (bd (cs10)[o11]? fun v12 =>
 (bd (ZR h v12) fun p13 =>
 (bd (bop prog .add 3 v8 (V.int .i64 ((p13.2).length:Int))) fun v14 =>
 (bd3 (zu h (V.ptr s 0)) fun cs16 m15 o17=>if (o17+1<=m15/\0 < 1) then
 (bd (cs16)[o17]? fun v18 =>
 (bd (ZR h v18) fun p19 =>
 (bd (bop prog .rem 3 v14 (V.int .i64 ((p19.2).length:Int))) fun v20 =>
 (bdS (nv v20) fun n21 =>
 (bd (ZE 1 n21 v3) fun p22 =>
 some (Res.ret [(zpm v3 p22)],h)))))) else none)))) else none))) else none)) else none)
theorem zra(n:Nat)(s:Nat)(i:Int)(h:zd):call (n+1) 195 [(V.ptr s 0),(V.int .i64 i)] h=ztA n s i h:=by kernel_rfl
noncomputable def znq(n:Nat)(s:Nat)(i:Int)(h:zd):Option (Res×zd) :=
 (bd3 (zu h (V.ptr s 1)) fun cs1 m0 o2=>if (o2+1<=m0/\0 < 1) then
 (bd (cs1)[o2]? fun v3 =>
 (bd (bop prog .add 3 v3 (V.int .i64 i)) fun v4 =>
 (bd3 (zu h (V.ptr s 0)) fun cs6 m5 o7=>if (o7+1<=m5/\0 < 1) then
 (bd (cs6)[o7]? fun v8 =>
 (bd (ZR h v8) fun p9 =>
 (bd (bop prog .add 3 v4 (V.int .i64 ((p9.2).length:Int))) fun v10 =>
 (bd3 (zu h (V.ptr s 0)) fun cs12 m11 o13=>if (o13+1<=m11/\0 < 1) then
 (bd (cs12)[o13]? fun v14 =>
 (bd (ZR h v14) fun p15 =>
 (bd (bop prog .rem 3 v10 (V.int .i64 ((p15.2).length:Int))) fun v16 =>
 (if ((V.cells v16)).length=1 then
 (bd2 (Zt h (V.cells v16) (V.ptr s 1)) fun b17 x18 =>
 some (Res.ret [],((h).set b17 x18))) else none)))) else none)))) else none))) else none)
theorem zma(n:Nat)(s:Nat)(i:Int)(h:zd):call (n+1) 211 [(V.ptr s 0),(V.int .i64 i)] h=znq n s i h:=by kernel_rfl
noncomputable def zgo(n:Nat)(x0:Bool)(h:zd):Option (Res×zd) :=
 (if x0 then
 some (Res.ret [(V.agg [(V.int .u8 1),(V.int .i32 0)])],h)
 else
 some (Res.ret [(V.agg [(V.int .u8 3),(V.int .i32 0)])],h))
theorem zhy(n:Nat)(x0:Bool)(h:zd):call (n+1) 209 [(V.bool x0)] h=zgo n x0 h:=by kernel_rfl
noncomputable def zgp(n:Nat)(x0:Int)(x1:Bool)(h:zd):Option (Res×zd) :=
 (if x1 then
 some (Res.ret [(V.agg [(V.int .u8 2),(V.int .i32 x0)])],h)
 else
 some (Res.ret [(V.agg [(V.int .u8 4),(V.int .i32 0)])],h))
theorem zhz(n:Nat)(x0:Int)(x1:Bool)(h:zd):call (n+1) 210 [(V.int .i32 x0),(V.bool x1)] h=zgp n x0 x1 h:=by kernel_rfl
end Go.Proofs.Tryz
namespace Go.Sk
open Go.L
def ZF(most:Int)(c x:Int)(xs:List Int):(Int×Int)×List Int :=
 if c=1 then(if (xs.length:Int) < most then((1,0),x :: xs) else((3,0),xs))
 else if c=2 then(if (xs.length:Int) < most then((1,0),xs++[x]) else((3,0),xs))
 else if c=3 then(match xs with|y :: r=>((2,y),r)|[]=>((4,0),xs))
 else if c=4 then(match xs.getLast? with|some y=>((2,y),xs.dropLast)|none=>((4,0),xs))
 else((5,0),xs)
theorem zrb{f c i:Nat}(hc:0 < c):((f+1) % c+i) % c=(f+(i+1)) % c:=by
 rw[Nat.mod_add_mod];congr 1;omega
theorem zrc{f c i:Nat}(hc:0 < c)(hf:f < c):((f+c - 1) % c+(i+1)) % c=(f+i) % c:=by
 rw[Nat.mod_add_mod,show f+c - 1+(i+1)=f+i+c by omega,Nat.add_mod_right]
theorem zrd{f c i j:Nat}(hi:i < c)(hj:j < c)(h:i≠j):(f+i) % c≠(f+j) % c:=by
 intro e;have h1:=Nat.div_add_mod (f+i) c;have h2:=Nat.div_add_mod (f+j) c;rw[e] at h1;have h3:c * ((f+i) / c)+j=c * ((f+j) / c)+i:=by omega
 rcases Nat.lt_trichotomy ((f+i) / c) ((f+j) / c) with hlt|heq|hgt
 . have:c * ((f+i) / c+1)<=c * ((f+j) / c):=Nat.mul_le_mul_left c hlt;rw[Nat.mul_add] at this;omega
 . rw[heq] at h3;omega
 . have:c * ((f+j) / c+1)<=c * ((f+i) / c):=Nat.mul_le_mul_left c hgt;rw[Nat.mul_add] at this;omega
end Go.Sk
namespace Go.Proofs.Tryz
open Go.L Go.Rp Go.Sk
set_option maxRecDepth 100000
def RngAt(h:zd)(s b:Nat)(c:Nat)(xs:List Int):Prop :=
 b≠s/\∃ l z f,h[s]?=some (.box 3 [.row b 1 0 c,.int .i64 ((f:Nat):Int),.int .i64 (xs.length:Int)])/\h[b]?=some (.row 21 1 l z)/\l.length=c/\(f < c\/(c=0/\f=0))/\xs.length<=c/\(∀ i (hi:i < xs.length),l[(f+i) % c]?=some (Yq xs[i]))/\∀ es∈l,es.length=1
theorem RngAt.keep{h h':zd}{s b c:Nat}{xs:List Int}(hb:RngAt h s b c xs)(h1:h'[s]?=h[s]?)(h2:h'[b]?=h[b]?):RngAt h' s b c xs:=by
 obtain⟨k,l,z,f,e1,e2,e3⟩:=hb;exact⟨k,l,z,f,h1.trans e1,h2.trans e2,e3⟩
theorem Y3(h:zd)(c:Nat):Qb prog h .eql 113 (V.ptr c 0) (V.val (.pointer none))=some (.bool false):=by kernel_rfl
theorem zcw{a b:Nat}(h:b≠0):bop prog .rem 3 (.int .i64 (a:Int)) (.int .i64 (b:Int))=some (.int .i64 ((a % b:Nat):Int)):=by
 have:bop prog .rem 3 (.int .i64 (a:Int)) (.int .i64 (b:Int))=if (b:Int)=0 then none else some (.int .i64 ((a:Int).tmod b)):=by kernel_rfl
 rw[this,if_neg (by omega)];rfl
theorem Qm(n:Nat){h:zd}{s b c:Nat}{xs:List Int}(hb:RngAt h s b c xs):call (n+1) 192 [.ptr s 0] h=some (.ret [.int .i64 (xs.length:Int)],h):=by
 obtain⟨k,l,z,f,e1,e2,e3,e4,e5,e6,e7⟩:=hb;refine(zoX n s h).trans ?_;unfold zq7;rw[Y3,za,zm,if_neg (by decide),zC e1,zn,if_pos (by decide)];rfl
theorem JV(n:Nat){h:zd}{s b c:Nat}{xs:List Int}(hb:RngAt h s b c xs):call (n+1) 202 [.ptr s 0] h=some (.ret [.int .i64 (c:Int)],h):=by
 obtain⟨k,l,z,f,e1,e2,e3,e4,e5,e6,e7⟩:=hb;refine(zl8 n s h).trans ?_;unfold zno;rw[Y3,za,zm,if_neg (by decide),zC e1,zn,if_pos (by decide)];simp only[zb,za];rw[Qx e2 (Ze _) (by omega),za];simp[e3]
theorem W5 (n : Nat) {h : zd} {s b c f m : Nat} {l : List (List V)} {z : Bool} {w : V} (e1 : h[s]? = some (.box 3 [.row b 1 0 c, .int .i64 (f : Int), w])) (e2 : h[b]? = some (.row 21 1 l z)) (e3 : l.length = c) (hf : f < c) (hm : m <= c) (hc : c < 100000) :
    call (n+1) 195 [.ptr s 0,.int .i64 (m:Int)] h=some (.ret [.rptr b 1 ((f+m) % c) 0],h):=by
 refine(zra n s _ h).trans ?_;unfold ztA;rw[zC e1,zn,if_pos (by decide)];simp only[zb,za];rw[zC e1,zn,if_pos (by decide)];simp only[zb,zj,za];rw[zH,za,zn,if_pos (by decide)];simp only[zb,za];rw[Qx e2 (Ze _) (by omega),za,zH,za,zn,if_pos (by decide)];simp only[zb,za];have hl:((l.take c).drop 0).length=c:=by simp[e3]
 rw[Qx e2 (Ze _) (by omega),za,hl,w64 (n:=(f:Int)+(m:Int)) (by omega) (by omega),w64 (by omega) (by omega),show ((f:Int)+(m:Int)+(c:Int))=((f+m+c:Nat):Int) by omega,zcw (by omega),za,Za,zy,Nat.add_mod_right];have hlt:(f+m) % c < c:=Nat.mod_lt _ (by omega);rw[XR (by omega),za,zq];rfl
theorem qT (n : Nat) {h : zd} {s b c f y : Nat} {i : Int} {l : List (List V)} {z : Bool} {w : V} (e1 : h[s]? = some (.box 3 [.row b 1 0 c, .int .i64 (f : Int), w])) (e2 : h[b]? = some (.row 21 1 l z)) (e3 : l.length = c) (hf : f < c) (hy : (f : Int) + i + c = (y : Int)) (hi : -10 <= i /\ i <= 10) (hc : c < 100000) :
    call (n+1) 211 [.ptr s 0,.int .i64 i] h=some (.ret [],h.set s (.box 3 [.row b 1 0 c,.int .i64 ((y % c:Nat):Int),w])):=by
 refine(zma n s _ h).trans ?_;unfold znq;rw[zC e1,zn,if_pos (by decide)];simp only[zb,zj,za];rw[zH,za,zC e1,zn,if_pos (by decide)];simp only[zb,za];rw[Qx e2 (Ze _) (by omega),za,zH,za,zn,if_pos (by decide)];simp only[zb,za];have hl:((l.take c).drop 0).length=c:=by simp[e3]
 rw[Qx e2 (Ze _) (by omega),za,hl,w64 (n:=(f:Int)+i) (by omega) (by omega),w64 (by omega) (by omega),hy,zcw (by omega),za,if_pos (by rfl),ZV e1 (by simp[V.cells]),Zf];rfl
theorem zez(n:Nat){h:zd}{s b c:Nat}{xs:List Int}(hb:RngAt h s b c xs)(x:Int)(hm:c<=xs.length):call (n+2) 205 [.ptr s 0,.int .i32 x] h=some (.ret [.bool false],h):=by
 refine(zcu (n+1) s x h).trans ?_;unfold zex;rw[Qm n hb,zM,zx,JV n hb,zM,zx,Z8,za,zm,if_pos (by simp;omega)]
theorem zeA(n:Nat){h:zd}{s b c:Nat}{xs:List Int}(hb:RngAt h s b c xs)(x:Int)(hm:c<=xs.length):call (n+2) 206 [.ptr s 0,.int .i32 x] h=some (.ret [.bool false],h):=by
 refine(zcv (n+1) s x h).trans ?_;unfold zey;rw[Qm n hb,zM,zx,JV n hb,zM,zx,Z8,za,zm,if_pos (by simp;omega)]
theorem zfn(n:Nat){h:zd}{s b c:Nat}(hb:RngAt h s b c []):call (n+2) 203 [.ptr s 0] h=some (.ret [.int .i32 0,.bool false],h):=by
 refine(zev (n+1) s h).trans ?_;unfold zhw;rw[Qm n hb,zM,zx,Xv,za,zm,if_pos (by rfl)]
theorem zfo(n:Nat){h:zd}{s b c:Nat}(hb:RngAt h s b c []):call (n+2) 204 [.ptr s 0] h=some (.ret [.int .i32 0,.bool false],h):=by
 refine(zew (n+1) s h).trans ?_;unfold zhx;rw[Qm n hb,zM,zx,Xv,za,zm,if_pos (by rfl)]
structure RFed(h h':zd)(s b:Nat):Prop where
 len:h'.length=h.length
 old:∀ i,i≠s->i≠b->h'[i]?=h[i]?
theorem RFed.refl(h:zd)(s b:Nat):RFed h h s b:=⟨rfl,fun _ _ _=>rfl⟩
theorem RFed.trans{h h' h'':zd}{s b:Nat}(x:RFed h h' s b)(y:RFed h' h'' s b):RFed h h'' s b:=⟨y.len.trans x.len,fun i h1 h2=>(y.old i h1 h2).trans (x.old i h1 h2)⟩
theorem j9 (n : Nat) {h : zd} {s b c : Nat} {xs : List Int} (hb : RngAt h s b c xs) (x : Int) (hm : xs.length < c) (hc : c < 100000) :
    ∃ h',call (n+2) 205 [.ptr s 0,.int .i32 x] h=some (.ret [.bool true],h')/\RngAt h' s b c (x :: xs)/\RFed h h' s b:=by
 have hb0:=hb;obtain⟨k,l,z,f,e1,e2,e3,e4,e5,e6,e7⟩:=hb;have hf:f < c:=by omega
 have hcl:=zT e1;have hbl:=zT e2;rw[show n+2=(n+1)+1 from rfl,zcu];unfold zex;rw[Qm n hb0,zM,zx,JV n hb0,zM,zx,Z8,za,zm,if_neg (by simp;omega)];have hy:(f:Int)+(-1)+c=((f+c - 1:Nat):Int):=by omega
 rw[qT n e1 e2 e3 hf hy (by omega) hc,zM];have hg:(f+c - 1) % c < c:=Nat.mod_lt _ (by omega);generalize hgd:(f+c - 1) % c=g at hg ⊢;have m1:(h.set s (HB.box 3 [V.row b 1 0 c,V.int .i64 (g:Int),V.int .i64 (xs.length:Int)]))[s]?=some (.box 3 [V.row b 1 0 c,V.int .i64 (g:Int),V.int .i64 (xs.length:Int)]):=Xr hcl _;have m2:(h.set s (HB.box 3 [V.row b 1 0 c,V.int .i64 (g:Int),V.int .i64 (xs.length:Int)]))[b]?=some (.row 21 1 l z):=by rw[ze (Ne.symm k)];exact e2
 have hgl:g < l.length:=by omega
 have ea:=W5 n (m:=0) m1 m2 e3 hg (by omega) hc;rw[show (g+0) % c=g by rw[zW];exact Nat.mod_eq_of_lt hg] at ea;have hx:l[g]?=some l[g]:=zg hgl;rw[show ((0:Nat):Int)=0 from rfl] at ea;rw[ea,zM,zx];simp only[ZL,za,zW];rw[Wc m2 (by decide) (by simp) hx,Zf];have m3:((h.set s (HB.box 3 [V.row b 1 0 c,V.int .i64 (g:Int),V.int .i64 (xs.length:Int)])).set b (.row 21 1 (l.set g (setR l[g] 0 [V.int .i32 x])) z))[s]?=some (.box 3 [V.row b 1 0 c,V.int .i64 (g:Int),V.int .i64 (xs.length:Int)]):=by rw[ze k];exact m1
 rw[zC m3,zn,if_pos (by decide)];simp only[zb,zj,za];rw[zH,za,w64 (by omega) (by omega)];simp only[V.cells,zD,zP,zq,if_true];rw[ZV m3 (by simp),Zf];have hone:setR l[g] 0 [V.int .i32 x]=Yq x:=by
  obtain⟨e,he⟩:∃ e,l[g]=[e]:=ZY.1 (e7 _ (Xd hgl));rw[he];rfl
 refine⟨_,rfl,⟨k,l.set g (Yq x),z,g,?_,?_,by simpa using e3,.inl hg,by simp;omega,?_,?_⟩,⟨by simp,fun i h1 h2=>?_⟩⟩
 . rw[Xr (by simpa using hcl)];simp[setR]
 . rw[ze (Ne.symm k),Xr (by simpa using hbl),hone]
 . intro i hi;cases i with
   | zero =>
     rw[zW,Nat.mod_eq_of_lt hg,Zz hgl];rfl
   | succ j =>
     have hj:j < xs.length:=by simpa using hi
     have q1:(g+(j+1)) % c=(f+j) % c:=by rw[<- hgd];exact zrc (by omega) hf
     have q2:(f+j) % c≠g:=by rw[<- hgd,show f+c - 1=f+(c - 1) by omega];exact zrd (by omega) (by omega) (by omega)
     rw[q1,ze (Ne.symm q2),e6 j hj];rfl
 . intro es hes;rcases XL hes with h1|rfl
   . exact e7 es h1
   . rfl
 . rw[ze (Ne.symm h1),ze (Ne.symm h2),ze (Ne.symm h1)]
theorem qa (n : Nat) {h : zd} {s b c : Nat} {xs : List Int} (hb : RngAt h s b c xs) (x : Int) (hm : xs.length < c) (hc : c < 100000) :
    ∃ h',call (n+2) 206 [.ptr s 0,.int .i32 x] h=some (.ret [.bool true],h')/\RngAt h' s b c (xs++[x])/\RFed h h' s b:=by
 have hb0:=hb;obtain⟨k,l,z,f,e1,e2,e3,e4,e5,e6,e7⟩:=hb;have hf:f < c:=by omega
 have hcl:=zT e1;have hbl:=zT e2;rw[show n+2=(n+1)+1 from rfl,zcv];unfold zey;rw[Qm n hb0,zM,zx,JV n hb0,zM,zx,Z8,za,zm,if_neg (by simp;omega),zC e1,zn,if_pos (by decide)];simp only[zb,zj,za];have hg:(f+xs.length) % c < c:=Nat.mod_lt _ (by omega);rw[W5 n e1 e2 e3 hf e5 hc];generalize hgd:(f+xs.length) % c=g at hg ⊢;have hgl:g < l.length:=by omega
 have hx:l[g]?=some l[g]:=zg hgl;simp only[clH,ZL,za,zW];rw[zx,za,Wc e2 (by decide) (by simp) hx,Zf];have m3:(h.set b (.row 21 1 (l.set g (setR l[g] 0 [V.int .i32 x])) z))[s]?=some (.box 3 [V.row b 1 0 c,V.int .i64 (f:Int),V.int .i64 (xs.length:Int)]):=by rw[ze k];exact e1
 rw[zC m3,zn,if_pos (by decide)];simp only[zb,zj,za];rw[zH,za,w64 (by omega) (by omega)];simp only[V.cells,zD,zP,zq,if_true];rw[ZV m3 (by simp),Zf];have hone:setR l[g] 0 [V.int .i32 x]=Yq x:=by
  obtain⟨e,he⟩:∃ e,l[g]=[e]:=ZY.1 (e7 _ (Xd hgl));rw[he];rfl
 refine⟨_,rfl,⟨k,l.set g (Yq x),z,f,?_,?_,by simpa using e3,.inl hf,by simp;omega,?_,?_⟩,⟨by simp,fun i h1 h2=>?_⟩⟩
 . rw[Xr (by simpa using hcl)];simp[setR]
 . rw[ze (Ne.symm k),Xr (by simpa using hbl),hone]
 . intro i hi;rw[zE,ZM] at hi;rcases ZX i xs.length with h1|h1
   . have q2:(f+i) % c≠g:=by rw[<- hgd];exact zrd (by omega) (by omega) (by omega)
     rw[ze (Ne.symm q2),e6 i h1,List.getElem_append_left h1]
   . obtain rfl:i=xs.length:=by omega
     rw[hgd,Zz hgl];simp
 . intro es hes;rcases XL hes with h1|rfl
   . exact e7 es h1
   . rfl
 . rw[ze (Ne.symm h1),ze (Ne.symm h2)]
theorem qU (n : Nat) {h : zd} {s b c : Nat} {x : Int} {xs : List Int} (hb : RngAt h s b c (x :: xs)) (hc : c < 100000) :
    ∃ h',call (n+2) 203 [.ptr s 0] h=some (.ret [.int .i32 x,.bool true],h')/\RngAt h' s b c xs/\RFed h h' s b:=by
 have hb0:=hb;obtain⟨k,l,z,f,e1,e2,e3,e4,e5,e6,e7⟩:=hb;simp only[zD] at e1 e5 e6;have hf:f < c:=by omega
 have hcl:=zT e1;have hbl:=zT e2;rw[show n+2=(n+1)+1 from rfl,zev];unfold zhw;rw[Qm n hb0,zM,zx,Xv,za,zm,if_neg (by simp;omega)];have ea:=W5 n (m:=0) e1 e2 e3 hf (by omega) hc;rw[show ((0:Nat):Int)=0 from rfl] at ea;rw[ea,zM,zx];simp only[ZL,za,zW];have h0:=e6 0 (by omega);rw[zW] at h0;rw[XD e2 (by decide) h0,zn,if_pos (by decide)];simp only[Yq,zb,za,List.getElem_cons_zero];have hy:(f:Int)+1+c=((f+1+c:Nat):Int):=by omega
 rw[qT n e1 e2 e3 hf hy (by omega) hc,zM,Nat.add_mod_right];have hg:(f+1) % c < c:=Nat.mod_lt _ (by omega);generalize hgd:(f+1) % c=g at hg ⊢;have m1:(h.set s (HB.box 3 [V.row b 1 0 c,V.int .i64 (g:Int),V.int .i64 ((xs.length+1:Nat):Int)]))[s]?=some (.box 3 [V.row b 1 0 c,V.int .i64 (g:Int),V.int .i64 ((xs.length+1:Nat):Int)]):=Xr hcl _;rw[zC m1,zn,if_pos (by decide)];simp only[zb,zj,za];rw[ZQ,za,w64 (by omega) (by omega)];simp only[V.cells,zD,zP,zq,if_true];rw[ZV m1 (by simp),Zf];refine⟨_,rfl,⟨k,l,z,g,?_,?_,e3,.inl hg,by omega,?_,e7⟩,⟨by simp,fun i h1 h2=>?_⟩⟩
 . rw[Xr (by simpa using hcl)];simp[setR]
 . rw[ze (Ne.symm k),ze (Ne.symm k)];exact e2
 . intro i hi;have q:=e6 (i+1) (by omega);rw[<- hgd,zrb (by omega),q];rfl
 . rw[ze (Ne.symm h1),ze (Ne.symm h1)]
theorem qV (n : Nat) {h : zd} {s b c : Nat} {x : Int} {xs : List Int} (hb : RngAt h s b c (xs ++ [x])) (hc : c < 100000) :
    ∃ h',call (n+2) 204 [.ptr s 0] h=some (.ret [.int .i32 x,.bool true],h')/\RngAt h' s b c xs/\RFed h h' s b:=by
 have hb0:=hb;obtain⟨k,l,z,f,e1,e2,e3,e4,e5,e6,e7⟩:=hb;rw[zE,ZM] at e1 e5;have hf:f < c:=by omega
 have hcl:=zT e1;have hbl:=zT e2;rw[show n+2=(n+1)+1 from rfl,zew];unfold zhx;rw[Qm n hb0,zM,zx,Xv,za,zm,if_neg (by simp;omega),zC e1,zn,if_pos (by decide)];simp only[zb,zj,za];rw[ZQ,za,w64 (by omega) (by omega)];simp only[V.cells,zD,zP,zq,if_true];rw[ZV e1 (by simp),Zf];have m1:(h.set s (HB.box 3 [V.row b 1 0 c,V.int .i64 (f:Int),V.int .i64 (xs.length:Int)]))[s]?=some (.box 3 [V.row b 1 0 c,V.int .i64 (f:Int),V.int .i64 (xs.length:Int)]):=Xr hcl _;have m2:(h.set s (HB.box 3 [V.row b 1 0 c,V.int .i64 (f:Int),V.int .i64 (xs.length:Int)]))[b]?=some (.row 21 1 l z):=by rw[ze (Ne.symm k)];exact e2
 have hset:setR [V.row b 1 0 c,V.int .i64 (f:Int),V.int .i64 ((xs.length+1:Nat):Int)] 2 [V.int .i64 (((xs.length+1:Nat):Int) - 1)]=[V.row b 1 0 c,V.int .i64 (f:Int),V.int .i64 (xs.length:Int)]:=by
  rw[show (((xs.length+1:Nat):Int) - 1)=(xs.length:Int) by omega];rfl
 rw[hset,zC m1,zn,if_pos (by decide)];simp only[zb,zj,za];rw[W5 n m1 m2 e3 hf (by omega) hc];have hl0:=e6 xs.length (by simp);simp only[clH,ZL,za,zW];rw[zx,za,XD m2 (by decide) hl0,zn,if_pos (by decide)];simp only[Yq,zb,za];refine⟨_,by simp,⟨k,l,z,f,m1,m2,e3,.inl hf,by omega,?_,e7⟩,⟨by simp,fun i h1 h2=>?_⟩⟩
 . intro i hi;have q:=e6 i (by simp;omega);rw[q,List.getElem_append_left hi]
 . rw[ze (Ne.symm h1)]
theorem zjZ (n : Nat) {h : zd} {s b c : Nat} {xs : List Int} (hb : RngAt h s b c xs) (hc : c < 100000) (k x : Int) :
    ∃ h',call (n+3) 201 [.ptr s 0,.agg [.int .u8 k,.int .i32 x]] h=some (.ret [zjR (ZF c k x xs).1.1 (ZF c k x xs).1.2],h')/\RngAt h' s b c (ZF c k x xs).2/\RFed h h' s b:=by
 rw[show n+3=(n+2)+1 from rfl,zq8];unfold ztz;have ep:∀ (w:Bool) (h:zd),call (n+2) 209 [.bool w] h=some (.ret [zjR (if w then 1 else 3) 0],h):=fun w h=>by
  rw[show n+2=(n+1)+1 from rfl,zhy];unfold zgo;cases w <;> rfl
 have eq:∀ (y:Int) (w:Bool) (h:zd),call (n+2) 210 [.int .i32 y,.bool w] h=some (.ret [if w then zjR 2 y else zjR 4 0],h):=fun y w h=>by
  rw[show n+2=(n+1)+1 from rfl,zhz];unfold zgp;cases w <;> rfl
 by_cases k1:k=1
 . rw[if_pos (by simp[k1])];by_cases hm:xs.length < c
   . obtain⟨h',e,b1,b2⟩:=j9 n hb x hm hc;have ht:ZF c k x xs=((1,0),x :: xs):=by unfold ZF;rw[if_pos k1,if_pos (by omega)]
     refine⟨h',?_,by rw[ht];exact b1,b2⟩;rw[e,zM,zx,ep,zM,zx,ht];rfl
   . have ht:ZF c k x xs=((3,0),xs):=by unfold ZF;rw[if_pos k1,if_neg (by omega)]
     refine⟨h,?_,by rw[ht];exact hb,RFed.refl ..⟩;rw[zez n hb x (by omega),zM,zx,ep,zM,zx,ht];rfl
 rw[if_neg (by simp[k1])];by_cases k2:k=2
 . rw[if_pos (by simp[k2])];by_cases hm:xs.length < c
   . obtain⟨h',e,b1,b2⟩:=qa n hb x hm hc;have ht:ZF c k x xs=((1,0),xs++[x]):=by unfold ZF;rw[if_neg k1,if_pos k2,if_pos (by omega)]
     refine⟨h',?_,by rw[ht];exact b1,b2⟩;rw[e,zM,zx,ep,zM,zx,ht];rfl
   . have ht:ZF c k x xs=((3,0),xs):=by unfold ZF;rw[if_neg k1,if_pos k2,if_neg (by omega)]
     refine⟨h,?_,by rw[ht];exact hb,RFed.refl ..⟩;rw[zeA n hb x (by omega),zM,zx,ep,zM,zx,ht];rfl
 rw[if_neg (by simp[k2])];by_cases k3:k=3
 . rw[if_pos (by simp[k3])];cases xs with
   | nil =>
     have ht:ZF c k x []=((4,0),[]):=by unfold ZF;rw[if_neg k1,if_neg k2,if_pos k3]
     refine⟨h,?_,by rw[ht];exact hb,RFed.refl ..⟩;rw[zfn n hb,zM];simp only[zb,zj,za];rw[eq,zM,zx,ht];rfl
   | cons y xs =>
     obtain⟨h',e,b1,b2⟩:=qU n hb hc;have ht:ZF c k x (y :: xs)=((2,y),xs):=by unfold ZF;rw[if_neg k1,if_neg k2,if_pos k3]
     refine⟨h',?_,by rw[ht];exact b1,b2⟩;rw[e,zM];simp only[zb,zj,za];rw[eq,zM,zx,ht];rfl
 rw[if_neg (by simp[k3])];by_cases k4:k=4
 . rw[if_pos (by simp[k4])];rcases ZD xs with rfl|⟨ys,y,rfl⟩
   . have ht:ZF c k x []=((4,0),[]):=by unfold ZF;rw[if_neg k1,if_neg k2,if_neg k3,if_pos k4];rfl
     refine⟨h,?_,by rw[ht];exact hb,RFed.refl ..⟩;rw[zfo n hb,zM];simp only[zb,zj,za];rw[eq,zM,zx,ht];rfl
   . rw[XA] at hb ⊢;obtain⟨h',e,b1,b2⟩:=qV n hb hc;have ht:ZF c k x (ys++[y])=((2,y),ys):=by unfold ZF;rw[if_neg k1,if_neg k2,if_neg k3,if_pos k4];simp
     refine⟨h',?_,by rw[ht];exact b1,b2⟩;rw[e,zM];simp only[zb,zj,za];rw[eq,zM,zx,ht];rfl
 rw[if_neg (by simp[k4])];have ht:ZF c k x xs=((5,0),xs):=by unfold ZF;rw[if_neg k1,if_neg k2,if_neg k3,if_neg k4]
 exact⟨h,by rw[ht];rfl,by rw[ht];exact hb,RFed.refl ..⟩
end Go.Proofs.Tryz
namespace Go.Proofs.Tryz
open Go.L
set_option maxRecDepth 100000
noncomputable def znr(n:Nat)(h:zd):Option (Res×zd) :=
 (ziH ((h++[(HB.map [])]))[(h).length]? fun es0=>(bd (kds prog 12 5) fun ksr1=>bd (Q4 ksr1 (V.int .u8 1) es0 0) fun r1=>if (((V.int .u8 1)).one=!false/\((V.int .u8 1)).cells.length=ksr1.length) then
 (ziH ((((h++[(HB.map [])])).set (h).length (HB.map (upd es0 (V.int .u8 1) (V.agg [(V.bool true),(V.int .i64 0)]) r1))))[(h).length]? fun es3=>(bd (kds prog 12 5) fun ksr4=>bd (Q4 ksr4 (V.int .u8 2) es3 0) fun r4=>if (((V.int .u8 2)).one=!false/\((V.int .u8 2)).cells.length=ksr4.length) then
 (ziH ((((((h++[(HB.map [])])).set (h).length (HB.map (upd es0 (V.int .u8 1) (V.agg [(V.bool true),(V.int .i64 0)]) r1)))).set (h).length (HB.map (upd es3 (V.int .u8 2) (V.agg [(V.bool true),(V.int .i64 1)]) r4))))[(h).length]? fun es6=>(bd (kds prog 12 5) fun ksr7=>bd (Q4 ksr7 (V.int .u8 3) es6 0) fun r7=>if (((V.int .u8 3)).one=!false/\((V.int .u8 3)).cells.length=ksr7.length) then
 (ziH ((((((((h++[(HB.map [])])).set (h).length (HB.map (upd es0 (V.int .u8 1) (V.agg [(V.bool true),(V.int .i64 0)]) r1)))).set (h).length (HB.map (upd es3 (V.int .u8 2) (V.agg [(V.bool true),(V.int .i64 1)]) r4)))).set (h).length (HB.map (upd es6 (V.int .u8 3) (V.agg [(V.bool false),(V.int .i64 0)]) r7))))[(h).length]? fun es9=>(bd (kds prog 12 5) fun ksr10=>bd (Q4 ksr10 (V.int .u8 4) es9 0) fun r10=>if (((V.int .u8 4)).one=!false/\((V.int .u8 4)).cells.length=ksr10.length) then
 some (Res.ret [(V.map (h).length)],(((((((((h++[(HB.map [])])).set (h).length (HB.map (upd es0 (V.int .u8 1) (V.agg [(V.bool true),(V.int .i64 0)]) r1)))).set (h).length (HB.map (upd es3 (V.int .u8 2) (V.agg [(V.bool true),(V.int .i64 1)]) r4)))).set (h).length (HB.map (upd es6 (V.int .u8 3) (V.agg [(V.bool false),(V.int .i64 0)]) r7)))).set (h).length (HB.map (upd es9 (V.int .u8 4) (V.agg [(V.bool false),(V.int .i64 1)]) r10)))) else none)) else none)) else none)) else none))
theorem zmb(n:Nat)(h:zd):call (n+1) 212 [] h=znr n h:=by kernel_rfl
noncomputable def zhA(n:Nat)(s:Nat)(d:Int)(i:Int)(h:zd):Option (Res×zd) :=
 (bd3 (zu h (V.ptr s 2)) fun cs1 m0 o2=>if (o2+1<=m0/\0 < 1) then
 (bd (cs1)[o2]? fun v3 =>
 (bd3 (zu h (V.ptr s 0)) fun cs5 m4 o6=>if (o6+1<=m4/\0 < 1) then
 (bd (cs5)[o6]? fun v7 =>
 (bd (ZR h v7) fun p8 =>
 (bd (bop prog .add 3 v3 (V.int .i64 ((p8.2).length:Int))) fun v9 =>
 (bd3 (zu h (V.ptr s 1)) fun cs11 m10 o12=>if (o12+1<=m10/\0 < 1) then
 (bd (cs11)[o12]? fun v13 =>
 (bd (ZR h v13) fun p14 =>
 (bd (bop prog .add 3 v9 (V.int .i64 ((p14.2).length:Int))) fun v15 =>
 (bd3 (zu h (V.ptr s 3)) fun cs17 m16 o18=>if (o18+1<=m16/\0 < 1) then
 (bd (cs17)[o18]? fun v19 =>
 (bd (bop prog .geq 3 v15 v19) fun v20 =>
 (bv v20 fun b21=>if b21 then
 some (Res.ret [(V.bool false)],h)
 else
 (bd (nv (V.int .i64 d)) fun n22 =>
 (if (n22 < 2) then
 (bd3 (zu h (V.ptr s ((0+(n22 * 1))+0))) fun cs24 m23 o25=>if (o25+1<=m23/\0 < 1) then
 (bd (cs24)[o25]? fun v26 =>
 (bd2 (WG 3 1 h [[(V.int .i64 i)]] v26) fun v27 h28 =>
 (bd (nv (V.int .i64 d)) fun n29 =>
 (if (n29 < 2) then
 (if ((V.cells v27)).length=1 then
 (bd2 (Zt h28 (V.cells v27) (V.ptr s ((0+(n29 * 1))+0))) fun b30 x31 =>
 some (Res.ret [(V.bool true)],((h28).set b30 x31))) else none) else none)))) else none) else none))))) else none)))) else none)))) else none)) else none)
theorem zeB(n:Nat)(s:Nat)(d:Int)(i:Int)(h:zd):call (n+1) 213 [(V.ptr s 0),(V.int .i64 d),(V.int .i64 i)] h=zhA n s d i h:=by kernel_rfl
noncomputable def zeC(n:Nat)(s:Nat)(d:Int)(h:zd):Option (Res×zd) :=
 (bd (nv (V.int .i64 d)) fun n0 =>
 (if (n0 < 2) then
 (bd (nv (V.int .i64 (IntKind.i64.wrap (1 - d)))) fun n1 =>
 (if (n1 < 2) then
 (bd3 (zu h (V.ptr s (((0+(n0 * 1))+0)+0))) fun cs3 m2 o4=>if (o4+1<=m2/\0 < 1) then
 (bd (cs3)[o4]? fun v5 =>
 (bd (ZR h v5) fun p6 =>
 (if (decide (((p6.2).length:Int) > 0)) then
 (cl (call n 215 [(V.ptr s (0+(n0 * 1)))] h) (fun r7 h8 =>
 (Zr r7 fun v10 =>
 some (Res.ret [v10,(V.bool true)],h8))) (fun z9 h8=>some (Res.pan z9,h8)))
 else
 (bd3 (zu h (V.ptr s 2)) fun cs12 m11 o13=>if (o13+1<=m11/\0 < 1) then
 (bd (cs12)[o13]? fun v14 =>
 (bd (bop prog .gtr 3 v14 (V.int .i64 0)) fun v15 =>
 (bv v15 fun b16=>if b16 then
 (bd3 (zu h (V.ptr s 2)) fun cs18 m17 o19=>if (o19+1<=m17/\0 < 1) then
 (bd (cs18)[o19]? fun v20 =>
 (bd (bop prog .sub 3 v20 (V.int .i64 1)) fun v21 =>
 (if ((V.cells v21)).length=1 then
 (bd2 (Zt h (V.cells v21) (V.ptr s 2)) fun b22 x23 =>
 some (Res.ret [(V.int .i64 (-1)),(V.bool true)],((h).set b22 x23))) else none))) else none)
 else
 (bd3 (zu h (V.ptr s (((0+(n1 * 1))+0)+0))) fun cs25 m24 o26=>if (o26+1<=m24/\0 < 1) then
 (bd (cs25)[o26]? fun v27 =>
 (bd (ZR h v27) fun p28 =>
 (if (decide (((p28.2).length:Int) > 0)) then
 (cl (call n 216 [(V.ptr s (0+(n1 * 1)))] h) (fun r29 h30 =>
 (Zr r29 fun v32 =>
 some (Res.ret [v32,(V.bool true)],h30))) (fun z31 h30=>some (Res.pan z31,h30)))
 else
 some (Res.ret [(V.int .i64 0),(V.bool false)],h)))) else none)))) else none)))) else none) else none)) else none))
theorem qB(n:Nat)(s:Nat)(d:Int)(h:zd):call (n+1) 214 [(V.ptr s 0),(V.int .i64 d)] h=zeC n s d h:=by kernel_rfl
noncomputable def zj0(n:Nat)(x0:V)(h:zd):Option (Res×zd) :=
 (bd (ZL 0 x0) fun p0 =>
 (bd (ZL 0 p0) fun p1 =>
 (bd3 (zu h p1) fun cs3 m2 o4=>if (o4+1<=m2/\0 < 1) then
 (bd (cs3)[o4]? fun v5 =>
 (bd (ZL 0 x0) fun p6 =>
 (bd (ZL 0 p6) fun p7 =>
 (bd3 (zu h p7) fun cs9 m8 o10=>if (o10+1<=m8/\0 < 1) then
 (bd (cs9)[o10]? fun v11 =>
 (bd (ZR h v11) fun p12 =>
 (bdS (nv (V.int .i64 (IntKind.i64.wrap (((p12.2).length:Int) - 1)))) fun n13 =>
 (bd (ZE 1 n13 v5) fun p14 =>
 (bd3 (zu h (zpm v5 p14)) fun cs16 m15 o17=>if (o17+1<=m15/\0 < 1) then
 (bd (cs16)[o17]? fun v18 =>
 (bd (ZL 0 x0) fun p19 =>
 (bd (ZL 0 p19) fun p20 =>
 (bd3 (zu h p20) fun cs22 m21 o23=>if (o23+1<=m21/\0 < 1) then
 (bd (cs22)[o23]? fun v24 =>
 (bd (ZL 0 x0) fun p25 =>
 (bd (ZL 0 p25) fun p26 =>
 (bd3 (zu h p26) fun cs28 m27 o29=>if (o29+1<=m27/\0 < 1) then
 (bd (cs28)[o29]? fun v30 =>
 (bd (ZR h v30) fun p31 =>
 (bd (QZ v24) fun n32 =>
 (bdS (nv (V.int .i64 (IntKind.i64.wrap (((p31.2).length:Int) - 1)))) fun n33 =>
 (bd (Z4 1 0 n33 (none:Option Nat) true v24) fun v34 =>
 (bd (ZL 0 x0) fun p35 =>
 (bd (ZL 0 p35) fun p36 =>
 (if ((V.cells v34)).length=1 then
 (bd2 (Zt h (V.cells v34) p36) fun b37 x38 =>
 some (Res.ret [v18],((h).set b37 x38))) else none)))))))) else none)))) else none)))) else none))))) else none)))) else none)))
theorem zj1(n:Nat)(x0:V)(h:zd):call (n+1) 215 [x0] h=zj0 n x0 h:=by kernel_rfl
noncomputable def zj2(n:Nat)(x0:V)(h:zd):Option (Res×zd) :=
 (bd (ZL 0 x0) fun p0 =>
 (bd (ZL 0 p0) fun p1 =>
 (bd3 (zu h p1) fun cs3 m2 o4=>if (o4+1<=m2/\0 < 1) then
 (bd (cs3)[o4]? fun v5 =>
 (bd (ZE 1 0 v5) fun p6 =>
 (bd3 (zu h p6) fun cs8 m7 o9=>if (o9+1<=m7/\0 < 1) then
 (bd (cs8)[o9]? fun v10 =>
 (bd (ZL 0 x0) fun p11 =>
 (bd (ZL 0 p11) fun p12 =>
 (bd3 (zu h p12) fun cs14 m13 o15=>if (o15+1<=m13/\0 < 1) then
 (bd (cs14)[o15]? fun v16 =>
 (bd (QZ v16) fun n17 =>
 (bd (Z4 1 1 n17 (none:Option Nat) true v16) fun v18 =>
 (bd (ZL 0 x0) fun p19 =>
 (bd (ZL 0 p19) fun p20 =>
 (if ((V.cells v18)).length=1 then
 (bd2 (Zt h (V.cells v18) p20) fun b21 x22 =>
 some (Res.ret [v10],((h).set b21 x22))) else none)))))) else none)))) else none))) else none)))
theorem zj3(n:Nat)(x0:V)(h:zd):call (n+1) 216 [x0] h=zj2 n x0 h:=by kernel_rfl
noncomputable def zre(n:Nat)(i:Int)(j:Int)(q:Nat)(r:Nat)(l:Nat)(os:List (List V))(osb:Bool)(h:zd):Option (Res×zd) :=
 (if (decide (j < 0)) then
 (clH (call n 203 [(V.ptr q 0)] h) fun r0 h1 =>
 (bd (r0)[0]? fun v3 =>
 (bd (r0)[1]? fun v4 =>
 (bdS (nv (V.int .i64 i)) fun n5 =>
 (bd (ZE 1 n5 (V.row r 1 0 l)) fun p6 =>
 (if ((V.cells v3)).length=1 then
 (bd2 (Zt h1 (V.cells v3) (V.rptr r 1 (ixP p6) 0)) fun b7 x8 =>
 some (Res.ret [],((h1).set b7 x8))) else none))))))
 else
 (bdS (nv (V.int .i64 j)) fun n9 =>
 (bd (ZE 2 n9 (V.sl 2 os osb)) fun p10 =>
 (bd (ZL 1 p10) fun p11 =>
 (bd3 (zu h p11) fun cs13 m12 o14=>if (o14+1<=m12/\0 < 1) then
 (bd (cs13)[o14]? fun v15 =>
 (bdS (nv (V.int .i64 i)) fun n16 =>
 (bd (ZE 1 n16 (V.row r 1 0 l)) fun p17 =>
 (if ((V.cells v15)).length=1 then
 (bd2 (Zt h (V.cells v15) p17) fun b18 x19 =>
 some (Res.ret [],((h).set b18 x19))) else none)))) else none)))))
theorem zj4(n:Nat)(i:Int)(j:Int)(q:Nat)(r:Nat)(l:Nat)(os:List (List V))(osb:Bool)(h:zd):call (n+1) 208 [(V.int .i64 i),(V.int .i64 0),(V.int .i64 j),(V.iptr 2 [(V.bf 203 [(V.ptr q 0)]),(V.bf 204 [(V.ptr q 0)])] 0),(V.iptr 1 [(V.row r 1 0 l)] 0),(V.iptr 1 [(V.sl 2 os osb)] 0)] h=zre n i j q r l os osb h:=by kernel_rfl
noncomputable def zrf(n:Nat)(i:Int)(j:Int)(q:Nat)(r:Nat)(l:Nat)(os:List (List V))(osb:Bool)(h:zd):Option (Res×zd) :=
 (if (decide (j < 0)) then
 (clH (call n 204 [(V.ptr q 0)] h) fun r0 h1 =>
 (bd (r0)[0]? fun v3 =>
 (bd (r0)[1]? fun v4 =>
 (bdS (nv (V.int .i64 i)) fun n5 =>
 (bd (ZE 1 n5 (V.row r 1 0 l)) fun p6 =>
 (if ((V.cells v3)).length=1 then
 (bd2 (Zt h1 (V.cells v3) (V.rptr r 1 (ixP p6) 0)) fun b7 x8 =>
 some (Res.ret [],((h1).set b7 x8))) else none))))))
 else
 (bdS (nv (V.int .i64 j)) fun n9 =>
 (bd (ZE 2 n9 (V.sl 2 os osb)) fun p10 =>
 (bd (ZL 1 p10) fun p11 =>
 (bd3 (zu h p11) fun cs13 m12 o14=>if (o14+1<=m12/\0 < 1) then
 (bd (cs13)[o14]? fun v15 =>
 (bdS (nv (V.int .i64 i)) fun n16 =>
 (bd (ZE 1 n16 (V.row r 1 0 l)) fun p17 =>
 (if ((V.cells v15)).length=1 then
 (bd2 (Zt h (V.cells v15) p17) fun b18 x19 =>
 some (Res.ret [],((h).set b18 x19))) else none)))) else none)))))
theorem zj5(n:Nat)(i:Int)(j:Int)(q:Nat)(r:Nat)(l:Nat)(os:List (List V))(osb:Bool)(h:zd):call (n+1) 208 [(V.int .i64 i),(V.int .i64 1),(V.int .i64 j),(V.iptr 2 [(V.bf 203 [(V.ptr q 0)]),(V.bf 204 [(V.ptr q 0)])] 0),(V.iptr 1 [(V.row r 1 0 l)] 0),(V.iptr 1 [(V.sl 2 os osb)] 0)] h=zrf n i j q r l os osb h:=by kernel_rfl
noncomputable def Jc(n:Nat)(s:Nat)(os:List (List V))(osb:Bool)(q:Nat)(r:Nat)(l:Nat)(v5:V)(st7:List V)(hh8:zd)(next9:List V->zd->Option (Res×zd)):Option (Res×zd) :=
 (bd (bop prog .lss 3 (gv st7 3) (V.int .i64 ((os).length:Int))) fun v10 =>
 (bv v10 fun b11=>if b11 then
 (bdS (nv (gv st7 3)) fun n12 =>
 (bd (ZE 2 n12 (V.sl 2 os osb)) fun p13 =>
 (bd3 (zu hh8 p13) fun cs15 m14 o16=>if (o16+2<=m14/\0 < 2) then
 (if (((cs15).drop o16 |>.take 2)).length=2 then
 (if ((((cs15).drop o16 |>.take 2)).length<=2) then
 (bd ((setR [(V.int .u8 0),(V.int .i32 0)] 0 ((cs15).drop o16 |>.take 2)))[0]? fun v17 =>
 (bdS (Ki hh8 v5) fun es18 =>
 (bd (kds prog 12 5) fun ksr19=>bdS (Q4 ksr19 v17 es18 0) fun r19=>bd (W7 es18 (V.agg [(V.bool false),(V.int .i64 0)]) r19) fun v20=>if ((v17).one=!false/\(v17).cells.length=ksr19.length/\true=true) then
 (if ((V.cells v20)).length=2 then
 (if (((V.cells v20)).length<=2) then
 (if (!r19.isSome) then
 (bdS (nv (gv st7 3)) fun n21 =>
 (if (2=2/\n21 < ((lsl (gv st7 1))).length/\(some 60:Option Nat)≠some 7) then
 (bd ((lsl (gv st7 1)))[n21]? fun es22 =>
 (bd (bop prog .add 3 (gv st7 3) (V.int .i64 1)) fun v23 =>
 (next9 [(V.sl 2 (lsl (gv st7 0)) false),(V.sl 2 (((lsl (gv st7 1))).set n21 (setR es22 0 [(V.int .u8 5)])) false),(V.bool false),v23] hh8))) else none))
 else
 (bd ((setR [(V.bool false),(V.int .i64 0)] 0 (V.cells v20)))[0]? fun v24 =>
 (bv v24 fun b25=>if b25 then
 (bd ((setR [(V.bool false),(V.int .i64 0)] 0 (V.cells v20)))[1]? fun v26 =>
 (cl (call n 213 [(V.ptr s 0),v26,(gv st7 3)] hh8) (fun r27 h28 =>
 (Zr r27 fun v30 =>
 (bv v30 fun b31=>if b31 then
 (bdS (nv (gv st7 3)) fun n32 =>
 (if (2=2/\n32 < ((lsl (gv st7 1))).length/\(some 74:Option Nat)≠some 7) then
 (bd ((lsl (gv st7 1)))[n32]? fun es33 =>
 (bd (bop prog .add 3 (gv st7 3) (V.int .i64 1)) fun v34 =>
 (next9 [(V.sl 2 (lsl (gv st7 0)) false),(V.sl 2 (((lsl (gv st7 1))).set n32 (setR es33 0 [(V.int .u8 1)])) false),(V.bool false),v34] h28))) else none))
 else
 (bd ((setR [(V.bool false),(V.int .i64 0)] 0 (V.cells v20)))[0]? fun v35 =>
 (bv v35 fun b36=>if b36 then
 (bdS (nv (gv st7 3)) fun n37 =>
 (if (2=2/\n37 < ((lsl (gv st7 1))).length/\(some 81:Option Nat)≠some 7) then
 (bd ((lsl (gv st7 1)))[n37]? fun es38 =>
 (bd (bop prog .add 3 (gv st7 3) (V.int .i64 1)) fun v39 =>
 (next9 [(V.sl 2 (lsl (gv st7 0)) false),(V.sl 2 (((lsl (gv st7 1))).set n37 (setR es38 0 [(V.int .u8 3)])) false),(V.bool false),v39] h28))) else none))
 else
 (bdS (nv (gv st7 3)) fun n40 =>
 (if (2=2/\n40 < ((lsl (gv st7 1))).length/\(some 35:Option Nat)≠some 7) then
 (bd ((lsl (gv st7 1)))[n40]? fun es41 =>
 (bd ((setR [(V.bool false),(V.int .i64 0)] 0 (V.cells v20)))[1]? fun v42 =>
 (cl (call n 214 [(V.ptr s 0),v42] h28) (fun r43 h44 =>
 (bd (r43)[0]? fun v46 =>
 (bd (r43)[1]? fun v47 =>
 (bv v47 fun b48=>if b48 then
 (bdS (nv (gv st7 3)) fun n49 =>
 (if (2=2/\n49 < ((((lsl (gv st7 1))).set n40 (setR es41 0 [(V.int .u8 4)]))).length/\(some 47:Option Nat)≠some 7) then
 (bd ((((lsl (gv st7 1))).set n40 (setR es41 0 [(V.int .u8 4)])))[n49]? fun es50 =>
 (bd ((setR [(V.bool false),(V.int .i64 0)] 0 (V.cells v20)))[1]? fun v51 =>
 (cl (call n 208 [(gv st7 3),v51,v46,(V.iptr 2 [(V.bf 203 [(V.ptr q 0)]),(V.bf 204 [(V.ptr q 0)])] 0),(V.iptr 1 [(V.row r 1 0 l)] 0),(V.iptr 1 [(V.sl 2 os osb)] 0)] h44) (fun r52 h53 =>
 (bd (bop prog .add 3 (gv st7 3) (V.int .i64 1)) fun v55 =>
 (next9 [(V.sl 2 (lsl (gv st7 0)) false),(V.sl 2 (((((lsl (gv st7 1))).set n40 (setR es41 0 [(V.int .u8 4)]))).set n49 (setR es50 0 [(V.int .u8 2)])) false),(V.bool false),v55] h53))) (fun z54 h53=>some (Res.pan z54,h53))))) else none))
 else
 (bd (bop prog .add 3 (gv st7 3) (V.int .i64 1)) fun v56 =>
 (next9 [(V.sl 2 (lsl (gv st7 0)) false),(V.sl 2 (((lsl (gv st7 1))).set n40 (setR es41 0 [(V.int .u8 4)])) false),(V.bool false),v56] h44)))))) (fun z45 h44=>some (Res.pan z45,h44))))) else none))))))) (fun z29 h28=>some (Res.pan z29,h28))))
 else
 (bd ((setR [(V.bool false),(V.int .i64 0)] 0 (V.cells v20)))[0]? fun v57 =>
 (bv v57 fun b58=>if b58 then
 (bdS (nv (gv st7 3)) fun n59 =>
 (if (2=2/\n59 < ((lsl (gv st7 1))).length/\(some 81:Option Nat)≠some 7) then
 (bd ((lsl (gv st7 1)))[n59]? fun es60 =>
 (bd (bop prog .add 3 (gv st7 3) (V.int .i64 1)) fun v61 =>
 (next9 [(V.sl 2 (lsl (gv st7 0)) false),(V.sl 2 (((lsl (gv st7 1))).set n59 (setR es60 0 [(V.int .u8 3)])) false),(V.bool false),v61] hh8))) else none))
 else
 (bdS (nv (gv st7 3)) fun n62 =>
 (if (2=2/\n62 < ((lsl (gv st7 1))).length/\(some 35:Option Nat)≠some 7) then
 (bd ((lsl (gv st7 1)))[n62]? fun es63 =>
 (bd ((setR [(V.bool false),(V.int .i64 0)] 0 (V.cells v20)))[1]? fun v64 =>
 (cl (call n 214 [(V.ptr s 0),v64] hh8) (fun r65 h66 =>
 (bd (r65)[0]? fun v68 =>
 (bd (r65)[1]? fun v69 =>
 (bv v69 fun b70=>if b70 then
 (bdS (nv (gv st7 3)) fun n71 =>
 (if (2=2/\n71 < ((((lsl (gv st7 1))).set n62 (setR es63 0 [(V.int .u8 4)]))).length/\(some 47:Option Nat)≠some 7) then
 (bd ((((lsl (gv st7 1))).set n62 (setR es63 0 [(V.int .u8 4)])))[n71]? fun es72 =>
 (bd ((setR [(V.bool false),(V.int .i64 0)] 0 (V.cells v20)))[1]? fun v73 =>
 (cl (call n 208 [(gv st7 3),v73,v68,(V.iptr 2 [(V.bf 203 [(V.ptr q 0)]),(V.bf 204 [(V.ptr q 0)])] 0),(V.iptr 1 [(V.row r 1 0 l)] 0),(V.iptr 1 [(V.sl 2 os osb)] 0)] h66) (fun r74 h75 =>
 (bd (bop prog .add 3 (gv st7 3) (V.int .i64 1)) fun v77 =>
 (next9 [(V.sl 2 (lsl (gv st7 0)) false),(V.sl 2 (((((lsl (gv st7 1))).set n62 (setR es63 0 [(V.int .u8 4)]))).set n71 (setR es72 0 [(V.int .u8 2)])) false),(V.bool false),v77] h75))) (fun z76 h75=>some (Res.pan z76,h75))))) else none))
 else
 (bd (bop prog .add 3 (gv st7 3) (V.int .i64 1)) fun v78 =>
 (next9 [(V.sl 2 (lsl (gv st7 0)) false),(V.sl 2 (((lsl (gv st7 1))).set n62 (setR es63 0 [(V.int .u8 4)])) false),(V.bool false),v78] h66)))))) (fun z67 h66=>some (Res.pan z67,h66))))) else none))))))) else none) else none) else none))) else none) else none) else none)))
 else
 some (Res.ret [(V.row (hh8).length 2 0 ((lsl (gv st7 1))).length)],(hh8++[(HB.row 35 2 (lsl (gv st7 1)) true)]))))
noncomputable def zrg(n:Nat)(s:Nat)(os:List (List V))(osb:Bool)(q:Nat)(r:Nat)(l:Nat)(h:zd):Option (Res×zd) :=
 (bdS (nv (V.int .i64 ((os).length:Int))) fun n0 =>
 (bdS (nv (V.int .i64 ((os).length:Int))) fun n1 =>
 (if (n0<=n1/\n1 < lim/\2=2) then
 (cl (call n 212 [] h) (fun r2 h3 =>
 (Zr r2 fun v5 =>
 (zR n (Jc n s os osb q r l v5) [(V.sl 2 [] false),(V.sl 2 (List.replicate n0 [(V.int .u8 0),(V.int .i32 0)]) false),(V.bool false),(V.int .i64 0)] h3))) (fun z4 h3=>some (Res.pan z4,h3))) else none)))
theorem zoZ(n:Nat)(s:Nat)(os:List (List V))(osb:Bool)(q:Nat)(r:Nat)(l:Nat)(h:zd):call (n+1) 207 [(V.ptr s 0),(V.sl 2 os osb),(V.fn 208 [(V.iptr 2 [(V.bf 203 [(V.ptr q 0)]),(V.bf 204 [(V.ptr q 0)])] 0),(V.iptr 1 [(V.row r 1 0 l)] 0),(V.iptr 1 [(V.sl 2 os osb)] 0)])] h=zrg n s os osb q r l h:=by kernel_rfl
noncomputable def JK(n:Nat)(os:List (List V))(osb:Bool)(st19:List V)(next21:List V->zd->Option (Res×zd))(v25:V)(p26:Nat×List (List V))(st28:List V)(hh29:zd)(next30:List V->zd->Option (Res×zd)):Option (Res×zd) :=
 (bd (bop prog .lss 3 (gv st28 3) (V.int .i64 ((p26.2).length:Int))) fun v31 =>
 (bv v31 fun b32=>if b32 then
 (bdS (nv (gv st28 3)) fun n33 =>
 (bd (ZE 1 n33 v25) fun p34 =>
 (bd3 (zu hh29 p34) fun cs36 m35 o37=>if (o37+1<=m35/\0 < 1) then
 (bd (cs36)[o37]? fun v38 =>
 (bd (nv (gv st19 2)) fun n39 =>
 (if (n39 < 2) then
 (if ((n39 * 1)+1<=2/\0 < 1) then
 (bd ((lcs (gv st28 1)))[(n39 * 1)]? fun v40 =>
 (bdS (nv v38) fun n41 =>
 (bd (ZE 2 n41 (V.sl 2 os osb)) fun p42 =>
 (bd (ZL 1 p42) fun p43 =>
 (bd3 (zu hh29 p43) fun cs45 m44 o46=>if (o46+1<=m44/\0 < 1) then
 (bd (cs45)[o46]? fun v47 =>
 (zus v40 (fun f48 c49=>if (okV prog 4 f48=true) then(if X0 f48 then
 (cl (call n f48 ([v47]++c49) hh29) (fun r50 h51 =>
 (Zr r50 fun v53 =>
 (bd (bop prog .add 3 (gv st28 3) (V.int .i64 1)) fun v54 =>
 (next30 [(V.sl 2 (lsl (gv st28 0)) false),(V.agg (lcs (gv st28 1))),(V.agg (lcs (gv st28 2))),v54] h51)))) (fun z52 h51=>none))
 else if W1 f48 then
 (bd (qO [(Kh hh29 v47)]) fun a55=>cl (call n f48 (a55++c49) hh29) (fun r50 h51=>if V.simple.simpleL r50 then
 (Zr r50 fun v56 =>
 (bd (bop prog .add 3 (gv st28 3) (V.int .i64 1)) fun v57 =>
 (next30 [(V.sl 2 (lsl (gv st28 0)) false),(V.agg (lcs (gv st28 1))),(V.agg (lcs (gv st28 2))),v57] h51))) else none) (fun z52 h51=>if z52.simple then none else none))
 else none) else none) (fun f58 c59=>if (X0 f58=true/\okV prog 4 f58=true) then
 (cl (call n f58 (c59++[v47]) hh29) (fun r60 h61 =>
 (Zr r60 fun v63 =>
 (bd (bop prog .add 3 (gv st28 3) (V.int .i64 1)) fun v64 =>
 (next30 [(V.sl 2 (lsl (gv st28 0)) false),(V.agg (lcs (gv st28 1))),(V.agg (lcs (gv st28 2))),v64] h61)))) (fun z62 h61=>none)) else none) (fun t67 s68=>if (zde prog t67=false/\(prog.underlying t67).isSome=true) then bd2 (Qc prog t67 v47 s68) fun f65 w66=>if (X0 f65=true/\okV prog 4 f65=true) then
 (cl (call n f65 ([w66]++[]) hh29) (fun r69 h70 =>
 (Zr r69 fun v72 =>
 (bd (bop prog .add 3 (gv st28 3) (V.int .i64 1)) fun v73 =>
 (next30 [(V.sl 2 (lsl (gv st28 0)) false),(V.agg (lcs (gv st28 1))),(V.agg (lcs (gv st28 2))),v73] h70)))) (fun z71 h70=>none)) else none else none))) else none))))) else none) else none))) else none)))
 else
 (bd (bop prog .add 3 (gv st19 2) (V.int .i64 1)) fun v74 =>
 (next21 [(V.sl 2 (lsl (gv st28 0)) false),(V.agg (lcs (gv st28 1))),v74] hh29))))
noncomputable def Wz(n:Nat)(h5:zd)(n9:Nat)(v14:V)(p75:Nat×List (List V))(st77:List V)(hh78:zd)(next79:List V->zd->Option (Res×zd)):Option (Res×zd) :=
 (bd (bop prog .lss 3 (gv st77 2) (V.int .i64 ((p75.2).length:Int))) fun v80 =>
 (bv v80 fun b81=>if b81 then
 (bdS (nv (gv st77 2)) fun n82 =>
 (bd (ZE 1 n82 (V.row (h5).length 1 0 ((List.replicate n9 [(V.int .i32 0)])).length)) fun p83 =>
 (bd3 (zu hh78 p83) fun cs85 m84 o86=>if (o86+1<=m84/\0 < 1) then
 (bd (cs85)[o86]? fun v87 =>
 (bdS (nv (gv st77 2)) fun n88 =>
 (bd (ZE 2 n88 v14) fun p89 =>
 (bd (ZL 1 p89) fun p90 =>
 (if ((V.cells v87)).length=1 then
 (bd2 (Zt hh78 (V.cells v87) p90) fun b91 x92 =>
 (bd (bop prog .add 3 (gv st77 2) (V.int .i64 1)) fun v93 =>
 (next79 [(V.sl 2 (lsl (gv st77 0)) false),(V.agg (lcs (gv st77 1))),v93] ((hh78).set b91 x92)))) else none))))) else none)))
 else
 some (Res.ret [v14],hh78)))
noncomputable def Jq(n:Nat)(os:List (List V))(osb:Bool)(h5:zd)(n9:Nat)(v14:V)(cs16:List V)(o17:Nat)(st19:List V)(hh20:zd)(next21:List V->zd->Option (Res×zd)):Option (Res×zd) :=
 (bd (bop prog .lss 3 (gv st19 2) (V.int .i64 2)) fun v22 =>
 (bv v22 fun b23=>if b23 then
 (bdS (nv (gv st19 2)) fun n24 =>
 (if (n24 < 2/\(n24 * 1)+1<=(((cs16).drop o17 |>.take 2)).length) then
 (if (((((cs16).drop o17 |>.take 2)).drop (n24 * 1) |>.take 1)).length=1 then
 (if ((((((cs16).drop o17 |>.take 2)).drop (n24 * 1) |>.take 1)).length<=1) then
 (bd ((setR [(V.sl 0 [] true)] 0 ((((cs16).drop o17 |>.take 2)).drop (n24 * 1) |>.take 1)))[0]? fun v25 =>
 (bd (ZR hh20 v25) fun p26 =>
 (zR n (JK n os osb st19 next21 v25 p26) [(V.sl 2 (lsl (gv st19 0)) false),(V.agg (lcs (gv st19 1))),(V.agg (setR [(V.sl 0 [] true)] 0 ((((cs16).drop o17 |>.take 2)).drop (n24 * 1) |>.take 1))),(V.int .i64 0)] hh20))) else none) else none) else none))
 else
 (bd (ZR hh20 (V.row (h5).length 1 0 ((List.replicate n9 [(V.int .i32 0)])).length)) fun p75 =>
 (zR n (Wz n h5 n9 v14 p75) [(V.sl 2 (lsl (gv st19 0)) false),(V.agg (lcs (gv st19 1))),(V.int .i64 0)] hh20))))
noncomputable def zj6(n:Nat)(s:Nat)(os:List (List V))(osb:Bool)(h:zd):Option (Res×zd) :=
 (cl (call n 192 [(V.ptr s 0)] h) (fun r0 h1 =>
 (Zr r0 fun v3 =>
 (cl (call n 202 [(V.ptr s 0)] h1) (fun r4 h5 =>
 (Zr r4 fun v7 =>
 (bd (Qo prog 274 [(1,v3),(2,v7)]) fun cs8 =>
 (if (cs8).length=4 then
 (bdS (nv (V.int .i64 ((os).length:Int))) fun n9 =>
 (bdS (nv (V.int .i64 ((os).length:Int))) fun n10 =>
 (if (n9<=n10/\n10 < lim/\1=1) then
 (cl (call n 207 [(V.ptr ((h5++[(HB.row 21 1 (List.replicate n9 [(V.int .i32 0)]) true)])).length 0),(V.sl 2 os osb),(V.fn 208 [(V.iptr 2 [(V.bf 203 [(V.ptr s 0)]),(V.bf 204 [(V.ptr s 0)])] 0),(V.iptr 1 [(V.row (h5).length 1 0 ((List.replicate n9 [(V.int .i32 0)])).length)] 0),(V.iptr 1 [(V.sl 2 os osb)] 0)])] ((h5++[(HB.row 21 1 (List.replicate n9 [(V.int .i32 0)]) true)])++[(HB.box 4 cs8)])) (fun r11 h12 =>
 (Zr r11 fun v14 =>
 (bd3 (zu h12 (V.ptr ((h5++[(HB.row 21 1 (List.replicate n9 [(V.int .i32 0)]) true)])).length 0)) fun cs16 m15 o17=>if (o17+2<=m15/\0 < 2) then
 (zR n (Jq n os osb h5 n9 v14 cs16 o17) [(V.sl 2 [] false),(V.agg [(V.bf 205 [(V.ptr s 0)]),(V.bf 206 [(V.ptr s 0)])]),(V.int .i64 0)] h12) else none))) (fun z13 h12=>some (Res.pan z13,h12))) else none))) else none)))) (fun z6 h5=>some (Res.pan z6,h5))))) (fun z2 h1=>some (Res.pan z2,h1)))
theorem zj7(n:Nat)(s:Nat)(os:List (List V))(osb:Bool)(h:zd):call (n+1) 199 [(V.ptr s 0),(V.sl 2 os osb)] h=zj6 n s os osb h:=by kernel_rfl
end Go.Proofs.Tryz
namespace Go.Sk
open Go.L Go.Rp
def Wo{α:Type}(d:Nat)(x:α)(v:Nat->α):Nat->α:=fun j=>if j=d then x else v j
theorem JL{α:Type}(d:Nat)(x:α)(v:Nat->α):Wo d x v d=x:=if_pos rfl
theorem Ys{α:Type}{d e:Nat}(x:α)(v:Nat->α)(h:e≠d):Wo d x v e=v e:=if_neg h
end Go.Sk
namespace Go.Proofs.Tryz
open Go.L Go.Rp Go.Sk
set_option maxRecDepth 100000
def SideV(h:zd)(v:V)(ob:Option Nat)(ws:List Nat):Prop:=match ob with
 | none=>v=.sl 0 [] true/\ws=[]
 | some b=>∃ lo l z,v=.row b 1 lo (lo+ws.length)/\h[b]?=some (.row 3 1 l z)/\lo+ws.length<=l.length/\(l.take (lo+ws.length)).drop lo=ws.map Wl
theorem SideV.keep{h h':zd}{v:V}{ob:Option Nat}{ws:List Nat}(hv:SideV h v ob ws)(hk:∀ b,ob=some b->h'[b]?=h[b]?):SideV h' v ob ws:=by
 cases ob with
 | none=>exact hv
 | some b =>
   obtain⟨lo,l,z,h1,h2,h3⟩:=hv;exact⟨lo,l,z,h1,(hk b rfl).trans h2,h3⟩
theorem SideV.lt{h:zd}{v:V}{b:Nat}{ws:List Nat}(hv:SideV h v (some b) ws):b < h.length:=by
 obtain⟨lo,l,z,h1,h2,h3⟩:=hv;exact zT h2
theorem SideV.slc{h:zd}{v:V}{ob:Option Nat}{ws:List Nat}(hv:SideV h v ob ws):∃ sz,ZR h v=some (sz,ws.map Wl):=by
 cases ob with
 | none =>
   obtain⟨rfl,rfl⟩:=hv;exact⟨0,ZW ..⟩
 | some b =>
   obtain⟨lo,l,z,rfl,h2,h3,h4⟩:=hv;exact⟨1,by rw[Qx h2 (Nat.le_add_right _ _) h3,h4]⟩
theorem SideV.one{h:zd}{v:V}{ob:Option Nat}{ws:List Nat}(hv:SideV h v ob ws):V.cells v=[v]:=by
 cases ob with
 | none =>
   obtain⟨rfl,rfl⟩:=hv;rfl
 | some b =>
   obtain⟨lo,l,z,rfl,h2,h3,h4⟩:=hv;rfl
theorem SideV.app{h:zd}{v:V}{ob:Option Nat}{ws:List Nat}(hv:SideV h v ob ws)(i:Nat)(hl:ws.length+1 < lim):∃ v' h',WG 3 1 h [[.int .i64 (i:Int)]] v=some (v',h')/\SideV h' v' (some h.length) (ws++[i])/\h'.length=h.length+1/\∀ j,j < h.length->ob≠some j->h'[j]?=h[j]?:=by
 cases ob with
 | none =>
   obtain⟨rfl,rfl⟩:=hv;exact⟨.row h.length 1 0 1,h++[.row 3 1 [[.int .i64 (i:Int)]] true],rfl,⟨0,_,_,rfl,zI,by simp,by simp[Wl]⟩,by simp,fun j h1 h2=>zk h1⟩
 | some b =>
   obtain⟨lo,l,z,rfl,h2,h3,h4⟩:=hv;have hbl:=zT h2;have Wr:WG 3 1 h [[.int .i64 (i:Int)]] (.row b 1 lo (lo+ws.length))=some (.row h.length 1 0 (ws.length+1),h.set b .dead++[.row 3 1 (ws.map Wl++[[.int .i64 (i:Int)]]) (z && lo == 0)]):=by
    simp only[WG,h2];rw[if_pos (by refine⟨⟨?_,?_,?_⟩,⟨by omega,h3⟩,by simp;omega⟩ <;> first|trivial|rfl),h4];simp
   refine⟨_,_,Wr,⟨0,ws.map Wl++[[.int .i64 (i:Int)]],(z && lo == 0),by simp,?_,by simp,?_⟩,by simp,fun j h1 h2=>?_⟩
   . rw[zK (by simp)];simp
   . simp[Wl,zN]
   . rw[zk (by simpa using h1),ze (fun e=>h2 (by rw[e]))]
theorem SideV.outer{h:zd}{v:V}{ob:Option Nat}{w0:List Nat}{w:Nat}(hv:SideV h v ob (w0++[w])):∃ p cs m o v',ZE 1 w0.length v=some p/\zpm v p=p/\zu h p=some (cs,m,o)/\(o+1<=m/\0 < 1)/\cs[o]?=some (.int .i64 (w:Int))/\QZ v=some (w0.length+1)/\Z4 1 0 w0.length none true v=some v'/\SideV h v' ob w0:=by
 cases ob with
 | none=>exact absurd hv.2 (by simp)
 | some b =>
   obtain⟨lo,l,z,rfl,h2,h3,h4⟩:=hv;rw[zE,ZM] at h3 h4 ⊢;have hx:l[lo+w0.length]?=some [.int .i64 (w:Int)]:=by
    have:=congrArg (fun t:List (List V)=>t[w0.length]?) h4;simpa[Wl,Zb] using this
   have hr:(l.take (lo+w0.length)).drop lo=w0.map Wl:=by
    have:=congrArg (List.take w0.length) h4;rw[List.take_drop,List.take_take,XT (by omega)] at this;rw[this,Zu,XO (by simp),zN (by simp)]
   exact⟨_,_,_,_,_,XR (by omega),rfl,XD h2 (by decide) hx,by decide,rfl,by rw[YI];congr 1;omega,J0 (Ze _) (by omega) true,⟨lo,l,z,rfl,h2,by omega,hr⟩⟩
theorem SideV.inner{h:zd}{v:V}{ob:Option Nat}{w0:List Nat}{w:Nat}(hv:SideV h v ob (w :: w0)):∃ p cs m o v',ZE 1 0 v=some p/\zu h p=some (cs,m,o)/\(o+1<=m/\0 < 1)/\cs[o]?=some (.int .i64 (w:Int))/\QZ v=some (w0.length+1)/\Z4 1 1 (w0.length+1) none true v=some v'/\SideV h v' ob w0:=by
 cases ob with
 | none=>exact absurd hv.2 (by simp)
 | some b =>
   obtain⟨lo,l,z,rfl,h2,h3,h4⟩:=hv;rw[zD] at h3 h4 ⊢;have hx:l[lo]?=some [.int .i64 (w:Int)]:=by
    have:=congrArg (fun t:List (List V)=>t[0]?) h4;simpa[Wl,Zb] using this
   have hr:(l.take (lo+(w0.length+1))).drop (lo+1)=w0.map Wl:=by
    have:=congrArg (List.drop 1) h4;rw[List.drop_drop] at this;rw[this];rfl
   exact⟨_,_,_,_,_,XR (by omega),XD h2 (by decide) (by rw[zW];exact hx),by decide,rfl,by rw[YI];congr 1;omega,J0 (by omega) (by omega) true,⟨lo+1,l,z,by congr 1;omega,h2,by omega,by rw[show lo+1+w0.length=lo+(w0.length+1) by omega];exact hr⟩⟩
structure EndAt(h:zd)(s:Nat)(sb:Nat->Option Nat)(u m:Nat)(ws:Nat->List Nat)(v:Nat->V):Prop where
 box:h[s]?=some (.box 4 [v 0,v 1,.int .i64 (u:Int),.int .i64 (m:Int)])
 side:∀ d,d < 2->SideV h (v d) (sb d) (ws d)
 own:∀ d,d < 2->sb d≠some s
 apart:∀ b,sb 0=some b->sb 1≠some b
structure EFed(h h':zd)(s:Nat)(sb sb':Nat->Option Nat):Prop where
 len:h.length<=h'.length
 old:∀ j,j < h.length->j≠s->sb 0≠some j->sb 1≠some j->h'[j]?=h[j]?
 new:∀ d b,d < 2->sb' d=some b->sb d=some b\/h.length<=b
theorem EFed.of{h h':zd}{s:Nat}{sb:Nat->Option Nat}(h1:h'.length=h.length)(h2:∀ j,j≠s->h'[j]?=h[j]?):EFed h h' s sb sb:=⟨by omega,fun j _ k _ _=>h2 j k,fun _ _ _ e=>.inl e⟩
theorem Jd{v:Nat->V}{a b:V}{d:Nat}(hd:d < 2):[v 0,v 1,a,b][d]?=some (v d):=by
 obtain rfl|rfl:d=0\/d=1:=by omega
 . rfl
 . rfl
theorem zrh{v:Nat->V}{a b x:V}{d:Nat}(hd:d < 2):setR [v 0,v 1,a,b] d [x]=[Wo d x v 0,Wo d x v 1,a,b]:=by
 obtain rfl|rfl:d=0\/d=1:=by omega
 . rfl
 . rfl
theorem EndAt.write {h h' h2 : zd} {s : Nat} {sb : Nat -> Option Nat} {u m : Nat} {ws : Nat -> List Nat} {v : Nat -> V} (E : EndAt h s sb u m ws v) {d : Nat} (hd : d < 2) {x : V} {ob : Option Nat} {w : List Nat} (hx : SideV h2 x ob w) (ho : ob ≠ some s) (ha : ∀ e, e < 2 -> e ≠ d -> ∀ b, sb e = some b -> ob ≠ some b)
    (hk:∀ e,e < 2->e≠d->∀ b,sb e=some b->h2[b]?=h[b]?) (hs:s < h2.length) (he:h'=h2.set s (.box 4 (setR [v 0,v 1,.int .i64 (u:Int),.int .i64 (m:Int)] d [x]))):EndAt h' s (Wo d ob sb) u m (Wo d w ws) (Wo d x v):=by
 subst he;refine⟨?_,fun e he=>?_,fun e he=>?_,fun b hb hb1=>?_⟩
 . rw[Xr hs,zrh hd]
 . by_cases k:e=d
   . subst k;rw[JL,JL,JL];exact hx.keep (fun b hb=>ze (fun k=>ho (by rw[hb,k])))
   . rw[Ys _ _ k,Ys _ _ k,Ys _ _ k];exact(E.side e he).keep (fun b hb=>(ze (fun k2=>E.own e he (by rw[hb,k2]))).trans (hk e he k b hb))
 . by_cases k:e=d
   . subst k;rw[JL];exact ho
   . rw[Ys _ _ k];exact E.own e he
 . obtain rfl|rfl:d=0\/d=1:=by omega
   . rw[JL] at hb;rw[Ys _ _ (by decide)] at hb1;exact ha 1 (by decide) (by decide) b hb1 hb
   . rw[JL] at hb1;rw[Ys _ _ (by decide)] at hb;exact ha 0 (by decide) (by decide) b hb hb1
theorem zfp(n:Nat){h:zd}{s:Nat}{sb:Nat->Option Nat}{u m:Nat}{ws:Nat->List Nat}{v:Nat->V}(E:EndAt h s sb u m ws v)(d i:Int)(hm:m<=u+(ws 0).length+(ws 1).length)(hl:u+(ws 0).length+(ws 1).length < lim):call (n+1) 213 [.ptr s 0,.int .i64 d,.int .i64 i] h=some (.ret [.bool false],h):=by
 obtain⟨z0,k0⟩:=(E.side 0 (by decide)).slc;obtain⟨z1,k1⟩:=(E.side 1 (by decide)).slc;unfold lim at hl;refine(zeB n s d i h).trans ?_;unfold zhA;rw[zC E.box,zn,if_pos (by decide)];simp only[zb,zj,za];rw[zC E.box,zn,if_pos (by decide)];simp only[zb,zj,za];rw[k0,za,zH,za,zC E.box,zn,if_pos (by decide)];simp only[zb,zj,za];rw[k1,za,zH,za,zC E.box,zn,if_pos (by decide)];simp only[zb,zj,za];rw[Z8,za,zm,zo,zo,w64 (n:=(u:Int)+_) (by omega) (by omega),w64 (by omega) (by omega),if_pos (by simp;omega)]
theorem zfq (n : Nat) {h : zd} {s : Nat} {sb : Nat -> Option Nat} {u m : Nat} {ws : Nat -> List Nat} {v : Nat -> V} (E : EndAt h s sb u m ws v) {d : Nat} (hd : d < 2) (i : Nat) (hm : u + (ws 0).length + (ws 1).length < m) (hl : u + (ws 0).length + (ws 1).length + 1 < lim) :
    ∃ h' v',call (n+1) 213 [.ptr s 0,.int .i64 (d:Int),.int .i64 (i:Int)] h=some (.ret [.bool true],h')/\EndAt h' s (Wo d (some h.length) sb) u m (Wo d (ws d++[i]) ws) v'/\EFed h h' s sb (Wo d (some h.length) sb):=by
 obtain⟨z0,k0⟩:=(E.side 0 (by decide)).slc;obtain⟨z1,k1⟩:=(E.side 1 (by decide)).slc;have hwd:(ws d).length<=(ws 0).length+(ws 1).length:=by
  obtain rfl|rfl:d=0\/d=1:=by omega
  . omega
  . omega
 obtain⟨x,h2,a1,a2,a3,a4⟩:=(E.side d hd).app i (by omega);have hcl:=zT E.box;have e2:h2[s]?=some (.box 4 [v 0,v 1,.int .i64 (u:Int),.int .i64 (m:Int)]):=(a4 s hcl (E.own d hd)).trans E.box;have hds:∀ e,e < 2->e≠d->∀ b,sb e=some b->sb d≠some b:=by
  intro e he hed b hb hb';obtain rfl|rfl:d=0\/d=1:=by omega
  . obtain rfl:e=1:=by omega
    exact E.apart b hb' hb
  . obtain rfl:e=0:=by omega
    exact E.apart b hb hb'
 refine⟨_,_,?_,E.write (h2:=h2) hd a2 (fun e=>by cases e;omega) (fun e he hed b hb e2=>by have:=(hb ▸ E.side e he:SideV h (v e) (some b) (ws e)).lt;cases e2;omega) (fun e he hed b hb=>a4 b (hb ▸ E.side e he:SideV h (v e) (some b) (ws e)).lt (fun e2=>hds e he hed b hb e2)) (by omega) rfl,⟨by rw[zt];omega,fun j h1 h3 h4 h5=>?_,fun e b he hb=>?_⟩⟩
 . unfold lim at hl;rw[zeB];unfold zhA;rw[zC E.box,zn,if_pos (by decide)];simp only[zb,zj,za];rw[zC E.box,zn,if_pos (by decide)];simp only[zb,zj,za];rw[k0,za,zH,za,zC E.box,zn,if_pos (by decide)];simp only[zb,zj,za];rw[k1,za,zH,za,zC E.box,zn,if_pos (by decide)];simp only[zb,zj,za];rw[Z8,za,zm,zo,zo,w64 (n:=(u:Int)+_) (by omega) (by omega),w64 (by omega) (by omega),if_neg (by simp;omega),Za,za,if_pos hd];simp only[zq,Xh,zW];rw[zC E.box,zn,if_pos (by omega),Jd hd,za,a1,Zf,za,if_pos hd,a2.one,if_pos (by rfl),ZV e2 (by simp;omega),Zf]
 . rw[ze (Ne.symm h3)];have hdj:sb d≠some j:=by
    rcases(show d=0\/d=1 by omega) with rfl|rfl
    . exact h4
    . exact h5
   exact a4 j h1 hdj
 . by_cases k:e=d
   . subst k;rw[JL] at hb;cases hb;exact .inr (zl _)
   . rw[Ys _ _ k] at hb;exact .inl hb
theorem jj{d:Nat}(hd:d < 2):IntKind.i64.wrap (1 - (d:Int))=((1 - d:Nat):Int):=by rw[w64] <;> omega
theorem zeD (n : Nat) {h : zd} {s : Nat} {sb : Nat -> Option Nat} {u m : Nat} {ws : Nat -> List Nat} {v : Nat -> V} (E : EndAt h s sb u m ws v) {d : Nat} (hd : d < 2) {w0 : List Nat} {w : Nat} (hw : ws d = w0 ++ [w]) (hl : w0.length + 1 < lim) :
    ∃ h' v',call (n+1) 215 [.ptr s d] h=some (.ret [.int .i64 (w:Int)],h')/\EndAt h' s sb u m (Wo d w0 ws) v'/\h'.length=h.length/\∀ j,j≠s->h'[j]?=h[j]?:=by
 have hs:=E.side d hd;rw[hw] at hs;obtain⟨z,k⟩:=hs.slc;obtain⟨p,cs,m',o,v',a1,a2,a3,a4,a5,a6,a7,a8⟩:=hs.outer;have hcl:=zT E.box;have hds:∀ e,e < 2->e≠d->∀ b,sb e=some b->sb d≠some b:=by
  intro e he hed b hb hb';obtain rfl|rfl:d=0\/d=1:=by omega
  . obtain rfl:e=1:=by omega
    exact E.apart b hb' hb
  . obtain rfl:e=0:=by omega
    exact E.apart b hb hb'
 have W:=E.write (h2:=h) hd a8 (E.own d hd) hds (fun e he hed b hb=>rfl) hcl rfl;have hp:Wo d (sb d) sb=sb:=by funext j;unfold Wo;split <;> simp_all
 rw[hp] at W;refine⟨_,_,?_,W,by rw[zt],fun j hj=>ze (Ne.symm hj)⟩;unfold lim at hl;have hlen:IntKind.i64.wrap ((((w0++[w]).map Wl).length:Int) - 1)=(w0.length:Int):=by
  rw[zo,zE,ZM,w64 (by omega) (by omega)];omega
 rw[zj1];unfold zj0;simp only[ZL,zW,za];rw[zC E.box,zn,if_pos (by omega),Jd hd,za,zn,if_pos (by omega),Jd hd,za,k,za,hlen,Za,zy,a1,za,a2,a3,zn,if_pos a4,a5,za,zn,if_pos (by omega),Jd hd,za,zn,if_pos (by omega),Jd hd,za,k,za,a6,za,hlen,Za,zy,a7,za,a8.one,if_pos (by rfl),ZV E.box (by simp;omega),Zf]
theorem zeE (n : Nat) {h : zd} {s : Nat} {sb : Nat -> Option Nat} {u m : Nat} {ws : Nat -> List Nat} {v : Nat -> V} (E : EndAt h s sb u m ws v) {d : Nat} (hd : d < 2) {w0 : List Nat} {w : Nat} (hw : ws d = w :: w0) :
    ∃ h' v',call (n+1) 216 [.ptr s d] h=some (.ret [.int .i64 (w:Int)],h')/\EndAt h' s sb u m (Wo d w0 ws) v'/\h'.length=h.length/\∀ j,j≠s->h'[j]?=h[j]?:=by
 have hs:=E.side d hd;rw[hw] at hs;obtain⟨p,cs,m',o,v',a1,a3,a4,a5,a6,a7,a8⟩:=hs.inner;have hcl:=zT E.box;have hds:∀ e,e < 2->e≠d->∀ b,sb e=some b->sb d≠some b:=by
  intro e he hed b hb hb';obtain rfl|rfl:d=0\/d=1:=by omega
  . obtain rfl:e=1:=by omega
    exact E.apart b hb' hb
  . obtain rfl:e=0:=by omega
    exact E.apart b hb hb'
 have W:=E.write (h2:=h) hd a8 (E.own d hd) hds (fun e he hed b hb=>rfl) hcl rfl;have hp:Wo d (sb d) sb=sb:=by funext j;unfold Wo;split <;> simp_all
 rw[hp] at W;refine⟨_,_,?_,W,by rw[zt],fun j hj=>ze (Ne.symm hj)⟩;rw[zj3];unfold zj2;simp only[ZL,zW,za];rw[zC E.box,zn,if_pos (by omega),Jd hd,za,a1,za,a3,zn,if_pos a4,a5,za,zn,if_pos (by omega),Jd hd,za,a6,za,a7,za,a8.one,if_pos (by rfl),ZV E.box (by simp;omega),Zf]
theorem zhB (n : Nat) {h : zd} {s : Nat} {sb : Nat -> Option Nat} {u m : Nat} {ws : Nat -> List Nat} {v : Nat -> V} (E : EndAt h s sb u m ws v) {d : Nat} (hd : d < 2) {w0 : List Nat} {w : Nat} (hw : ws d = w0 ++ [w]) (hl : w0.length + 1 < lim) :
    ∃ h' v',call (n+2) 214 [.ptr s 0,.int .i64 (d:Int)] h=some (.ret [.int .i64 (w:Int),.bool true],h')/\EndAt h' s sb u m (Wo d w0 ws) v'/\h'.length=h.length/\∀ j,j≠s->h'[j]?=h[j]?:=by
 obtain⟨h',v',e,b1,b2,b3⟩:=zeD n E hd hw hl;obtain⟨z,k⟩:=(E.side d hd).slc;refine⟨h',v',?_,b1,b2,b3⟩;rw[show n+2=(n+1)+1 from rfl,qB];unfold zeC;rw[Za,za,if_pos hd,jj hd,Za,za,if_pos (by omega)];simp only[zq,Xh,zW];rw[zC E.box,zn,if_pos (by omega),Jd hd,za,k,za,if_pos (by rw[hw];simp),e,zM,zx]
theorem zj8 (n : Nat) {h : zd} {s : Nat} {sb : Nat -> Option Nat} {u m : Nat} {ws : Nat -> List Nat} {v : Nat -> V} (E : EndAt h s sb (u + 1) m ws v) {d : Nat} (hd : d < 2) (hw : ws d = []) (hu : u + 1 < lim) :
    ∃ h' v',call (n+2) 214 [.ptr s 0,.int .i64 (d:Int)] h=some (.ret [.int .i64 (-1),.bool true],h')/\EndAt h' s sb u m ws v'/\h'.length=h.length/\∀ j,j≠s->h'[j]?=h[j]?:=by
 obtain⟨z,k⟩:=(E.side d hd).slc;have hcl:=zT E.box;refine⟨h.set s (.box 4 [v 0,v 1,.int .i64 (u:Int),.int .i64 (m:Int)]),v,?_,⟨Xr hcl _,fun e he=>(E.side e he).keep (fun b hb=>ze (fun k2=>E.own e he (by rw[hb,k2]))),E.own,E.apart⟩,by rw[zt],fun j hj=>ze (Ne.symm hj)⟩;unfold lim at hu;rw[show n+2=(n+1)+1 from rfl,qB];unfold zeC;rw[Za,za,if_pos hd,jj hd,Za,za,if_pos (by omega)];simp only[zq,Xh,zW];rw[zC E.box,zn,if_pos (by omega),Jd hd,za,k,za,if_neg (by rw[hw];simp),zC E.box,zn,if_pos (by decide)];simp only[zb,zj,za];rw[Xy,za,zm,if_pos (by simp),zn,if_pos (by decide)];simp only[zb,zj,za];rw[ZQ,za,if_pos (by rfl),ZV E.box (by simp[V.cells]),Zf,w64 (by omega) (by omega),show (((u+1:Nat):Int) - 1)=(u:Int) by omega];rfl
theorem zj9 (n : Nat) {h : zd} {s : Nat} {sb : Nat -> Option Nat} {m : Nat} {ws : Nat -> List Nat} {v : Nat -> V} (E : EndAt h s sb 0 m ws v) {d : Nat} (hd : d < 2) (hw : ws d = []) {w0 : List Nat} {w : Nat} (hw2 : ws (1 - d) = w :: w0) :
    ∃ h' v',call (n+2) 214 [.ptr s 0,.int .i64 (d:Int)] h=some (.ret [.int .i64 (w:Int),.bool true],h')/\EndAt h' s sb 0 m (Wo (1 - d) w0 ws) v'/\h'.length=h.length/\∀ j,j≠s->h'[j]?=h[j]?:=by
 have hd':1 - d < 2:=by omega
 obtain⟨h',v',e,b1,b2,b3⟩:=zeE n E hd' hw2;obtain⟨z,k⟩:=(E.side d hd).slc;obtain⟨z',k'⟩:=(E.side (1 - d) hd').slc;refine⟨h',v',?_,b1,b2,b3⟩;rw[show n+2=(n+1)+1 from rfl,qB];unfold zeC;rw[Za,za,if_pos hd,jj hd,Za,za,if_pos (by omega)];simp only[zq,Xh,zW];rw[zC E.box,zn,if_pos (by omega),Jd hd,za,k,za,if_neg (by rw[hw];simp),zC E.box,zn,if_pos (by decide)];simp only[zb,zj,za];rw[Xy,za,zm,if_neg (by decide),zC E.box,zn,if_pos (by omega),Jd hd',za,k',za,if_pos (by rw[hw2];simp),e,zM,zx]
theorem zhC (n : Nat) {h : zd} {s : Nat} {sb : Nat -> Option Nat} {m : Nat} {ws : Nat -> List Nat} {v : Nat -> V} (E : EndAt h s sb 0 m ws v) {d : Nat} (hd : d < 2) (hw : ws d = []) (hw2 : ws (1 - d) = []) :
    call (n+2) 214 [.ptr s 0,.int .i64 (d:Int)] h=some (.ret [.int .i64 0,.bool false],h):=by
 have hd':1 - d < 2:=by omega
 obtain⟨z,k⟩:=(E.side d hd).slc;obtain⟨z',k'⟩:=(E.side (1 - d) hd').slc;rw[show n+2=(n+1)+1 from rfl,qB];unfold zeC;rw[Za,za,if_pos hd,jj hd,Za,za,if_pos (by omega)];simp only[zq,Xh,zW];rw[zC E.box,zn,if_pos (by omega),Jd hd,za,k,za,if_neg (by rw[hw];simp),zC E.box,zn,if_pos (by decide)];simp only[zb,zj,za];rw[Xy,za,zm,if_neg (by decide),zC E.box,zn,if_pos (by omega),Jd hd',za,k',za,if_neg (by rw[hw2];simp)]
end Go.Proofs.Tryz
namespace Go.Proofs.Tryz
open Go.L
set_option maxRecDepth 100000
noncomputable def zc5(n:Nat)(x0:Int)(h:zd):Option (Res×zd) :=
 (cl (call n 57 [(V.int .i64 x0)] h) (fun r0 h1 =>
 (Zr r0 fun v3 =>
 (bd (Qo prog 112 [(0,v3)]) fun cs4 =>
 some (Res.ret [(V.iface 112 (V.agg cs4))],h1)))) (fun z2 h1=>some (Res.pan z2,h1)))
theorem zeF(n:Nat)(x0:Int)(h:zd):call (n+1) 56 [(V.int .i64 x0)] h=zc5 n x0 h:=by kernel_rfl
noncomputable def zc6(n:Nat)(x0:Int)(h:zd):Option (Res×zd) :=
 (cl (call n 59 [(V.int .i64 x0)] h) (fun r0 h1 =>
 (Zr r0 fun v3 =>
 (bd (Qo prog 116 [(0,v3)]) fun cs4 =>
 some (Res.ret [(V.iface 116 (V.agg cs4))],h1)))) (fun z2 h1=>some (Res.pan z2,h1)))
theorem zeG(n:Nat)(x0:Int)(h:zd):call (n+1) 58 [(V.int .i64 x0)] h=zc6 n x0 h:=by kernel_rfl
noncomputable def zc7(n:Nat)(x0:Int)(h:zd):Option (Res×zd) :=
 (cl (call n 61 [(V.int .i64 x0)] h) (fun r0 h1 =>
 (Zr r0 fun v3 =>
 (bd (Qo prog 120 [(0,v3)]) fun cs4 =>
 some (Res.ret [(V.iface 120 (V.agg cs4))],h1)))) (fun z2 h1=>some (Res.pan z2,h1)))
theorem zeH(n:Nat)(x0:Int)(h:zd):call (n+1) 60 [(V.int .i64 x0)] h=zc7 n x0 h:=by kernel_rfl
noncomputable def ztB(n:Nat)(s:Nat)(os:List (List V))(osb:Bool)(h:zd):Option (Res×zd) :=
 (bd (Qb prog h .eql 25 (V.ptr s 0) (V.val (.pointer none))) fun v0 =>
 (bv v0 fun b1=>if b1 then
 some (Res.ret [(V.sl 2 [] false)],h)
 else
 (bd3 (zu h (V.ptr s 2)) fun cs3 m2 o4=>if (o4+1<=m2/\0 < 1) then
 (bd (cs3)[o4]? fun v5 =>
 (bv v5 fun b6=>if b6 then
 (bd3 (zu h (V.ptr s 0)) fun cs8 m7 o9=>if (o9+1<=m7/\0 < 1) then
 (bd (cs8)[o9]? fun v10 =>
 (bd3 (zu h (V.ptr s 1)) fun cs12 m11 o13=>if (o13+1<=m11/\0 < 1) then
 (bd (cs12)[o13]? fun v14 =>
 (if (znR v10=true) then
 (ifK v10 fun t15 w16=>bd2 (Qc prog t15 w16 "reaper/object.plain") fun f17 w18=>if (X0 f17=true/\okV prog 28 f17=true) then
 (clH (call n f17 ([w18]++[v14,(V.sl 2 os osb)]) h) fun r19 h20 =>
 (Zr r19 fun v22 =>
 some (Res.ret [v22],h20))) else none) else none)) else none)) else none)
 else
 (bd3 (zu h (V.ptr s 0)) fun cs24 m23 o25=>if (o25+1<=m23/\0 < 1) then
 (bd (cs24)[o25]? fun v26 =>
 (bd3 (zu h (V.ptr s 1)) fun cs28 m27 o29=>if (o29+1<=m27/\0 < 1) then
 (bd (cs28)[o29]? fun v30 =>
 (if (znR v26=true) then
 (ifK v26 fun t31 w32=>bd2 (Qc prog t31 w32 "reaper/object.batch") fun f33 w34=>if (X0 f33=true/\okV prog 28 f33=true) then
 (clH (call n f33 ([w34]++[v30,(V.sl 2 os osb)]) h) fun r35 h36 =>
 (Zr r35 fun v38 =>
 some (Res.ret [v38],h36))) else none) else none)) else none)) else none))) else none)))
theorem zri(n:Nat)(s:Nat)(os:List (List V))(osb:Bool)(h:zd):call (n+1) 17 [(V.ptr s 0),(V.sl 2 os osb)] h=ztB n s os osb h:=by kernel_rfl
noncomputable def zns(n:Nat)(s:Nat)(bs:List (List V))(bsb:Bool)(h:zd):Option (Res×zd) :=
 (bd (Qb prog h .neq 25 (V.ptr s 0) (V.val (.pointer none))) fun v0 =>
 (bv v0 fun b1=>if b1 then
 (bd3 (zu h (V.ptr s 1)) fun cs3 m2 o4=>if (o4+1<=m2/\0 < 1) then
 (bd (cs3)[o4]? fun v5 =>
 (cl (call n 65 [v5,(V.sl 1 bs bsb)] h) (fun r6 h7 =>
 some (Res.ret [],h7)) (fun z8 h7=>some (Res.pan z8,h7)))) else none)
 else
 some (Res.ret [],h)))
theorem zmc(n:Nat)(s:Nat)(bs:List (List V))(bsb:Bool)(h:zd):call (n+1) 23 [(V.ptr s 0),(V.sl 1 bs bsb)] h=zns n s bs bsb h:=by kernel_rfl
noncomputable def zka(n:Nat)(s:Nat)(h:zd):Option (Res×zd) :=
 (bd (Qb prog h .eql 25 (V.ptr s 0) (V.val (.pointer none))) fun v0 =>
 (bv v0 fun b1=>if b1 then
 some (Res.ret [(V.sl 1 [] false)],h)
 else
 (bd3 (zu h (V.ptr s 0)) fun cs3 m2 o4=>if (o4+1<=m2/\0 < 1) then
 (bd (cs3)[o4]? fun v5 =>
 (ifK v5 fun t6 w7=>bd2 (Qc prog t6 w7 "Items") fun f8 w9=>if (X0 f8=true/\okV prog 27 f8=true) then
 (cl (call n f8 ([w9]++[]) h) (fun r10 h11 =>
 (Zr r10 fun v13 =>
 some (Res.ret [v13],h11))) (fun z12 h11=>some (Res.pan z12,h11))) else none)) else none)))
theorem zkb(n:Nat)(s:Nat)(h:zd):call (n+1) 20 [(V.ptr s 0)] h=zka n s h:=by kernel_rfl
noncomputable def zrj(n:Nat)(s:Nat)(h:zd):Option (Res×zd) :=
 (bd (Qb prog h .eql 25 (V.ptr s 0) (V.val (.pointer none))) fun v0 =>
 (bv v0 fun b1=>if b1 then
 some (Res.ret [(V.int .i64 0)],h)
 else
 (bd3 (zu h (V.ptr s 0)) fun cs3 m2 o4=>if (o4+1<=m2/\0 < 1) then
 (bd (cs3)[o4]? fun v5 =>
 (ifK v5 fun t6 w7=>bd2 (Qc prog t6 w7 "Len") fun f8 w9=>if (X0 f8=true/\okV prog 3 f8=true) then
 (cl (call n f8 ([w9]++[]) h) (fun r10 h11 =>
 (Zr r10 fun v13 =>
 some (Res.ret [v13],h11))) (fun z12 h11=>some (Res.pan z12,h11))) else none)) else none)))
theorem zo0(n:Nat)(s:Nat)(h:zd):call (n+1) 30 [(V.ptr s 0)] h=zrj n s h:=by kernel_rfl
noncomputable def YN(n:Nat)(s:Nat)(os:List (List V))(osb:Bool)(st3:List V)(hh4:zd)(next5:List V->zd->Option (Res×zd)):Option (Res×zd) :=
 (bd (bop prog .lss 3 (gv st3 3) (V.int .i64 ((os).length:Int))) fun v6 =>
 (bv v6 fun b7=>if b7 then
 (bdS (nv (gv st3 3)) fun n8 =>
 (bd (ZE 2 n8 (V.sl 2 os osb)) fun p9 =>
 (bd3 (zu hh4 p9) fun cs11 m10 o12=>if (o12+2<=m10/\0 < 2) then
 (if (((cs11).drop o12 |>.take 2)).length=2 then
 (if ((((cs11).drop o12 |>.take 2)).length<=2) then
 (cl (call n 177 [(V.ptr s 0),(V.agg (((setR [(V.int .u8 0),(V.int .i32 0)] 0 ((cs11).drop o12 |>.take 2))).drop 0 |>.take 2))] hh4) (fun r13 h14 =>
 (Zr r13 fun v16 =>
 (bdS (nv (gv st3 3)) fun n17 =>
 (if (2=2/\n17 < ((lsl (gv st3 1))).length/\(some 23:Option Nat)≠some 5) then
 (if ((V.cells v16)).length=2 then
 (if (2=2/\0 < 2/\0+((V.cells v16)).length<=2) then
 (bd ((lsl (gv st3 1)))[n17]? fun es18 =>
 (bd (bop prog .add 3 (gv st3 3) (V.int .i64 1)) fun v19 =>
 (next5 [(V.sl 2 (lsl (gv st3 0)) false),(V.sl 2 (((lsl (gv st3 1))).set n17 (setR es18 0 (V.cells v16))) false),(V.bool false),v19] h14))) else none) else none) else none)))) (fun z15 h14=>some (Res.pan z15,h14))) else none) else none) else none)))
 else
 some (Res.ret [(V.row (hh4).length 2 0 ((lsl (gv st3 1))).length)],(hh4++[(HB.row 35 2 (lsl (gv st3 1)) true)]))))
noncomputable def znt(n:Nat)(s:Nat)(os:List (List V))(osb:Bool)(h:zd):Option (Res×zd) :=
 (bdS (nv (V.int .i64 ((os).length:Int))) fun n0 =>
 (bdS (nv (V.int .i64 ((os).length:Int))) fun n1 =>
 (if (n0<=n1/\n1 < lim/\2=2) then
 (zR n (YN n s os osb) [(V.sl 2 [] false),(V.sl 2 (List.replicate n0 [(V.int .u8 0),(V.int .i32 0)]) false),(V.bool false),(V.int .i64 0)] h) else none)))
theorem zmd(n:Nat)(s:Nat)(os:List (List V))(osb:Bool)(h:zd):call (n+1) 176 [(V.bf 177 [(V.ptr s 0)]),(V.sl 2 os osb)] h=znt n s os osb h:=by kernel_rfl
noncomputable def YO(n:Nat)(s:Nat)(os:List (List V))(osb:Bool)(st3:List V)(hh4:zd)(next5:List V->zd->Option (Res×zd)):Option (Res×zd) :=
 (bd (bop prog .lss 3 (gv st3 3) (V.int .i64 ((os).length:Int))) fun v6 =>
 (bv v6 fun b7=>if b7 then
 (bdS (nv (gv st3 3)) fun n8 =>
 (bd (ZE 2 n8 (V.sl 2 os osb)) fun p9 =>
 (bd3 (zu hh4 p9) fun cs11 m10 o12=>if (o12+2<=m10/\0 < 2) then
 (if (((cs11).drop o12 |>.take 2)).length=2 then
 (if ((((cs11).drop o12 |>.take 2)).length<=2) then
 (cl (call n 201 [(V.ptr s 0),(V.agg (((setR [(V.int .u8 0),(V.int .i32 0)] 0 ((cs11).drop o12 |>.take 2))).drop 0 |>.take 2))] hh4) (fun r13 h14 =>
 (Zr r13 fun v16 =>
 (bdS (nv (gv st3 3)) fun n17 =>
 (if (2=2/\n17 < ((lsl (gv st3 1))).length/\(some 23:Option Nat)≠some 5) then
 (if ((V.cells v16)).length=2 then
 (if (2=2/\0 < 2/\0+((V.cells v16)).length<=2) then
 (bd ((lsl (gv st3 1)))[n17]? fun es18 =>
 (bd (bop prog .add 3 (gv st3 3) (V.int .i64 1)) fun v19 =>
 (next5 [(V.sl 2 (lsl (gv st3 0)) false),(V.sl 2 (((lsl (gv st3 1))).set n17 (setR es18 0 (V.cells v16))) false),(V.bool false),v19] h14))) else none) else none) else none)))) (fun z15 h14=>some (Res.pan z15,h14))) else none) else none) else none)))
 else
 some (Res.ret [(V.row (hh4).length 2 0 ((lsl (gv st3 1))).length)],(hh4++[(HB.row 35 2 (lsl (gv st3 1)) true)]))))
noncomputable def znu(n:Nat)(s:Nat)(os:List (List V))(osb:Bool)(h:zd):Option (Res×zd) :=
 (bdS (nv (V.int .i64 ((os).length:Int))) fun n0 =>
 (bdS (nv (V.int .i64 ((os).length:Int))) fun n1 =>
 (if (n0<=n1/\n1 < lim/\2=2) then
 (zR n (YO n s os osb) [(V.sl 2 [] false),(V.sl 2 (List.replicate n0 [(V.int .u8 0),(V.int .i32 0)]) false),(V.bool false),(V.int .i64 0)] h) else none)))
theorem zme(n:Nat)(s:Nat)(os:List (List V))(osb:Bool)(h:zd):call (n+1) 176 [(V.bf 201 [(V.ptr s 0)]),(V.sl 2 os osb)] h=znu n s os osb h:=by kernel_rfl
noncomputable def zkc(n:Nat)(s:Nat)(c:Nat)(os:List (List V))(osb:Bool)(h:zd):Option (Res×zd) :=
 (cl (call n 174 [(V.ptr s 0),(V.sl 2 os osb)] h) (fun r0 h1 =>
 (Zr r0 fun v3 =>
 some (Res.ret [v3],h1))) (fun z2 h1=>some (Res.pan z2,h1)))
theorem zkd(n:Nat)(s:Nat)(c:Nat)(os:List (List V))(osb:Bool)(h:zd):call (n+1) 171 [(V.agg [(V.ptr s 0)]),(V.ptr c 0),(V.sl 2 os osb)] h=zkc n s c os osb h:=by kernel_rfl
noncomputable def zke(n:Nat)(s:Nat)(c:Nat)(os:List (List V))(osb:Bool)(h:zd):Option (Res×zd) :=
 (cl (call n 176 [(V.bf 177 [(V.ptr s 0)]),(V.sl 2 os osb)] h) (fun r0 h1 =>
 (Zr r0 fun v3 =>
 some (Res.ret [v3],h1))) (fun z2 h1=>some (Res.pan z2,h1)))
theorem zkf(n:Nat)(s:Nat)(c:Nat)(os:List (List V))(osb:Bool)(h:zd):call (n+1) 173 [(V.agg [(V.ptr s 0)]),(V.ptr c 0),(V.sl 2 os osb)] h=zke n s c os osb h:=by kernel_rfl
noncomputable def zkg(n:Nat)(s:Nat)(h:zd):Option (Res×zd) :=
 (cl (call n 175 [(V.ptr s 0)] h) (fun r0 h1 =>
 (Zr r0 fun v3 =>
 (bd (Qo prog 112 [(0,v3)]) fun cs4 =>
 some (Res.ret [(V.iface 112 (V.agg cs4))],h1)))) (fun z2 h1=>some (Res.pan z2,h1)))
theorem zkh(n:Nat)(s:Nat)(h:zd):call (n+1) 172 [(V.agg [(V.ptr s 0)])] h=zkg n s h:=by kernel_rfl
noncomputable def zki(n:Nat)(s:Nat)(c:Nat)(os:List (List V))(osb:Bool)(h:zd):Option (Res×zd) :=
 (cl (call n 199 [(V.ptr s 0),(V.sl 2 os osb)] h) (fun r0 h1 =>
 (Zr r0 fun v3 =>
 some (Res.ret [v3],h1))) (fun z2 h1=>some (Res.pan z2,h1)))
theorem zkj(n:Nat)(s:Nat)(c:Nat)(os:List (List V))(osb:Bool)(h:zd):call (n+1) 196 [(V.agg [(V.ptr s 0)]),(V.ptr c 0),(V.sl 2 os osb)] h=zki n s c os osb h:=by kernel_rfl
noncomputable def zkk(n:Nat)(s:Nat)(c:Nat)(os:List (List V))(osb:Bool)(h:zd):Option (Res×zd) :=
 (cl (call n 176 [(V.bf 201 [(V.ptr s 0)]),(V.sl 2 os osb)] h) (fun r0 h1 =>
 (Zr r0 fun v3 =>
 some (Res.ret [v3],h1))) (fun z2 h1=>some (Res.pan z2,h1)))
theorem zkl(n:Nat)(s:Nat)(c:Nat)(os:List (List V))(osb:Bool)(h:zd):call (n+1) 198 [(V.agg [(V.ptr s 0)]),(V.ptr c 0),(V.sl 2 os osb)] h=zkk n s c os osb h:=by kernel_rfl
noncomputable def zkm(n:Nat)(s:Nat)(h:zd):Option (Res×zd) :=
 (cl (call n 200 [(V.ptr s 0)] h) (fun r0 h1 =>
 (Zr r0 fun v3 =>
 (bd (Qo prog 116 [(0,v3)]) fun cs4 =>
 some (Res.ret [(V.iface 116 (V.agg cs4))],h1)))) (fun z2 h1=>some (Res.pan z2,h1)))
theorem zkn(n:Nat)(s:Nat)(h:zd):call (n+1) 197 [(V.agg [(V.ptr s 0)])] h=zkm n s h:=by kernel_rfl
noncomputable def zko(n:Nat)(s:Nat)(c:Nat)(os:List (List V))(osb:Bool)(h:zd):Option (Res×zd) :=
 (cl (call n 222 [(V.ptr s 0),(V.ptr c 0),(V.sl 2 os osb)] h) (fun r0 h1 =>
 (Zr r0 fun v3 =>
 some (Res.ret [v3],h1))) (fun z2 h1=>some (Res.pan z2,h1)))
theorem zkp(n:Nat)(s:Nat)(c:Nat)(os:List (List V))(osb:Bool)(h:zd):call (n+1) 219 [(V.agg [(V.ptr s 0)]),(V.ptr c 0),(V.sl 2 os osb)] h=zko n s c os osb h:=by kernel_rfl
noncomputable def zkq(n:Nat)(s:Nat)(c:Nat)(os:List (List V))(osb:Bool)(h:zd):Option (Res×zd) :=
 (cl (call n 224 [(V.ptr s 0),(V.ptr c 0),(V.sl 2 os osb)] h) (fun r0 h1 =>
 (Zr r0 fun v3 =>
 some (Res.ret [v3],h1))) (fun z2 h1=>some (Res.pan z2,h1)))
theorem zkr(n:Nat)(s:Nat)(c:Nat)(os:List (List V))(osb:Bool)(h:zd):call (n+1) 221 [(V.agg [(V.ptr s 0)]),(V.ptr c 0),(V.sl 2 os osb)] h=zkq n s c os osb h:=by kernel_rfl
noncomputable def zks(n:Nat)(s:Nat)(h:zd):Option (Res×zd) :=
 (cl (call n 223 [(V.ptr s 0)] h) (fun r0 h1 =>
 (Zr r0 fun v3 =>
 (bd (Qo prog 120 [(0,v3)]) fun cs4 =>
 some (Res.ret [(V.iface 120 (V.agg cs4))],h1)))) (fun z2 h1=>some (Res.pan z2,h1)))
theorem zkt(n:Nat)(s:Nat)(h:zd):call (n+1) 220 [(V.agg [(V.ptr s 0)])] h=zks n s h:=by kernel_rfl
end Go.Proofs.Tryz
namespace Go.Sk
open Go.L Go.Rp
def zeI(most:Int)(o:O)(xs:List Int):R:=⟨(Xe most o.k o.v xs).1.1,(Xe most o.k o.v xs).1.2⟩
def Qy (most : Int) : List O -> List Int -> List R × List Int
 | [],xs=>([],xs)
 | o :: r,xs=>(zeI most o xs :: (Qy most r (Xe most o.k o.v xs).2).1,(Qy most r (Xe most o.k o.v xs).2).2)
theorem zeJ (most : Int) : ∀ (l : List O) (xs : List Int), (Qy most l xs).1.length = l.length
 | [],_=>rfl
 | o :: r,xs=>by simp[Qy,zeJ most r]
theorem zcx(most c x:Int)(xs:List Int):(Xe most c x xs).2.length<=xs.length+1:=by
 unfold Xe;split
 . split <;> simp
 . split
   . split <;> simp <;> omega
   . simp
end Go.Sk
namespace Go.Proofs.Tryz
open Go.L Go.Rp Go.Sk
set_option maxRecDepth 100000
theorem zhD(n s:Nat)(osb:Bool)(most:Int)(os:List O)(hk:∀ o∈os,0<=o.k/\o.k < 256)(hos:os.length < lim):∀ (d i N:Nat) (h:zd) (sb:Option Nat) (xs:List Int) (done:List R),StkAt h s sb most xs->i+d=os.length->done.length=i->d < N->xs.length+d < lim →
    ∃ h' sb',zR N (YN (n+5) s (os.map O.w) osb) [.sl 2 [] false,.sl 2 (done.map R.w++List.replicate d [.int .u8 0,.int .i32 0]) false,.bool false,.int .i64 (i:Int)] h=some (.ret [.row h'.length 2 0 os.length],h'++[.row 35 2 ((done++(Qy most (os.drop i) xs).1).map R.w) true])/\StkAt h' s sb' most (Qy most (os.drop i) xs).2/\Fed h h' s sb sb':=by
 intro d
 induction d with
 | zero =>
   intro i N h sb xs done hb h1 h2 h3 h4;obtain⟨N,rfl⟩:∃ N',N=N'+1:=⟨N - 1,by omega⟩;rw[zA];unfold YN;simp only[gv,zf,zh];rw[zr,za,zm,if_neg (by simp;omega),ZZ (by omega)];refine⟨h,sb,?_,hb,Fed.refl ..⟩;simp only[lsl,Qy,Zq,Q7,zo];rw[show done.length=os.length by omega]
 | succ d ih =>
   intro i N h sb xs done hb h1 h2 h3 h4;obtain⟨N,rfl⟩:∃ N',N=N'+1:=⟨N - 1,by omega⟩;have hi:i < os.length:=by omega
   obtain⟨h',sb',e,b1,b2⟩:=zjS n hb (by omega) os[i].k os[i].v (hk _ (Xd hi)).1 (hk _ (Xd hi)).2;obtain⟨h'',sb'',e',d1,d2⟩:=ih (i+1) N h' sb' _ (done++[zeI most os[i] xs]) b1 (by omega) (by simp;omega) (by omega) (by have:=zcx most os[i].k os[i].v xs;omega);have hd:os.drop i=os[i] :: os.drop (i+1):=zQ hi;refine⟨h'',sb'',?_,by rw[hd];exact d1,b2.trans d2⟩;rw[hd];simp only[Qy];rw[show done++(zeI most os[i] xs :: (Qy most (os.drop (i+1)) (Xe most os[i].k os[i].v xs).2).1)=done++[zeI most os[i] xs]++(Qy most (os.drop (i+1)) (Xe most os[i].k os[i].v xs).2).1 by simp,<- e',zA];have hix:ZE 2 i (.sl 2 (os.map O.w) osb)=some (.iptr 2 (O.w os[i]) 0):=by
    simp[ZE,zg hi]
   have key:∀ next,YN (n+5) s (os.map O.w) osb [.sl 2 [] false,.sl 2 (done.map R.w++List.replicate (d+1) [.int .u8 0,.int .i32 0]) false,.bool false,.int .i64 (i:Int)] h next=next [.sl 2 [] false,.sl 2 ((done++[zeI most os[i] xs]).map R.w++List.replicate d [.int .u8 0,.int .i32 0]) false,.bool false,.int .i64 ((i+1:Nat):Int)] h':=by
    intro next
    unfold YN;simp only[gv,zf,zh];rw[zr,za,zm,if_pos (by simp;omega),Za,zy,hix,za];simp only[zu];rw[zn,if_pos (by decide),zO,QS,if_pos (XV _),if_pos (by rw[XV];decide),Yf,zO,QS];show cl (call (n+5) _ [.ptr s 0,.agg [.int .u8 os[i].k,.int .i32 os[i].v]] h) _ _=_;rw[e,zM,zx,zy];have hlen:i < (done.map R.w++List.replicate (d+1) [V.int .u8 0,V.int .i32 0]).length:=by simp;omega
    have hget:(done.map R.w++List.replicate (d+1) [V.int .u8 0,V.int .i32 0])[i]?=some [.int .u8 0,.int .i32 0]:=by
     rw[zK (by simp;omega)];simp[h2]
    rw[if_pos (by refine⟨?_,hlen,by decide⟩;first|trivial|rfl),if_pos (by rfl),if_pos (by refine⟨?_,by decide,zl 2⟩;first|trivial|rfl)];simp only[lsl,zjR,V.cells];rw[hget,za,zH,za,Xa (by omega)];have hset:(done.map R.w++List.replicate (d+1) [V.int .u8 0,V.int .i32 0]).set i (setR [V.int .u8 0,V.int .i32 0] 0 [V.int .u8 (Xe most os[i].k os[i].v xs).1.1,V.int .i32 (Xe most os[i].k os[i].v xs).1.2])=(done++[zeI most os[i] xs]).map R.w++List.replicate d [V.int .u8 0,V.int .i32 0]:=by
     rw[ZC _ _ (by simp;omega)];simp[h2,Xq,R.w,setR,zeI]
    rw[hset]
   rw[key]
theorem zhE (n s : Nat) {h : zd} {sb : Option Nat} {most : Int} {xs : List Int} (hb : StkAt h s sb most xs) (os : List O) (osb : Bool) (hk : ∀ o ∈ os, 0 <= o.k /\ o.k < 256) (hos : xs.length + os.length < lim) (hn : os.length < n) :
    ∃ h' sb',call (n+6) 176 [.bf 177 [.ptr s 0],.sl 2 (os.map O.w) osb] h=some (.ret [.row h'.length 2 0 os.length],h'++[.row 35 2 ((Qy most os xs).1.map R.w) true])/\StkAt h' s sb' most (Qy most os xs).2/\Fed h h' s sb sb':=by
 obtain⟨h',sb',e,b1,b2⟩:=zhD n s osb most os hk (by omega) os.length 0 (n+5) h sb xs [] hb (by omega) rfl (by omega) hos;refine⟨h',sb',(zmd (n+5) s _ osb h).trans ?_,b1,b2⟩;unfold znt;rw[zo,Za,zy,zy,if_pos ⟨zl _,by omega,rfl⟩];exact e
end Go.Proofs.Tryz
namespace Go.Sk
open Go.L Go.Rp
def QB(most:Int)(vals:Nat->Int)(i:Nat)(c:Int)(ws:List Nat)(xs:List Int):(Int×Int)×List Nat×List Int :=
 if c=1 then(if ((xs.length+ws.length:Nat):Int) < most then((1,0),ws++[i],xs) else((3,0),ws,xs))
 else if c=2 then(match ws.getLast? with
  | some w=>((2,vals w),ws.dropLast,xs)
  | none=>(match xs.getLast? with|some y=>((2,y),ws,xs.dropLast)|none=>((4,0),ws,xs)))
 else((5,0),ws,xs)
theorem zo1 (most : Int) (vals : Nat -> Int) (i : Nat) (c : Int) (ws : List Nat) (xs : List Int) :
    Xe most c (vals i) (xs++ws.map vals)=((QB most vals i c ws xs).1,(QB most vals i c ws xs).2.2++(QB most vals i c ws xs).2.1.map vals):=by
 unfold Xe QB;by_cases h1:c=1
 . rw[if_pos h1,if_pos h1,zE,zo];by_cases h:((xs.length+ws.length:Nat):Int) < most
   . rw[if_pos h,if_pos h];simp
   . rw[if_neg h,if_neg h]
 . rw[if_neg h1,if_neg h1];by_cases h2:c=2
   . rw[if_pos h2,if_pos h2];rcases ZD ws with rfl|⟨w0,w,rfl⟩
     . rcases ZD xs with rfl|⟨x0,x,rfl⟩
       . simp
       . simp
     . simp[<- List.append_assoc]
   . rw[if_neg h2,if_neg h2]
end Go.Sk
namespace Go.Sk
open Go.L Go.Rp
def cdC(t:R):List V:=[.int .u8 t.c,.int .i32 0]
def vlC(t:R):List V:=[.int .i32 t.v]
def js (most : Int) (vals : Nat -> Int) : List O -> Nat -> List Nat -> List Int -> List R × List Nat × List Int
 | [],i,ws,xs=>([],ws,xs)
 | o :: l,i,ws,xs =>
   let t:=QB most vals i o.k ws xs
   let z:=js most vals l (i+1) t.2.1 t.2.2
   (⟨t.1.1,t.1.2⟩ :: z.1,z.2)
theorem zku (most : Int) (vals : Nat -> Int) : ∀ (l : List O) (i : Nat) (ws : List Nat) (xs : List Int), (js most vals l i ws xs).1.length = l.length
 | [],_,_,_=>rfl
 | o :: l,i,ws,xs=>by simp[js,zku most vals l]
theorem zkv(most:Int)(vals:Nat->Int):∀ (l:List O) (i:Nat) (ws:List Nat) (xs:List Int),(∀ j o,l[j]?=some o->vals (i+j)=o.v) →
    Qy most l (xs++ws.map vals)=((js most vals l i ws xs).1,(js most vals l i ws xs).2.2++(js most vals l i ws xs).2.1.map vals)
 | [],i,ws,xs,hv=>rfl
 | o :: l,i,ws,xs,hv=>by
   have h0:vals i=o.v:=hv 0 o rfl;have hs:=zo1 most vals i o.k ws xs;rw[h0] at hs;have ih:=zkv most vals l (i+1) (QB most vals i o.k ws xs).2.1 (QB most vals i o.k ws xs).2.2 (fun j p hj=>by rw[show i+1+j=i+(j+1) by omega];exact hv (j+1) p hj);simp only[Qy,js,zeI,hs,ih]
theorem zkw(most:Int)(vals:Nat->Int)(i:Nat)(c:Int)(ws:List Nat)(xs:List Int)(h:∀ w∈ws,w < i):∀ w∈(QB most vals i c ws xs).2.1,w < i+1:=by
 have h':∀ w∈ws,w < i+1:=fun w hw=>Nat.lt_succ_of_lt (h w hw);unfold QB;split
 . split
   . intro w hw;rcases Zi.1 hw with hw|hw
     . exact h' w hw
     . rw[Zx.1 hw];exact Nat.lt_succ_self i
   . exact h'
 . split
   . split
     . exact fun w hw=>h' w (List.dropLast_subset _ hw)
     . split <;> exact h'
   . exact h'
theorem zo2(most:Int)(vals:Nat->Int)(i:Nat)(c:Int)(ws:List Nat)(xs:List Int):(QB most vals i c ws xs).2.1.length+(QB most vals i c ws xs).2.2.length<=ws.length+xs.length+1:=by
 unfold QB;split
 . split <;> simp <;> omega
 . split
   . split
     . simp;omega
     . split <;> simp;omega
   . simp
structure Lay(B s q bo bs r:Nat)(qb:Option Nat):Prop where
 s1:s < B
 q1:q < B
 o1:bo < B
 b1:bs < B
 r1:r < B
 sq:s≠q
 so:s≠bo
 sb:s≠bs
 sr:s≠r
 qo:q≠bo
 qb':q≠bs
 qr:q≠r
 ro:r≠bo
 rb:r≠bs
 own:∀ b,qb=some b->b < B/\b≠s/\b≠q/\b≠r
end Go.Sk
namespace Go.Proofs.Tryz
open Go.L Go.Rp Go.Sk
set_option maxRecDepth 100000
structure MInv(B s q r:Nat)(qb:Option Nat)(m:Nat)(h0 h:zd)(sb:Option Nat)(ws:List Nat)(xs:List Int)(done:List R)(d:Nat):Prop where
 mt:MatAt h s sb xs.length m ws
 fr:∀ b,sb=some b->B<=b
 le:B<=h.length
 st:StkAt h q qb (m:Int) xs
 row:h[r]?=some (.row 21 1 (done.map vlC++List.replicate d [.int .i32 0]) true)
 rest:∀ j,j < B->j≠s->j≠q->j≠r->h[j]?=h0[j]?
theorem MInv.meet {B s q bo bs r : Nat} {qb : Option Nat} {m : Nat} {h0 h h' : zd} {sb sb' : Option Nat} {ws ws' : List Nat} {xs : List Int} {done : List R} {d : Nat} (L : Lay B s q bo bs r qb) (I : MInv B s q r qb m h0 h sb ws xs done d)
    (b1:MatAt h' s sb' xs.length m ws') (b2:Fed h h' s sb sb'):MInv B s q r qb m h0 h' sb' ws' xs done d:=by
 have hk:∀ j,j < B->j≠s->h'[j]?=h[j]?:=fun j h1 h2=>b2.old j (Z6 h1 I.le) h2 (fun e=>by have:=I.fr j e;omega);exact⟨b1,fun b hb=>by rcases b2.own b hb with e|e;exact I.fr b e;exact Z2 I.le e,Z2 I.le b2.len,I.st.keep (hk q L.q1 L.sq.symm) (fun b hb=>hk b (L.own b hb).1 (L.own b hb).2.1),(hk r L.r1 L.sr.symm).trans I.row,fun j h1 h2 h3 h4=>(hk j h1 h2).trans (I.rest j h1 h2 h3 h4)⟩
theorem MInv.told{B s q r:Nat}{qb:Option Nat}{m:Nat}{h0 h:zd}{sb:Option Nat}{ws:List Nat}{xs:List Int}{done:List R}{d:Nat}(I:MInv B s q r qb m h0 h sb ws xs done (d+1))(c:Int):MInv B s q r qb m h0 h sb ws xs (done++[⟨c,0⟩]) d :=
 ⟨I.mt,I.fr,I.le,I.st,by rw[I.row];simp[Xq,vlC],I.rest⟩
theorem za8{done:List R}{d:Nat}:∀ es∈done.map vlC++List.replicate d [V.int .i32 0],es.length=1:=by
 intro es hes;rcases Zi.1 hes with h|h
 . obtain⟨t,_,rfl⟩:=Zv.1 h;rfl
 . rw[(List.mem_replicate.1 h).2];rfl
theorem zc8(done:List R)(d:Nat)(c v:Int):(done.map vlC++List.replicate (d+1) [V.int .i32 0]).set done.length [.int .i32 v]=(done++[(⟨c,v⟩:R)]).map vlC++List.replicate d [.int .i32 0]:=by
 rw[ZC _ _ (by simp)];simp[Xq,vlC]
theorem Qd(done:List R)(d:Nat)(a:Int):(done.map cdC++([V.int .u8 a,V.int .i32 0] :: List.replicate d [V.int .u8 0,V.int .i32 0]))[done.length]?=some [.int .u8 a,.int .i32 0]:=by
 rw[zK (by simp)];simp
theorem XQ(done:List R)(d:Nat)(c a:Int):(done.map cdC++([V.int .u8 a,V.int .i32 0] :: List.replicate d [V.int .u8 0,V.int .i32 0])).set done.length (setR [V.int .u8 a,.int .i32 0] 0 [V.int .u8 c])=done.map cdC++([V.int .u8 c,V.int .i32 0] :: List.replicate d [V.int .u8 0,V.int .i32 0]):=by
 rw[ZC _ _ (by simp)];simp[setR]
theorem Je(done:List R)(d:Nat)(c v:Int):done.map cdC++([V.int .u8 c,V.int .i32 0] :: List.replicate d [V.int .u8 0,V.int .i32 0])=(done++[(⟨c,v⟩:R)]).map cdC++List.replicate d [.int .u8 0,.int .i32 0]:=by simp[cdC]
def valsOf(os:List O)(j:Nat):Int:=(os[j]?.map O.v).getD 0
theorem zhF (n s q bo bs r B : Nat) (osb : Bool) (m : Nat) (os : List O) {qb sb : Option Nat} {h0 h : zd} {ws : List Nat} {xs : List Int} {done : List R} {d : Nat} (L : Lay B s q bo bs r qb) (I : MInv B s q r qb m h0 h sb ws xs done (d + 1))
    (hbo:h0[bo]?=some (.box 1 [.sl 2 (os.map O.w) osb])) (hbs:h0[bs]?=some (.box 1 [.ptr q 0])) (hd:done.length+(d+1)=os.length) (hw:∀ w∈ws,w < done.length) (hl:ws.length+xs.length+1 < lim) (hos:os.length < lim) (o:O) (ho:os[done.length]?=some o) :
    ∃ h' sb' t,t=QB (m:Int) (valsOf os) done.length o.k ws xs/\(∀ next,QP (n+3) s (os.map O.w) osb bo bs r os.length [.sl 2 [] false,.sl 2 (done.map cdC++List.replicate (d+1) [.int .u8 0,.int .i32 0]) false,.bool false,.int .i64 (done.length:Int)] h next=next [.sl 2 [] false,.sl 2 ((done++[(⟨t.1.1,t.1.2⟩:R)]).map cdC++List.replicate d [.int .u8 0,.int .i32 0]) false,.bool false,.int .i64 ((done.length+1:Nat):Int)] h')/\MInv B s q r qb m h0 h' sb' t.2.1 t.2.2 (done++[⟨t.1.1,t.1.2⟩]) d:=by
 have hlt:done.length < os.length:=by omega
 have hix:ZE 2 done.length (.sl 2 (os.map O.w) osb)=some (.iptr 2 (O.w o) 0):=by simp[ZE,ho]
 have hbo':=(I.rest bo L.o1 L.so.symm L.qo.symm L.ro.symm).trans hbo;have hbs':=(I.rest bs L.b1 L.sb.symm L.qb'.symm L.rb.symm).trans hbs;have hwrap:IntKind.i64.wrap ((done.length:Int)+1)=((done.length+1:Nat):Int):=Xa (by omega);have front:∀ next,QP (n+3) s (os.map O.w) osb bo bs r os.length [.sl 2 [] false,.sl 2 (done.map cdC++List.replicate (d+1) [.int .u8 0,.int .i32 0]) false,.bool false,.int .i64 (done.length:Int)] h next=QP (n+3) s (os.map O.w) osb bo bs r os.length [.sl 2 [] false,.sl 2 (done.map cdC++([.int .u8 0,.int .i32 0] :: List.replicate d [.int .u8 0,.int .i32 0])) false,.bool false,.int .i64 (done.length:Int)] h next:=fun next=>by rw[Xq]
 have hlen:done.length < (done.map cdC++([V.int .u8 0,V.int .i32 0] :: List.replicate d [V.int .u8 0,V.int .i32 0])).length:=by simp
 have hput:∀ k:Int,setR [V.int .u8 0,V.int .i32 0] 0 (O.w o)=O.w o:=fun _=>rfl;have hll:(done.map vlC++List.replicate (d+1) [V.int .i32 0]).length=os.length:=by simp;omega
 by_cases k1:o.k=1
 . by_cases hm:xs.length+ws.length < m
   . obtain⟨h',sb',e,c1,c2⟩:=zfl (n+2) I.mt done.length hm (by omega);have ht:QB (m:Int) (valsOf os) done.length o.k ws xs=((1,0),ws++[done.length],xs):=by unfold QB;rw[if_pos k1,if_pos (by omega)]
     refine⟨h',sb',_,rfl,?_,?_⟩
     . intro next
       rw[ht];rw[front];unfold QP;simp only[gv,zf,zh,lsl];rw[zr,za,zm,if_pos (by simp;omega),Za,zy,hix,za];simp only[zu];rw[zn,if_pos (by decide),zO,QS,if_pos (XV _),if_pos (by rw[XV];decide),zy,if_pos ⟨trivial,hlen,by decide⟩,Yf];simp only[O.w,zb,za];rw[Xz,za,zm,if_pos (by simp[k1]),Qd,za,e,zM,zx,zm,if_pos rfl,XQ,Qd,za,zH,za,hwrap,XQ,Je (v:=0)]
     . rw[ht];exact(I.meet L c1 c2).told 1
   . have e:=zfk (n+2) I.mt (done.length:Int) (by omega) (by omega);have ht:QB (m:Int) (valsOf os) done.length o.k ws xs=((3,0),ws,xs):=by unfold QB;rw[if_pos k1,if_neg (by omega)]
     refine⟨h,sb,_,rfl,?_,?_⟩
     . intro next
       rw[ht];rw[front];unfold QP;simp only[gv,zf,zh,lsl];rw[zr,za,zm,if_pos (by simp;omega),Za,zy,hix,za];simp only[zu];rw[zn,if_pos (by decide),zO,QS,if_pos (XV _),if_pos (by rw[XV];decide),zy,if_pos ⟨trivial,hlen,by decide⟩,Yf];simp only[O.w,zb,za];rw[Xz,za,zm,if_pos (by simp[k1]),Qd,za,e,zM,zx,zm,if_neg (by decide),zH,za,hwrap,XQ,Je (v:=0)]
     . rw[ht];exact I.told 3
 by_cases k2:o.k=2
 . rcases ZD ws with rfl|⟨w0,w,rfl⟩
   . have e:=zhu (n+2) I.mt;rcases ZD xs with rfl|⟨x0,x,rfl⟩
     . have e2:=zet (n+2) I.mt;have ht:QB (m:Int) (valsOf os) done.length o.k [] []=((4,0),[],[]):=by unfold QB;rw[if_neg k1,if_pos k2];rfl
       refine⟨h,sb,_,rfl,?_,?_⟩
       . intro next
         rw[ht];rw[front];unfold QP;simp only[gv,zf,zh,lsl];rw[zr,za,zm,if_pos (by simp;omega),Za,zy,hix,za];simp only[zu];rw[zn,if_pos (by decide),zO,QS,if_pos (XV _),if_pos (by rw[XV];decide),zy,if_pos ⟨trivial,hlen,by decide⟩,Yf];simp only[O.w,zb,za];rw[Xz,za,zm,if_neg (by simp[k1]),Xz,za,zm,if_pos (by simp[k2]),Qd,za,e,zM];simp only[zb,zj,za];rw[zm,if_neg (by decide),e2,zM,zx,zm,if_neg (by decide),XQ,Qd,za,zH,za,hwrap,XQ,Je (v:=0)]
       . rw[ht];exact I.told 4
     . rw[XA] at I hl ⊢;have hmt:=I.mt;rw[zE,ZM] at hmt;obtain⟨h1,e2,c1,c2,c3⟩:=zeu (n+2) hmt (by simp at hl;omega);have hq1:StkAt h1 q qb (m:Int) (x0++[x]):=I.st.keep (c3 q L.sq.symm) (fun b hb=>c3 b (L.own b hb).2.1);have hr1:=(c3 r L.sr.symm).trans I.row;obtain⟨h2,e3,d1,d2,d3,d4⟩:=zjW n (i:=done.length) ((c3 bs L.sb.symm).trans hbs') hq1 (by simp at hl;omega) hr1 L.qr.symm (fun e=>(L.own r e).2.2.2 rfl) za8 (by rw[hll];exact hlt);rw[hll] at e3;have ht:QB (m:Int) (valsOf os) done.length o.k [] (x0++[x])=((2,x),[],x0):=by unfold QB;rw[if_neg k1,if_pos k2];simp
       refine⟨h2,sb,_,rfl,?_,?_⟩
       . intro next
         rw[ht];rw[front];unfold QP;simp only[gv,zf,zh,lsl];rw[zr,za,zm,if_pos (by simp;omega),Za,zy,hix,za];simp only[zu];rw[zn,if_pos (by decide),zO,QS,if_pos (XV _),if_pos (by rw[XV];decide),zy,if_pos ⟨trivial,hlen,by decide⟩,Yf];simp only[O.w,zb,za];rw[Xz,za,zm,if_neg (by simp[k1]),Xz,za,zm,if_pos (by simp[k2]),Qd,za,e,zM];simp only[zb,zj,za];rw[zm,if_neg (by decide),e2,zM,zx,zm,if_pos rfl,e3,zM,zH,za,hwrap,XQ,Je (v:=x)]
       . rw[ht];refine⟨c1.keep (d4 s L.sq L.sr) (fun b hb=>d4 b (fun e=>by have:=I.fr b hb;have:=L.q1;omega) (fun e=>by have:=I.fr b hb;have:=L.r1;omega)),I.fr,by rw[d3,c2];exact I.le,d1,by rw[d2,zc8 done d 2 x],fun j j1 j2 j3 j4=>(d4 j j3 j4).trans ((c3 j j2).trans (I.rest j j1 j2 j3 j4))⟩
   . rw[XA] at I hl hw ⊢;obtain⟨h1,e,c1,c2,c3⟩:=zhv (n+2) I.mt (by simp at hl;omega);have hwl:w < os.length:=by have:=hw w (by simp);omega
     have I1:=I.meet L c1 ⟨by omega,fun j _ j2 _=>c3 j j2,fun b hb=>.inl hb⟩;have e2:=zjV (n+2) (j:=w) (i:=done.length) ((c3 bo L.so.symm).trans hbo') I1.row za8 (by rw[hll];exact hlt) hwl;rw[hll] at e2;have hv:valsOf os w=os[w].v:=by simp[valsOf,zg hwl]
     have ht:QB (m:Int) (valsOf os) done.length o.k (w0++[w]) xs=((2,os[w].v),w0,xs):=by unfold QB;rw[if_neg k1,if_pos k2,<- hv];simp
     refine⟨h1.set r (.row 21 1 ((done.map vlC++List.replicate (d+1) [V.int .i32 0]).set done.length [.int .i32 os[w].v]) true),sb,_,rfl,?_,?_⟩
     . intro next
       rw[ht];rw[front];unfold QP;simp only[gv,zf,zh,lsl];rw[zr,za,zm,if_pos (by simp;omega),Za,zy,hix,za];simp only[zu];rw[zn,if_pos (by decide),zO,QS,if_pos (XV _),if_pos (by rw[XV];decide),zy,if_pos ⟨trivial,hlen,by decide⟩,Yf];simp only[O.w,zb,za];rw[Xz,za,zm,if_neg (by simp[k1]),Xz,za,zm,if_pos (by simp[k2]),Qd,za,e,zM];simp only[zb,zj,za];rw[zm,if_pos rfl,e2,zM,zH,za,hwrap,XQ,Je (v:=os[w].v)]
     . rw[ht];refine⟨I1.mt.keep (ze L.sr.symm) (fun b hb=>ze (fun e=>by have:=I1.fr b hb;have:=L.r1;omega)),I1.fr,by rw[zt];exact I1.le,I1.st.keep (ze L.qr.symm) (fun b hb=>ze (L.own b hb).2.2.2.symm),?_,fun j j1 j2 j3 j4=>(ze j4.symm).trans (I1.rest j j1 j2 j3 j4)⟩;rw[Xr (zT I1.row),zc8 done d 2]
 . have ht:QB (m:Int) (valsOf os) done.length o.k ws xs=((5,0),ws,xs):=by unfold QB;rw[if_neg k1,if_neg k2]
   refine⟨h,sb,_,rfl,?_,?_⟩
   . intro next
     rw[ht];rw[front];unfold QP;simp only[gv,zf,zh,lsl];rw[zr,za,zm,if_pos (by simp;omega),Za,zy,hix,za];simp only[zu];rw[zn,if_pos (by decide),zO,QS,if_pos (XV _),if_pos (by rw[XV];decide),zy,if_pos ⟨trivial,hlen,by decide⟩,Yf];simp only[O.w,zb,za];rw[Xz,za,zm,if_neg (by simp[k1]),Xz,za,zm,if_neg (by simp[k2]),Qd,za,zH,za,hwrap,XQ,Je (v:=0)]
   . rw[ht];exact I.told 5
theorem zhG (n s q bo bs r B : Nat) (osb : Bool) (m : Nat) (os : List O) {qb : Option Nat} {h0 : zd} (L : Lay B s q bo bs r qb)
    (hbo:h0[bo]?=some (.box 1 [.sl 2 (os.map O.w) osb])) (hbs:h0[bs]?=some (.box 1 [.ptr q 0])) (hos:os.length < lim):∀ (d N:Nat) (h:zd) (sb:Option Nat) (ws:List Nat) (xs:List Int) (done:List R),MInv B s q r qb m h0 h sb ws xs done d->done.length+d=os.length->d < N->(∀ w∈ws,w < done.length)->ws.length+xs.length+d < lim →
    ∃ h' sb' z,z=js (m:Int) (valsOf os) (os.drop done.length) done.length ws xs/\zR N (QP (n+3) s (os.map O.w) osb bo bs r os.length) [.sl 2 [] false,.sl 2 (done.map cdC++List.replicate d [.int .u8 0,.int .i32 0]) false,.bool false,.int .i64 (done.length:Int)] h=some (.ret [.row h'.length 2 0 os.length],h'++[.row 35 2 ((done++z.1).map cdC) true])/\MInv B s q r qb m h0 h' sb' z.2.1 z.2.2 (done++z.1) 0:=by
 intro d
 induction d with
 | zero =>
   intro N h sb ws xs done I h1 h2 hw hl;obtain⟨N,rfl⟩:∃ N',N=N'+1:=⟨N - 1,by omega⟩;refine⟨h,sb,_,rfl,?_,?_⟩
   . rw[zA];unfold QP;simp only[gv,zf,zh];rw[zr,za,zm,if_neg (by simp;omega),ZZ (by omega)];simp only[lsl,js,Zq,Q7,zo];rw[show done.length=os.length by omega]
   . rw[ZZ (by omega)];simp only[js,Zq];exact I
 | succ d ih =>
   intro N h sb ws xs done I h1 h2 hw hl;obtain⟨N,rfl⟩:∃ N',N=N'+1:=⟨N - 1,by omega⟩;have hi:done.length < os.length:=by omega
   obtain⟨h',sb',t,rfl,key,I'⟩:=zhF n s q bo bs r B osb m os L I hbo hbs h1 hw (by omega) hos os[done.length] (zg hi);have hlen:=zo2 (m:Int) (valsOf os) done.length os[done.length].k ws xs;have hws:=zkw (m:Int) (valsOf os) done.length os[done.length].k ws xs hw;obtain⟨h'',sb'',z,hz,e',I''⟩:=ih N h' sb' _ _ _ I' (by simp;omega) (by omega) (by simpa using hws) (by omega);have hd:os.drop done.length=os[done.length] :: os.drop (done.length+1):=zQ hi;rw[zE,ZM] at hz e';refine⟨h'',sb'',_,rfl,?_,?_⟩
   . rw[hd,zA,key,e',hz];simp[js]
   . rw[hd];rw[hz] at I'';simpa[js] using I''
theorem zhH (n s q bo bs r B : Nat) (osb : Bool) (m : Nat) (os : List O) {qb : Option Nat} {h : zd} (L : Lay B s q bo bs r qb)
    (hbo:h[bo]?=some (.box 1 [.sl 2 (os.map O.w) osb])) (hbs:h[bs]?=some (.box 1 [.ptr q 0])) {xs:List Int} (hos:os.length+xs.length < lim) (hn:os.length < n) (I:MInv B s q r qb m h h none [] xs [] os.length) :
    ∃ h' sb' z,z=js (m:Int) (valsOf os) os 0 [] xs/\call (n+4) 181 [.ptr s 0,.sl 2 (os.map O.w) osb,.fn 182 [.ptr bo 0,.iptr 1 [.row r 1 0 os.length] 0],.fn 183 [.ptr bs 0,.iptr 1 [.row r 1 0 os.length] 0]] h=some (.ret [.row h'.length 2 0 os.length],h'++[.row 35 2 (z.1.map cdC) true])/\MInv B s q r qb m h h' sb' z.2.1 z.2.2 z.1 0:=by
 obtain⟨h',sb',z,hz,e,I'⟩:=zhG n s q bo bs r B osb m os L hbo hbs (by omega) os.length (n+3) h none [] xs [] I (by simp) (by omega) (by simp) (by simp;omega);refine⟨h',sb',z,by simpa using hz,(zoV (n+3) s _ osb bo bs r _ h).trans ?_,by simpa using I'⟩;unfold zq4;rw[zo,Za,zy,zy,if_pos ⟨zl _,by omega,rfl⟩];simpa using e
end Go.Proofs.Tryz
namespace Go.Sk
open Go.L Go.Rp
def Y4(d:Nat)(xs:List Int):Option (Int×List Int) :=
 if d=0 then(match xs with|y :: r=>some (y,r)|[]=>none) else(match xs.getLast? with|some y=>some (y,xs.dropLast)|none=>none)
def Yh(most:Int)(i d:Nat)(ws:Nat->List Nat)(xs:List Int):(Int×Int)×(Nat->List Nat)×List Int :=
 if ((xs.length+(ws 0).length+(ws 1).length:Nat):Int) < most then((1,0),Wo d (ws d++[i]) ws,xs) else((3,0),ws,xs)
def za9(vals:Nat->Int)(d:Nat)(ws:Nat->List Nat)(xs:List Int):(Int×Int)×(Nat->List Nat)×List Int :=
 match (ws d).getLast? with
 | some w=>((2,vals w),Wo d (ws d).dropLast ws,xs)
 | none=>(match Y4 d xs with
   | some p=>((2,p.1),ws,p.2)
   | none=>(match ws (1 - d) with|w :: r=>((2,vals w),Wo (1 - d) r ws,xs)|[]=>((4,0),ws,xs)))
def Wh(most:Int)(vals:Nat->Int)(i:Nat)(c:Int)(ws:Nat->List Nat)(xs:List Int):(Int×Int)×(Nat->List Nat)×List Int :=
 if c=1 then Yh most i 0 ws xs else if c=2 then Yh most i 1 ws xs else if c=3 then za9 vals 0 ws xs else if c=4 then za9 vals 1 ws xs else((5,0),ws,xs)
def jk(vals:Nat->Int)(ws:Nat->List Nat)(xs:List Int):List Int:=(ws 0).reverse.map vals++xs++(ws 1).map vals
theorem zo3 (most : Int) (vals : Nat -> Int) (i : Nat) (c : Int) (ws : Nat -> List Nat) (xs : List Int) :
    ZF most c (vals i) (jk vals ws xs)=((Wh most vals i c ws xs).1,jk vals (Wh most vals i c ws xs).2.1 (Wh most vals i c ws xs).2.2):=by
 have hl:(jk vals ws xs).length=xs.length+(ws 0).length+(ws 1).length:=by simp[jk];omega
 unfold ZF Wh;by_cases h1:c=1
 . rw[if_pos h1,if_pos h1,hl];unfold Yh;by_cases h:((xs.length+(ws 0).length+(ws 1).length:Nat):Int) < most
   . rw[if_pos h,if_pos h];simp[jk,Wo]
   . rw[if_neg h,if_neg h]
 rw[if_neg h1,if_neg h1];by_cases h2:c=2
 . rw[if_pos h2,if_pos h2,hl];unfold Yh;by_cases h:((xs.length+(ws 0).length+(ws 1).length:Nat):Int) < most
   . rw[if_pos h,if_pos h];simp[jk,Wo]
   . rw[if_neg h,if_neg h]
 rw[if_neg h2,if_neg h2];by_cases h3:c=3
 . rw[if_pos h3,if_pos h3];unfold za9;rcases ZD (ws 0) with e0|⟨w0,w,e0⟩
   . cases xs with
     | nil =>
       cases e1:ws 1 with
       | nil=>simp[jk,e0,e1,Y4]
       | cons w r=>simp[jk,e0,e1,Y4,Wo]
     | cons y r=>simp[jk,e0,Y4]
   . simp[jk,e0,Wo]
 rw[if_neg h3,if_neg h3];by_cases h4:c=4
 . rw[if_pos h4,if_pos h4];unfold za9;rcases ZD (ws 1) with e0|⟨w0,w,e0⟩
   . rcases ZD xs with rfl|⟨x0,x,rfl⟩
     . cases e1:ws 0 with
       | nil=>simp[jk,e0,e1,Y4]
       | cons w r=>simp[jk,e0,e1,Y4,Wo]
     . simp[jk,e0,Y4,<- List.append_assoc]
   . simp[jk,e0,Wo,<- List.append_assoc]
 rw[if_neg h4,if_neg h4]
def qH (most : Int) (vals : Nat -> Int) : List O -> Nat -> (Nat -> List Nat) -> List Int -> List R × (Nat -> List Nat) × List Int
 | [],i,ws,xs=>([],ws,xs)
 | o :: l,i,ws,xs =>
   let t:=Wh most vals i o.k ws xs
   let z:=qH most vals l (i+1) t.2.1 t.2.2
   (⟨t.1.1,t.1.2⟩ :: z.1,z.2)
theorem zkx (most : Int) (vals : Nat -> Int) : ∀ (l : List O) (i : Nat) (ws : Nat -> List Nat) (xs : List Int), (qH most vals l i ws xs).1.length = l.length
 | [],_,_,_=>rfl
 | o :: l,i,ws,xs=>by simp[qH,zkx most vals l]
def zeK(most:Int)(o:O)(xs:List Int):R:=⟨(ZF most o.k o.v xs).1.1,(ZF most o.k o.v xs).1.2⟩
def QL (most : Int) : List O -> List Int -> List R × List Int
 | [],xs=>([],xs)
 | o :: r,xs=>(zeK most o xs :: (QL most r (ZF most o.k o.v xs).2).1,(QL most r (ZF most o.k o.v xs).2).2)
theorem zeL (most : Int) : ∀ (l : List O) (xs : List Int), (QL most l xs).1.length = l.length
 | [],_=>rfl
 | o :: r,xs=>by simp[QL,zeL most r]
theorem zky(most:Int)(vals:Nat->Int):∀ (l:List O) (i:Nat) (ws:Nat->List Nat) (xs:List Int),(∀ j o,l[j]?=some o->vals (i+j)=o.v) →
    QL most l (jk vals ws xs)=((qH most vals l i ws xs).1,jk vals (qH most vals l i ws xs).2.1 (qH most vals l i ws xs).2.2)
 | [],i,ws,xs,hv=>rfl
 | o :: l,i,ws,xs,hv=>by
   have h0:vals i=o.v:=hv 0 o rfl;have hs:=zo3 most vals i o.k ws xs;rw[h0] at hs;have ih:=zky most vals l (i+1) (Wh most vals i o.k ws xs).2.1 (Wh most vals i o.k ws xs).2.2 (fun j p hj=>by rw[show i+1+j=i+(j+1) by omega];exact hv (j+1) p hj);simp only[QL,qH,zeK,hs,ih]
def Below2(i:Nat)(ws:Nat->List Nat):Prop:=∀ d,d < 2->∀ w∈ws d,w < i
def tot(ws:Nat->List Nat)(xs:List Int):Nat:=xs.length+(ws 0).length+(ws 1).length
theorem Below2.mono{i j:Nat}{ws:Nat->List Nat}(h:Below2 i ws)(hij:i<=j):Below2 j ws:=fun d hd w hw=>Z6 (h d hd w hw) hij
theorem Below2.put{i:Nat}{ws:Nat->List Nat}(h:Below2 i ws)(d:Nat){l:List Nat}(hl:∀ w∈l,w < i):Below2 i (Wo d l ws):=fun e he w hw=>by
 unfold Wo at hw;split at hw
 . exact hl w hw
 . exact h e he w hw
theorem zhI{d:Nat}(hd:d < 2)(l:List Nat)(ws:Nat->List Nat)(xs:List Int):tot (Wo d l ws) xs+(ws d).length=tot ws xs+l.length:=by
 obtain rfl|rfl:d=0\/d=1:=by omega
 . simp only[tot,JL,Ys l ws (show (1:Nat)≠0 by decide)];omega
 . simp only[tot,JL,Ys l ws (show (0:Nat)≠1 by decide)];omega
theorem zgq{d:Nat}{xs:List Int}{p:Int×List Int}(h:Y4 d xs=some p):p.2.length+1=xs.length:=by
 unfold Y4 at h;split at h
 . cases xs with
   | nil=>cases h
   | cons y r=>cases h;rfl
 . rcases ZD xs with rfl|⟨x0,x,rfl⟩
   . cases h
   . simp at h;subst h;simp
theorem znv(vals:Nat->Int){d:Nat}(hd:d < 2){i:Nat}{ws:Nat->List Nat}{xs:List Int}(h:Below2 i ws):Below2 i (za9 vals d ws xs).2.1/\tot (za9 vals d ws xs).2.1 (za9 vals d ws xs).2.2<=tot ws xs:=by
 unfold za9;split
 . rename_i w e;refine⟨h.put d (fun w hw=>h d hd w (List.dropLast_subset _ hw)),?_⟩;have:=zhI hd (ws d).dropLast ws xs;simp at this ⊢;omega
 . split
   . rename_i p e;have:=zgq e;exact⟨h,by simp only[tot];omega⟩
   . split
     . rename_i w r e;refine⟨h.put (1 - d) (fun x hx=>h (1 - d) (by omega) x (by rw[e];exact zw _ hx)),?_⟩;have:=zhI (d:=1 - d) (by omega) r ws xs;rw[e] at this;simp at this ⊢;omega
     . exact⟨h,zl _⟩
theorem zkz(most:Nat){d:Nat}(hd:d < 2){i:Nat}{ws:Nat->List Nat}{xs:List Int}(h:Below2 i ws)(hm:tot ws xs<=most):Below2 (i+1) (Yh (most:Int) i d ws xs).2.1/\tot (Yh (most:Int) i d ws xs).2.1 (Yh (most:Int) i d ws xs).2.2<=most/\tot (Yh (most:Int) i d ws xs).2.1 (Yh (most:Int) i d ws xs).2.2<=tot ws xs+1:=by
 unfold Yh;split
 . rename_i e;refine⟨(h.mono (Wk i)).put d (fun w hw=>?_),?_⟩
   . rcases Zi.1 hw with hw|hw
     . exact Nat.lt_succ_of_lt (h d hd w hw)
     . rw[Zx.1 hw];exact Nat.lt_succ_self i
   . have:=zhI hd (ws d++[i]) ws xs;simp only[zE,ZM] at this;unfold tot at this hm ⊢;simp only;omega
 . exact⟨h.mono (Wk i),hm,Wk _⟩
theorem zkA(most:Nat)(vals:Nat->Int)(i:Nat)(c:Int){ws:Nat->List Nat}{xs:List Int}(h:Below2 i ws)(hm:tot ws xs<=most):Below2 (i+1) (Wh (most:Int) vals i c ws xs).2.1/\tot (Wh (most:Int) vals i c ws xs).2.1 (Wh (most:Int) vals i c ws xs).2.2<=most/\tot (Wh (most:Int) vals i c ws xs).2.1 (Wh (most:Int) vals i c ws xs).2.2<=tot ws xs+1:=by
 unfold Wh;split
 . exact zkz most (by decide) h hm
 split
 . exact zkz most (by decide) h hm
 split
 . have:=znv vals (d:=0) (by decide) (xs:=xs) h;exact⟨this.1.mono (Wk i),by omega,by omega⟩
 split
 . have:=znv vals (d:=1) (by decide) (xs:=xs) h;exact⟨this.1.mono (Wk i),by omega,by omega⟩
 . exact⟨h.mono (Wk i),hm,Wk _⟩
theorem znw (most : Nat) (vals : Nat -> Int) : ∀ (l : List O) (i : Nat) (ws : Nat -> List Nat) (xs : List Int), Below2 i ws -> tot ws xs <= most -> Below2 (i + l.length) (qH (most : Int) vals l i ws xs).2.1 /\ tot (qH (most : Int) vals l i ws xs).2.1 (qH (most : Int) vals l i ws xs).2.2 <= most
 | [],_,_,_,h,hm=>⟨h,hm⟩
 | o :: l,i,ws,xs,h,hm=>by
   have h1:=zkA most vals i o.k h hm;have h2:=znw most vals l (i+1) _ _ h1.1 h1.2.1;refine⟨h2.1.mono (by simp;omega),h2.2⟩
structure ELay(B s q qb r mp:Nat):Prop where
 s1:s < B
 q1:q < B
 b1:qb < B
 r1:r < B
 m1:mp < B
 sq:s≠q
 sb:s≠qb
 sr:s≠r
 sm:s≠mp
 qr:q≠r
 qm:q≠mp
 br:qb≠r
 bm:qb≠mp
 rm:r≠mp
end Go.Sk
namespace Go.Proofs.Tryz
open Go.L Go.Rp Go.Sk
set_option maxRecDepth 100000
def KP:List (V×V):=[(.int .u8 1,.agg [.bool true,.int .i64 0]),(.int .u8 2,.agg [.bool true,.int .i64 1]),(.int .u8 3,.agg [.bool false,.int .i64 0]),(.int .u8 4,.agg [.bool false,.int .i64 1])]
theorem qd:kds prog 12 5=some [0]:=by kernel_rfl
theorem zrk(a n:Int):keq [0] (.int .u8 a) (.int .u8 n)=some (a == n):=by
 show some (a == n && true)=_;rw[Bool.and_true]
theorem zrl(n:Nat)(h:zd):call (n+1) 212 [] h=some (.ret [.map h.length],h++[.map KP]):=by
 rw[zmb];unfold znr;have g:∀ es,(h++[HB.map es])[h.length]?=some (.map es):=fun es=>zI;have st:∀ es es',(h++[HB.map es]).set h.length (HB.map es')=h++[HB.map es']:=fun es es'=>by rw[ZC _ _ (zl _)];simp
 simp only[g,st,zf1];rw[qd,za];simp only[Q4,za];rw[if_pos (by decide)];simp only[g,st,zf1,upd,zU,Q4,zrk];rfl
theorem zrm(c:Int):Q4 [0] (.int .u8 c) KP 0=some (if c=1 then some 0 else if c=2 then some 1 else if c=3 then some 2 else if c=4 then some 3 else none):=by
 unfold KP;simp only[Q4,zrk];by_cases h1:c=1
 . simp[h1]
 by_cases h2:c=2
 . simp[h2]
 by_cases h3:c=3
 . simp[h3]
 by_cases h4:c=4
 . simp[h4]
 have e1:(c == 1)=false:=by simpa using h1
 have e2:(c == 2)=false:=by simpa using h2
 have e3:(c == 3)=false:=by simpa using h3
 have e4:(c == 4)=false:=by simpa using h4
 simp only[e1,e2,e3,e4,if_neg h1,if_neg h2,if_neg h3,if_neg h4]
structure EInv(B s q qb r:Nat)(m:Nat)(h0 h:zd)(sb:Nat->Option Nat)(ws:Nat->List Nat)(v:Nat->V)(xs:List Int)(done:List R)(d:Nat):Prop where
 mt:EndAt h s sb xs.length m ws v
 fr:∀ e b,e < 2->sb e=some b->B<=b
 le:B<=h.length
 st:RngAt h q qb m xs
 row:h[r]?=some (.row 21 1 (done.map vlC++List.replicate d [.int .i32 0]) true)
 rest:∀ j,j < B->j≠s->j≠q->j≠qb->j≠r->h[j]?=h0[j]?
theorem EInv.meet {B s q qb r mp : Nat} {m : Nat} {h0 h h' : zd} {sb sb' : Nat -> Option Nat} {ws ws' : Nat -> List Nat} {v v' : Nat -> V} {xs : List Int} {done : List R} {d : Nat} (L : ELay B s q qb r mp) (I : EInv B s q qb r m h0 h sb ws v xs done d)
    (b1:EndAt h' s sb' xs.length m ws' v') (b2:EFed h h' s sb sb'):EInv B s q qb r m h0 h' sb' ws' v' xs done d:=by
 have hk:∀ j,j < B->j≠s->h'[j]?=h[j]?:=fun j h1 h2=>b2.old j (Z6 h1 I.le) h2 (fun e=>by have:=I.fr 0 j (by decide) e;omega) (fun e=>by have:=I.fr 1 j (by decide) e;omega);exact⟨b1,fun e b he hb=>by rcases b2.new e b he hb with k|k;exact I.fr e b he k;exact Z2 I.le k,Z2 I.le b2.len,I.st.keep (hk q L.q1 L.sq.symm) (hk qb L.b1 L.sb.symm),(hk r L.r1 L.sr.symm).trans I.row,fun j h1 h2 h3 h4 h5=>(hk j h1 h2).trans (I.rest j h1 h2 h3 h4 h5)⟩
theorem EInv.told{B s q qb r:Nat}{m:Nat}{h0 h:zd}{sb:Nat->Option Nat}{ws:Nat->List Nat}{v:Nat->V}{xs:List Int}{done:List R}{d:Nat}(I:EInv B s q qb r m h0 h sb ws v xs done (d+1))(c:Int):EInv B s q qb r m h0 h sb ws v xs (done++[⟨c,0⟩]) d :=
 ⟨I.mt,I.fr,I.le,I.st,by rw[I.row];simp[Xq,vlC],I.rest⟩
theorem EInv.num{B s q qb r mp:Nat}{m:Nat}{h0 h h':zd}{sb:Nat->Option Nat}{ws:Nat->List Nat}{v:Nat->V}{xs xs':List Int}{done:List R}{d:Nat}(L:ELay B s q qb r mp)(I:EInv B s q qb r m h0 h sb ws v xs done (d+1))(c x:Int)(b1:EndAt h' s sb xs'.length m ws v)(b2:RngAt h' q qb m xs')(b3:h'.length=h.length)(b4:h'[r]?=some (.row 21 1 ((done.map vlC++List.replicate (d+1) [V.int .i32 0]).set done.length [.int .i32 x]) true))(b5:∀ j,j≠q->j≠qb->j≠r->h'[j]?=h[j]?):EInv B s q qb r m h0 h' sb ws v xs' (done++[⟨c,x⟩]) d :=
 ⟨b1,I.fr,by rw[b3];exact I.le,b2,by rw[b4,zc8 done d c x],fun j h1 h2 h3 h4 h5=>(b5 j h3 h4 h5).trans (I.rest j h1 h2 h3 h4 h5)⟩
theorem EndAt.keep{h h':zd}{s:Nat}{sb:Nat->Option Nat}{u m:Nat}{ws:Nat->List Nat}{v:Nat->V}(E:EndAt h s sb u m ws v)(h1:h'[s]?=h[s]?)(h2:∀ e b,e < 2->sb e=some b->h'[b]?=h[b]?):EndAt h' s sb u m ws v :=
 ⟨h1.trans E.box,fun e he=>(E.side e he).keep (fun b hb=>h2 e b he hb),E.own,E.apart⟩
theorem zgr (n : Nat) {h : zd} {q r d : Nat} {os : List O} {osb : Bool} {l : List (List V)} {z : Bool} {i j : Nat} (hd : d < 2) (hr : h[r]? = some (.row 21 1 l z)) (hl : ∀ es ∈ l, es.length = 1) (hi : i < l.length) (hj : j < os.length) :
    call (n+1) 208 [.int .i64 (i:Int),.int .i64 (d:Int),.int .i64 (j:Int),.iptr 2 [.bf 203 [.ptr q 0],.bf 204 [.ptr q 0]] 0,.iptr 1 [.row r 1 0 l.length] 0,.iptr 1 [.sl 2 (os.map O.w) osb] 0] h=some (.ret [],h.set r (.row 21 1 (l.set i [.int .i32 os[j].v]) z)):=by
 have hx:l[i]?=some l[i]:=zg hi;have hw:Zt h [V.int .i32 os[j].v] (.rptr r 1 i 0)=some (r,.row 21 1 (l.set i [.int .i32 os[j].v]) z):=by
  obtain⟨e,he⟩:∃ e,l[i]=[e]:=ZY.1 (hl _ (Xd hi));simp[Zt,hr,hx,he,setR]
 obtain rfl|rfl:d=0\/d=1:=by omega
 . refine(zj4 n _ _ q r _ _ osb h).trans ?_;unfold zre;rw[if_neg (by simp),Za,zy,Xb (es:=O.w os[j]) (by rw[zG,zg hj];rfl),za];simp only[ZL,za];rw[Zl,zn,if_pos (by decide)];simp only[O.w,zq,zj,zb,za];rw[Za,zy,XR (by omega),za,zq];simp only[V.cells,zD,zP,zq,if_true];rw[hw,Zf]
 . refine(zj5 n _ _ q r _ _ osb h).trans ?_;unfold zrf;rw[if_neg (by simp),Za,zy,Xb (es:=O.w os[j]) (by rw[zG,zg hj];rfl),za];simp only[ZL,za];rw[Zl,zn,if_pos (by decide)];simp only[O.w,zq,zj,zb,za];rw[Za,zy,XR (by omega),za,zq];simp only[V.cells,zD,zP,zq,if_true];rw[hw,Zf]
theorem zfr (n : Nat) {h : zd} {q qb c d : Nat} {xs : List Int} (hb : RngAt h q qb c xs) (hc : c < 100000) {p : Int × List Int} (hp : Y4 d xs = some p) :
    ∃ h',call (n+2) (if d=0 then 203 else 204) [.ptr q 0] h=some (.ret [.int .i32 p.1,.bool true],h')/\RngAt h' q qb c p.2/\RFed h h' q qb:=by
 unfold Y4 at hp;split at hp
 . rename_i hd;rw[if_pos hd];cases xs with
   | nil=>cases hp
   | cons y r=>cases hp;exact qU n hb hc
 . rename_i hd;rw[if_neg hd];rcases ZD xs with rfl|⟨x0,x,rfl⟩
   . cases hp
   . simp at hp;subst hp;rw[XA] at hb;exact qV n hb hc
theorem zmf (n : Nat) {h : zd} {q qb r c d : Nat} {os : List (List V)} {osb : Bool} {l : List (List V)} {z : Bool} {i : Nat} {xs : List Int} (hd : d < 2) (hr : h[r]? = some (.row 21 1 l z)) (hl : ∀ es ∈ l, es.length = 1) (hi : i < l.length) (hb : RngAt h q qb c xs) (hc : c < 100000) (qr : r ≠ q) (br : r ≠ qb) {p : Int × List Int} (hp : Y4 d xs = some p) :
    ∃ h',call (n+3) 208 [.int .i64 (i:Int),.int .i64 (d:Int),.int .i64 (-1),.iptr 2 [.bf 203 [.ptr q 0],.bf 204 [.ptr q 0]] 0,.iptr 1 [.row r 1 0 l.length] 0,.iptr 1 [.sl 2 os osb] 0] h=some (.ret [],h')/\RngAt h' q qb c p.2/\h'[r]?=some (.row 21 1 (l.set i [.int .i32 p.1]) z)/\h'.length=h.length/\∀ j,j≠q->j≠qb->j≠r->h'[j]?=h[j]?:=by
 obtain⟨h1,e,b1,b2⟩:=zfr n hb hc hp;have hr1:h1[r]?=some (.row 21 1 l z):=(b2.old r qr br).trans hr;have hx:l[i]?=some l[i]:=zg hi;have hw:Zt h1 [V.int .i32 p.1] (.rptr r 1 i 0)=some (r,.row 21 1 (l.set i [.int .i32 p.1]) z):=by
  obtain⟨e,he⟩:∃ e,l[i]=[e]:=ZY.1 (hl _ (Xd hi));simp[Zt,hr1,hx,he,setR]
 refine⟨h1.set r (.row 21 1 (l.set i [.int .i32 p.1]) z),?_,b1.keep (ze qr) (ze br),Xr (zT hr1) _,by rw[zt];exact b2.len,fun j h1 h2 h3=>(ze (Ne.symm h3)).trans (b2.old j h1 h2)⟩;obtain rfl|rfl:d=0\/d=1:=by omega
 . rw[if_pos rfl] at e;refine(zj4 (n+2) _ _ q r _ _ osb h).trans ?_;unfold zre;rw[if_pos (by decide),e];simp only[clH,zb,zj,za];rw[Za,zy,XR (by omega),za,zq];simp only[V.cells,ixP,zD,zP,zq,if_true];rw[hw,Zf]
 . rw[if_neg (by decide)] at e;refine(zj5 (n+2) _ _ q r _ _ osb h).trans ?_;unfold zrf;rw[if_pos (by decide),e];simp only[clH,zb,zj,za];rw[Za,zy,XR (by omega),za,zq];simp only[V.cells,ixP,zD,zP,zq,if_true];rw[hw,Zf]
end Go.Proofs.Tryz
namespace Go.Proofs.Tryz
open Go.L Go.Rp Go.Sk
set_option maxRecDepth 100000
def zrn(n s q r mp:Nat)(osb:Bool)(os:List O)(h:zd)(done:List R)(d:Nat)(t:(Int×Int))(h':zd):Prop :=
 ∀ next,Jc n s (os.map O.w) osb q r os.length (.map mp) [.sl 2 [] false,.sl 2 (done.map cdC++([.int .u8 0,.int .i32 0] :: List.replicate d [.int .u8 0,.int .i32 0])) false,.bool false,.int .i64 (done.length:Int)] h next=next [.sl 2 [] false,.sl 2 ((done++[(⟨t.1,t.2⟩:R)]).map cdC++List.replicate d [.int .u8 0,.int .i32 0]) false,.bool false,.int .i64 ((done.length+1:Nat):Int)] h'
theorem JW(done:List R)(d:Nat)(a:Int):done.length < (done.map cdC++([V.int .u8 a,V.int .i32 0] :: List.replicate d [V.int .u8 0,V.int .i32 0])).length:=by simp
theorem qW (n s q qb r mp B : Nat) (osb : Bool) (m : Nat) (os : List O) {sb : Nat -> Option Nat} {h0 h : zd} {ws : Nat -> List Nat} {v : Nat -> V} {xs : List Int} {done : List R} {d : Nat} (L : ELay B s q qb r mp) (I : EInv B s q qb r m h0 h sb ws v xs done (d + 1))
    (hmp0:h0[mp]?=some (.map KP)) (hd:done.length+(d+1)=os.length) (hl:tot ws xs+1 < lim) (hos:os.length < lim) (o:O) (ho:os[done.length]?=some o) (e:Nat) (e2:e < 2) (hf:Q4 [0] (.int .u8 o.k) KP 0=some (some e)) (he:W7 KP (.agg [.bool false,.int .i64 0]) (some e)=some (.agg [.bool true,.int .i64 (e:Int)])) :
    ∃ h' sb' v',zrn (n+3) s q r mp osb os h done d (Yh (m:Int) done.length e ws xs).1 h'/\EInv B s q qb r m h0 h' sb' (Yh (m:Int) done.length e ws xs).2.1 v' (Yh (m:Int) done.length e ws xs).2.2 (done++[⟨(Yh (m:Int) done.length e ws xs).1.1,(Yh (m:Int) done.length e ws xs).1.2⟩]) d:=by
 have hlt:done.length < os.length:=by omega
 have hix:ZE 2 done.length (.sl 2 (os.map O.w) osb)=some (.iptr 2 (O.w o) 0):=by simp[ZE,ho]
 have hmp:Ki h (.map mp)=some KP:=zbB ((I.rest mp L.m1 L.sm.symm L.qm.symm L.bm.symm L.rm.symm).trans hmp0);have hwrap:IntKind.i64.wrap ((done.length:Int)+1)=((done.length+1:Nat):Int):=Xa (by omega);have g0:(setR [V.bool false,V.int .i64 0] 0 (V.cells (V.agg [V.bool true,V.int .i64 (e:Int)])))[0]?=some (.bool true):=rfl;have g1:(setR [V.bool false,V.int .i64 0] 0 (V.cells (V.agg [V.bool true,V.int .i64 (e:Int)])))[1]?=some (.int .i64 (e:Int)):=rfl;unfold tot at hl;unfold Yh;by_cases hm:((xs.length+(ws 0).length+(ws 1).length:Nat):Int) < (m:Int)
 . rw[if_pos hm];obtain⟨h',v',ec,c1,c2⟩:=zfq (n+2) I.mt e2 done.length (by omega) (by omega);refine⟨h',_,v',?_,(I.meet L c1 c2).told 1⟩;intro next
   unfold Jc;simp only[gv,zf,zh,lsl];rw[zr,za,zm,if_pos (by simp;omega),Za,zy,hix,za];simp only[zu];rw[zn,if_pos (by decide),zO,QS,if_pos (XV _),if_pos (by rw[XV];decide),Yf];simp only[O.w,zb,za];rw[hmp,zy,qd,za,hf,zy,he,za,if_pos (by refine⟨?_,?_,?_⟩ <;> first|trivial|rfl),if_pos (by rfl),if_pos (by exact zl 2)];rw[if_neg (by simp),g0,za,zm,if_pos rfl,g1,za,ec,zM,zx,zm,if_pos rfl,zy,if_pos (by refine⟨?_,JW _ _ _,by decide⟩;first|trivial|rfl),Qd,za,zH,za,hwrap,XQ,Je (v:=0)]
 . rw[if_neg hm];have ec:=zfp (n+2) I.mt (e:Int) (done.length:Int) (by omega) (by omega);refine⟨h,sb,v,?_,I.told 3⟩;intro next
   unfold Jc;simp only[gv,zf,zh,lsl];rw[zr,za,zm,if_pos (by simp;omega),Za,zy,hix,za];simp only[zu];rw[zn,if_pos (by decide),zO,QS,if_pos (XV _),if_pos (by rw[XV];decide),Yf];simp only[O.w,zb,za];rw[hmp,zy,qd,za,hf,zy,he,za,if_pos (by refine⟨?_,?_,?_⟩ <;> first|trivial|rfl),if_pos (by rfl),if_pos (by exact zl 2)];rw[if_neg (by simp),g0,za,zm,if_pos rfl,g1,za,ec,zM,zx,zm,if_neg (by decide),za,zm,if_pos rfl,zy,if_pos (by refine⟨?_,JW _ _ _,by decide⟩;first|trivial|rfl),Qd,za,zH,za,hwrap,XQ,Je (v:=0)]
theorem zba (n s q qb r mp B : Nat) (osb : Bool) (m : Nat) (os : List O) {sb : Nat -> Option Nat} {h0 h : zd} {ws : Nat -> List Nat} {v : Nat -> V} {xs : List Int} {done : List R} {d : Nat} (L : ELay B s q qb r mp) (I : EInv B s q qb r m h0 h sb ws v xs done (d + 1))
    (hmp0:h0[mp]?=some (.map KP)) (hd:done.length+(d+1)=os.length) (hw:Below2 done.length ws) (hl:tot ws xs+1 < lim) (hm:m < 100000) (hos:os.length < lim) (o:O) (ho:os[done.length]?=some o) (e k:Nat) (e2:e < 2) (hf:Q4 [0] (.int .u8 o.k) KP 0=some (some k)) (he:W7 KP (.agg [.bool false,.int .i64 0]) (some k)=some (.agg [.bool false,.int .i64 (e:Int)])) :
    ∃ h' sb' v',zrn (n+3) s q r mp osb os h done d (za9 (valsOf os) e ws xs).1 h'/\EInv B s q qb r m h0 h' sb' (za9 (valsOf os) e ws xs).2.1 v' (za9 (valsOf os) e ws xs).2.2 (done++[⟨(za9 (valsOf os) e ws xs).1.1,(za9 (valsOf os) e ws xs).1.2⟩]) d:=by
 have hlt:done.length < os.length:=by omega
 have hix:ZE 2 done.length (.sl 2 (os.map O.w) osb)=some (.iptr 2 (O.w o) 0):=by simp[ZE,ho]
 have hmp:Ki h (.map mp)=some KP:=zbB ((I.rest mp L.m1 L.sm.symm L.qm.symm L.bm.symm L.rm.symm).trans hmp0);have hwrap:IntKind.i64.wrap ((done.length:Int)+1)=((done.length+1:Nat):Int):=Xa (by omega);have g0:(setR [V.bool false,V.int .i64 0] 0 (V.cells (V.agg [V.bool false,V.int .i64 (e:Int)])))[0]?=some (.bool false):=rfl;have g1:(setR [V.bool false,V.int .i64 0] 0 (V.cells (V.agg [V.bool false,V.int .i64 (e:Int)])))[1]?=some (.int .i64 (e:Int)):=rfl;have hll:(done.map vlC++List.replicate (d+1) [V.int .i32 0]).length=os.length:=by simp;omega
 have hwd:∀ a,a < 2->(ws a).length<=(ws 0).length+(ws 1).length:=fun a ha=>by
  obtain rfl|rfl:a=0\/a=1:=by omega
  . omega
  . omega
 unfold tot at hl;have hw1:=hwd e e2;unfold za9;rcases ZD (ws e) with hn|⟨w0,w,hc⟩
 . rw[hn];simp only[List.getLast?_nil];cases hp:Y4 e xs with
   | some p =>
     simp only[];have hxl:=zgq hp;have hmt:=I.mt;rw[<- hxl] at hmt;obtain⟨h1,v1,ec,c1,c2,c3⟩:=zj8 (n+1) hmt e2 hn (by omega);have hst:RngAt h1 q qb m xs:=I.st.keep (c3 q L.sq.symm) (c3 qb L.sb.symm);obtain⟨h2,ea,d1,d2,d3,d4⟩:=zmf n (os:=os.map O.w) (osb:=osb) (i:=done.length) e2 ((c3 r L.sr.symm).trans I.row) za8 (by rw[hll];exact hlt) hst hm L.qr.symm L.br.symm hp;rw[hll] at ea;have hB:∀ a b,a < 2->sb a=some b->h2[b]?=h1[b]?:=fun a b ha hb=>by
      have:=I.fr a b ha hb;have:=L.q1;have:=L.b1;have:=L.r1;exact d4 b (by omega) (by omega) (by omega)
     refine⟨h2,sb,v1,?_,⟨c1.keep (d4 s L.sq L.sb L.sr) hB,I.fr,by rw[d3,c2];exact I.le,d1,by rw[d2,zc8 done d 2 p.1],fun j j1 j2 j3 j4 j5=>(d4 j j3 j4 j5).trans ((c3 j j2).trans (I.rest j j1 j2 j3 j4 j5))⟩⟩;intro next
     unfold Jc;simp only[gv,zf,zh,lsl];rw[zr,za,zm,if_pos (by simp;omega),Za,zy,hix,za];simp only[zu];rw[zn,if_pos (by decide),zO,QS,if_pos (XV _),if_pos (by rw[XV];decide),Yf];simp only[O.w,zb,za];rw[hmp,zy,qd,za,hf,zy,he,za,if_pos (by refine⟨?_,?_,?_⟩ <;> first|trivial|rfl),if_pos (by rfl),if_pos (by exact zl 2)];rw[if_neg (by simp),g0,za,zm,if_neg (by decide),za,zm,if_neg (by decide),zy,if_pos (by refine⟨?_,JW _ _ _,by decide⟩;first|trivial|rfl),Qd,za,g1,za,ec,zM];simp only[zb,zj,za];rw[zm,if_pos rfl,zy,XQ,if_pos (by refine⟨?_,JW _ _ _,by decide⟩;first|trivial|rfl),Qd,za,ea,zM,zH,za,hwrap,XQ,Je (v:=p.1)]
   | none =>
     simp only[];have hx0:xs=[]:=by
      unfold Y4 at hp;split at hp
      . cases xs with
        | nil=>rfl
        | cons y r=>cases hp
      . rcases ZD xs with rfl|⟨x0,x,rfl⟩
        . rfl
        . simp at hp
     subst hx0;cases hf2:ws (1 - e) with
     | nil =>
       simp only[];have ec:=zhC (n+1) I.mt e2 hn hf2;refine⟨h,sb,v,?_,I.told 4⟩;intro next
       unfold Jc;simp only[gv,zf,zh,lsl];rw[zr,za,zm,if_pos (by simp;omega),Za,zy,hix,za];simp only[zu];rw[zn,if_pos (by decide),zO,QS,if_pos (XV _),if_pos (by rw[XV];decide),Yf];simp only[O.w,zb,za];rw[hmp,zy,qd,za,hf,zy,he,za,if_pos (by refine⟨?_,?_,?_⟩ <;> first|trivial|rfl),if_pos (by rfl),if_pos (by exact zl 2)];rw[if_neg (by simp),g0,za,zm,if_neg (by decide),za,zm,if_neg (by decide),zy,if_pos (by refine⟨?_,JW _ _ _,by decide⟩;first|trivial|rfl),Qd,za,g1,za,ec,zM];simp only[zb,zj,za];rw[zm,if_neg (by decide),zH,za,hwrap,XQ,Je (v:=0)]
     | cons w r' =>
       simp only[];obtain⟨h1,v1,ec,c1,c2,c3⟩:=zj9 (n+1) I.mt e2 hn hf2;have hwl:w < os.length:=by have:=hw (1 - e) (by omega) w (by rw[hf2];simp);omega
       have I1:=I.meet L c1 (EFed.of c2 c3);have ea:=zgr (n+2) (q:=q) (osb:=osb) (i:=done.length) (os:=os) e2 I1.row za8 (by rw[hll];exact hlt) hwl;rw[hll] at ea;have hv:valsOf os w=os[w].v:=by simp[valsOf,zg hwl]
       rw[hv];have hrB:∀ a b,a < 2->sb a=some b->r≠b:=fun a b ha hb k=>by have:=I.fr a b ha hb;have:=L.r1;omega
       refine⟨_,sb,v1,?_,I1.num L 2 os[w].v (I1.mt.keep (ze L.sr.symm) (fun a b ha hb=>ze (hrB a b ha hb))) (I1.st.keep (ze L.qr.symm) (ze L.br.symm)) (zt ..) (Xr (zT I1.row) _) (fun j _ _ h3=>ze (Ne.symm h3))⟩;intro next
       unfold Jc;simp only[gv,zf,zh,lsl];rw[zr,za,zm,if_pos (by simp;omega),Za,zy,hix,za];simp only[zu];rw[zn,if_pos (by decide),zO,QS,if_pos (XV _),if_pos (by rw[XV];decide),Yf];simp only[O.w,zb,za];rw[hmp,zy,qd,za,hf,zy,he,za,if_pos (by refine⟨?_,?_,?_⟩ <;> first|trivial|rfl),if_pos (by rfl),if_pos (by exact zl 2)];rw[if_neg (by simp),g0,za,zm,if_neg (by decide),za,zm,if_neg (by decide),zy,if_pos (by refine⟨?_,JW _ _ _,by decide⟩;first|trivial|rfl),Qd,za,g1,za,ec,zM];simp only[zb,zj,za];rw[zm,if_pos rfl,zy,XQ,if_pos (by refine⟨?_,JW _ _ _,by decide⟩;first|trivial|rfl),Qd,za,ea,zM,zH,za,hwrap,XQ,Je (v:=os[w].v)]
 . rw[XA] at hc;have hgl:(ws e).getLast?=some w:=by rw[hc];simp
   have hdl:(ws e).dropLast=w0:=by rw[hc];simp
   rw[hgl,hdl];simp only[];have hwl0:(ws e).length=w0.length+1:=by rw[hc];simp
   obtain⟨h1,v1,ec,c1,c2,c3⟩:=zhB (n+1) I.mt e2 hc (by omega);have hwl:w < os.length:=by have:=hw e e2 w (by rw[hc];simp);omega
   have I1:=I.meet L c1 (EFed.of c2 c3);have ea:=zgr (n+2) (q:=q) (osb:=osb) (i:=done.length) (os:=os) e2 I1.row za8 (by rw[hll];exact hlt) hwl;rw[hll] at ea;have hv:valsOf os w=os[w].v:=by simp[valsOf,zg hwl]
   rw[hv];have hrB:∀ a b,a < 2->sb a=some b->r≠b:=fun a b ha hb k=>by have:=I.fr a b ha hb;have:=L.r1;omega
   refine⟨_,sb,v1,?_,I1.num L 2 os[w].v (I1.mt.keep (ze L.sr.symm) (fun a b ha hb=>ze (hrB a b ha hb))) (I1.st.keep (ze L.qr.symm) (ze L.br.symm)) (zt ..) (Xr (zT I1.row) _) (fun j _ _ h3=>ze (Ne.symm h3))⟩;intro next
   unfold Jc;simp only[gv,zf,zh,lsl];rw[zr,za,zm,if_pos (by simp;omega),Za,zy,hix,za];simp only[zu];rw[zn,if_pos (by decide),zO,QS,if_pos (XV _),if_pos (by rw[XV];decide),Yf];simp only[O.w,zb,za];rw[hmp,zy,qd,za,hf,zy,he,za,if_pos (by refine⟨?_,?_,?_⟩ <;> first|trivial|rfl),if_pos (by rfl),if_pos (by exact zl 2)];rw[if_neg (by simp),g0,za,zm,if_neg (by decide),za,zm,if_neg (by decide),zy,if_pos (by refine⟨?_,JW _ _ _,by decide⟩;first|trivial|rfl),Qd,za,g1,za,ec,zM];simp only[zb,zj,za];rw[zm,if_pos rfl,zy,XQ,if_pos (by refine⟨?_,JW _ _ _,by decide⟩;first|trivial|rfl),Qd,za,ea,zM,zH,za,hwrap,XQ,Je (v:=os[w].v)]
theorem zhJ (n s q qb r mp B : Nat) (osb : Bool) (m : Nat) (os : List O) {sb : Nat -> Option Nat} {h0 h : zd} {ws : Nat -> List Nat} {v : Nat -> V} {xs : List Int} {done : List R} {d : Nat} (L : ELay B s q qb r mp) (I : EInv B s q qb r m h0 h sb ws v xs done (d + 1))
    (hmp0:h0[mp]?=some (.map KP)) (hd:done.length+(d+1)=os.length) (hw:Below2 done.length ws) (hl:tot ws xs+1 < lim) (hm:m < 100000) (hos:os.length < lim) (o:O) (ho:os[done.length]?=some o) :
    ∃ h' sb' v' t,t=Wh (m:Int) (valsOf os) done.length o.k ws xs/\zrn (n+3) s q r mp osb os h done d t.1 h'/\EInv B s q qb r m h0 h' sb' t.2.1 v' t.2.2 (done++[⟨t.1.1,t.1.2⟩]) d:=by
 have hfa:=zrm o.k;by_cases k1:o.k=1
 . obtain⟨h',sb',v',a,b⟩:=qW n s q qb r mp B osb m os L I hmp0 hd hl hos o ho 0 (by decide) (by rw[hfa,if_pos k1]) rfl;exact⟨h',sb',v',_,rfl,by unfold Wh;rw[if_pos k1];exact⟨a,b⟩⟩
 by_cases k2:o.k=2
 . obtain⟨h',sb',v',a,b⟩:=qW n s q qb r mp B osb m os L I hmp0 hd hl hos o ho 1 (by decide) (by rw[hfa,if_neg k1,if_pos k2]) rfl;exact⟨h',sb',v',_,rfl,by unfold Wh;rw[if_neg k1,if_pos k2];exact⟨a,b⟩⟩
 by_cases k3:o.k=3
 . obtain⟨h',sb',v',a,b⟩:=zba n s q qb r mp B osb m os L I hmp0 hd hw hl hm hos o ho 0 2 (by decide) (by rw[hfa,if_neg k1,if_neg k2,if_pos k3]) rfl;exact⟨h',sb',v',_,rfl,by unfold Wh;rw[if_neg k1,if_neg k2,if_pos k3];exact⟨a,b⟩⟩
 by_cases k4:o.k=4
 . obtain⟨h',sb',v',a,b⟩:=zba n s q qb r mp B osb m os L I hmp0 hd hw hl hm hos o ho 1 3 (by decide) (by rw[hfa,if_neg k1,if_neg k2,if_neg k3,if_pos k4]) rfl;exact⟨h',sb',v',_,rfl,by unfold Wh;rw[if_neg k1,if_neg k2,if_neg k3,if_pos k4];exact⟨a,b⟩⟩
 refine⟨h,sb,v,_,rfl,?_⟩;have ht:Wh (m:Int) (valsOf os) done.length o.k ws xs=((5,0),ws,xs):=by unfold Wh;rw[if_neg k1,if_neg k2,if_neg k3,if_neg k4]
 rw[ht];refine⟨?_,I.told 5⟩;have hlt:done.length < os.length:=by omega
 have hix:ZE 2 done.length (.sl 2 (os.map O.w) osb)=some (.iptr 2 (O.w o) 0):=by simp[ZE,ho]
 have hmp:Ki h (.map mp)=some KP:=zbB ((I.rest mp L.m1 L.sm.symm L.qm.symm L.bm.symm L.rm.symm).trans hmp0);have hwrap:IntKind.i64.wrap ((done.length:Int)+1)=((done.length+1:Nat):Int):=Xa (by omega);have hf:Q4 [0] (.int .u8 o.k) KP 0=some none:=by rw[hfa,if_neg k1,if_neg k2,if_neg k3,if_neg k4]
 have he:W7 KP (.agg [.bool false,.int .i64 0]) none=some (.agg [.bool false,.int .i64 0]):=rfl;intro next
 unfold Jc;simp only[gv,zf,zh,lsl];rw[zr,za,zm,if_pos (by simp;omega),Za,zy,hix,za];simp only[zu];rw[zn,if_pos (by decide),zO,QS,if_pos (XV _),if_pos (by rw[XV];decide),Yf];simp only[O.w,zb,za];rw[hmp,zy,qd,za,hf,zy,he,za,if_pos (by refine⟨?_,?_,?_⟩ <;> first|trivial|rfl),if_pos (by rfl),if_pos (by exact zl 2)];rw[if_pos (by rfl),zy,if_pos (by refine⟨?_,JW _ _ _,by decide⟩;first|trivial|rfl),Qd,za,zH,za,hwrap,XQ,Je (v:=0)]
theorem zhK(n s q qb r mp B:Nat)(osb:Bool)(m:Nat)(os:List O){h0:zd}(L:ELay B s q qb r mp)(hmp0:h0[mp]?=some (.map KP))(hm:m < 100000)(hos:os.length < lim):∀ (d N:Nat) (h:zd) (sb:Nat->Option Nat) (ws:Nat->List Nat) (v:Nat->V) (xs:List Int) (done:List R),EInv B s q qb r m h0 h sb ws v xs done d->done.length+d=os.length->d < N->Below2 done.length ws->tot ws xs<=m →
    ∃ h' sb' v' z,z=qH (m:Int) (valsOf os) (os.drop done.length) done.length ws xs/\zR N (Jc (n+3) s (os.map O.w) osb q r os.length (.map mp)) [.sl 2 [] false,.sl 2 (done.map cdC++List.replicate d [.int .u8 0,.int .i32 0]) false,.bool false,.int .i64 (done.length:Int)] h=some (.ret [.row h'.length 2 0 os.length],h'++[.row 35 2 ((done++z.1).map cdC) true])/\EInv B s q qb r m h0 h' sb' z.2.1 v' z.2.2 (done++z.1) 0:=by
 intro d
 induction d with
 | zero =>
   intro N h sb ws v xs done I h1 h2 hw hl;obtain⟨N,rfl⟩:∃ N',N=N'+1:=⟨N - 1,by omega⟩;refine⟨h,sb,v,_,rfl,?_,?_⟩
   . rw[zA];unfold Jc;simp only[gv,zf,zh];rw[zr,za,zm,if_neg (by simp;omega),ZZ (by omega)];simp only[lsl,qH,Zq,Q7,zo];rw[show done.length=os.length by omega]
   . rw[ZZ (by omega)];simp only[qH,Zq];exact I
 | succ d ih =>
   intro N h sb ws v xs done I h1 h2 hw hl;obtain⟨N,rfl⟩:∃ N',N=N'+1:=⟨N - 1,by omega⟩;have hi:done.length < os.length:=by omega
   have hlim:m+1 < lim:=by unfold lim;omega
   obtain⟨h',sb',v',t,rfl,key,I'⟩:=zhJ n s q qb r mp B osb m os L I hmp0 h1 hw (by omega) hm hos os[done.length] (zg hi);have hok:=zkA m (valsOf os) done.length os[done.length].k hw hl;obtain⟨h'',sb'',v'',z,hz,e',I''⟩:=ih N h' sb' _ v' _ _ I' (by simp;omega) (by omega) (by simpa using hok.1) hok.2.1;have hd:os.drop done.length=os[done.length] :: os.drop (done.length+1):=zQ hi;rw[zE,ZM] at hz e';refine⟨h'',sb'',v'',_,rfl,?_,?_⟩
   . rw[hd,zA,Xq,key,e',hz];simp[qH]
   . rw[hd];rw[hz] at I'';simpa[qH] using I''
theorem zhL (n s q qb r : Nat) (osb : Bool) (m : Nat) (os : List O) {h : zd} {v : Nat -> V} {xs : List Int} (L : ELay (h.length + 1) s q qb r h.length) (hm : m < 100000) (hx : xs.length <= m) (hos : os.length < lim) (hn : os.length < n) (E : EndAt h s (fun _ => none) xs.length m (fun _ => []) v) (hb : RngAt h q qb m xs) (hr : h[r]? = some (.row 21 1 (List.replicate os.length [.int .i32 0]) true)) :
    ∃ h' sb' v' z,z=qH (m:Int) (valsOf os) os 0 (fun _=>[]) xs/\call (n+4) 207 [.ptr s 0,.sl 2 (os.map O.w) osb,.fn 208 [.iptr 2 [.bf 203 [.ptr q 0],.bf 204 [.ptr q 0]] 0,.iptr 1 [.row r 1 0 os.length] 0,.iptr 1 [.sl 2 (os.map O.w) osb] 0]] h=some (.ret [.row h'.length 2 0 os.length],h'++[.row 35 2 (z.1.map cdC) true])/\EInv (h.length+1) s q qb r m (h++[.map KP]) h' sb' z.2.1 v' z.2.2 z.1 0:=by
 have ap:∀ j,j < h.length->(h++[HB.map KP])[j]?=h[j]?:=fun j hj=>zk hj;have hrl:=zT hr;have hsl:=zT E.box;have I:EInv (h.length+1) s q qb r m (h++[.map KP]) (h++[.map KP]) (fun _=>none) (fun _=>[]) v xs [] os.length:=⟨E.keep (ap s hsl) (fun _ _ _ e=>nomatch e),(fun _ _ _ e=>nomatch e),by simp,hb.keep (ap q (by have:=L.q1;have:=L.qm;omega)) (ap qb (by have:=L.b1;have:=L.bm;omega)),by rw[ap r hrl];exact hr,fun _ _ _ _ _ _=>rfl⟩;obtain⟨h',sb',v',z,hz,e,I'⟩:=zhK n s q qb r h.length (h.length+1) osb m os L zI hm (by omega) os.length (n+3) _ _ _ _ xs [] I (by simp) (by omega) (fun _ _ _ h=>(nomatch h)) (by simpa[tot] using hx);refine⟨h',sb',v',z,by simpa using hz,(zoZ (n+3) s _ osb q r _ h).trans ?_,by simpa using I'⟩;unfold zrg;rw[zo,Za,zy,zy,if_pos ⟨zl _,by omega,rfl⟩,zrl (n+2),zM,zx];simpa using e
end Go.Proofs.Tryz
namespace Go.Sk
open Go.L Go.Rp
theorem zro(most:Nat)(vals:Nat->Int)(i:Nat)(c:Int)(ws:List Nat)(xs:List Int)(h:xs.length+ws.length<=most):(QB (most:Int) vals i c ws xs).2.2.length+(QB (most:Int) vals i c ws xs).2.1.length<=most:=by
 unfold QB;split
 . split
   . simp;omega
   . exact h
 . split
   . split
     . simp;omega
     . split
       . simp;omega
       . exact h
   . exact h
theorem znx (most : Nat) (vals : Nat -> Int) : ∀ (l : List O) (i : Nat) (ws : List Nat) (xs : List Int), xs.length + ws.length <= most -> (js (most : Int) vals l i ws xs).2.2.length + (js (most : Int) vals l i ws xs).2.1.length <= most
 | [],_,_,_,h=>h
 | o :: l,i,ws,xs,h=>znx most vals l (i+1) _ _ (zro most vals i o.k ws xs h)
theorem zrp(most:Int)(vals:Nat->Int)(i:Nat)(c:Int)(ws:List Nat)(xs:List Int):(QB most vals i c ws xs).2.1.length<=ws.length+1:=by
 unfold QB;split
 . split <;> simp
 . split
   . split
     . simp;omega
     . split <;> simp
   . simp
theorem zny (most : Int) (vals : Nat -> Int) : ∀ (l : List O) (i : Nat) (ws : List Nat) (xs : List Int), (js most vals l i ws xs).2.1.length <= ws.length + l.length
 | [],_,_,_=>zl _
 | o :: l,i,ws,xs=>by
   have h1:=zny most vals l (i+1) (QB most vals i o.k ws xs).2.1 (QB most vals i o.k ws xs).2.2;have h2:=zrp most vals i o.k ws xs;simp only[js,zD];omega
theorem znz (most : Int) (vals : Nat -> Int) : ∀ (l : List O) (i : Nat) (ws : List Nat) (xs : List Int), (∀ w ∈ ws, w < i) -> ∀ w ∈ (js most vals l i ws xs).2.1, w < i + l.length
 | [],_,_,_,h=>h
 | o :: l,i,ws,xs,h=>fun w hw=>by
   have:=znz most vals l (i+1) _ _ (zkw most vals i o.k ws xs h) w hw;simp;omega
end Go.Sk
namespace Go.Proofs.Tryz
open Go.L Go.Rp Go.Sk
set_option maxRecDepth 100000
theorem zkB (n : Nat) {h1 : zd} {q bo bs : Nat} {qb : Option Nat} {m : Nat} {xs : List Int} {os : List O} {osb : Bool} {v9 : V} {sz : Nat} {ws : List Nat} (hbo : h1[bo]? = some (.box 1 [.sl 2 (os.map O.w) osb])) (hbs : h1[bs]? = some (.box 1 [.ptr q 0])) (qbo : bo ≠ q /\ qb ≠ some bo) (qbs : bs ≠ q /\ qb ≠ some bs)
    (hv:∀ h',(∀ j,j < h1.length->j≠q->qb≠some j->h'[j]?=h1[j]?)->∀ i (hi:i < ws.length),∃ p,ZE 1 i v9=some p/\∃ cs m' o,zu h' p=some (cs,m',o)/\(o+1<=m'/\0 < 1)/\cs[o]?=some (.int .i64 (ws[i]:Int)))
    (hw:∀ w∈ws,w < os.length) (hm:xs.length+ws.length<=m) (hl:m+1 < lim) :
    ∀ (d i N:Nat) (h:zd) (qc:Option Nat),i+d=ws.length->d < N->StkAt h q qc (m:Int) (xs++(ws.take i).map (valsOf os))->Fed h1 h q qb qc →
    ∃ h' qc',zR N (KO (n+1) bs bo v9 (sz,ws.map Wl)) [.int .i64 (i:Int)] h=some (h',false)/\StkAt h' q qc' (m:Int) (xs++ws.map (valsOf os))/\Fed h1 h' q qb qc':=by
 intro d
 induction d with
 | zero =>
   intro i N h qc hi hN hb hf;obtain⟨N,rfl⟩:∃ N',N=N'+1:=⟨N - 1,by omega⟩;rw[zA];unfold KO;simp only[gv,zf];rw[zr,za,zm,if_neg (by simp;omega)];rw[zN (by omega)] at hb;exact⟨h,qc,rfl,hb,hf⟩
 | succ d ih =>
   intro i N h qc hi hN hb hf;obtain⟨N,rfl⟩:∃ N',N=N'+1:=⟨N - 1,by omega⟩;have hlt:i < ws.length:=by omega
   have hwi:ws[i] < os.length:=hw _ (Xd hlt);have h1l:=zT hbo;have h2l:=zT hbs;obtain⟨p,e1,cs,m',o,e2,e3,e4⟩:=hv h (fun j k1 k2 k3=>hf.old j k1 k2 k3) i hlt;have hx:(xs++(ws.take i).map (valsOf os)).length=xs.length+i:=by simp;omega
   obtain⟨h',qc',e5,c1,c2⟩:=qS n hb os[ws[i]].v (by rw[hx];omega) (by rw[hx];omega);have hvv:valsOf os ws[i]=os[ws[i]].v:=by simp[valsOf,zg hwi]
   have hx2:xs++(ws.take i).map (valsOf os)++[os[ws[i]].v]=xs++(ws.take (i+1)).map (valsOf os):=by
    rw[X5 hlt,Zu,List.append_assoc,<- hvv];rfl
   rw[hx2] at c1;obtain⟨h'',qc'',e6,d1,d2⟩:=ih (i+1) N h' qc' (by omega) (by omega) c1 (hf.trans c2);refine⟨h'',qc'',?_,d1,d2⟩;rw[<- e6,zA];have key:∀ next,KO (n+1) bs bo v9 (sz,ws.map Wl) [.int .i64 (i:Int)] h next=next [.int .i64 ((i+1:Nat):Int)] h':=by
    intro next
    unfold KO;simp only[gv,zf];rw[zr,za,zm,if_pos (by simp;omega),Za,zy,e1,za,e2,zn,if_pos e3,e4,za,zC ((hf.old bs h2l qbs.1 qbs.2).trans hbs),zn,if_pos (by decide)];simp only[zb,za];rw[zC ((hf.old bo h1l qbo.1 qbo.2).trans hbo),zn,if_pos (by decide)];simp only[zb,za];rw[Za,zy,Xb (es:=O.w os[ws[i]]) (by rw[zG,zg hwi];rfl),za];simp only[ZL,za];rw[Zl,zn,if_pos (by decide)];simp only[O.w,zq,zj,zb,za];rw[e5,zM,zx,zH,za,Xa (by unfold lim at hl ⊢;omega)]
   rw[key]
theorem zkC (n : Nat) {h : zd} {b s q bo bs : Nat} {qb sb : Option Nat} {u m : Nat} {xs : List Int} {os : List O} {osb : Bool} {ws : List Nat} (hbb : h[b]? = some (.box 1 [.ptr s 0])) (hm : MatAt h s sb u m ws) (hbo : h[bo]? = some (.box 1 [.sl 2 (os.map O.w) osb])) (hbs : h[bs]? = some (.box 1 [.ptr q 0])) (qbo : bo ≠ q /\ qb ≠ some bo) (qbs : bs ≠ q /\ qb ≠ some bs) (hsb : ∀ b, sb = some b -> b ≠ q /\ qb ≠ some b)
    (hb:StkAt h q qb (m:Int) xs) (hw:∀ w∈ws,w < os.length) (hmm:xs.length+ws.length<=m) (hl:m+1 < lim) (hn:ws.length < n) :
    ∃ h' qb',dcl (n+1) 179 [.ptr b 0,.ptr bs 0,.ptr bo 0] h none=some (h',false)/\StkAt h' q qb' (m:Int) (xs++ws.map (valsOf os))/\Fed h h' q qb qb':=by
 obtain⟨v,sz,k1,k2⟩:=hm.box;have hv:∀ h',(∀ j,j < h.length->j≠q->qb≠some j->h'[j]?=h[j]?)->∀ i (hi:i < ws.length),∃ p,ZE 1 i v=some p/\∃ cs m' o,zu h' p=some (cs,m',o)/\(o+1<=m'/\0 < 1)/\cs[o]?=some (.int .i64 (ws[i]:Int)):=by
  intro h' hk i hi;cases sb with
  | none=>rw[hm.1] at hi;simp at hi
  | some r =>
    obtain⟨e1,l,z,e2,e3,e4,e5⟩:=hm;obtain rfl:v=.row r 1 0 ws.length:=by rw[e2] at k1;simpa using k1.symm
    have hx:l[i]?=some [.int .i64 (ws[i]:Int)]:=by
     have:=congrArg (fun t:List (List V)=>t[i]?) e5;simpa[Wl,Zb,hi] using this
    refine⟨_,XR (by omega),_,_,_,XD ((hk r (zT e3) (hsb r rfl).1 (hsb r rfl).2).trans e3) (by decide) (by rw[zq];exact hx),by decide,rfl⟩
 obtain⟨h',qb',e,c1,c2⟩:=zkB n (sz:=sz) (v9:=v) hbo hbs qbo qbs hv hw hmm hl ws.length 0 (n+1) h qb (by omega) (by omega) (by simpa using hb) (Fed.refl ..);refine⟨h',qb',(zq5 (n+1) b bs bo h).trans ?_,c1,c2⟩;unfold zty;rw[zC hbb,zn,if_pos (by decide)];simp only[zb,za,ZL,zW];rw[zC k1,zn,if_pos (by decide)];simp only[zb,za];rw[k2,za];exact e
theorem zfs (n : Nat) (H : zd) (r : Nat) (s : Nat) (os : List (List V)) (osb : Bool) (h5 : zd) (cs8 : List V) (n14 : Nat) (z : List R) (hr : H[r]? = some (.row 21 1 (z.map vlC) true)) (hrr : r = (((((h5 ++ [(HB.box 3 cs8)]) ++ [(HB.box 1 [(V.ptr (h5).length 0)])]) ++ [(HB.box 1 [(V.ptr s 0)])]) ++ [(HB.box 1 [(V.sl 2 os osb)])])).length) (hn14 : n14 = z.length) (hz : z.length < lim) (h' : zd) (hD : dcl n 179 [(V.ptr ((h5 ++ [(HB.box 3 cs8)])).length 0), (V.ptr (((h5 ++ [(HB.box 3 cs8)]) ++ [(HB.box 1 [(V.ptr (h5).length 0)])])).length 0), (V.ptr ((((h5 ++ [(HB.box 3 cs8)]) ++ [(HB.box 1 [(V.ptr (h5).length 0)])]) ++ [(HB.box 1 [(V.ptr s 0)])])).length 0)] (H ++ [.row 35 2 (z.map R.w) true]) none = some (h', false)) :
    ∀ (d i N:Nat),i+d=z.length->d < N->zR N (Wy n s os osb h5 cs8 n14 (.row H.length 2 0 z.length) (1,z.map vlC)) [.sl 2 [] false,.int .i64 (i:Int)] (H++[.row 35 2 ((z.take i).map R.w++(z.drop i).map cdC) true])=some (.ret [.row H.length 2 0 z.length],h'):=by
 intro d
 induction d with
 | zero =>
   intro i N hi hN;obtain⟨N,rfl⟩:∃ N',N=N'+1:=⟨N - 1,by omega⟩;rw[zA];unfold Wy;simp only[gv,zf,zh];rw[zr,za,zm,if_neg (by simp;omega),zN (by omega),ZZ (by omega),Qz,Zq,hD,Zf]
 | succ d ih =>
   intro i N hi hN;obtain⟨N,rfl⟩:∃ N',N=N'+1:=⟨N - 1,by omega⟩;have hlt:i < z.length:=by omega
   rw[zA,<- ih (i+1) N (by omega) (by omega)];have hrl:=zT hr;have key:∀ next,Wy n s os osb h5 cs8 n14 (.row H.length 2 0 z.length) (1,z.map vlC) [.sl 2 [] false,.int .i64 (i:Int)] (H++[.row 35 2 ((z.take i).map R.w++(z.drop i).map cdC) true]) next=next [.sl 2 [] false,.int .i64 ((i+1:Nat):Int)] (H++[.row 35 2 ((z.take (i+1)).map R.w++(z.drop (i+1)).map cdC) true]):=by
    intro next
    unfold Wy;simp only[gv,zf,zh,lsl];rw[<- hrr,zr,za,zm,if_pos (by simp;omega),Za,zy,XR (by simp;omega),za,XD (es:=vlC z[i]) (by rw[zk hrl];exact hr) (by decide) (by simp[hlt]),zn,if_pos (by decide)];simp only[vlC,zb,za];rw[zy,XR (by omega),za];simp only[ZL,za,V.cells,zD,zP,zq,if_true];have hT:(H++[HB.row 35 2 ((z.take i).map R.w++(z.drop i).map cdC) true])[H.length]?=some (.row 35 2 ((z.take i).map R.w++(z.drop i).map cdC) true):=zI;have hTi:((z.take i).map R.w++(z.drop i).map cdC)[i]?=some (cdC z[i]):=by
     rw[zK (by simp;omega)];simp[hlt,XT (Nat.le_of_lt hlt)]
    rw[Wc hT (by decide) (by simp) hTi,Zf,zH,za,Xa (by omega)];have hset:((z.take i).map R.w++(z.drop i).map cdC).set i (setR (cdC z[i]) 1 [V.int .i32 z[i].v])=(z.take (i+1)).map R.w++(z.drop (i+1)).map cdC:=by
     rw[ZC _ _ (by simp;omega),zQ hlt,X5 hlt,zS,show i - (List.map R.w (z.take i)).length=0 by simp;omega,J5,Zu,List.append_assoc];rfl
    rw[hset];have:∀ x,(H++[HB.row 35 2 ((z.take i).map R.w++(z.drop i).map cdC) true]).set H.length x=H++[x]:=fun x=>by rw[ZC _ _ (zl _)];simp
    rw[this]
   rw[key]
theorem zrq(a b:Int):Qo prog 249 [(1,.int .i64 a),(2,.int .i64 b)]=some [.sl 0 [] true,.int .i64 a,.int .i64 b]:=by kernel_rfl
theorem zeM (n : Nat) {h : zd} {q : Nat} {qb : Option Nat} {m : Nat} {xs : List Int} (hb : StkAt h q qb (m : Int) xs) (os : List O) (osb : Bool) (hmm : xs.length <= m) (hl : m + 1 < lim) (hos : os.length + xs.length < lim) (hn : os.length < n) (hqb : ∀ b, qb = some b -> b < h.length) :
    ∃ h' qb' T,call (n+5) 174 [.ptr q 0,.sl 2 (os.map O.w) osb] h=some (.ret [.row T 2 0 os.length],h')/\h'[T]?=some (.row 35 2 ((Qy (m:Int) os xs).1.map R.w) true)/\h.length<=T/\qb'≠some T/\StkAt h' q qb' (m:Int) (Qy (m:Int) os xs).2/\Fed h h' q qb qb':=by
 have hqs:qb≠some q:=by
  intro e;rw[e] at hb;exact hb.1 rfl
 have hql:q < h.length:=by obtain⟨v,sz,k1,k2⟩:=hb.box;exact zT k1
 rw[show n+5=(n+4)+1 from rfl,zjU];unfold zjT;rw[Yr (n+3) hb];simp only[clH];rw[zx,qR (n+3) hb];simp only[];rw[zx,zrq,za,if_pos (by rfl)];generalize hA:h++[HB.box 3 [V.sl 0 [] true,V.int .i64 (xs.length:Int),V.int .i64 (m:Int)]]=A;generalize hB:A++[HB.box 1 [V.ptr h.length 0]]=B;generalize hC:B++[HB.box 1 [V.ptr q 0]]=C;generalize hD:C++[HB.box 1 [V.sl 2 (os.map O.w) osb]]=D;have lA:A.length=h.length+1:=by rw[<- hA];simp
 have lB:B.length=h.length+2:=by rw[<- hB];simp;omega
 have lC:C.length=h.length+3:=by rw[<- hC];simp;omega
 have lD:D.length=h.length+4:=by rw[<- hD];simp;omega
 have aA:∀ j,j < h.length->A[j]?=h[j]?:=fun j hj=>by rw[<- hA,zk hj]
 have aB:∀ j,j < A.length->B[j]?=A[j]?:=fun j hj=>by rw[<- hB,zk hj]
 have aC:∀ j,j < B.length->C[j]?=B[j]?:=fun j hj=>by rw[<- hC,zk hj]
 have aD:∀ j,j < C.length->D[j]?=C[j]?:=fun j hj=>by rw[<- hD,zk hj]
 have eA:A[h.length]?=some (HB.box 3 [V.sl 0 [] true,V.int .i64 (xs.length:Int),V.int .i64 (m:Int)]):=by rw[<- hA];exact zI
 have eB:B[A.length]?=some (HB.box 1 [V.ptr h.length 0]):=by rw[<- hB];exact zI
 have eC:C[B.length]?=some (HB.box 1 [V.ptr q 0]):=by rw[<- hC];exact zI
 have eD:D[C.length]?=some (HB.box 1 [V.sl 2 (os.map O.w) osb]):=by rw[<- hD];exact zI
 have dA:D[h.length]?=some (HB.box 3 [V.sl 0 [] true,V.int .i64 (xs.length:Int),V.int .i64 (m:Int)]):=by rw[aD _ (by omega),aC _ (by omega),aB _ (by omega)];exact eA
 have dB:D[A.length]?=some (HB.box 1 [V.ptr h.length 0]):=by rw[aD _ (by omega),aC _ (by omega)];exact eB
 have dC:D[B.length]?=some (HB.box 1 [V.ptr q 0]):=by rw[aD _ (by omega)];exact eC
 have d0:∀ j,j < h.length->D[j]?=h[j]?:=fun j hj=>by rw[aD _ (by omega),aC _ (by omega),aB _ (by omega),aA _ hj]
 rw[zC eD,zn,if_pos (by decide)];simp only[zb,za];rw[ZW,za,zo,Za,zy,zy,if_pos ⟨zl _,by omega,trivial⟩];generalize hE:D++[HB.row 21 1 (List.replicate os.length [V.int .i32 0]) true]=E;have lE:E.length=h.length+5:=by rw[<- hE];simp;omega
 have aE:∀ j,j < D.length->E[j]?=D[j]?:=fun j hj=>by rw[<- hE,zk hj]
 have eE:E[D.length]?=some (HB.row 21 1 (List.replicate os.length [V.int .i32 0]) true):=by rw[<- hE];exact zI
 have e0:∀ j,j < h.length->E[j]?=h[j]?:=fun j hj=>(aE j (by omega)).trans (d0 j hj);have fA:=(aE h.length (by omega)).trans dA;have fB:=(aE A.length (by omega)).trans dB;have fC:=(aE B.length (by omega)).trans dC;have fD:=(aE C.length (by omega)).trans eD;rw[zC fB,zn,if_pos (by decide)];simp only[zb,za];rw[zC fD,zn,if_pos (by decide)];simp only[zb,za];rw[QO];have L:Lay E.length h.length q C.length B.length D.length qb:=⟨by omega,by omega,by omega,by omega,by omega,by omega,by omega,by omega,by omega,by omega,by omega,by omega,by omega,by omega,fun b hb'=>⟨by have:=hqb b hb';omega,by have:=hqb b hb';omega,fun e=>hqs (e ▸ hb'),by have:=hqb b hb';omega⟩⟩;have I:MInv E.length h.length q D.length qb m E E none [] xs [] os.length:=⟨⟨rfl,fA⟩,(fun b hb'=>nomatch hb'),zl _,hb.keep (e0 q hql) (fun b hb'=>e0 b (hqb b hb')),by rw[eE];rfl,fun _ _ _ _ _=>rfl⟩;obtain⟨H,sb',z,hz,e,I'⟩:=zhH n h.length q C.length B.length D.length E.length osb m os L fD fC hos hn I;rw[e,zM,zx];have hzl:z.1.length=os.length:=by rw[hz];exact zku ..
 have hrl:=zT I'.row;have hrow:H[D.length]?=some (.row 21 1 (z.1.map vlC) true):=by rw[I'.row];simp
 have hsl:ZR (H++[HB.row 35 2 (z.1.map cdC) true]) (.row D.length 1 0 os.length)=some (1,z.1.map vlC):=by
  have:(H++[HB.row 35 2 (z.1.map cdC) true])[D.length]?=some (.row 21 1 (z.1.map vlC) true):=by rw[zk hrl];exact hrow
  have h2:=jS this;rwa[zo,hzl] at h2
 rw[hsl,za];generalize hG:H++[HB.row 35 2 (z.1.map R.w) true]=G;have aG:∀ j,j < H.length->G[j]?=H[j]?:=fun j hj=>by rw[<- hG,zk hj]
 have eG:G[H.length]?=some (HB.row 35 2 (z.1.map R.w) true):=by rw[<- hG];exact zI
 have lG:G.length=H.length+1:=by rw[<- hG];simp
 have hle:=I'.le;have rest:∀ j,j < E.length->j≠h.length->j≠q->j≠D.length->G[j]?=E[j]?:=fun j h1 h2 h3 h4=>(aG j (by omega)).trans (I'.rest j h1 h2 h3 h4);have hsl':h.length < H.length:=by omega
 have hm:MatAt G h.length sb' z.2.2.length m z.2.1:=I'.mt.keep (aG _ hsl') (fun b hb'=>by
  have hmt:=I'.mt;rw[hb'] at hmt;obtain⟨_,l,w,_,h3,_⟩:=hmt;exact aG b (zT h3))
 have hst:StkAt G q qb (m:Int) z.2.2:=I'.st.keep (aG q (by omega)) (fun b hb'=>aG b (by have:=hqb b hb';omega));have hzz:=zkv (m:Int) (valsOf os) os 0 [] xs (fun j o hj=>by rw[zq];simp[valsOf,hj]);rw[Qz,Zq,<- hz] at hzz;have hws:∀ w∈z.2.1,w < os.length:=by
  have:=znz (m:Int) (valsOf os) os 0 [] xs (by simp);rw[<- hz] at this;simpa using this
 have hle2:z.2.2.length+z.2.1.length<=m:=by
  have:=znx m (valsOf os) os 0 [] xs (by simpa using hmm);rwa[<- hz] at this
 have hwl:z.2.1.length<=os.length:=by
  have:=zny (m:Int) (valsOf os) os 0 [] xs;rw[<- hz] at this;simpa using this
 obtain⟨h',qb',eD',b1,b2⟩:=zkC (n+3) (b:=A.length) (s:=h.length) (bo:=C.length) (bs:=B.length) ((rest _ (by omega) (by omega) (by omega) (by omega)).trans fB) hm ((rest _ (by omega) (by omega) (by omega) (by omega)).trans fD) ((rest _ (by omega) (by omega) (by omega) (by omega)).trans fC) ⟨by omega,fun e=>by have:=hqb _ e;omega⟩ ⟨by omega,fun e=>by have:=hqb _ e;omega⟩ (fun b hb'=>⟨by have:=I'.fr b hb';omega,fun e=>by have:=I'.fr b hb';have:=hqb b e;omega⟩) hst hws hle2 hl (by omega);have fin:=zfs (n+4) H D.length q (os.map O.w) osb h [V.sl 0 [] true,V.int .i64 (xs.length:Int),V.int .i64 (m:Int)] os.length z.1 hrow (by rw[hA,hB,hC,hD]) hzl.symm (by omega) h' (by rw[hA,hB,hC,hG];exact eD') z.1.length 0 (n+4) (by omega) (by omega);rw[hzl] at fin
 have hT:G[H.length]?=some (HB.row 35 2 ((Qy (m:Int) os xs).1.map R.w) true):=by rw[hzz];exact eG
 have hqH:∀ b,qb=some b->b < H.length:=fun b hb'=>by have:=hqb b hb';omega
 refine⟨h',qb',H.length,?_,?_,by omega,?_,by rw[hzz];exact b1,?_⟩
 . simpa using fin
 . rw[b2.old H.length (by omega) (by omega) (fun e=>by have:=hqH _ e;omega)];exact hT
 . intro e;rcases b2.own _ e with e1|e1
   . have:=hqH _ e1;omega
   . omega
 . refine⟨by have:=b2.len;omega,fun j h1 h2 h3=>?_,fun b hb'=>?_⟩
   . rw[b2.old j (by omega) h2 h3,rest j (by omega) (by omega) h2 (by omega),e0 j h1]
   . rcases b2.own b hb' with e1|e1
     . exact .inl e1
     . exact .inr (by omega)
end Go.Proofs.Tryz
namespace Go.Sk
open Go.L Go.Rp
def zft(d:Nat)(x:Int)(xs:List Int):List Int:=if d=0 then x :: xs else xs++[x]
theorem zkD(d:Nat)(x:Int)(xs:List Int):(zft d x xs).length=xs.length+1:=by unfold zft;split <;> simp
def qX(vals:Nat->Int)(d:Nat)(ws:List Nat)(xs:List Int):List Int:=ws.foldl (fun xs w=>zft d (vals w) xs) xs
theorem zrr (vals : Nat -> Int) : ∀ (ws : List Nat) (xs : List Int), qX vals 0 ws xs = ws.reverse.map vals ++ xs
 | [],xs=>rfl
 | w :: ws,xs=>by
   show qX vals 0 ws (zft 0 (vals w) xs)=_;rw[zrr vals ws];simp[zft]
theorem zrs (vals : Nat -> Int) : ∀ (ws : List Nat) (xs : List Int), qX vals 1 ws xs = xs ++ ws.map vals
 | [],xs=>by simp[qX]
 | w :: ws,xs=>by
   show qX vals 1 ws (zft 1 (vals w) xs)=_;rw[zrs vals ws];simp[zft]
theorem zo4(vals:Nat->Int)(ws:Nat->List Nat)(xs:List Int):qX vals 1 (ws 1) (qX vals 0 (ws 0) xs)=jk vals ws xs:=by
 rw[zrs,zrr];rfl
theorem zgs (vals : Nat -> Int) (d : Nat) : ∀ (ws : List Nat) (xs : List Int), (qX vals d ws xs).length = xs.length + ws.length
 | [],xs=>rfl
 | w :: ws,xs=>by
   show (qX vals d ws (zft d (vals w) xs)).length=_;rw[zgs vals d ws,zkD];simp;omega
end Go.Sk
namespace Go.Proofs.Tryz
open Go.L Go.Rp Go.Sk
set_option maxRecDepth 100000
theorem SideV.at{h:zd}{v:V}{ob:Option Nat}{ws:List Nat}(hv:SideV h v ob ws){i:Nat}(hi:i < ws.length):∃ p cs m o,ZE 1 i v=some p/\zu h p=some (cs,m,o)/\(o+1<=m/\0 < 1)/\cs[o]?=some (.int .i64 (ws[i]:Int)):=by
 cases ob with
 | none=>rw[hv.2] at hi;simp at hi
 | some b =>
   obtain⟨lo,l,z,rfl,h2,h3,h4⟩:=hv;have hx:l[lo+i]?=some [.int .i64 (ws[i]:Int)]:=by
    have:=congrArg (fun t:List (List V)=>t[i]?) h4;simpa[Wl,Zb,hi] using this
   exact⟨_,_,_,_,XR (by omega),XD h2 (by decide) hx,by decide,rfl⟩
theorem SideV.slc2{h:zd}{v:V}{ob:Option Nat}{ws:List Nat}(hv:SideV h v ob ws):ZR h v=some (if ob.isSome then 1 else 0,ws.map Wl):=by
 cases ob with
 | none =>
   obtain⟨rfl,rfl⟩:=hv;exact ZW ..
 | some b =>
   obtain⟨lo,l,z,rfl,h2,h3,h4⟩:=hv;rw[Qx h2 (Nat.le_add_right _ _) h3,h4];rfl
theorem zhM (n : Nat) {h : zd} {q qb c d : Nat} {xs : List Int} (hb : RngAt h q qb c xs) (x : Int) (hm : xs.length < c) (hc : c < 100000) :
    ∃ h',call (n+2) (if d=0 then 205 else 206) [.ptr q 0,.int .i32 x] h=some (.ret [.bool true],h')/\RngAt h' q qb c (zft d x xs)/\RFed h h' q qb:=by
 unfold zft;by_cases hd:d=0
 . rw[if_pos hd,if_pos hd];exact j9 n hb x hm hc
 . rw[if_neg hd,if_neg hd];exact qa n hb x hm hc
theorem zt7(d:Nat):X0 (if d=0 then 205 else 206)=true/\okV prog 4 (if d=0 then 205 else 206)=true:=by
 by_cases hd:d=0
 . rw[if_pos hd];exact⟨by kernel_rfl,by kernel_rfl⟩
 . rw[if_neg hd];exact⟨by kernel_rfl,by kernel_rfl⟩
def zcO(q:Nat):List V:=[V.bf 205 [(V.ptr q 0)],V.bf 206 [(V.ptr q 0)]]
theorem zrt(q:Nat){d:Nat}(hd:d < 2):(zcO q)[d]?=some (.bf (if d=0 then 205 else 206) [.ptr q 0]):=by
 obtain rfl|rfl:d=0\/d=1:=by omega
 . rfl
 . rfl
theorem zbb (n : Nat) {h1 : zd} {q qb m d : Nat} {os : List O} {osb : Bool} {v : V} {sz : Nat} {ob : Option Nat} {ws : List Nat} (hd : d < 2) (hv : SideV h1 v ob ws) (hob : ∀ b, ob = some b -> b ≠ q /\ b ≠ qb) (hw : ∀ w ∈ ws, w < os.length) (hm : m < 100000) (hws : ws.length < lim) (next : List V -> zd -> Option (Res × zd)) :
    ∀ (k i N:Nat) (h:zd) (xs:List Int),RngAt h q qb m xs->RFed h1 h q qb->i+k=ws.length->k < N->xs.length+k<=m →
    ∃ h',zR N (JK (n+2) (os.map O.w) osb [.sl 2 [] false,.agg (zcO q),.int .i64 (d:Int)] next v (sz,ws.map Wl)) [.sl 2 [] false,.agg (zcO q),.agg [v],.int .i64 (i:Int)] h=next [.sl 2 [] false,.agg (zcO q),.int .i64 ((d+1:Nat):Int)] h'/\RngAt h' q qb m (qX (valsOf os) d (ws.drop i) xs)/\RFed h1 h' q qb:=by
 intro k
 induction k with
 | zero =>
   intro i N h xs hb hf hi hN hx;obtain⟨N,rfl⟩:∃ N',N=N'+1:=⟨N - 1,by omega⟩;refine⟨h,?_,by rw[ZZ (by omega)];exact hb,hf⟩;rw[zA];unfold JK;simp only[gv,zf,zh,lsl,lcs];rw[zr,za,zm,if_neg (by simp;omega),zH,za,Xa (by unfold lim;omega)]
 | succ k ih =>
   intro i N h xs hb hf hi hN hx;obtain⟨N,rfl⟩:∃ N',N=N'+1:=⟨N - 1,by omega⟩;have hlt:i < ws.length:=by omega
   have hwi:ws[i] < os.length:=hw _ (Xd hlt);obtain⟨p,cs,m',o,a1,a2,a3,a4⟩:=(hv.keep (fun b hb'=>hf.old b (hob b hb').1 (hob b hb').2):SideV h v ob ws).at hlt;obtain⟨h',e,b1,b2⟩:=zhM n (d:=d) hb os[ws[i]].v (by omega) hm;have hvv:valsOf os ws[i]=os[ws[i]].v:=by simp[valsOf,zg hwi]
   obtain⟨h'',e',c1,c2⟩:=ih (i+1) N h' _ b1 (hf.trans b2) (by omega) (by omega) (by rw[zkD];omega);refine⟨h'',?_,by rw[zQ hlt];rw[<- hvv] at c1;exact c1,c2⟩;rw[<- e',zA];have key:∀ nx,JK (n+2) (os.map O.w) osb [.sl 2 [] false,.agg (zcO q),.int .i64 (d:Int)] next v (sz,ws.map Wl) [.sl 2 [] false,.agg (zcO q),.agg [v],.int .i64 (i:Int)] h nx=nx [.sl 2 [] false,.agg (zcO q),.agg [v],.int .i64 ((i+1:Nat):Int)] h':=by
    intro nx;unfold JK;simp only[gv,zf,zh,lsl,lcs];rw[zr,za,zm,if_pos (by simp;omega),Za,zy,a1,za,a2,zn,if_pos a3,a4,za,Za,za,if_pos hd,if_pos (by omega),Xh,zrt q hd,za,Za,zy,Xb (es:=O.w os[ws[i]]) (by rw[zG,zg hwi];rfl),za];simp only[ZL,za];rw[Zl,zn,if_pos (by decide)];simp only[O.w,zq,zj,zb,za,zus];rw[if_pos (zt7 d)];show cl (call (n+2) _ [.ptr q 0,.int .i32 os[ws[i]].v] h) _ _=_;rw[e,zM,zx,zH,za,Xa (by omega)]
   rw[key]
theorem zfu(n:Nat){h5:zd}{n9 T:Nat}{z:List R}(hn9:n9=z.length)(hz:z.length < lim)(hT:T≠h5.length):∀ (d i N:Nat) (h:zd) (w:V),i+d=z.length->d < N->h[h5.length]?=some (.row 21 1 (z.map vlC) true)->h[T]?=some (.row 35 2 ((z.take i).map R.w++(z.drop i).map cdC) true)->(w=.agg (lcs w)) →
    ∃ h',zR N (Wz n h5 n9 (.row T 2 0 z.length) (1,z.map vlC)) [.sl 2 [] false,w,.int .i64 (i:Int)] h=some (.ret [.row T 2 0 z.length],h')/\h'[T]?=some (.row 35 2 (z.map R.w) true)/\h'.length=h.length/\∀ j,j≠T->h'[j]?=h[j]?:=by
 intro d
 induction d with
 | zero =>
   intro i N h w hi hN hr ht hww;obtain⟨N,rfl⟩:∃ N',N=N'+1:=⟨N - 1,by omega⟩;refine⟨h,?_,by rw[ht,zN (by omega),ZZ (by omega)];simp,rfl,fun _ _=>rfl⟩;rw[zA];unfold Wz;simp only[gv,zf,zh];rw[zr,za,zm,if_neg (by simp;omega)]
 | succ d ih =>
   intro i N h w hi hN hr ht hww;obtain⟨N,rfl⟩:∃ N',N=N'+1:=⟨N - 1,by omega⟩;have hlt:i < z.length:=by omega
   have htl:=zT ht;have hset:((z.take i).map R.w++(z.drop i).map cdC).set i (setR (cdC z[i]) 1 [V.int .i32 z[i].v])=(z.take (i+1)).map R.w++(z.drop (i+1)).map cdC:=by
    rw[ZC _ _ (by simp;omega),zQ hlt,X5 hlt,zS,show i - (List.map R.w (z.take i)).length=0 by simp;omega,J5,Zu,List.append_assoc];rfl
   obtain⟨h',e,b1,b2,b3⟩:=ih (i+1) N (h.set T (.row 35 2 ((z.take (i+1)).map R.w++(z.drop (i+1)).map cdC) true)) w (by omega) (by omega) ((ze hT).trans hr) (Xr htl _) hww;refine⟨h',?_,b1,b2.trans (zt ..),fun j hj=>(b3 j hj).trans (ze (Ne.symm hj))⟩;rw[zA,<- e];have hti:((z.take i).map R.w++(z.drop i).map cdC)[i]?=some (cdC z[i]):=by
    rw[zK (by simp;omega)];simp[hlt,XT (Nat.le_of_lt hlt)]
   have key:∀ nx,Wz n h5 n9 (.row T 2 0 z.length) (1,z.map vlC) [.sl 2 [] false,w,.int .i64 (i:Int)] h nx=nx [.sl 2 [] false,w,.int .i64 ((i+1:Nat):Int)] (h.set T (.row 35 2 ((z.take (i+1)).map R.w++(z.drop (i+1)).map cdC) true)):=by
    intro nx;unfold Wz;simp only[gv,zf,zh,lsl];rw[<- hww,zr,za,zm,if_pos (by simp;omega),Za,zy,XR (by simp;omega),za,XD (es:=vlC z[i]) hr (by decide) (by simp[hlt]),zn,if_pos (by decide)];simp only[vlC,zb,za];rw[zy,XR (by omega),za];simp only[ZL,za,V.cells,zD,zP,zq,if_true];rw[Wc ht (by decide) (by simp) hti,Zf,zH,za,Xa (by omega),hset]
   rw[key]
theorem qY (n : Nat) {os : List (List V)} {osb : Bool} {h5 hh : zd} {n9 : Nat} {v14 a b : V} {v : Nat -> V} {q sz d : Nat} {ws : List Nat} (hd : d < 2) (hs : ZR hh (v d) = some (sz, ws.map Wl)) (next : List V -> zd -> Option (Res × zd)) :
    Jq n os osb h5 n9 v14 [v 0,v 1,a,b] 0 [.sl 2 [] false,.agg (zcO q),.int .i64 (d:Int)] hh next=zR n (JK n os osb [.sl 2 [] false,.agg (zcO q),.int .i64 (d:Int)] next (v d) (sz,ws.map Wl)) [.sl 2 [] false,.agg (zcO q),.agg [v d],.int .i64 0] hh:=by
 have h1:(([v 0,v 1,a,b].drop 0 |>.take 2).drop (d * 1) |>.take 1)=[v d]:=by
  obtain rfl|rfl:d=0\/d=1:=by omega
  . rfl
  . rfl
 unfold Jq;simp only[gv,zf,zh,lsl,lcs];rw[zr,za,zm,if_pos (by simp;omega),Za,zy,if_pos ⟨hd,by simp;omega⟩,h1,if_pos (by rfl),if_pos (by exact zl 1)];show bd (some (v d)) _=_;rw[za,hs,za];rfl
theorem zru(a b:Int):Qo prog 274 [(1,.int .i64 a),(2,.int .i64 b)]=some [.sl 0 [] true,.sl 0 [] true,.int .i64 a,.int .i64 b]:=by kernel_rfl
theorem zeN (n : Nat) {h : zd} {q qb m : Nat} {xs : List Int} (hb : RngAt h q qb m xs) (os : List O) (osb : Bool) (hm : m < 100000) (hos : os.length < lim) (hn : os.length + m + 10 < n) :
    ∃ h' T,call (n+5) 199 [.ptr q 0,.sl 2 (os.map O.w) osb] h=some (.ret [.row T 2 0 os.length],h')/\h'[T]?=some (.row 35 2 ((QL (m:Int) os xs).1.map R.w) true)/\h.length<=T/\RngAt h' q qb m (QL (m:Int) os xs).2/\h.length<=h'.length/\∀ j,j < h.length->j≠q->j≠qb->h'[j]?=h[j]?:=by
 have hb0:=hb;obtain⟨hqq,l0,z0,f0,e1,e2,e3,e4,e5,e6,e7⟩:=hb0;have hql:=zT e1;have hbl:=zT e2;have hlim:m+1 < lim:=by unfold lim;omega
 rw[show n+5=(n+4)+1 from rfl,zj7];unfold zj6;rw[Qm (n+3) hb,zM,zx,JV (n+3) hb,zM,zx,zru,za,if_pos (by rfl),zo,Za,zy,zy,if_pos ⟨zl _,by omega,rfl⟩];generalize hA:h++[HB.row 21 1 (List.replicate os.length [V.int .i32 0]) true]=A;generalize hB:A++[HB.box 4 [V.sl 0 [] true,V.sl 0 [] true,V.int .i64 (xs.length:Int),V.int .i64 (m:Int)]]=B;have lA:A.length=h.length+1:=by rw[<- hA];simp
 have lB:B.length=h.length+2:=by rw[<- hB];simp;omega
 have aA:∀ j,j < h.length->A[j]?=h[j]?:=fun j hj=>by rw[<- hA,zk hj]
 have aB:∀ j,j < A.length->B[j]?=A[j]?:=fun j hj=>by rw[<- hB,zk hj]
 have eA:A[h.length]?=some (HB.row 21 1 (List.replicate os.length [V.int .i32 0]) true):=by rw[<- hA];exact zI
 have eB:B[A.length]?=some (HB.box 4 [V.sl 0 [] true,V.sl 0 [] true,V.int .i64 (xs.length:Int),V.int .i64 (m:Int)]):=by rw[<- hB];exact zI
 have b0:∀ j,j < h.length->B[j]?=h[j]?:=fun j hj=>by rw[aB _ (by omega),aA _ hj]
 have bR:B[h.length]?=some (HB.row 21 1 (List.replicate os.length [V.int .i32 0]) true):=by rw[aB _ (by omega)];exact eA
 have L:ELay (B.length+1) A.length q qb h.length B.length:=by constructor <;> omega
 have E:EndAt B A.length (fun _=>none) xs.length m (fun _=>[]) (fun _=>.sl 0 [] true):=⟨eB,fun _ _=>⟨rfl,rfl⟩,fun _ _ e=>(nomatch e),fun _ e=>(nomatch e)⟩;rw[QO];obtain⟨H,sb',v',z,hz,e,I⟩:=zhL n A.length q qb h.length osb m os L hm e5 hos (by omega) E (hb.keep (b0 q hql) (b0 qb hbl)) bR;rw[e,zM,zx];have hzl:z.1.length=os.length:=by rw[hz];exact zkx ..
 have hok:=znw m (valsOf os) os 0 (fun _=>[]) xs (fun _ _ _ h=>(nomatch h)) (by simpa[tot] using e5);rw[<- hz,zq] at hok;have hzz:=zky (m:Int) (valsOf os) os 0 (fun _=>[]) xs (fun j o hj=>by rw[zq];simp[valsOf,hj]);rw[<- hz,show jk (valsOf os) (fun _=>[]) xs=xs by simp[jk]] at hzz;have hle:=I.le;generalize hG:H++[HB.row 35 2 (z.1.map cdC) true]=G;have aG:∀ j,j < H.length->G[j]?=H[j]?:=fun j hj=>by rw[<- hG,zk hj]
 have eG:G[H.length]?=some (HB.row 35 2 (z.1.map cdC) true):=by rw[<- hG];exact zI
 have lG:G.length=H.length+1:=by rw[<- hG];simp
 have EG:EndAt G A.length sb' z.2.2.length m z.2.1 v':=I.mt.keep (aG _ (by omega)) (fun e b he hb'=>aG b (by have:=I.mt.side e he;rw[hb'] at this;exact this.lt));have RG:RngAt G q qb m z.2.2:=I.st.keep (aG q (by omega)) (aG qb (by omega));rw[zC EG.box,zn,if_pos (by decide)];have htot:=hok.2;unfold tot at htot;have hside:∀ d,d < 2->∀ b,sb' d=some b->b≠q/\b≠qb:=fun d hd b hb'=>by have:=I.fr d b hd hb';omega
 have hwlen:∀ d,d < 2->(z.2.1 d).length<=m:=fun d hd=>by
  obtain rfl|rfl:d=0\/d=1:=by omega
  . omega
  . omega
 have k0:=(EG.side 0 (by decide)).slc2;obtain⟨G1,f1,r1,r2⟩:=zbb (n+2) (os:=os) (osb:=osb) (sz:=if (sb' 0).isSome then 1 else 0) (d:=0) (by decide) (EG.side 0 (by decide)) (hside 0 (by decide)) (hok.1 0 (by decide)) hm (by have:=hwlen 0 (by decide);omega) (fun st h'=>zR (n+3) (Jq (n+4) (os.map O.w) osb h os.length (.row H.length 2 0 os.length) [v' 0,v' 1,.int .i64 (z.2.2.length:Int),.int .i64 (m:Int)] 0) st h') (z.2.1 0).length 0 (n+4) G z.2.2 RG (RFed.refl ..) (by omega) (by have:=hwlen 0 (by decide);omega) (by omega);rw[zO] at r1;have hl1:=zgs (valsOf os) 0 (z.2.1 0) z.2.2;have k1':=((EG.side 1 (by decide)).keep (h':=G1) (fun b hb'=>r2.old b (hside 1 (by decide) b hb').1 (hside 1 (by decide) b hb').2)).slc2;obtain⟨G2,f2,r3,r4⟩:=zbb (n+2) (os:=os) (osb:=osb) (sz:=if (sb' 1).isSome then 1 else 0) (d:=1) (by decide) (EG.side 1 (by decide)) (hside 1 (by decide)) (hok.1 1 (by decide)) hm (by have:=hwlen 1 (by decide);omega) (fun st h'=>zR (n+2) (Jq (n+4) (os.map O.w) osb h os.length (.row H.length 2 0 os.length) [v' 0,v' 1,.int .i64 (z.2.2.length:Int),.int .i64 (m:Int)] 0) st h') (z.2.1 1).length 0 (n+4) G1 _ r1 r2 (by omega) (by have:=hwlen 1 (by decide);omega) (by omega);rw[zO,zo4] at r3;have hG2:∀ j,j≠q->j≠qb->G2[j]?=G[j]?:=r4.old;have w1:G2[h.length]?=some (.row 21 1 (z.1.map vlC) true):=by
  rw[hG2 _ (by omega) (by omega),aG _ (by omega),I.row];simp
 have w2:G2[H.length]?=some (.row 35 2 ((z.1.take 0).map R.w++(z.1.drop 0).map cdC) true):=by
  rw[hG2 _ (by omega) (by omega)];exact eG
 obtain⟨h',f3,t1,t2,t3⟩:=zfu (n+4) (h5:=h) (n9:=os.length) (T:=H.length) (z:=z.1) hzl.symm (by omega) (by omega) z.1.length 0 (n+4) G2 (.agg (zcO q)) (by omega) (by omega) w1 w2 rfl;have lG2:=r4.len;refine⟨h',H.length,?_,by rw[hzz];exact t1,by omega,?_,by omega,fun j j1 j2 j3=>?_⟩
 . show zR (n+4) (Jq (n+4) (os.map O.w) osb h os.length (.row H.length 2 0 os.length) [v' 0,v' 1,.int .i64 (z.2.2.length:Int),.int .i64 (m:Int)] 0) [.sl 2 [] false,.agg (zcO q),.int .i64 ((0:Nat):Int)] G=_;rw[zA,qY (n+4) (by decide) k0];refine f1.trans ?_;rw[zA,qY (n+4) (by decide) k1'];refine f2.trans ?_;rw[zA];unfold Jq;simp only[gv,zf,zh,lsl,lcs];rw[zr,za,zm,if_neg (by decide),QO];have hsl:ZR G2 (.row h.length 1 0 os.length)=some (1,z.1.map vlC):=by
    have h2:=jS w1;rwa[zo,hzl] at h2
   rw[hsl,za];rw[hzl] at f3;exact f3
 . rw[hzz];exact r3.keep (t3 q (by omega)) (t3 qb (by omega))
 . rw[t3 j (by omega),hG2 j j2 j3,aG j (by omega),I.rest j (by omega) (by omega) j2 j3 (by omega),zk (by omega),b0 j j1]
end Go.Proofs.Tryz
namespace Go.Proofs.Tryz
open Go.L Go.Rp Go.Sk
set_option maxRecDepth 100000
theorem znA:XX (Yn (XB f191))=true/\XX (Yo (XB f191))=true:=⟨by kernel_rfl,by kernel_rfl⟩
theorem zsP:((WW prog 194).isNone && (XX (Yn (XB f191)) && XX (Yo (XB f191))))=true:=by kernel_rfl
def zhN(y0 y2:Option V)(x3:Nat)(y5 y6 y7 y8 y9 y10 y11 y12 y13 y14 y15 y16:Option V):List (Option V):=[y0,none,y2,some (V.ptr x3 0),none,y5,y6,y7,y8,y9,y10,y11,y12,y13,y14,y15,y16,none,none,none,none,none,none]
noncomputable def zbS(D:Nat)(fr:List (Option V))(st:LSt):HB:=.loop D true fr [17] (Yn (XB f191)) (Yo (XB f191)) st
section
variable {y0 y2 y5 y6 y7 y8 y9 y10 y11 y12 y13 y14 y15 y16:Option V}
theorem zrv(n:Nat){h:zd}{b D x3:Nat}(hb:h[b]?=some (zbS D (zhN y0 y2 x3 y5 y6 y7 y8 y9 y10 y11 y12 y13 y14 y15 y16) .ready))(z:V):rnd n b [z] h=zar n x3 b z h :=
 (zd9 n hb [z] rfl znA.1 znA.2).trans (zfm n y0 y2 x3 y5 y6 y7 y8 y9 y10 y11 y12 y13 y14 y15 y16 b z h)
structure RgLp(h hh:zd)(s:Nat)(l:List Int)(fr:List (Option V)):Prop where
 len:h.length+6<=hh.length
 old:∀ i,i < h.length->hh[i]?=h[i]?
 p1:hh[h.length+1]?=some (.box 1 [.ptr s 0])
 out:∃ b z,(b=h.length\/h.length+6<=b)/\hh[h.length+2]?=some (.box 1 [.row b 1 0 l.length])/\hh[b]?=some (.row 21 1 (l.map (Xc .i32)) z)
 df:hh[h.length+4]?=some .defb
 lp:hh[h.length+5]?=some (zbS (h.length+4) fr .ready)
theorem zsQ (n : Nat) {h hh : zd} {s : Nat} {l : List Int} (L : RgLp h hh s l (zhN y0 y2 (h.length + 2) y5 y6 y7 y8 y9 y10 y11 y12 y13 y14 y15 y16)) (x : Int) (hl : l.length + 1 < lim) :
    ∃ hh',rnd n (h.length+5) [.int .i32 x] hh=some (true,hh')/\RgLp h hh' s (l++[x]) (zhN y0 y2 (h.length+2) y5 y6 y7 y8 y9 y10 y11 y12 y13 y14 y15 y16):=by
 rw[zrv n L.lp];have hlen:=L.len;unfold zar;rw[L.lp];simp only[zbS,lpR];generalize hbusy:HB.loop (h.length+4) true (zhN y0 y2 (h.length+2) y5 y6 y7 y8 y9 y10 y11 y12 y13 y14 y15 y16) [17] (Yn (XB f191)) (Yo (XB f191)) .busy=B;obtain⟨G,hG⟩:∃ G,G=hh.set (h.length+5) B:=⟨_,rfl⟩;rw[<- hG];have hGl:G.length=hh.length:=by rw[hG,zt]
 have hGo:∀ i,i≠h.length+5->G[i]?=hh[i]?:=fun i hi=>by rw[hG,ze (Ne.symm hi)]
 have hGb:G[h.length+5]?=some B:=by rw[hG];exact Xr (by omega) _
 obtain⟨b0,z,hb0,hc,hr⟩:=L.out;have hc':G[h.length+2]?=some (.box 1 [.row b0 1 0 l.length]):=by rw[hGo _ (by omega)];exact hc
 have hr':G[b0]?=some (.row 21 1 (l.map (Xc .i32)) z):=by rw[hGo _ (by omega)];exact hr
 have hb0l:=zT hr';have Wr:WG 21 1 G [[.int .i32 x]] (.row b0 1 0 l.length)=some (.row G.length 1 0 (l.length+1),G.set b0 .dead++[.row 21 1 (l.map (Xc .i32)++[[.int .i32 x]]) (z && 0 == 0)]):=by
  simp only[WG,hr'];rw[if_pos (by refine⟨⟨?_,?_,?_⟩,⟨Ze _,by simp⟩,by simp;omega⟩ <;> first|trivial|rfl),zO,zN (by simp)];simp
 have hw:Zt (G.set b0 .dead++[.row 21 1 (l.map (Xc .i32)++[[.int .i32 x]]) (z && 0 == 0)]) [.row G.length 1 0 (l.length+1)] (.ptr (h.length+2) 0)=some (h.length+2,.box 1 [.row G.length 1 0 (l.length+1)]):=by
  rw[ZV (n:=1) (cs:=[.row b0 1 0 l.length]) (by rw[zk (by rw[zt];omega),ze (by omega)];exact hc') (by simp)];rfl
 rw[zC hc',zn,if_pos (by decide)];simp only[zb,za];rw[zcY,za,Wr,Zf];simp only[V.cells,zD,zP,zq,if_true];rw[hw,Zf];generalize hG2:G.set b0 .dead++[HB.row 21 1 (l.map (Xc .i32)++[[.int .i32 x]]) (z && 0 == 0)]=G2;have e1:G2.length=G.length+1:=by rw[<- hG2];simp
 have e4:G2[G.length]?=some (.row 21 1 ((l++[x]).map (Xc .i32)) (z && 0 == 0)):=by
  have:G.length=(G.set b0 .dead).length:=by rw[zt]
  rw[<- hG2,this,zI,Zu];rfl
 have e5:∀ i,i < h.length+6->i≠b0->G2[i]?=G[i]?:=fun i hi hb=>by rw[<- hG2,zk (by rw[zt];omega),ze (Ne.symm hb)]
 have hb5:(G2.set (h.length+2) (.box 1 [.row G.length 1 0 (l.length+1)]))[h.length+5]?=some B:=by rw[ze (by omega),e5 _ (by omega) (by omega)];exact hGb
 rw[hb5,<- hbusy];simp only[lpB];have hoth:∀ i,i≠h.length+5->i≠h.length+2->((G2.set (h.length+2) (.box 1 [.row G.length 1 0 (l.length+1)])).set (h.length+5) (HB.loop (h.length+4) true (zhN y0 y2 (h.length+2) y5 y6 y7 y8 y9 y10 y11 y12 y13 y14 y15 y16) [17] (Yn (XB f191)) (Yo (XB f191)) .ready))[i]?=G2[i]?:=fun i h1 h2=>by
  rw[ze (Ne.symm h1),ze (Ne.symm h2)]
 refine⟨_,rfl,⟨by rw[zt,zt];omega,fun i hi=>?_,?_,⟨G.length,(z && 0 == 0),.inr (by omega),?_,?_⟩,?_,?_⟩⟩
 . rw[hoth i (by omega) (by omega),e5 i (by omega) (by omega),hGo i (by omega),L.old i hi]
 . rw[hoth _ (by omega) (by omega),e5 _ (by omega) (by omega),hGo _ (by omega),L.p1]
 . rw[ze (by omega),Xr (by omega),zE];rfl
 . rw[hoth _ (by omega) (by omega)];exact e4
 . rw[hoth _ (by omega) (by omega),e5 _ (by omega) (by omega),hGo _ (by omega),L.df]
 . exact Xr (by rw[zt];omega) _
theorem zsR(n:Nat){h:zd}{s b c:Nat}{xs:List Int}(hb:RngAt h s b c xs)(hc:c < 100000):∀ (d i M:Nat) (hh:zd),i+d=xs.length->d < M->RgLp h hh s (xs.take i) (zhN y0 y2 (h.length+2) y5 y6 y7 y8 y9 y10 y11 y12 y13 y14 y15 y16) →
    ∃ hh',zR M (W4 (n+1) (h.length+5) (h.length+1) (.int .i64 (xs.length:Int))) [.int .i64 (i:Int)] hh=some (.ret [],hh')/\RgLp h hh' s xs (zhN y0 y2 (h.length+2) y5 y6 y7 y8 y9 y10 y11 y12 y13 y14 y15 y16):=by
 intro d
 induction d with
 | zero =>
   intro i M hh h1 h2 L;obtain⟨M,rfl⟩:∃ M',M=M'+1:=⟨M - 1,by omega⟩;rw[zN (by omega)] at L;refine⟨hh,?_,L⟩;rw[zA];unfold W4;simp only[gv,zf];rw[zr,za,zm,if_neg (by simp;omega)]
 | succ d ih =>
   intro i M hh h1 h2 L;obtain⟨M,rfl⟩:∃ M',M=M'+1:=⟨M - 1,by omega⟩;have hlt:i < xs.length:=by omega
   obtain⟨k,l,z,f,e1,e2,e3,e4,e5,e6,e7⟩:=hb;have hs1:=(L.old s (zT e1)).trans e1;have hb1:=(L.old b (zT e2)).trans e2;have ea:=W5 n (m:=i) hs1 hb1 e3 (by omega) (by omega) hc;obtain⟨hh1,r1,L1⟩:=zsQ (n+1) L xs[i] (by simp;unfold lim;omega);rw[show xs.take i++[xs[i]]=xs.take (i+1) from(X5 hlt).symm] at L1;obtain⟨hh2,e,L2⟩:=ih (i+1) M hh1 (by omega) (by omega) L1;refine⟨hh2,?_,L2⟩;have key:∀ next,W4 (n+1) (h.length+5) (h.length+1) (.int .i64 (xs.length:Int)) [.int .i64 (i:Int)] hh next=next [.int .i64 ((i+1:Nat):Int)] hh1:=by
    intro next
    unfold W4;simp only[gv,zf];rw[zr,za,zm,if_pos (by simp;omega),zC L.p1,zn,if_pos (by decide)];simp only[zb,za];rw[ea,zM,zx];simp only[ZL,za,zW];rw[XD hb1 (by decide) (e6 i hlt),zn,if_pos (by decide)];simp only[Yq,zb,za];rw[r1,Zf,if_neg (by decide),zH,za,Xa (by unfold lim;omega)]
   rw[zA,key];exact e
end
theorem zeO (n : Nat) {h : zd} {s b c : Nat} {xs : List Int} (hb : RngAt h s b c xs) (hc : c < 100000) (hn : xs.length < n) :
    ∃ h' r z,call (n+3) 191 [.ptr s 0] h=some (.ret [.row r 1 0 xs.length],h')/\h'[r]?=some (.row 21 1 (xs.map (Xc .i32)) z)/\h.length<=r/\h.length<=h'.length/\∀ i,i < h.length->h'[i]?=h[i]?:=by
 have hb0:=hb;obtain⟨k,l,z,f,e1,e2,e3,e4,e5,e6,e7⟩:=hb0;rw[show n+3=(n+2)+1 from rfl,zjY];unfold zjX;rw[Y3,za,zm,if_neg (by decide),zC e1,zn,if_pos (by decide)];simp only[zb,zj,za];rw[Za,zy,if_pos ⟨Ze _,by unfold lim;omega,trivial⟩];rw[show n+2=(n+1)+1 from rfl,zoY];unfold zq9;rw[zM,zx];simp only[zlp];rw[if_pos zsP];simp only[zE,zD,zP,List.append_assoc,Z1,zU,ZT,zq,Nat.reduceAdd,Q7];have hS:∀ (T:List HB) i,(h++T)[h.length+i]?=T[i]?:=fun T i=>by rw[zK (by omega),Xt]
 have hS0:∀ (T:List HB),(h++T)[h.length]?=T[0]?:=fun T=>hS T 0;obtain⟨HS,hHS⟩:∃ HS:zd,HS=h++[HB.row 21 1 [] true,HB.box 1 [V.ptr s 0],HB.box 1 [V.row h.length 1 0 0],HB.row 21 1 [] true,HB.defb,zbS (h.length+4) (zhN (some (V.ptr s 0)) (some (V.row (h.length+3) 1 0 0)) (h.length+2) (some (V.ptr s 0)) (some (V.bool false)) (some (V.ptr s 0)) (some (V.ptr s 0)) (some (V.ptr s 0)) (some (V.ptr s 2)) (some (V.int .i64 (xs.length:Int))) (some (V.row h.length 1 0 0)) (some (V.ptr s 0)) (some (V.ptr s 0)) (some (V.ptr s 0)) (some (V.fn 194 [V.ptr (h.length+1) 0]))) .ready]:=⟨_,rfl⟩;have L0:RgLp h HS s (xs.take 0) _:=⟨by rw[hHS];simp,fun i hi=>by rw[hHS,zk hi],by rw[hHS,hS];rfl,⟨h.length,true,.inl rfl,by rw[hHS,hS];rfl,by rw[hHS,hS0];rfl⟩,by rw[hHS,hS];rfl,by rw[hHS,hS];rfl⟩;obtain⟨hh',e,L⟩:=zsR n hb hc xs.length 0 (n+1) HS (by omega) (by omega) L0;have hit:call (n+1+1) 194 [.yld (h.length+5),.ptr (h.length+1) 0] HS=some (.ret [],hh'):=by
  refine(zl9 (n+1) _ _ HS).trans ?_;unfold znp;rw[zC L0.p1,zn,if_pos (by decide)];simp only[zb,za,ZL,zW,zq];rw[zC ((L0.old s (zT e1)).trans e1),zn,if_pos (by decide)];simp only[zb,zj,za];exact e
 have hHS':=hHS;simp only[zbS,zhN] at hHS';rw[<- hHS',hit];simp only[clN];have hlp:=L.lp;rw[hlp];simp only[zbS,lpE];obtain⟨b',z',hb',hc',hr⟩:=L.out;have hdf:(hh'.set (h.length+5) HB.dead)[h.length+4]?=some .defb:=by rw[ze (by omega)];exact L.df
 have hrest:∀ i,i≠h.length+5->i≠h.length+4->((hh'.set (h.length+5) HB.dead).set (h.length+4) HB.dead)[i]?=hh'[i]?:=fun i a b=>by rw[ze (Ne.symm b),ze (Ne.symm a)]
 have hout:zu (hh'.set (h.length+5) HB.dead) (.ptr (h.length+2) 0)=some ([.row b' 1 0 xs.length],1,0):=zC (by rw[ze (by omega)];exact hc') 0;rw[hout,zn,if_pos (by decide)];simp only[zb,za];rw[hdf];simp only[dfB];have hhl:=L.len;refine⟨_,b',z',rfl,by rw[hrest b' (by omega) (by omega)];exact hr,by omega,by rw[zt,zt];omega,fun i hi=>by rw[hrest i (by omega) (by omega),L.old i hi]⟩
end Go.Proofs.Tryz
namespace Go.Sk
open Go.L Go.Rp
theorem zmg(m:Nat)(c x:Int)(xs:List Int)(h:xs.length<=m):(Xe (m:Int) c x xs).2.length<=m:=by
 unfold Xe;split
 . split
   . simp;omega
   . exact h
 . split
   . split
     . simp;omega
     . exact h
   . exact h
theorem zbT (m : Nat) : ∀ (l : List O) (xs : List Int), xs.length <= m -> (Qy (m : Int) l xs).2.length <= m
 | [],_,h=>h
 | o :: l,xs,h=>zbT m l _ (zmg m o.k o.v xs h)
theorem zmh(m:Nat)(c x:Int)(xs:List Int)(h:xs.length<=m):(ZF (m:Int) c x xs).2.length<=m:=by
 unfold ZF;split
 . split
   . simp;omega
   . exact h
 split
 . split
   . simp;omega
   . exact h
 split
 . split
   . simp at h ⊢;omega
   . exact h
 split
 . split
   . simp;omega
   . exact h
 . exact h
theorem zbU (m : Nat) : ∀ (l : List O) (xs : List Int), xs.length <= m -> (QL (m : Int) l xs).2.length <= m
 | [],_,h=>h
 | o :: l,xs,h=>zbU m l _ (zmh m o.k o.v xs h)
end Go.Sk
namespace Go.Proofs.Tryz
open Go.L Go.Rp Go.Sk
set_option maxRecDepth 100000
theorem zhO(n s:Nat)(osb:Bool)(b c:Nat)(hc:c < 100000)(os:List O)(hos:os.length < lim):∀ (d i N:Nat) (h:zd) (xs:List Int) (done:List R),RngAt h s b c xs->i+d=os.length->done.length=i->d < N →
    ∃ h',zR N (YO (n+3) s (os.map O.w) osb) [.sl 2 [] false,.sl 2 (done.map R.w++List.replicate d [.int .u8 0,.int .i32 0]) false,.bool false,.int .i64 (i:Int)] h=some (.ret [.row h'.length 2 0 os.length],h'++[.row 35 2 ((done++(QL (c:Int) (os.drop i) xs).1).map R.w) true])/\RngAt h' s b c (QL (c:Int) (os.drop i) xs).2/\RFed h h' s b:=by
 intro d
 induction d with
 | zero =>
   intro i N h xs done hb h1 h2 h3;obtain⟨N,rfl⟩:∃ N',N=N'+1:=⟨N - 1,by omega⟩;rw[zA];unfold YO;simp only[gv,zf,zh];rw[zr,za,zm,if_neg (by simp;omega),ZZ (by omega)];refine⟨h,?_,hb,RFed.refl ..⟩;simp only[lsl,QL,Zq,Q7,zo];rw[show done.length=os.length by omega]
 | succ d ih =>
   intro i N h xs done hb h1 h2 h3;obtain⟨N,rfl⟩:∃ N',N=N'+1:=⟨N - 1,by omega⟩;have hi:i < os.length:=by omega
   obtain⟨h',e,b1,b2⟩:=zjZ n hb hc os[i].k os[i].v;obtain⟨h'',e',d1,d2⟩:=ih (i+1) N h' _ (done++[zeK (c:Int) os[i] xs]) b1 (by omega) (by simp;omega) (by omega);have hd:os.drop i=os[i] :: os.drop (i+1):=zQ hi;refine⟨h'',?_,by rw[hd];exact d1,b2.trans d2⟩;rw[hd];simp only[QL];rw[show done++(zeK (c:Int) os[i] xs :: (QL (c:Int) (os.drop (i+1)) (ZF (c:Int) os[i].k os[i].v xs).2).1)=done++[zeK (c:Int) os[i] xs]++(QL (c:Int) (os.drop (i+1)) (ZF (c:Int) os[i].k os[i].v xs).2).1 by simp,<- e',zA];have hix:ZE 2 i (.sl 2 (os.map O.w) osb)=some (.iptr 2 (O.w os[i]) 0):=by
    simp[ZE,zg hi]
   have key:∀ next,YO (n+3) s (os.map O.w) osb [.sl 2 [] false,.sl 2 (done.map R.w++List.replicate (d+1) [.int .u8 0,.int .i32 0]) false,.bool false,.int .i64 (i:Int)] h next=next [.sl 2 [] false,.sl 2 ((done++[zeK (c:Int) os[i] xs]).map R.w++List.replicate d [.int .u8 0,.int .i32 0]) false,.bool false,.int .i64 ((i+1:Nat):Int)] h':=by
    intro next
    unfold YO;simp only[gv,zf,zh];rw[zr,za,zm,if_pos (by simp;omega),Za,zy,hix,za];simp only[zu];rw[zn,if_pos (by decide),zO,QS,if_pos (XV _),if_pos (by rw[XV];decide),Yf,zO,QS];show cl (call (n+3) _ [.ptr s 0,.agg [.int .u8 os[i].k,.int .i32 os[i].v]] h) _ _=_;rw[e,zM,zx,zy];have hlen:i < (done.map R.w++List.replicate (d+1) [V.int .u8 0,V.int .i32 0]).length:=by simp;omega
    have hget:(done.map R.w++List.replicate (d+1) [V.int .u8 0,V.int .i32 0])[i]?=some [.int .u8 0,.int .i32 0]:=by
     rw[zK (by simp;omega)];simp[h2]
    rw[if_pos (by refine⟨?_,hlen,by decide⟩;first|trivial|rfl),if_pos (by rfl),if_pos (by refine⟨?_,by decide,zl 2⟩;first|trivial|rfl)];simp only[lsl,zjR,V.cells];rw[hget,za,zH,za,Xa (by omega)];have hset:(done.map R.w++List.replicate (d+1) [V.int .u8 0,V.int .i32 0]).set i (setR [V.int .u8 0,V.int .i32 0] 0 [V.int .u8 (ZF (c:Int) os[i].k os[i].v xs).1.1,V.int .i32 (ZF (c:Int) os[i].k os[i].v xs).1.2])=(done++[zeK (c:Int) os[i] xs]).map R.w++List.replicate d [V.int .u8 0,V.int .i32 0]:=by
     rw[ZC _ _ (by simp;omega)];simp[h2,Xq,R.w,setR,zeK]
    rw[hset]
   rw[key]
theorem zhP (n s : Nat) {h : zd} {b c : Nat} {xs : List Int} (hb : RngAt h s b c xs) (hc : c < 100000) (os : List O) (osb : Bool) (hos : os.length < lim) (hn : os.length < n) :
    ∃ h',call (n+4) 176 [.bf 201 [.ptr s 0],.sl 2 (os.map O.w) osb] h=some (.ret [.row h'.length 2 0 os.length],h'++[.row 35 2 ((QL (c:Int) os xs).1.map R.w) true])/\RngAt h' s b c (QL (c:Int) os xs).2/\RFed h h' s b:=by
 obtain⟨h',e,b1,b2⟩:=zhO n s osb b c hc os hos os.length 0 (n+3) h xs [] hb (by omega) rfl (by omega);refine⟨h',(zme (n+3) s _ osb h).trans ?_,b1,b2⟩;unfold znu;rw[zo,Za,zy,zy,if_pos ⟨zl _,by omega,rfl⟩];exact e
def noH(xs:List Int):List (Int×Nat):=xs.map fun x=>(x,0)
theorem Jr(xs:List Int):(noH xs).length=xs.length:=zo ..
theorem Y5(xs:List Int):(noH xs).map Prod.fst=xs:=by unfold noH;rw[List.map_map];exact List.map_id _
def JQ(k m:Nat)(os:List O)(st:St):St×List R :=
 if k=1 then((noH (Qy (m:Int) os (st.1.map Prod.fst)).2,st.2),(Qy (m:Int) os (st.1.map Prod.fst)).1)
 else if k=2 then((noH (QL (m:Int) os (st.1.map Prod.fst)).2,st.2),(QL (m:Int) os (st.1.map Prod.fst)).1)
 else YK os (m:Int) st
def BodAt(k:Nat)(h:zd)(s:Nat)(Y:List Nat)(m:Nat)(its:List (Int×Nat)):Prop :=
 (k=1/\∃ xs qb,its=noH xs/\StkAt h s qb (m:Int) xs/\Y=s :: qb.toList) ∨
 (k=2/\∃ xs b,its=noH xs/\RngAt h s b m xs/\Y=[s,b]) ∨
 (k=3/\∃ ts,its=itT ts/\(∃ N,SkAt h s ts (m:Int) N)/\Y=skB s ts)
def zeP(k s:Nat):V:=.iface (if k=1 then 112 else if k=2 then 116 else 120) (.agg [.ptr s 0])
structure ObAt(k:Nat)(h:zd)(o s c:Nat)(cb:Option Nat)(Y:List Nat)(m:Nat)(pl:Bool)(st:St):Prop where
 box:h[o]?=some (.box 3 [zeP k s,.ptr c 0,.bool pl])
 bits:BitsAt h c cb st.2
 body:BodAt k h s Y m st.1
 room:st.1.length<=m
 most:m<=1000
 oc:o≠c
 ocb:cb≠some o
 oY:o ∉ Y
 cY:c ∉ Y
 cbY:∀ b,cb=some b->b ∉ Y
def obB(o c:Nat)(cb:Option Nat)(Y:List Nat):List Nat:=o :: c :: (cb.toList++Y)
theorem BodAt.lt{k:Nat}{h:zd}{s:Nat}{Y:List Nat}{m:Nat}{its:List (Int×Nat)}(B:BodAt k h s Y m its):∀ y∈Y,y < h.length:=by
 rcases B with ⟨rfl,xs,qb,rfl,S,rfl⟩|⟨rfl,xs,b,rfl,R,rfl⟩|⟨rfl,ts,rfl,⟨N,S⟩,rfl⟩
 . intro y hy;obtain⟨v,sz,k1,k2⟩:=S.box;rcases zL.1 hy with rfl|hy
   . exact zT k1
   . cases qb with
     | none=>simp at hy
     | some b =>
       simp at hy;subst hy;obtain⟨_,l,z,_,k3,_⟩:=S;exact zT k3
 . intro y hy;obtain⟨_,l,z,f,k1,k2,_⟩:=R;simp at hy;rcases hy with rfl|rfl
   . exact zT k1
   . exact zT k2
 . exact S.lt
theorem BitsAt.blt{h:zd}{c b:Nat}{bits:List Bool}(B:BitsAt h c (some b) bits):b < h.length:=by
 obtain⟨_,lo,l,z,_,k,_⟩:=B;exact zT k
theorem BitsAt.clt{h:zd}{c:Nat}{cb:Option Nat}{bits:List Bool}(B:BitsAt h c cb bits):c < h.length:=by
 cases cb with
 | none=>exact zT B.2
 | some b =>
   obtain⟨_,lo,l,z,k,_⟩:=B;exact zT k
theorem BodAt.keep{k:Nat}{h h':zd}{s:Nat}{Y:List Nat}{m:Nat}{its:List (Int×Nat)}(B:BodAt k h s Y m its)(hk:∀ y∈Y,h'[y]?=h[y]?):BodAt k h' s Y m its:=by
 rcases B with ⟨rfl,xs,qb,rfl,S,rfl⟩|⟨rfl,xs,b,rfl,R,rfl⟩|⟨rfl,ts,rfl,⟨N,S⟩,rfl⟩
 . exact .inl ⟨rfl,xs,qb,rfl,S.keep (hk s (by simp)) (fun b hb=>hk b (by simp[hb])),rfl⟩
 . exact .inr (.inl ⟨rfl,xs,b,rfl,R.keep (hk s (by simp)) (hk b (by simp)),rfl⟩)
 . exact .inr (.inr ⟨rfl,ts,rfl,⟨N,S.keep hk⟩,rfl⟩)
theorem ObAt.keep{k:Nat}{h h':zd}{o s c:Nat}{cb:Option Nat}{Y:List Nat}{m:Nat}{pl:Bool}{st:St}(A:ObAt k h o s c cb Y m pl st)(hk:∀ y∈obB o c cb Y,h'[y]?=h[y]?):ObAt k h' o s c cb Y m pl st :=
 ⟨(hk o (by simp[obB])).trans A.box,A.bits.keep (hk c (by simp[obB])) (fun b hb=>hk b (by simp[obB,hb])),A.body.keep (fun y hy=>hk y (by simp[obB,hy])),A.room,A.most,A.oc,A.ocb,A.oY,A.cY,A.cbY⟩
theorem ObAt.lt{k:Nat}{h:zd}{o s c:Nat}{cb:Option Nat}{Y:List Nat}{m:Nat}{pl:Bool}{st:St}(A:ObAt k h o s c cb Y m pl st):∀ y∈obB o c cb Y,y < h.length:=by
 intro y hy;simp only[obB,zL,Zi] at hy;rcases hy with rfl|rfl|hy|hy
 . exact zT A.box
 . exact A.bits.clt
 . cases cb with
   | none=>simp at hy
   | some b=>simp at hy;subst hy;exact A.bits.blt
 . exact A.body.lt y hy
structure XFed(h h':zd)(X X':List Nat):Prop where
 len:h.length<=h'.length
 old:∀ i,i < h.length->i ∉ X->h'[i]?=h[i]?
 new:∀ x∈X',x∈X\/h.length<=x
structure BFed(h h':zd)(c:Nat)(Y Y':List Nat):Prop where
 len:h.length<=h'.length
 old:∀ i,i < h.length->i ∉ c :: Y->h'[i]?=h[i]?
 new:∀ x∈Y',x∈Y\/h.length<=x
def zmi(k:Nat)(pl:Bool):Nat:=if k=1 then(if pl then 173 else 171) else if k=2 then(if pl then 198 else 196) else(if pl then 221 else 219)
theorem zrw (n : Nat) {k : Nat} {h : zd} {s c : Nat} {cb : Option Nat} {Y : List Nat} {m : Nat} {st : St} (pl : Bool) (B : BodAt k h s Y m st.1) (C : BitsAt h c cb st.2) (room : st.1.length <= m) (hm : m <= 1000) (cY : c ∉ Y) (cbY : ∀ b, cb = some b -> b ∉ Y) (os : List O) (osb : Bool) (hk : ∀ o ∈ os, 0 <= o.k /\ o.k < 256) (hos : os.length <= 1000) (hn : 2 * os.length + m + 100 <= n) :
    ∃ h' Y' T,call (n+7) (zmi k pl) [.agg [.ptr s 0],.ptr c 0,.sl 2 (os.map O.w) osb] h=some (.ret [.row T 2 0 os.length],h')/\RowR h' T (JQ k m os st).2/\BodAt k h' s Y' m (JQ k m os st).1.1/\BitsAt h' c cb (JQ k m os st).1.2/\(JQ k m os st).1.1.length<=m/\h.length<=T/\T ∉ Y'/\BFed h h' c Y Y':=by
 have hlim:1000000 < lim:=by unfold lim;omega
 have hlt:=B.lt;have hcl:=C.clt;rcases B with ⟨rfl,xs,qb,hits,S,rfl⟩|⟨rfl,xs,b,hits,RR,rfl⟩|⟨rfl,ts,hits,S,rfl⟩
 . have hxs:st.1.map Prod.fst=xs:=by rw[hits,Y5]
   have hxl:xs.length<=m:=by rw[hits,Jr] at room;exact room
   have hsc:c≠s:=fun e=>cY (by simp[e]);have hcq:qb≠some c:=fun e=>cY (by simp[e]);have hsb:∀ b,cb=some b->b≠s/\qb≠some b:=fun b hb=>⟨fun e=>cbY b hb (by simp[e]),fun e=>cbY b hb (by simp[e])⟩;simp only[JQ,hxs,if_true];have hrl:=zbT m os xs hxl;cases pl with
   | false =>
     obtain⟨h',qb',T,e,c1,c2,c3,c4,c5⟩:=zeM (n+1) S os osb hxl (by omega) (by omega) (by omega) (fun b hb=>hlt b (by simp[hb]));refine⟨h',s :: qb'.toList,T,?_,⟨true,c1⟩,.inl ⟨rfl,_,qb',rfl,c4,rfl⟩,C.keep (c5.old c hcl hsc hcq) (fun b hb=>c5.old b (hb ▸ C).blt (hsb b hb).1 (hsb b hb).2),by rw[Jr];exact hrl,c2,?_,⟨c5.len,fun i h1 h2=>c5.old i h1 (fun e=>h2 (by simp[e])) (fun e=>h2 (by simp[e])),?_⟩⟩
     . show call (n+6+1) 171 _ h=_;rw[zkd];unfold zkc;rw[e,zM,zx]
     . intro hT;have:=hlt s (by simp);rcases zL.1 hT with rfl|hT
       . omega
       . cases qb' with
         | none=>simp at hT
         | some b=>simp at hT;exact c3 (by rw[hT])
     . intro x hx;rcases zL.1 hx with rfl|hx
       . exact .inl (by simp)
       . cases qb' with
         | none=>simp at hx
         | some b =>
           simp at hx;subst hx;rcases c5.own _ rfl with e|e
           . exact .inl (by simp[e])
           . exact .inr e
   | true =>
     obtain⟨h',qb',e,c4,c5⟩:=zhE n s S os osb hk (by omega) (by omega);have hk':∀ j,j < h'.length->(h'++[HB.row 35 2 ((Qy (m:Int) os xs).1.map R.w) true])[j]?=h'[j]?:=fun j hj=>zk hj;have hql:∀ b,qb'=some b->b < h'.length:=fun b hb=>by
      rw[hb] at c4;obtain⟨_,l,z,_,k3,_⟩:=c4;exact zT k3
     have hsl':s < h'.length:=by have:=hlt s (by simp);have:=c5.len;omega
     have hlen:=c5.len;refine⟨h'++[HB.row 35 2 ((Qy (m:Int) os xs).1.map R.w) true],s :: qb'.toList,h'.length,?_,⟨true,zI⟩,.inl ⟨rfl,_,qb',rfl,c4.keep (hk' s hsl') (fun b hb=>hk' b (hql b hb)),rfl⟩,C.keep ((hk' c (by omega)).trans (c5.old c hcl hsc hcq)) (fun b hb=>(hk' b (by have:=(hb ▸ C).blt;omega)).trans (c5.old b (hb ▸ C).blt (hsb b hb).1 (hsb b hb).2)),by rw[Jr];exact hrl,hlen,?_,⟨by simp;omega,fun i h1 h2=>(hk' i (by omega)).trans (c5.old i h1 (fun e=>h2 (by simp[e])) (fun e=>h2 (by simp[e]))),?_⟩⟩
     . show call (n+6+1) 173 _ h=_;rw[zkf];unfold zke;rw[e,zM,zx]
     . intro hT;rcases zL.1 hT with hT|hT
       . omega
       . cases qb' with
         | none=>simp at hT
         | some b=>simp at hT;have:=hql b rfl;omega
     . intro x hx;rcases zL.1 hx with rfl|hx
       . exact .inl (by simp)
       . cases qb' with
         | none=>simp at hx
         | some b =>
           simp at hx;subst hx;rcases c5.own _ rfl with e|e
           . exact .inl (by simp[e])
           . exact .inr e
 . have hxs:st.1.map Prod.fst=xs:=by rw[hits,Y5]
   have hxl:xs.length<=m:=by rw[hits,Jr] at room;exact room
   have hsc:c≠s:=fun e=>cY (by simp[e]);have hcq:c≠b:=fun e=>cY (by simp[e]);have hsb:∀ x,cb=some x->x≠s/\x≠b:=fun x hb=>⟨fun e=>cbY x hb (by simp[e]),fun e=>cbY x hb (by simp[e])⟩;have hsl:=hlt s (by simp);have hbl:=hlt b (by simp);simp only[JQ,hxs,if_neg (show ¬ (2=1) by decide),if_true];have hrl:=zbU m os xs hxl;cases pl with
   | false =>
     obtain⟨h',T,e,c1,c2,c4,c5,c6⟩:=zeN (n+1) RR os osb (by omega) (by omega) (by omega);refine⟨h',[s,b],T,?_,⟨true,c1⟩,.inr (.inl ⟨rfl,_,b,rfl,c4,rfl⟩),C.keep (c6 c hcl hsc hcq) (fun x hb=>c6 x (hb ▸ C).blt (hsb x hb).1 (hsb x hb).2),by rw[Jr];exact hrl,c2,?_,⟨c5,fun i h1 h2=>c6 i h1 (fun e=>h2 (by simp[e])) (fun e=>h2 (by simp[e])),fun x hx=>.inl hx⟩⟩
     . show call (n+6+1) 196 _ h=_;rw[zkj];unfold zki;rw[e,zM,zx]
     . simp;omega
   | true =>
     obtain⟨h',e,c4,c5⟩:=zhP (n+2) s RR (by omega) os osb (by omega) (by omega);have hlen:=c5.len;have hk':∀ j,j < h'.length->(h'++[HB.row 35 2 ((QL (m:Int) os xs).1.map R.w) true])[j]?=h'[j]?:=fun j hj=>zk hj;refine⟨h'++[HB.row 35 2 ((QL (m:Int) os xs).1.map R.w) true],[s,b],h'.length,?_,⟨true,zI⟩,.inr (.inl ⟨rfl,_,b,rfl,c4.keep (hk' s (by omega)) (hk' b (by omega)),rfl⟩),C.keep ((hk' c (by omega)).trans (c5.old c hsc hcq)) (fun x hb=>(hk' x (by have:=(hb ▸ C).blt;omega)).trans (c5.old x (hsb x hb).1 (hsb x hb).2)),by rw[Jr];exact hrl,by omega,?_,⟨by simp;omega,fun i h1 h2=>(hk' i (by omega)).trans (c5.old i (fun e=>h2 (by simp[e])) (fun e=>h2 (by simp[e]))),fun x hx=>.inl hx⟩⟩
     . show call (n+6+1) 198 _ h=_;rw[zkl];unfold zkk;rw[e,zM,zx]
     . simp;omega
 . have hst:st=(itT ts,st.2):=by rw[<- hits]
   have htl:ts.length<=m:=by rw[hits] at room;simpa[itT] using room
   simp only[JQ,if_neg (show ¬ (3=1) by decide),if_neg (show ¬ (3=2) by decide)];have fin:∀ (h':zd) (ts':List Tw) (bits':List Bool) (tb:Nat) (told':List R),Did h h' s ts ts' (m:Int) c cb bits' tb told'->YK os (m:Int) (itT ts,st.2)=((itT ts',bits'),told')->RowR h' tb (YK os (m:Int) st).2/\BodAt 3 h' s (skB s ts') m (YK os (m:Int) st).1.1/\BitsAt h' c cb (YK os (m:Int) st).1.2/\(YK os (m:Int) st).1.1.length<=m/\h.length<=tb/\tb ∉ skB s ts'/\BFed h h' c (skB s ts) (skB s ts'):=by
    intro h' ts' bits' tb told' D hd;rw[hst,hd];refine⟨D.tl,.inr (.inr ⟨rfl,ts',rfl,D.sk,rfl⟩),D.bt,?_,D.tb,?_,⟨D.frm.len,fun i h1 h2=>D.frm.old i h1 h2,fun x hx=>?_⟩⟩
    . have:=D.room;simp[itT];omega
    . intro hT;obtain⟨N,S'⟩:=D.sk;unfold skB at hT;rw[<- Yc s (ts'.length:Int) (m:Int) ts'] at hT;obtain⟨x,hx,rfl⟩:=Zv.1 hT;have h1:=S'.rep.at_ x hx;obtain⟨z,hz⟩:=D.tl;unfold jc at h1;rw[hz] at h1;cases h1
    . rcases D.new x hx with e|e
      . exact .inl e
      . exact .inr e
   cases pl with
   | false =>
     obtain⟨h',ts',bits',tb,told',e,D,hd⟩:=zfe (n+2) os osb S C cY cbY (by omega) (by omega) (by omega) (by omega);refine⟨h',skB s ts',tb,?_,fin h' ts' bits' tb told' D hd⟩;show call (n+6+1) 219 _ h=_;rw[zkp];unfold zko;rw[e,zM,zx]
   | true =>
     obtain⟨h',ts',bits',tb,told',e,D,hd⟩:=zlP (n+2) os osb S C cY cbY (by omega) (by omega) (by omega);refine⟨h',skB s ts',tb,?_,fin h' ts' bits' tb told' D hd⟩;show call (n+6+1) 221 _ h=_;rw[zkr];unfold zkq;rw[e,zM,zx]
end Go.Proofs.Tryz
