/- Lopen2 Pw Pb Py Px Ka Lrow Kc Xa Ps Ts Pm Tm Pr Tr Pe Te Po: what the law needs of these -/import Derived.SizedLaws
import Derived.Test.YtclhmdhdpejhhaaGreatJsv12
set_option linter.unusedVariables false
namespace Go.L
open Go.ChangeShapes Go.WideShapes Go.Rp
section
variable {H:Type} {enc:TypeId×Value->H} {P:Program} {w:World} {held:Bool}
end
theorem zde {H : Type} {enc : TypeId × Value -> H} {P : Program} {w : World} {base : Nat} {spare : Nat -> Bool} {held : Bool} {ts : List TypeId} {ds : List (DataW H)} (hsz : (DataW.weightsEach P ts ds).all (· <= reachBytes) = true) {j : Nat} {t e : TypeId} {d : DataW H} {pl : List MemPlace} {a : Option Addr} {len cap fuel : Nat}
    (ht:ts[j]?=some t) (hd:ds[j]?=some d) (hu:P.underlying t=some (.slice e)) (hb:1<=P.bytesOf e) (h:DataW.trod enc P w base spare held fuel t [.slice a len cap]=some (d,pl)):len<=140737488355328:=by
 rcases Deep.open_slice hu h with ⟨h1,_⟩|⟨ad,len',cap',m,n,D,Pl,h1,_,hle,hm,hmm,hx,_⟩
 . simp at h1;omega
 . simp at h1;obtain⟨rfl,rfl,rfl⟩:=h1;cases hx;have h2:=sized_slice hsz ht hd hu;simp only[zp,List.length_range,reachBytes] at h2;have h3:len * 1<=(len+(m - len)) * P.bytesOf e:=QB (by omega) hb;omega
end Go.L
namespace Go.L
def Yp(z:V)(h:ze):Option (Res×ze):=some (Res.pan z,h)
def Yl{R:Type}(h:ze)(p:V)(K:V → Option R):Option R:=bd3 (Zv h p) fun cs m o=>if (o+1<=m/\0 < 1) then bd (cs)[o]? K else none
def Yi{R:Type}(c:Option V)(X Y:Option R):Option R:=bd c fun v=>bv v fun b=>if b then X else Y
def Yw{R:Type}(v:V)(h:ze)(p:V)(K:Nat → HB → Option R):Option R:=if (V.cells v).length=1 then bd2 (Zl h (V.cells v) p) K else none
def Yc{R:Type}(v:V)(n:Nat)(X:Option R):Option R:=if (V.cells v).length=n then(if ((V.cells v).length<=n) then X else none) else none
def Yx{R:Type}(s:Nat)(a l:V)(K:V → Option R):Option R:=bdS (nv a) fun n=>bd (Jz s n l) K
def Yr(l:List V)(h:ze):Option (Res×ze):=some (Res.ret l,h)
def Yn:V:=.val (.pointer none)
def Yq3:List V:=[.int .i64 0,.sl 0 [] true,.int .i64 0]
def Yq5:List V:=[.int .i64 0,.int .i64 0,.int .i64 0,.int .i64 0,.int .i64 0]
def zbd:List V:=[.int .i64 0,.int .i64 0,.int .i64 0,.int .i64 0,.int .i64 0,.int .i64 0,.int .i64 0,.int .i64 0,.int .i64 0,.int .i64 0,.int .i64 0,.int .i64 0,.sl 0 [] true]
def Yg{R:Type}(c:Prop)[Decidable c](X:Option R):Option R:=if c then X else none
noncomputable def Ya{R:Type}(x:V)(K:V → Option R):Option R:=bd (bop Go.Proofs.Tryz.prog .add 3 x (.int .i64 1)) K
end Go.L
namespace Go.Proofs.Tryz
open Go.L
set_option maxRecDepth 100000
def ydK{R:Type}(v:V)(a:Nat->Option R)(b:Option R):Option R:=match v with|.yld x=>a x|_=>b
noncomputable def zuG(n:Nat)(x0:Int)(h:ze):Option (Res×ze) :=
 Yr [(V.ptr (h).length 0)] (h++[(HB.box 3 [(V.int .i64 (if 0 < (if 1000 < x0 then 1000 else x0) then(if 1000 < x0 then 1000 else x0) else 0)),(V.sl 0 [] true),(V.int .i64 0)])])
theorem zqB(n x0 h):call (n+1) 71 [(V.int .i64 x0)] h=zuG n x0 h:=by kernel_rfl
noncomputable def zm5(n m e:Nat)(h:ze):Option (ze×Bool) :=
 (Yl h (V.ptr e 0) fun a =>
 (Yi (bop prog .eql 97 a (V.int .u16 0))
 (Yl h (V.ptr m 2) fun b =>
 (Ya b fun c =>
 (Yw c h (V.ptr m 2) fun d f =>
 some (((h).set d f),false))))
 (some (h,false))))
theorem zlz(n m e h):dcl n 90 [(V.ptr m 0),(V.ptr e 0)] h none=zm5 n m e h:=by kernel_rfl
noncomputable def zwj(n m:Nat)(a:Int)(h:ze):Option (Res×ze) :=
 (Yi (Qq prog h .eql 58 (V.ptr m 0) Yn)
 (Yr [Yn] h)
 (if (decide (a < 0)) then
 Yr [Yn] h
 else
 (Yl h (V.ptr m 1) fun b =>
 (bd (ZI h b) fun c =>
 (if (decide (a ≥ ((c.2).length:Int))) then
 Yr [Yn] h
 else
 (Yl h (V.ptr m 1) fun d =>
 (Yx 1 (V.int .i64 a) d fun e =>
 Yr [e] h)))))))
theorem ztj(n m a h):call (n+1) 89 [(V.ptr m 0),(V.int .i64 a)] h=zwj n m a h:=by kernel_rfl
noncomputable def zm6(n m:Nat)(k:Int)(h:ze):Option (Res×ze) :=
 (if (decide (k < 0)) then
 Yr [(V.int .i64 0),(V.int .u16 1)] h
 else
 (Yi (Qq prog h .eql 58 (V.ptr m 0) Yn)
 (if (decide (k > 0)) then
 Yr [(V.int .i64 0),(V.int .u16 11)] h
 else
 Yr [(V.int .i64 0),(V.int .u16 0)] h)
 (Yl (h++[(HB.box 1 [(V.int .u16 0)])]) (V.ptr m 1) fun s =>
 (bd (ZI (h++[(HB.box 1 [(V.int .u16 0)])]) s) fun c =>
 (Yl (h++[(HB.box 1 [(V.int .u16 0)])]) (V.ptr m 0) fun t =>
 (bd (bop prog .sub 3 t (V.int .i64 ((c.2).length:Int))) fun u =>
 (Yi (bop prog .gtr 3 (V.int .i64 k) u)
 (bd2 (Zl (h++[(HB.box 1 [(V.int .u16 0)])]) [(V.int .u16 11)] (V.ptr (h).length 0)) fun v w =>
 (bd2 (dcl n 90 [(V.ptr m 0),(V.ptr (h).length 0)] (((h++[(HB.box 1 [(V.int .u16 0)])])).set v w) none) fun e I =>
 (Yl e (V.ptr (h).length 0) fun x =>
 Yr [(V.int .i64 0),x] e)))
 (Yl (h++[(HB.box 1 [(V.int .u16 0)])]) (V.ptr m 1) fun b =>
 (bdS (nv (V.int .i64 k)) fun a =>
 (Yg (a < lim/\1=1) (if (zg7 b=true/\0 < a) then
 (bd2 (Zl ((h++[(HB.box 1 [(V.int .u16 0)])])++[(HB.row 2 1 (List.replicate a [(V.int .i64 0)]) true)]) [(V.row ((h++[(HB.box 1 [(V.int .u16 0)])])).length 1 0 ((List.replicate a [(V.int .i64 0)])).length)] (V.ptr m 1)) fun f g =>
 (bd2 (Zl ((((h++[(HB.box 1 [(V.int .u16 0)])])++[(HB.row 2 1 (List.replicate a [(V.int .i64 0)]) true)])).set f g) [(V.int .u16 0)] (V.ptr (h).length 0)) fun y z =>
 (bd2 (dcl n 90 [(V.ptr m 0),(V.ptr (h).length 0)] ((((((h++[(HB.box 1 [(V.int .u16 0)])])++[(HB.row 2 1 (List.replicate a [(V.int .i64 0)]) true)])).set f g)).set y z) none) fun i J =>
 (Yl i (V.ptr (h).length 0) fun A =>
 Yr [(V.int .i64 ((c.2).length:Int)),A] i))))
 else if (true=true/\zmL b=true) then(bd2 (Ws 2 1 (h++[(HB.box 1 [(V.int .u16 0)])]) (List.replicate a [(V.int .i64 0)]) b) fun B d =>
 (Yw B d (V.ptr m 1) fun j l =>
 (bd2 (Zl ((d).set j l) [(V.int .u16 0)] (V.ptr (h).length 0)) fun C D =>
 (bd2 (dcl n 90 [(V.ptr m 0),(V.ptr (h).length 0)] ((((d).set j l)).set C D) none) fun o K =>
 (Yl o (V.ptr (h).length 0) fun E =>
 Yr [(V.int .i64 ((c.2).length:Int)),E] o))))) else if (zg7 b=true) then(Yw b (h++[(HB.box 1 [(V.int .u16 0)])]) (V.ptr m 1) fun p q =>
 (bd2 (Zl (((h++[(HB.box 1 [(V.int .u16 0)])])).set p q) [(V.int .u16 0)] (V.ptr (h).length 0)) fun F G =>
 (bd2 (dcl n 90 [(V.ptr m 0),(V.ptr (h).length 0)] (((((h++[(HB.box 1 [(V.int .u16 0)])])).set p q)).set F G) none) fun r L =>
 (Yl r (V.ptr (h).length 0) fun H =>
 Yr [(V.int .i64 ((c.2).length:Int)),H] r)))) else none)))))))))))
theorem zlA(n m k h):call (n+1) 74 [(V.ptr m 0),(V.int .i64 k)] h=zm6 n m k h:=by kernel_rfl
noncomputable def zqC(n m:Nat)(a:Int)(h:ze):Option (Res×ze) :=
 (cl (call n 89 [(V.ptr m 0),(V.int .i64 a)] h) (fun e b =>
 (Zm e fun c =>
 (Yi (Qq prog b .eql 167 c Yn)
 (Yr [(V.int .i64 0),(V.int .u16 10)] b)
 (bd (ZD 0 c) fun f =>
 (Yl (b++[(HB.box 1 [(V.int .u16 0)])]) f fun g =>
 (bd2 (Zl (b++[(HB.box 1 [(V.int .u16 0)])]) [(V.int .u16 0)] (V.ptr (b).length 0)) fun i j =>
 (bd2 (dcl n 90 [(V.ptr m 0),(V.ptr (b).length 0)] (((b++[(HB.box 1 [(V.int .u16 0)])])).set i j) none) fun d l =>
 (Yl d (V.ptr (b).length 0) fun k =>
 Yr [g,k] d)))))))) Yp)
theorem zoI(n m a h):call (n+1) 51 [(V.ptr m 0),(V.int .i64 a)] h=zqC n m a h:=by kernel_rfl
noncomputable def zm7(n m:Nat)(a v:Int)(h:ze):Option (Res×ze) :=
 (cl (call n 89 [(V.ptr m 0),(V.int .i64 a)] h) (fun g b =>
 (Zm g fun c =>
 (Yi (Qq prog b .eql 167 c Yn)
 (Yr [(V.int .u16 10)] b)
 (bd (ZD 0 c) fun i =>
 (bd2 (Zl (b++[(HB.box 1 [(V.int .u16 0)])]) [(V.int .i64 v)] i) fun d e =>
 (bd2 (Zl (((b++[(HB.box 1 [(V.int .u16 0)])])).set d e) [(V.int .u16 0)] (V.ptr (b).length 0)) fun j k =>
 (bd2 (dcl n 90 [(V.ptr m 0),(V.ptr (b).length 0)] (((((b++[(HB.box 1 [(V.int .u16 0)])])).set d e)).set j k) none) fun f o =>
 (Yl f (V.ptr (b).length 0) fun l =>
 Yr [l] f)))))))) Yp)
theorem zlB(n m a v h):call (n+1) 52 [(V.ptr m 0),(V.int .i64 a),(V.int .i64 v)] h=zm7 n m a v h:=by kernel_rfl
noncomputable def zqD(n m:Nat)(a u v:Int)(h:ze):Option (Res×ze) :=
 (cl (call n 89 [(V.ptr m 0),(V.int .i64 a)] h) (fun i b =>
 (Zm i fun c =>
 (Yi (Qq prog b .eql 167 c Yn)
 (Yr [(V.bool false),(V.int .u16 10)] b)
 (bd (ZD 0 c) fun j =>
 (Yl (b++[(HB.box 1 [(V.int .u16 0)])]) j fun k =>
 (Yi (bop prog .neq 2 k (V.int .i64 u))
 (bd2 (Zl (b++[(HB.box 1 [(V.int .u16 0)])]) [(V.int .u16 0)] (V.ptr (b).length 0)) fun l o =>
 (bd2 (dcl n 90 [(V.ptr m 0),(V.ptr (b).length 0)] (((b++[(HB.box 1 [(V.int .u16 0)])])).set l o) none) fun d w =>
 (Yl d (V.ptr (b).length 0) fun p =>
 Yr [(V.bool false),p] d)))
 (bd (ZD 0 c) fun q =>
 (bd2 (Zl (b++[(HB.box 1 [(V.int .u16 0)])]) [(V.int .i64 v)] q) fun e f =>
 (bd2 (Zl (((b++[(HB.box 1 [(V.int .u16 0)])])).set e f) [(V.int .u16 0)] (V.ptr (b).length 0)) fun r s =>
 (bd2 (dcl n 90 [(V.ptr m 0),(V.ptr (b).length 0)] (((((b++[(HB.box 1 [(V.int .u16 0)])])).set e f)).set r s) none) fun g x =>
 (Yl g (V.ptr (b).length 0) fun t =>
 Yr [(V.bool true),t] g))))))))))) Yp)
theorem zoJ(n m a u v h):call (n+1) 147 [(V.ptr m 0),(V.int .i64 a),(V.int .i64 u),(V.int .i64 v)] h=zqD n m a u v h:=by kernel_rfl
noncomputable def zm8(n m:Nat)(h:ze):Option (Res×ze) :=
 (Yi (Qq prog h .eql 58 (V.ptr m 0) Yn)
 (Yr [(V.sl 1 [] false)] h)
 (Yl h (V.ptr m 1) fun b =>
 (bd (ZI h b) fun a =>
 (Yg ((a.1=1\/(a.2).isEmpty=true)/\(a.2).length < lim) (Yr [(V.sl 1 a.2 false)] h)))))
theorem zlC(n m h):call (n+1) 34 [(V.ptr m 0)] h=zm8 n m h:=by kernel_rfl
noncomputable def zuH(n m:Nat)(h:ze):Option (Res×ze) :=
 (cl (call n 34 [(V.ptr m 0)] h) (fun b a =>
 (Zm b fun c =>
 (bd (ZI a c) fun d =>
 Yr [(V.int .i64 ((d.2).length:Int))] a))) Yp)
theorem zqE(n m h):call (n+1) 146 [(V.ptr m 0)] h=zuH n m h:=by kernel_rfl
noncomputable def zqF(n m:Nat)(h:ze):Option (Res×ze) :=
 (cl (call n 146 [(V.ptr m 0)] h) (fun b a =>
 (Zm b fun c =>
 (bd (bop prog .sub 3 c (V.int .i64 3)) fun d =>
 (bd (WI [(some (V.int .i64 0)),(Wp a d)]) fun e=>bd (mm true e) fun f =>
 (bd (bop prog .quo 3 f (V.int .i64 5)) fun g =>
 Yr [g] a))))) Yp)
theorem zoK(n m h):call (n+1) 135 [(V.ptr m 0)] h=zqF n m h:=by kernel_rfl
noncomputable def zqG(n:Nat)(x0:Int)(h:ze):Option (Res×ze) :=
 (if (decide (x0 < 0)) then
 Yr [(V.int .i64 0)] h
 else
 (if (decide (x0 > 1000)) then
 Yr [(V.int .i64 0)] h
 else
 Yr [(V.int .i64 (IntKind.i64.wrap (3+(IntKind.i64.wrap (5 * x0)))))] h))
theorem zoL(n x0 h):call (n+1) 137 [(V.int .i64 x0)] h=zqG n x0 h:=by kernel_rfl
noncomputable def zvp(n:Nat)(x0:Int)(h:ze):Option (Res×ze) :=
 Yr [(V.bool (decide (x0 > 0)))] h
theorem zoM(n x0 h):call (n+1) 139 [(V.int .i64 x0)] h=zvp n x0 h:=by kernel_rfl
noncomputable def zqH(n:Nat)(x0 x1:Int)(h:ze):Option (Res×ze) :=
 Yr [(V.int .i64 (IntKind.i64.wrap ((IntKind.i64.wrap ((IntKind.i64.wrap ((IntKind.i64.wrap ((IntKind.i64.wrap x1)+2147483648)) * 256))+(IntKind.i64.wrap x0)))+1)))] h
theorem zoN(n x0 x1 h):call (n+1) 150 [(V.int .u8 x0),(V.int .i32 x1)] h=zqH n x0 x1 h:=by kernel_rfl
noncomputable def zuI(n:Nat)(x0_0 x0_1:Int):Option (Res×ze) :=
 (cl (call n 150 [(V.int .u8 x0_0),(V.int .i32 x0_1)] []) (fun a b =>
 (Zm a fun c =>
 Yr [c] b)) Yp)
theorem zqI(n x0_0 x0_1 h):call (n+1) 142 [(V.agg [(V.int .u8 x0_0),(V.int .i32 x0_1)])] h=gcw [(V.agg [(V.int .u8 x0_0),(V.int .i32 x0_1)])] (zuI n x0_0 x0_1) h:=by kernel_rfl
noncomputable def zi7(n:Nat)(w:Int)(h:ze):Option (Res×ze) :=
 (if (decide (w < 1)) then
 Yr [(V.agg [(V.int .u8 0),(V.int .i32 0)]),(V.bool false)] h
 else
 (if (decide (w > 1099511627776)) then
 Yr [(V.agg [(V.int .u8 0),(V.int .i32 0)]),(V.bool false)] h
 else
 (cl (call n 149 [(V.int .u8 (IntKind.u8.wrap (Int.tmod (IntKind.i64.wrap (w - 1)) 256))),(V.int .i32 (IntKind.i32.wrap (IntKind.i64.wrap ((IntKind.i64.wrap (Int.tdiv (IntKind.i64.wrap (w - 1)) 256)) - 2147483648))))] h) (fun b c =>
 (Zm b fun a =>
 (Yc a 2 (Yr [(V.agg (((setR [(V.int .u8 0),(V.int .i32 0)] 0 (V.cells a))).drop 0 |>.take 2)),(V.bool true)] c)))) Yp)))
theorem zi8(n w h):call (n+1) 148 [(V.int .i64 w),(V.fn 149 [])] h=zi7 n w h:=by kernel_rfl
noncomputable def zuJ(n:Nat)(x0 x1:Int)(h:ze):Option (Res×ze) :=
 Yr [(V.agg [(V.int .u8 x0),(V.int .i32 x1)])] h
theorem zqJ(n x0 x1 h):call (n+1) 149 [(V.int .u8 x0),(V.int .i32 x1)] h=zuJ n x0 x1 h:=by kernel_rfl
noncomputable def zqK(n:Nat)(x0:Int)(h:ze):Option (Res×ze) :=
 (cl (call n 148 [(V.int .i64 x0),(V.fn 149 [])] h) (fun a c =>
 (bd (a)[0]? fun b =>
 (bd (a)[1]? fun d =>
 (Yc b 2 (Yr [(V.agg (((setR [(V.int .u8 0),(V.int .i32 0)] 0 (V.cells b))).drop 0 |>.take 2)),d] c))))) Yp)
theorem zoO(n x0 h):call (n+1) 141 [(V.int .i64 x0)] h=zqK n x0 h:=by kernel_rfl
noncomputable def zwk(n:Nat)(x0_0 x0_1:Int):Option (Res×ze) :=
 Yr [(V.int .i64 (IntKind.i64.wrap ((IntKind.i64.wrap ((IntKind.i64.wrap (256 * (IntKind.i64.wrap ((IntKind.i64.wrap x0_1)+2147483648))))+(IntKind.i64.wrap x0_0)))+1)))] ([])
theorem ztk(n x0_0 x0_1 h):call (n+1) 37 [(V.agg [(V.int .u8 x0_0),(V.int .i32 x0_1)])] h=gcw [(V.agg [(V.int .u8 x0_0),(V.int .i32 x0_1)])] (zwk n x0_0 x0_1) h:=by kernel_rfl
end Go.Proofs.Tryz
namespace Go.Proofs.Tryz
open Go.L
set_option maxRecDepth 100000
noncomputable def zqL(n:Nat)(k m:Int)(p:Bool)(h:ze):Option (Res×ze) :=
 (zbL ((h++[(HB.map [])]))[(h).length]? fun a=>(bd (kds prog 12 5) fun o=>bd (Qp o (V.int .u8 1) a 0) fun b=>if (((V.int .u8 1)).one=!false/\((V.int .u8 1)).cells.length=o.length) then
 (zbL ((((h++[(HB.map [])])).set (h).length (HB.map (upd a (V.int .u8 1) (V.fn 56 []) b))))[(h).length]? fun c=>(bd (kds prog 12 5) fun q=>bd (Qp q (V.int .u8 2) c 0) fun d=>if (((V.int .u8 2)).one=!false/\((V.int .u8 2)).cells.length=q.length) then
 (zbL ((((((h++[(HB.map [])])).set (h).length (HB.map (upd a (V.int .u8 1) (V.fn 56 []) b)))).set (h).length (HB.map (upd c (V.int .u8 2) (V.fn 58 []) d))))[(h).length]? fun e=>(bd (kds prog 12 5) fun r=>bd (Qp r (V.int .u8 3) e 0) fun f=>if (((V.int .u8 3)).one=!false/\((V.int .u8 3)).cells.length=r.length) then
 (bdS (Yy (((((((h++[(HB.map [])])).set (h).length (HB.map (upd a (V.int .u8 1) (V.fn 56 []) b)))).set (h).length (HB.map (upd c (V.int .u8 2) (V.fn 58 []) d)))).set (h).length (HB.map (upd e (V.int .u8 3) (V.fn 60 []) f))) (V.map (h).length)) fun s =>
 (bd (kds prog 12 5) fun t=>bdS (Qp t (V.int .u8 k) s 0) fun C=>bd (J1 s (V.val .nilFunc) C) fun l=>if (((V.int .u8 k)).one=!false/\((V.int .u8 k)).cells.length=t.length/\false=false) then
 (Yi (za3 prog (((((((h++[(HB.map [])])).set (h).length (HB.map (upd a (V.int .u8 1) (V.fn 56 []) b)))).set (h).length (HB.map (upd c (V.int .u8 2) (V.fn 58 []) d)))).set (h).length (HB.map (upd e (V.int .u8 3) (V.fn 60 []) f))) .eql 106 true l (V.val .nilFunc))
 (Yr [Yn] (((((((h++[(HB.map [])])).set (h).length (HB.map (upd a (V.int .u8 1) (V.fn 56 []) b)))).set (h).length (HB.map (upd c (V.int .u8 2) (V.fn 58 []) d)))).set (h).length (HB.map (upd e (V.int .u8 3) (V.fn 60 []) f))))
 (ydK l (fun D=>bd2 (rnd n D [(V.int .i64 m)] (((((((h++[(HB.map [])])).set (h).length (HB.map (upd a (V.int .u8 1) (V.fn 56 []) b)))).set (h).length (HB.map (upd c (V.int .u8 2) (V.fn 58 []) d)))).set (h).length (HB.map (upd e (V.int .u8 3) (V.fn 60 []) f)))) fun E F =>
 (cl (call n 62 [] F) (fun G u =>
 (Zm G fun H =>
 (bd (Wz prog 125 [(0,(V.bool E)),(1,H),(2,(V.bool p))]) fun v =>
 (if (v).length=3 then
 Yr [(V.ptr (u).length 0)] (u++[(HB.box 3 v)]) else none)))) Yp))
 (fnK l fun g w=>if (okV prog 108 g=true) then(if QI g then
 (cl (call n g ([(V.int .i64 m)]++w) (((((((h++[(HB.map [])])).set (h).length (HB.map (upd a (V.int .u8 1) (V.fn 56 []) b)))).set (h).length (HB.map (upd c (V.int .u8 2) (V.fn 58 []) d)))).set (h).length (HB.map (upd e (V.int .u8 3) (V.fn 60 []) f)))) (fun j i =>
 (Zm j fun I =>
 (cl (call n 62 [] i) (fun J x =>
 (Zm J fun K =>
 (bd (Wz prog 125 [(0,I),(1,K),(2,(V.bool p))]) fun y =>
 (if (y).length=3 then
 Yr [(V.ptr (x).length 0)] (x++[(HB.box 3 y)]) else none)))) Yp))) Yp)
 else if Yd g then
 (cl (call n g ([(V.int .i64 m)]++w) (((((((h++[(HB.map [])])).set (h).length (HB.map (upd a (V.int .u8 1) (V.fn 56 []) b)))).set (h).length (HB.map (upd c (V.int .u8 2) (V.fn 58 []) d)))).set (h).length (HB.map (upd e (V.int .u8 3) (V.fn 60 []) f)))) (fun j i=>if V.simple.simpleL j then
 (Zm j fun L =>
 (cl (call n 62 [] i) (fun M z =>
 (Zm M fun N =>
 (bd (Wz prog 125 [(0,L),(1,N),(2,(V.bool p))]) fun A =>
 (if (A).length=3 then
 Yr [(V.ptr (z).length 0)] (z++[(HB.box 3 A)]) else none)))) Yp)) else none) (fun B i=>if B.simple then some (Res.pan B,i) else none))
 else none) else none))) else none)) else none)) else none)) else none))
theorem zoP(n k m p h):call (n+1) 15 [(V.int .u8 k),(V.int .i64 m),(V.bool p)] h=zqL n k m p h:=by kernel_rfl
noncomputable def zm9(n:Nat)(sz:Int)(cv:V)(st:Int)(h:ze):Option (Res×ze) :=
 (bd (ZI h cv) fun a =>
 Yr [(V.int .i64 (IntKind.i64.wrap (Int.tdiv (if 0 < (IntKind.i64.wrap (((a.2).length:Int) - 3)) then(IntKind.i64.wrap (((a.2).length:Int) - 3)) else 0) 5)))] h)
theorem zlD(n sz cv st h):call (n+1) 124 [(V.agg [(V.int .i64 sz),cv,(V.int .i64 st)])] h=zm9 n sz cv st h:=by kernel_rfl
noncomputable def zna(n:Nat)(k:Int)(h:ze):Option (Res×ze) :=
 (if (decide (k < 0)) then
 Yr [(V.int .i64 0)] h
 else
 (if (decide (k > 1000)) then
 Yr [(V.int .i64 0)] h
 else
 Yr [(V.int .i64 (IntKind.i64.wrap (3+(IntKind.i64.wrap (5 * k)))))] h))
theorem zlE(n k h):call (n+1) 126 [(V.int .i64 k)] h=zna n k h:=by kernel_rfl
noncomputable def ju(n:Nat)(a:Int)(st1:List V)(hh2:ze)(next3:List V->ze->Option (Res×ze)):Option (Res×ze) :=
 (cl (call n 124 [(V.agg (((lcs (gv st1 0))).drop 0 |>.take 3))] hh2) (fun d b =>
 (Zm d fun e =>
 (Yi (bop prog .lss 3 (gv st1 3) e)
 (cl (call n 126 [(gv st1 3)] b) (fun f c =>
 (Zm f fun g =>
 (Yi (bop prog .eql 3 g (V.int .i64 a))
 (Yr [(gv st1 3),(V.bool true)] c)
 (Ya (gv st1 3) fun h =>
 (next3 [(V.agg (lcs (gv st1 0))),(gv st1 1),(gv st1 2),h] c))))) Yp)
 (Yr [(V.int .i64 0),(V.bool false)] b)))) Yp)
noncomputable def zvq(n:Nat)(sz:Int)(cv:V)(st a:Int)(h:ze):Option (Res×ze) :=
 (zV n (ju n a) [(V.agg [(V.int .i64 sz),cv,(V.int .i64 st)]),(V.int .i64 0),(V.bool false),(V.int .i64 0)] h)
theorem zoQ(n sz cv st a h):call (n+1) 128 [(V.agg [(V.int .i64 sz),cv,(V.int .i64 st)]),(V.int .i64 a)] h=zvq n sz cv st a h:=by kernel_rfl
noncomputable def zwl(n:Nat)(sz:Int)(cv:V)(st a:Int)(h:ze):Option (Res×ze) :=
 (cl (call n 102 [(V.agg [(V.int .i64 sz),cv,(V.int .i64 st)]),(V.int .i64 a)] h) (fun c b =>
 (Zm c fun d =>
 (Yi (uop .not d)
 (Yr [(V.int .i64 0)] b)
 (Yx 1 (V.int .i64 a) cv fun e =>
 (Yl b e fun f =>
 Yr [f] b))))) Yp)
theorem ztl(n sz cv st a h):call (n+1) 86 [(V.agg [(V.int .i64 sz),cv,(V.int .i64 st)]),(V.int .i64 a)] h=zwl n sz cv st a h:=by kernel_rfl
noncomputable def zqM(n:Nat)(sz:Int)(cv:V)(st a:Int)(h:ze):Option (Res×ze) :=
 (cl (call n 128 [(V.agg [(V.int .i64 sz),cv,(V.int .i64 st)]),(V.int .i64 a)] h) (fun c d =>
 (bd (c)[0]? fun w =>
 (bd (c)[1]? fun e =>
 (Yi (uop .not e)
 (Yr [(V.agg Yq5),(V.bool false)] d)
 (clH (call n 86 [(V.agg [(V.int .i64 sz),cv,(V.int .i64 st)]),(V.int .i64 a)] d) fun f g =>
 (Zm f fun i =>
 (clH (call n 86 [(V.agg [(V.int .i64 sz),cv,(V.int .i64 st)]),(V.int .i64 (IntKind.i64.wrap (a+1)))] g) fun j k =>
 (Zm j fun l =>
 (clH (call n 86 [(V.agg [(V.int .i64 sz),cv,(V.int .i64 st)]),(V.int .i64 (IntKind.i64.wrap (a+2)))] k) fun m o =>
 (Zm m fun p =>
 (clH (call n 86 [(V.agg [(V.int .i64 sz),cv,(V.int .i64 st)]),(V.int .i64 (IntKind.i64.wrap (a+3)))] o) fun q r =>
 (Zm q fun s =>
 (clH (call n 86 [(V.agg [(V.int .i64 sz),cv,(V.int .i64 st)]),(V.int .i64 (IntKind.i64.wrap (a+4)))] r) fun t u =>
 (Zm t fun v =>
 (bd (Wz prog 163 [(0,i),(1,l),(2,p),(3,s),(4,v)]) fun b =>
 (if (b).length=5 then
 (Yg ((b).length<=5) (Yr [(V.agg (((setR Yq5 0 b)).drop 0 |>.take 5)),(V.bool true)] u)) else none)))))))))))))))) Yp)
theorem zoR(n sz cv st a h):call (n+1) 87 [(V.agg [(V.int .i64 sz),cv,(V.int .i64 st)]),(V.int .i64 a)] h=zqM n sz cv st a h:=by kernel_rfl
noncomputable def zuK(n:Nat)(c v:Int):Option (Res×ze) :=
 Yr [(V.int .i64 (IntKind.i64.wrap ((IntKind.i64.wrap ((IntKind.i64.wrap (256 * (IntKind.i64.wrap ((IntKind.i64.wrap v)+2147483648))))+(IntKind.i64.wrap c)))+1)))] ([])
theorem zqN(n c v h):call (n+1) 46 [(V.agg [(V.int .u8 c),(V.int .i32 v)])] h=gcw [(V.agg [(V.int .u8 c),(V.int .i32 v)])] (zuK n c v) h:=by kernel_rfl
noncomputable def zqO(n:Nat)(w:Int):Option (Res×ze) :=
 (if (decide (w < 1)) then
 Yr [(V.agg [(V.int .u8 0),(V.int .i32 0)]),(V.bool false)] ([])
 else
 (if (decide (w > 1099511627776)) then
 Yr [(V.agg [(V.int .u8 0),(V.int .i32 0)]),(V.bool false)] ([])
 else
 Yr [(V.agg [(V.int .u8 (IntKind.u8.wrap (Int.tmod (IntKind.i64.wrap (w - 1)) 256))),(V.int .i32 (IntKind.i32.wrap (IntKind.i64.wrap ((IntKind.i64.wrap (Int.tdiv (IntKind.i64.wrap (w - 1)) 256)) - 2147483648))))]),(V.bool true)] ([])))
theorem zoS(n w h):call (n+1) 44 [(V.int .i64 w)] h=gcw [(V.int .i64 w)] (zqO n w) h:=by kernel_rfl
noncomputable def YD(n:Nat)(st5:List V)(hh6:ze)(next7:List V->ze->Option (Res×ze)):Option (Res×ze) :=
 (Yi (bop prog .neq 2 (gv st5 4) (V.int .i64 0))
 (Yi (bop prog .lss 2 (gv st5 4) (V.int .i64 0))
 (Yr [(V.sl 1 [] false),(V.bool false)] hh6)
 (Yi (bop prog .gtr 2 (gv st5 4) (V.int .i64 1000))
 (Yr [(V.sl 1 [] false),(V.bool false)] hh6)
 (cl (call n 87 [(V.agg (((lcs (gv st5 0))).drop 0 |>.take 3)),(gv st5 4)] hh6) (fun c b =>
 (bd (c)[0]? fun d =>
 (bd (c)[1]? fun g =>
 (Yc d 5 (Yi (uop .not g)
 (Yr [(V.sl 1 [] false),(V.bool false)] b)
 (bd (WI [(some (V.sl 1 (lsl (gv st5 3)) false)),(Wp b (gv st5 4))]) fun h=>cl (call n 45 (h++[]) b) (fun e a=>if V.simple.simpleL e then
 (Zm e fun i =>
 (Yi (bop prog .geq 3 i (V.int .i64 0))
 (Yr [(V.sl 1 [] false),(V.bool false)] a)
 (bd (K6 prog 55 1 [(0,(gv st5 4))]) fun j =>
 (bd (app 3 1 (S.own 3 1 (lsl (gv st5 3))) j.2) fun k =>
 (bd ((setR Yq5 0 (V.cells d)))[3]? fun l =>
 (next7 [(V.agg (lcs (gv st5 0))),(V.sl 1 (lsl (gv st5 1)) false),(gv st5 2),(V.sl 1 k false),l] a)))))) else none) (fun f a=>if f.simple then some (Res.pan f,a) else none))))))) Yp)))
 (Yr [(V.sl 1 (lsl (gv st5 3)) false),(V.bool true)] hh6))
noncomputable def zi9(n:Nat)(sz:Int)(cv:V)(st:Int)(h:ze):Option (Res×ze) :=
 (cl (call n 86 [(V.agg [(V.int .i64 sz),cv,(V.int .i64 st)]),(V.int .i64 1)] h) (fun a b =>
 (Zm a fun c =>
 (zV n (YD n ) [(V.agg [(V.int .i64 sz),cv,(V.int .i64 st)]),(V.sl 1 [] false),(V.bool false),(V.sl 1 [] false),c] b))) Yp)
theorem zja(n sz cv st h):call (n+1) 47 [(V.agg [(V.int .i64 sz),cv,(V.int .i64 st)])] h=zi9 n sz cv st h:=by kernel_rfl
noncomputable def KC(n:Nat)(st1:List V)(hh2:ze)(next3:List V->ze->Option (Res×ze)):Option (Res×ze) :=
 (cl (call n 124 [(V.agg (((lcs (gv st1 0))).drop 0 |>.take 3))] hh2) (fun b a =>
 (Zm b fun c =>
 (Yi (bop prog .lss 3 (gv st1 3) c)
 (cl (call n 126 [(gv st1 3)] a) (fun d e =>
 (Zm d fun f =>
 (bd (K6 prog 55 1 [(0,f)]) fun g =>
 (bd (app 3 1 (S.own 3 1 (lsl (gv st1 2))) g.2) fun h =>
 (Ya (gv st1 3) fun i =>
 (next3 [(V.agg (lcs (gv st1 0))),(V.sl 1 (lsl (gv st1 1)) false),(V.sl 1 h false),i] e)))))) Yp)
 (Yr [(V.sl 1 (lsl (gv st1 2)) false)] a)))) Yp)
noncomputable def ztm(n:Nat)(sz:Int)(cv:V)(st:Int)(h:ze):Option (Res×ze) :=
 (zV n (KC n ) [(V.agg [(V.int .i64 sz),cv,(V.int .i64 st)]),(V.sl 1 [] false),(V.sl 1 [] false),(V.int .i64 0)] h)
theorem zlF(n sz cv st h):call (n+1) 88 [(V.agg [(V.int .i64 sz),cv,(V.int .i64 st)])] h=ztm n sz cv st h:=by kernel_rfl
noncomputable def W0(n:Nat)(v3 v10:V)(st48:List V)(hh49:ze)(next50:List V->ze->Option (Res×ze)):Option (Res×ze) :=
 (bd (ZI hh49 v10) fun g =>
 (Yi (bop prog .lss 3 (gv st48 2) (V.int .i64 ((g.2).length:Int)))
 (Yx 1 (gv st48 2) v10 fun h =>
 (Yl hh49 (jd v10 h) fun i =>
 (clH (call n 87 [(V.agg (((lcs (gv st48 0))).drop 0 |>.take 3)),i] hh49) fun d a =>
 (bd (d)[0]? fun c =>
 (bd (d)[1]? fun t =>
 (Yc c 5 (bd ((setR Yq5 0 (V.cells c)))[1]? fun j =>
 (Yi (bop prog .eql 2 j (V.int .i64 1))
 (bd ((setR Yq5 0 (V.cells c)))[0]? fun k =>
 (Yi (bop prog .neq 2 k (V.int .i64 (-1)))
 (Yx 1 (gv st48 2) v10 fun l =>
 (Yl a l fun m =>
 (bd (WI [(Wp a v3),(Wp a m)]) fun o=>cl (call n 45 (o++[]) a) (fun e b=>if V.simple.simpleL e then
 (Zm e fun p =>
 (Yi (bop prog .lss 3 p (V.int .i64 0))
 (Yr [(V.int .i64 31)] b)
 (Ya (gv st48 2) fun q =>
 (next50 [(V.agg (lcs (gv st48 0))),(gv st48 1),q] b)))) else none) (fun f b=>if f.simple then some (Res.pan f,b) else none))))
 (Ya (gv st48 2) fun r =>
 (next50 [(V.agg (lcs (gv st48 0))),(gv st48 1),r] a))))
 (Ya (gv st48 2) fun s =>
 (next50 [(V.agg (lcs (gv st48 0))),(gv st48 1),s] a))))))))))
 (Yr [(V.int .i64 0)] hh49)))
noncomputable def W1(n:Nat)(v3 v10:V)(st12:List V)(hh13:ze)(next14:List V->ze->Option (Res×ze)):Option (Res×ze) :=
 (bd (ZI hh13 v10) fun g =>
 (Yi (bop prog .lss 3 (gv st12 2) (V.int .i64 ((g.2).length:Int)))
 (Yx 1 (gv st12 2) v10 fun h =>
 (Yl hh13 (jd v10 h) fun i =>
 (clH (call n 87 [(V.agg (((lcs (gv st12 0))).drop 0 |>.take 3)),i] hh13) fun c a =>
 (bd (c)[0]? fun d =>
 (bd (c)[1]? fun r =>
 (Yc d 5 (bd ((setR Yq5 0 (V.cells d)))[1]? fun j =>
 (Yi (bop prog .eql 2 j (V.int .i64 0))
 (Yx 1 (gv st12 2) v10 fun k =>
 (Yl a k fun l =>
 (bd (WI [(Wp a v3),(Wp a l)]) fun m=>cl (call n 45 (m++[]) a) (fun e b=>if V.simple.simpleL e then
 (Zm e fun o =>
 (Yi (bop prog .geq 3 o (V.int .i64 0))
 (Yr [(V.int .i64 33)] b)
 (Ya (gv st12 2) fun p =>
 (next14 [(V.agg (lcs (gv st12 0))),(gv st12 1),p] b)))) else none) (fun f b=>if f.simple then some (Res.pan f,b) else none))))
 (Ya (gv st12 2) fun q =>
 (next14 [(V.agg (lcs (gv st12 0))),(gv st12 1),q] a))))))))))
 (zV n (W0 n v3 v10) [(V.agg (lcs (gv st12 0))),(gv st12 1),(V.int .i64 0)] hh13)))
noncomputable def zjb(n:Nat)(sz:Int)(cv:V)(st:Int)(h:ze):Option (Res×ze) :=
 (cl (call n 47 [(V.agg [(V.int .i64 sz),cv,(V.int .i64 st)])] h) (fun a b =>
 (bd (a)[0]? fun c =>
 (bd (a)[1]? fun d =>
 (Yi (uop .not d)
 (Yr [(V.int .i64 30)] b)
 (cl (call n 88 [(V.agg [(V.int .i64 sz),cv,(V.int .i64 st)])] b) (fun e f =>
 (Zm e fun g =>
 (zV n (W1 n c g) [(V.agg [(V.int .i64 sz),cv,(V.int .i64 st)]),(V.int .i64 0),(V.int .i64 0)] f))) Yp))))) Yp)
theorem zjc(n sz cv st h):call (n+1) 48 [(V.agg [(V.int .i64 sz),cv,(V.int .i64 st)])] h=zjb n sz cv st h:=by kernel_rfl
noncomputable def Yj(n:Nat)(v8 v66 v70 v81 v107 v117:V)(st119:List V)(hh120:ze)(next121:List V->ze->Option (Res×ze)):Option (Res×ze) :=
 (bd (ZI hh120 v81) fun i =>
 (Yi (bop prog .lss 3 (gv st119 4) (V.int .i64 ((i.2).length:Int)))
 (Yx 3 (gv st119 4) v81 fun j =>
 (bd (ZD 0 j) fun k =>
 (Yl hh120 k fun b =>
 (bd (WI [(some (V.sl 1 (lsl (gv st119 1)) false)),(Wp hh120 b)]) fun l=>clS (call n 45 (l++[]) []) fun d=>if V.simple.simpleL d then
 (Zm d fun m =>
 (Yi (bop prog .lss 3 m (V.int .i64 0))
 (Yr [(V.bool false)] hh120)
 (bd (bop prog .add 3 b (V.int .i64 4)) fun o =>
 (bd (ZI hh120 v117) fun p =>
 (Yi (bop prog .geq 3 o (V.int .i64 ((p.2).length:Int)))
 (Yr [(V.bool false)] hh120)
 (Yx 1 b v117 fun q =>
 (Yl hh120 (jd v117 q) fun r =>
 (Yi (bop prog .neq 2 r (V.int .i64 0))
 (Yr [(V.bool false)] hh120)
 (Ya b fun s =>
 (Yx 1 s v117 fun t =>
 (Yl hh120 (jd v117 t) fun u =>
 (Yi (bop prog .neq 2 u (V.int .i64 1))
 (Yr [(V.bool false)] hh120)
 (bd (bop prog .add 3 b (V.int .i64 2)) fun v =>
 (Yx 1 v v117 fun w =>
 (Yl hh120 (jd v117 w) fun x =>
 (Yi (bop prog .neq 2 x (V.int .i64 51))
 (Yr [(V.bool false)] hh120)
 (bd (bop prog .add 3 b (V.int .i64 4)) fun y =>
 (Yx 1 y v117 fun z =>
 (Yl hh120 (jd v117 z) fun A =>
 (Yx 2 (gv st119 4) v107 fun B =>
 (bd3 (Zv hh120 (jd v107 B)) fun C D e=>if (e+2<=D/\0 < 2) then
 (clS (call n 46 [(V.agg ((C).drop e |>.take 2))] []) fun E =>
 (Zm E fun F =>
 (Yi (bop prog .neq 2 A F)
 (Yr [(V.bool false)] hh120)
 (Ya (gv st119 4) fun G =>
 (next121 [(gv st119 0),(V.sl 1 (lsl (gv st119 1)) false),(V.agg (lcs (gv st119 2))),(V.agg (lcs (gv st119 3))),G] hh120))))) else none))))))))))))))))))))) else none))))
 (cl (call n 32 [v117] hh120) (fun f H =>
 (bd (f)[0]? fun ah =>
 (bd (f)[1]? fun c =>
 (Yc c 3 (cl (call n 47 [(V.agg (((setR Yq3 0 (V.cells c))).drop 0 |>.take 3))] H) (fun g I =>
 (bd (g)[0]? fun J =>
 (bd (g)[1]? fun K =>
 (cl (call n 35 [] I) (fun L a =>
 (Zm L fun M =>
 (bv M fun N=>if N then
 (bv K fun O=>if O then
 (bd (ZI a J) fun P =>
 (bd (ZI a v8) fun Q =>
 (if (decide (((P.2).length:Int) ≥ ((Q.2).length:Int))) then
 (bd (Jz 1 2 v117) fun R =>
 (Yl a R fun S =>
 (Yi (bop prog .eql 2 S (V.int .i64 51))
 (cl (call n 20 [v66] a) (fun T U =>
 (Zm T fun W =>
 (cl (call n 20 [v70] U) (fun X Y =>
 (Zm X fun Z =>
 (cl (call n 19 [W,Z] Y) (fun aa h =>
 (Zm aa fun ab =>
 (bv ab fun ac=>if ac then
 (cl (call n 48 [(V.agg (((setR Yq3 0 (V.cells c))).drop 0 |>.take 3))] h) (fun ad ae =>
 (Zm ad fun af =>
 (bd (bop prog .eql 3 af (V.int .i64 0)) fun ag =>
 Yr [ag] ae))) Yp)
 else
 Yr [(V.bool false)] h))) Yp))) Yp))) Yp)
 (Yr [(V.bool false)] a))))
 else
 Yr [(V.bool false)] a)))
 else
 Yr [(V.bool false)] a)
 else
 Yr [(V.bool false)] a))) Yp)))) Yp))))) Yp)))
noncomputable def Kg(n:Nat)(v8 v61 v66 v70 v81:V)(st83:List V)(hh84:ze)(next85:List V->ze->Option (Res×ze)):Option (Res×ze) :=
 (bd (ZI hh84 v81) fun e =>
 (Yi (bop prog .lss 3 (gv st83 4) (V.int .i64 ((e.2).length:Int)))
 (Yx 3 (gv st83 4) v81 fun f =>
 (bd (ZD 1 f) fun g =>
 (Yl hh84 g fun h =>
 (cl (call n 44 [h] hh84) (fun b i =>
 (bd (b)[0]? fun c =>
 (bd (b)[1]? fun v =>
 (Yc c 2 (bd (K6 prog 23 1 [(0,(V.agg (((setR [(V.int .u8 0),(V.int .i32 0)] 0 (V.cells c))).drop 0 |>.take 2)))]) fun j =>
 (bd (app 33 2 (S.own 33 2 (lsl (gv st83 3))) j.2) fun k =>
 (Ya (gv st83 4) fun l =>
 (next85 [(V.sl 1 (lsl (gv st83 0)) false),(V.agg (lcs (gv st83 1))),(V.agg (lcs (gv st83 2))),(V.sl 2 k false),l] i)))))))) Yp))))
 (cl (call n 17 [v70,(V.sl 2 (lsl (gv st83 3)) false)] hh84) (fun m a =>
 (Zm m fun d =>
 (bd ((lcs (gv st83 2)))[1]? fun o =>
 (Yi (bop prog .neq 3 o (V.int .i64 40))
 (Yr [(V.bool false)] a)
 (bd (ZI a v81) fun p =>
 (if (((p.2).length:Int) != (((lsl (gv st83 0))).length:Int)) then
 Yr [(V.bool false)] a
 else
 (bd (ZI a d) fun q =>
 (bd (ZI a v81) fun r =>
 (if (((q.2).length:Int) != ((r.2).length:Int)) then
 Yr [(V.bool false)] a
 else
 (cl (call n 34 [v61] a) (fun s t =>
 (Zm s fun u =>
 (zV n (Yj n v8 v66 v70 v81 d u) [(V.bool false),(V.sl 1 (lsl (gv st83 0)) false),(V.agg (lcs (gv st83 1))),(V.agg (lcs (gv st83 2))),(V.int .i64 0)] t))) Yp)))))))))) Yp)))
noncomputable def KD(n:Nat)(x2 x3:Int)(x4:List (List V))(x4b:Bool)(v7 v8:V)(st10:List V)(hh11:ze)(next12:List V->ze->Option (Res×ze)):Option (Res×ze) :=
 (bd (ZI hh11 v7) fun k =>
 (Yi (bop prog .lss 3 (gv st10 1) (V.int .i64 ((k.2).length:Int)))
 (bd (bop prog .sub 3 (gv st10 1) (V.int .i64 3)) fun l =>
 (bd (bop prog .quo 3 l (V.int .i64 5)) fun b =>
 (Yi (bop prog .lss 3 b (V.int .i64 ((x4).length:Int)))
 (Yx 1 b (V.sl 1 x4 x4b) fun m =>
 (Yl hh11 m fun o =>
 (bd (bop prog .rem 5 o (V.int .u8 3)) fun p =>
 (Yi (bop prog .gtr 5 p (V.int .u8 0))
 (Yx 1 b (V.sl 1 x4 x4b) fun q =>
 (Yl hh11 q fun r =>
 (bd (bop prog .rem 5 r (V.int .u8 4)) fun s =>
 (bd (bop prog .add 5 (V.int .u8 1) s) fun t =>
 (Yx 1 b (V.sl 1 x4 x4b) fun u =>
 (Yl hh11 u fun v =>
 (bd (cvt prog 5 21 v) fun w =>
 (bd (Wz prog 33 [(0,t),(1,w)]) fun x =>
 (cl (call n 37 [(V.agg x)] hh11) (fun y c =>
 (Zm y fun z =>
 (Yx 1 (gv st10 1) v7 fun A =>
 (Yw z c A fun B C =>
 (bd (K6 prog 55 1 [(0,(gv st10 1))]) fun D =>
 (bd (app 3 1 (S.own 3 1 (lsl (gv st10 0))) D.2) fun E =>
 (bd (bop prog .add 3 (gv st10 1) (V.int .i64 5)) fun F =>
 (next12 [(V.sl 1 E false),F] ((c).set B C))))))))) (fun O c=>none))))))))))
 (bd (bop prog .add 3 (gv st10 1) (V.int .i64 5)) fun G =>
 (next12 [(V.sl 1 (lsl (gv st10 0)) false),G] hh11))))))
 (bd (bop prog .add 3 (gv st10 1) (V.int .i64 5)) fun H =>
 (next12 [(V.sl 1 (lsl (gv st10 0)) false),H] hh11)))))
 (cl (call n 32 [v7] hh11) (fun f I =>
 (bd (f)[0]? fun d =>
 (bd (f)[1]? fun g =>
 (Yc g 3 (cl (call n 15 [(V.int .u8 (IntKind.u8.wrap (1+(Int.tmod x2 3)))),(V.int .i64 (IntKind.i64.wrap (1+(IntKind.i64.wrap (Int.tmod x3 9))))),(V.bool false)] I) (fun J K =>
 (Zm J fun e =>
 (cl (call n 15 [(V.int .u8 (IntKind.u8.wrap (1+(Int.tmod x2 3)))),(V.int .i64 (IntKind.i64.wrap (1+(IntKind.i64.wrap (Int.tmod x3 9))))),(V.bool true)] K) (fun L a =>
 (Zm L fun h =>
 (Yi (Qq prog a .eql 58 d Yn)
 (Yr [(V.bool false)] a)
 (Yi (Qq prog a .eql 25 e Yn)
 (Yr [(V.bool false)] a)
 (Yi (Qq prog a .eql 25 h Yn)
 (Yr [(V.bool false)] a)
 (cl (call n 33 [d,e,(V.int .i64 1),(V.int .i64 400)] a) (fun i M =>
 (bd (i)[0]? fun j =>
 (bd (i)[1]? fun N =>
 (Yc j 13 (zV n (Kg n v8 d e h N) [(V.sl 1 (lsl (gv st10 0)) false),(V.agg (setR Yq3 0 (V.cells g))),(V.agg (setR zbd 0 (V.cells j))),(V.sl 2 [] false),(V.int .i64 0)] M))))) Yp)))))) Yp))) Yp))))) Yp)))
noncomputable def znb(n:Nat)(x0:List (List V))(x0b:Bool)(x1 x2 x3:Int)(x4:List (List V))(x4b:Bool):Option (Res×ze) :=
 (if (decide (((x4).length:Int) > 60)) then
 (cl (call n 35 [] []) (fun b c =>
 (Zm b fun d =>
 Yr [d] c)) Yp)
 else
 (cl (call n 31 [(V.sl 1 x0 x0b),(V.int .i64 (IntKind.i64.wrap (Int.tmod x1 10)))] []) (fun a e =>
 (bd (a)[0]? fun f =>
 (bd (a)[1]? fun g =>
 (zV n (KD n x2 x3 x4 x4b f g) [(V.sl 1 [] false),(V.int .i64 3)] e)))) Yp))
theorem zqP(n:Nat)(x0:List (List V))(x0b:Bool)(x1:Int)(x2:Int)(x3:Int)(x4:List (List V))(x4b:Bool)(h:ze):call (n+1) 10 [(V.sl 1 x0 x0b),(V.int .u8 x1),(V.int .u8 x2),(V.int .u8 x3),(V.sl 1 x4 x4b)] h=gcw [(V.sl 1 x0 x0b),(V.int .u8 x1),(V.int .u8 x2),(V.int .u8 x3),(V.sl 1 x4 x4b)] (znb n x0 x0b x1 x2 x3 x4 x4b) h:=by kernel_rfl
end Go.Proofs.Tryz
namespace Go.Proofs.Tryz
open Go.L
set_option maxRecDepth 100000
noncomputable def YE(n:Nat)(lv v4:V)(st22:List V)(hh23:ze)(next24:List V->ze->Option (Res×ze)):Option (Res×ze) :=
 (bd (ZI hh23 lv) fun d =>
 (Yi (bop prog .lss 3 (gv st22 3) (V.int .i64 ((d.2).length:Int)))
 (Yx 1 (gv st22 3) lv fun e =>
 (Yl hh23 e fun f =>
 (cl (call n 52 [v4,(gv st22 3),f] hh23) (fun g b =>
 (Zm g fun l =>
 (Yx 1 (gv st22 3) lv fun h =>
 (Yl b (jd lv h) fun i =>
 (clH (call n 75 [(V.agg (((lcs (gv st22 1))).drop 0 |>.take 3)),(gv st22 3),i] b) fun c j =>
 (bd (c)[0]? fun a =>
 (bd (c)[1]? fun m =>
 (Yc a 3 (if ((((setR Yq3 0 (V.cells a))).drop 0 |>.take 3)).length=3 then
 (Yg (((((setR Yq3 0 (V.cells a))).drop 0 |>.take 3)).length<=3) (Ya (gv st22 3) fun k =>
 (next24 [(V.agg (lcs (gv st22 0))),(V.agg (setR (lcs (gv st22 1)) 0 (((setR Yq3 0 (V.cells a))).drop 0 |>.take 3))),(V.agg (lcs (gv st22 2))),k] j))) else none))))))))) Yp)))
 (if ((((lcs (gv st22 1))).drop 0 |>.take 3)).length=3 then
 (Yg (((((lcs (gv st22 1))).drop 0 |>.take 3)).length<=3) (Yr [v4,(V.agg (((setR (lcs (gv st22 0)) 0 (((lcs (gv st22 1))).drop 0 |>.take 3))).drop 0 |>.take 3))] hh23)) else none)))
noncomputable def znc(n:Nat)(lv:V)(h:ze):Option (Res×ze) :=
 (bd (ZI h lv) fun i =>
 (cl (call n 71 [(V.int .i64 ((i.2).length:Int))] h) (fun j d =>
 (Zm j fun e =>
 (bd (ZI d lv) fun k =>
 (cl (call n 72 [(V.int .i64 ((k.2).length:Int))] d) (fun l f =>
 (Zm l fun b =>
 (Yc b 3 (bd (ZI f lv) fun m =>
 (cl (call n 73 [(V.agg (((setR Yq3 0 (V.cells b))).drop 0 |>.take 3)),(V.int .i64 ((m.2).length:Int))] f) (fun c g =>
 (bd (c)[0]? fun a =>
 (bd (c)[1]? fun q =>
 (bd (c)[2]? fun r =>
 (Yc a 3 (if ((((setR Yq3 0 (V.cells a))).drop 0 |>.take 3)).length=3 then
 (Yg (((((setR Yq3 0 (V.cells a))).drop 0 |>.take 3)).length<=3) (bd (ZI g lv) fun o =>
 (cl (call n 74 [e,(V.int .i64 ((o.2).length:Int))] g) (fun s p =>
 (zV n (YE n lv e) [(V.agg Yq3),(V.agg (setR (setR Yq3 0 (V.cells b)) 0 (((setR Yq3 0 (V.cells a))).drop 0 |>.take 3))),(V.agg (setR Yq3 0 (V.cells a))),(V.int .i64 0)] p)) Yp))) else none)))))) Yp))))) Yp)))) Yp))
theorem zlG(n lv h):call (n+1) 32 [lv] h=znc n lv h:=by kernel_rfl
end Go.Proofs.Tryz
namespace Go.Proofs.Tryz
open Go.L
set_option maxRecDepth 100000
noncomputable def KE(n:Nat)(c:List (List V))(cb:Bool)(v57:V)(st64:List V)(hh65:ze)(next66:List V->ze->Option (Res×ze)):Option (Res×ze) :=
 (bd (ZI hh65 v57) fun p =>
 (Yi (bop prog .lss 3 (gv st64 3) (V.int .i64 ((p.2).length:Int)))
 (Yi (bop prog .eql 3 (gv st64 3) (V.int .i64 0))
 (bd (Jz 1 0 v57) fun q =>
 (Yl hh65 q fun a =>
 (Yg (1=1/\1 < ((lsl (gv st64 2))).length/\(some 80:Option Nat)≠some 12) (if ((V.cells a)).length=1 then
 (Yg (1=1/\0 < 1/\0+((V.cells a)).length<=1) (bd ((lsl (gv st64 2)))[1]? fun e =>
 (Yx 1 (gv st64 3) v57 fun r =>
 (Yl hh65 r fun s =>
 (Ya s fun t =>
 (bdS (nv t) fun f =>
 (Yg (1=1/\f < ((((lsl (gv st64 2))).set 1 (setR e 0 (V.cells a)))).length/\(some 99:Option Nat)≠some 12) (bd ((((lsl (gv st64 2))).set 1 (setR e 0 (V.cells a))))[f]? fun i =>
 (Yi (bop prog .lss 3 (gv st64 3) (V.int .i64 ((c).length:Int)))
 (Yx 1 (gv st64 3) v57 fun u =>
 (Yl hh65 u fun v =>
 (bd (bop prog .add 3 v (V.int .i64 2)) fun w =>
 (Yx 1 (gv st64 3) (V.sl 1 c cb) fun x =>
 (Yl hh65 x fun y =>
 (bd (bop prog .rem 5 y (V.int .u8 60)) fun z =>
 (bd (cvt prog 5 2 z) fun k =>
 (bdS (nv w) fun l =>
 (Yg (1=1/\l < ((((((lsl (gv st64 2))).set 1 (setR e 0 (V.cells a)))).set f (setR i 0 [(V.int .i64 1)]))).length/\(some 116:Option Nat)≠some 12) (if ((V.cells k)).length=1 then
 (Yg (1=1/\0 < 1/\0+((V.cells k)).length<=1) (bd ((((((lsl (gv st64 2))).set 1 (setR e 0 (V.cells a)))).set f (setR i 0 [(V.int .i64 1)])))[l]? fun A =>
 (Ya (gv st64 3) fun B =>
 (next66 [(V.sl 1 (lsl (gv st64 0)) false),(V.sl 1 (lsl (gv st64 1)) false),(V.sl 1 (((((((lsl (gv st64 2))).set 1 (setR e 0 (V.cells a)))).set f (setR i 0 [(V.int .i64 1)]))).set l (setR A 0 (V.cells k))) false),B,(V.bool false)] hh65)))) else none))))))))))
 (Ya (gv st64 3) fun C =>
 (next66 [(V.sl 1 (lsl (gv st64 0)) false),(V.sl 1 (lsl (gv st64 1)) false),(V.sl 1 (((((lsl (gv st64 2))).set 1 (setR e 0 (V.cells a)))).set f (setR i 0 [(V.int .i64 1)])) false),C,(V.bool false)] hh65))))))))))) else none))))
 (bd (bop prog .sub 3 (gv st64 3) (V.int .i64 1)) fun D =>
 (Yx 1 D v57 fun E =>
 (Yl hh65 E fun F =>
 (bd (bop prog .add 3 F (V.int .i64 3)) fun G =>
 (Yx 1 (gv st64 3) v57 fun H =>
 (Yl hh65 H fun b =>
 (bdS (nv G) fun d =>
 (Yg (1=1/\d < ((lsl (gv st64 2))).length/\(some 92:Option Nat)≠some 12) (if ((V.cells b)).length=1 then
 (Yg (1=1/\0 < 1/\0+((V.cells b)).length<=1) (bd ((lsl (gv st64 2)))[d]? fun g =>
 (Yx 1 (gv st64 3) v57 fun I =>
 (Yl hh65 I fun J =>
 (Ya J fun K =>
 (bdS (nv K) fun h =>
 (Yg (1=1/\h < ((((lsl (gv st64 2))).set d (setR g 0 (V.cells b)))).length/\(some 99:Option Nat)≠some 12) (bd ((((lsl (gv st64 2))).set d (setR g 0 (V.cells b))))[h]? fun j =>
 (Yi (bop prog .lss 3 (gv st64 3) (V.int .i64 ((c).length:Int)))
 (Yx 1 (gv st64 3) v57 fun L =>
 (Yl hh65 L fun M =>
 (bd (bop prog .add 3 M (V.int .i64 2)) fun N =>
 (Yx 1 (gv st64 3) (V.sl 1 c cb) fun O =>
 (Yl hh65 O fun P =>
 (bd (bop prog .rem 5 P (V.int .u8 60)) fun Q =>
 (bd (cvt prog 5 2 Q) fun m =>
 (bdS (nv N) fun o =>
 (Yg (1=1/\o < ((((((lsl (gv st64 2))).set d (setR g 0 (V.cells b)))).set h (setR j 0 [(V.int .i64 1)]))).length/\(some 116:Option Nat)≠some 12) (if ((V.cells m)).length=1 then
 (Yg (1=1/\0 < 1/\0+((V.cells m)).length<=1) (bd ((((((lsl (gv st64 2))).set d (setR g 0 (V.cells b)))).set h (setR j 0 [(V.int .i64 1)])))[o]? fun R =>
 (Ya (gv st64 3) fun S =>
 (next66 [(V.sl 1 (lsl (gv st64 0)) false),(V.sl 1 (lsl (gv st64 1)) false),(V.sl 1 (((((((lsl (gv st64 2))).set d (setR g 0 (V.cells b)))).set h (setR j 0 [(V.int .i64 1)]))).set o (setR R 0 (V.cells m))) false),S,(V.bool false)] hh65)))) else none))))))))))
 (Ya (gv st64 3) fun T =>
 (next66 [(V.sl 1 (lsl (gv st64 0)) false),(V.sl 1 (lsl (gv st64 1)) false),(V.sl 1 (((((lsl (gv st64 2))).set d (setR g 0 (V.cells b)))).set h (setR j 0 [(V.int .i64 1)])) false),T,(V.bool false)] hh65))))))))))) else none))))))))))
 (Yr [(V.row (hh65).length 1 0 ((lsl (gv st64 2))).length),v57] (hh65++[(HB.row 2 1 (lsl (gv st64 2)) true)]))))
noncomputable def Wg(n:Nat)(c:List (List V))(cb:Bool)(m:Int)(v7:V)(st9:List V)(hh10:ze)(next11:List V->ze->Option (Res×ze)):Option (Res×ze) :=
 (Yi (bop prog .lss 3 (gv st9 3) v7)
 (Yi (bop prog .lss 3 (gv st9 3) (V.int .i64 ((c).length:Int)))
 (Yx 1 (gv st9 3) (V.sl 1 c cb) fun j =>
 (Yl hh10 j fun k =>
 (bd (cvt prog 5 3 k) fun l =>
 (Ya (gv st9 3) fun o =>
 (bd (bop prog .rem 3 l o) fun g =>
 (bd (some (((lsl (gv st9 2))).length - 0)) fun R =>
 (bdS (nv g) fun p =>
 (bd (Je 1 0 p (none:Option Nat) true (V.row (hh10).length 1 0 ((lsl (gv st9 2))).length)) fun q =>
 (bdS (ZI (hh10++[(HB.row 3 1 (lsl (gv st9 2)) true)]) q) fun b =>
 (Yg (55=55/\(b.1=1\/(b.2).isEmpty=true)) (bd (app 3 1 (S.own 3 1 []) b.2) fun r =>
 (bd (bop prog .mul 3 (V.int .i64 5) (gv st9 3)) fun s =>
 (bd (bop prog .add 3 (V.int .i64 3) s) fun t =>
 (bd (K6 prog 55 1 [(0,t)]) fun u =>
 (bd (app 3 1 (S.own 3 1 r) u.2) fun v =>
 (bd (some (((lsl (gv st9 2))).length - 0)) fun w =>
 (bdS (nv g) fun x =>
 (bd (Je 1 x w (none:Option Nat) true (V.row (hh10).length 1 0 ((lsl (gv st9 2))).length)) fun y =>
 (bdS (ZI (hh10++[(HB.row 3 1 (lsl (gv st9 2)) true)]) y) fun d =>
 (Yg (55=55/\(d.1=1\/(d.2).isEmpty=true)) (bd (app 3 1 (S.own 3 1 v) d.2) fun z =>
 (Ya (gv st9 3) fun A =>
 (next11 [(V.sl 1 (lsl (gv st9 0)) false),(V.sl 1 (lsl (gv st9 1)) false),(V.sl 1 z false),A] (hh10++[(HB.row 3 1 (lsl (gv st9 2)) true)]))))))))))))))))))))))))
 (bd (some (((lsl (gv st9 2))).length - 0)) fun T =>
 (bd (Je 1 0 0 (none:Option Nat) true (V.row (hh10).length 1 0 ((lsl (gv st9 2))).length)) fun B =>
 (bdS (ZI (hh10++[(HB.row 3 1 (lsl (gv st9 2)) true)]) B) fun e =>
 (Yg (55=55/\(e.1=1\/(e.2).isEmpty=true)) (bd (app 3 1 (S.own 3 1 []) e.2) fun C =>
 (bd (bop prog .mul 3 (V.int .i64 5) (gv st9 3)) fun D =>
 (bd (bop prog .add 3 (V.int .i64 3) D) fun E =>
 (bd (K6 prog 55 1 [(0,E)]) fun F =>
 (bd (app 3 1 (S.own 3 1 C) F.2) fun G =>
 (bd (some (((lsl (gv st9 2))).length - 0)) fun H =>
 (bd (Je 1 0 H (none:Option Nat) true (V.row (hh10).length 1 0 ((lsl (gv st9 2))).length)) fun I =>
 (bdS (ZI (hh10++[(HB.row 3 1 (lsl (gv st9 2)) true)]) I) fun f =>
 (Yg (55=55/\(f.1=1\/(f.2).isEmpty=true)) (bd (app 3 1 (S.own 3 1 G) f.2) fun J =>
 (Ya (gv st9 3) fun K =>
 (next11 [(V.sl 1 (lsl (gv st9 0)) false),(V.sl 1 (lsl (gv st9 1)) false),(V.sl 1 J false),K] (hh10++[(HB.row 3 1 (lsl (gv st9 2)) true)]))))))))))))))))))
 (bd (WI [(some (V.int .i64 m)),(Wp hh10 v7)]) fun L=>bd (mm false L) fun M =>
 (bd (some (((lsl (gv st9 2))).length - 0)) fun U =>
 (bdS (nv M) fun N =>
 (bd (Je 1 0 N (none:Option Nat) true (V.row (hh10).length 1 0 ((lsl (gv st9 2))).length)) fun O =>
 (bd (bop prog .mul 3 (V.int .i64 5) v7) fun P =>
 (bd (bop prog .add 3 (V.int .i64 3) P) fun h =>
 (bdS (nv h) fun a =>
 (bdS (nv h) fun i =>
 (Yg (a<=i/\i < lim/\1=1) (Yg (1=1/\2 < ((List.replicate a [(V.int .i64 0)])).length/\(some 67:Option Nat)≠some 12) (bd ((List.replicate a [(V.int .i64 0)]))[2]? fun Q =>
 (zV n (KE n c cb O) [(V.sl 1 (lsl (gv st9 0)) false),(V.sl 1 (lsl (gv st9 1)) false),(V.sl 1 (((List.replicate a [(V.int .i64 0)])).set 2 (setR Q 0 [(V.int .i64 50)])) false),(V.int .i64 0),(V.bool false)] (hh10++[(HB.row 3 1 (lsl (gv st9 2)) true)]))))))))))))))
noncomputable def zqQ(n:Nat)(c:List (List V))(cb:Bool)(m:Int)(h:ze):Option (Res×ze) :=
 (if (decide (((c).length:Int) > 0)) then
 (bd (Jz 1 0 (V.sl 1 c cb)) fun a =>
 (Yl h a fun b =>
 (bd (bop prog .rem 5 b (V.int .u8 9)) fun d =>
 (bd (cvt prog 5 3 d) fun e =>
 (bd (bop prog .add 3 (V.int .i64 1) e) fun f =>
 (zV n (Wg n c cb m f) [(V.sl 1 [] false),(V.sl 1 [] false),(V.sl 1 [] false),(V.int .i64 0)] h))))))
 else
 (zV n (Wg n c cb m (V.int .i64 1)) [(V.sl 1 [] false),(V.sl 1 [] false),(V.sl 1 [] false),(V.int .i64 0)] h))
theorem zoT(n:Nat)(c:List (List V))(cb:Bool)(m:Int)(h:ze):call (n+1) 31 [(V.sl 1 c cb),(V.int .i64 m)] h=zqQ n c cb m h:=by kernel_rfl
noncomputable def Yk(n m o:Nat)(p k:Int)(st1:List V)(hh2:ze)(next3:List V->ze->Option (Res×ze)):Option (Res×ze) :=
 (Yi (bop prog .lss 3 (gv st1 4) (V.int .i64 k))
 (cl (call n 50 [(V.agg (((lcs (gv st1 2))).drop 0 |>.take 13))] hh2) (fun f c =>
 (Zm f fun g =>
 (bv g fun h=>if h then
 (cl (call n 38 [(V.ptr m 0),(V.ptr o 0),(V.int .i64 p),(V.agg (((lcs (gv st1 2))).drop 0 |>.take 13))] c) (fun d e =>
 (bd (d)[0]? fun a =>
 (bd (d)[1]? fun i =>
 (Yc a 13 (if ((((setR zbd 0 (V.cells a))).drop 0 |>.take 13)).length=13 then
 (Yg (((((setR zbd 0 (V.cells a))).drop 0 |>.take 13)).length<=13) (bdS (ZI e i) fun b =>
 (Yg (63=63/\(b.1=3\/(b.2).isEmpty=true)) (bd (app 87 3 (S.own 87 3 (lsl (gv st1 3))) b.2) fun j =>
 (Ya (gv st1 4) fun l =>
 (next3 [(V.agg (lcs (gv st1 0))),(V.sl 3 (lsl (gv st1 1)) false),(V.agg (setR (lcs (gv st1 2)) 0 (((setR zbd 0 (V.cells a))).drop 0 |>.take 13))),(V.sl 3 j false),l] e)))))) else none))))) Yp)
 else
 (if ((((lcs (gv st1 2))).drop 0 |>.take 13)).length=13 then
 (Yg (((((lcs (gv st1 2))).drop 0 |>.take 13)).length<=13) (Yr [(V.agg (((setR (lcs (gv st1 0)) 0 (((lcs (gv st1 2))).drop 0 |>.take 13))).drop 0 |>.take 13)),(V.sl 3 (lsl (gv st1 3)) false)] c)) else none)))) Yp)
 (if ((((lcs (gv st1 2))).drop 0 |>.take 13)).length=13 then
 (Yg (((((lcs (gv st1 2))).drop 0 |>.take 13)).length<=13) (Yr [(V.agg (((setR (lcs (gv st1 0)) 0 (((lcs (gv st1 2))).drop 0 |>.take 13))).drop 0 |>.take 13)),(V.sl 3 (lsl (gv st1 3)) false)] hh2)) else none))
noncomputable def zqR(n m o:Nat)(p k:Int)(h:ze):Option (Res×ze) :=
 (zV n (Yk n m o p k) [(V.agg zbd),(V.sl 3 [] false),(V.agg [(V.int .i64 0),(V.int .i64 20),(V.int .i64 0),(V.int .i64 0),(V.int .i64 0),(V.int .i64 0),(V.int .i64 0),(V.int .i64 0),(V.int .i64 0),(V.int .i64 0),(V.int .i64 0),(V.int .i64 0),(V.sl 0 [] true)]),(V.sl 3 [] false),(V.int .i64 0)] h)
theorem zoU(n m o p k h):call (n+1) 33 [(V.ptr m 0),(V.ptr o 0),(V.int .i64 p),(V.int .i64 k)] h=zqR n m o p k h:=by kernel_rfl
noncomputable def J5(n:Nat)(lv:V)(x:Int)(st1:List V)(hh2:ze)(next3:List V->ze->Option (Res×ze)):Option (Res×ze) :=
 (bd (ZI hh2 lv) fun a =>
 (Yi (bop prog .lss 3 (gv st1 1) (V.int .i64 ((a.2).length:Int)))
 (Yx 1 (gv st1 1) lv fun b =>
 (Yl hh2 b fun c =>
 (Yi (bop prog .eql 3 c (V.int .i64 x))
 (Yr [(gv st1 1)] hh2)
 (Ya (gv st1 1) fun d =>
 (next3 [(gv st1 0),d] hh2)))))
 (Yr [(V.int .i64 (-1))] hh2)))
noncomputable def zjd(n:Nat)(lv:V)(x:Int):Option (Res×ze) :=
 (zV n (J5 n lv x) [(V.int .i64 0),(V.int .i64 0)] [])
theorem zje(n lv x h):call (n+1) 45 [lv,(V.int .i64 x)] h=gcw [lv,(V.int .i64 x)] (zjd n lv x) h:=by kernel_rfl
end Go.Proofs.Tryz
namespace Go.Proofs.Tryz
open Go.L
set_option maxRecDepth 100000
noncomputable def ztn(n:Nat)(h:ze):Option (Res×ze) :=
 Yr [(V.ptr (h).length 0)] (h++[(HB.box 1 [(V.sl 0 [] true)])])
theorem zlH(n h):call (n+1) 62 [] h=ztn n h:=by kernel_rfl
noncomputable def zjf(n c:Nat)(h:ze):Option (Res×ze) :=
 (Yi (Qq prog h .eql 122 (V.ptr c 0) Yn)
 (Yr [(V.int .i64 0)] h)
 (Yl h (V.ptr c 0) fun a =>
 (bd (ZI h a) fun b =>
 Yr [(V.int .i64 ((b.2).length:Int))] h)))
theorem zjg(n c h):call (n+1) 243 [(V.ptr c 0)] h=zjf n c h:=by kernel_rfl
noncomputable def zjh(n c:Nat)(h:ze):Option (Res×ze) :=
 (cl (call n 243 [(V.ptr c 0)] h) (fun d a =>
 (Zm d fun e =>
 (Yi (bop prog .eql 3 e (V.int .i64 0))
 (Yr [(V.bool false)] a)
 (Yl a (V.ptr c 0) fun f =>
 (bd (Jz 1 0 f) fun g =>
 (Yl a g fun i =>
 (Yl a (V.ptr c 0) fun b =>
 (bd (zcm b) fun j =>
 (bd (Je 1 1 j (none:Option Nat) true b) fun k =>
 (Yw k a (V.ptr c 0) fun l m =>
 Yr [i] ((a).set l m))))))))))) Yp)
theorem zji(n c h):call (n+1) 236 [(V.ptr c 0)] h=zjh n c h:=by kernel_rfl
noncomputable def Yv(n c:Nat)(st1:List V)(hh2:ze)(next3:List V->ze->Option (Res×ze)):Option (Res×ze) :=
 (Yi (bop prog .eql 3 (gv st1 0) (V.int .i64 8))
 (Yr [(gv st1 0)] hh2)
 (cl (call n 236 [(V.ptr c 0)] hh2) (fun b a =>
 (Zm b fun d =>
 (Yi (uop .not d)
 (Yr [(gv st1 0)] a)
 (Ya (gv st1 0) fun e =>
 (next3 [e] a))))) Yp))
noncomputable def zeF(n c:Nat)(h:ze):Option (Res×ze) :=
 (zV n (Yv n c) [(V.int .i64 1)] h)
theorem zfC(n c h):call (n+1) 227 [(V.ptr c 0)] h=zeF n c h:=by kernel_rfl
noncomputable def znd(n:Nat)(x0:Int)(h:ze):Option (Res×ze) :=
 Yr [(V.ptr (h).length 0)] (h++[(HB.box 12 [(V.int .i32 0),(V.int .i64 0),Yn,Yn,Yn,Yn,Yn,Yn,Yn,Yn,(V.int .i64 0),(V.int .i64 (if 0 < (if 1000 < x0 then 1000 else x0) then(if 1000 < x0 then 1000 else x0) else 0))])])
theorem zlI(n x0 h):call (n+1) 61 [(V.int .i64 x0)] h=znd n x0 h:=by kernel_rfl
noncomputable def zjj(n s:Nat)(h:ze):Option (Res×ze) :=
 (Yi (Qq prog h .eql 117 (V.ptr s 0) Yn)
 (Yr [(V.int .i64 0)] h)
 (Yl h (V.ptr s 11) fun a =>
 Yr [a] h))
theorem zjk(n s h):call (n+1) 226 [(V.ptr s 0)] h=zjj n s h:=by kernel_rfl
noncomputable def zne(n s:Nat)(h:ze):Option (Res×ze) :=
 (Yi (Qq prog h .eql 117 (V.ptr s 0) Yn)
 (Yr [(V.int .i64 0)] h)
 (Yl h (V.ptr s 10) fun a =>
 Yr [a] h))
theorem zlJ(n s h):call (n+1) 218 [(V.ptr s 0)] h=zne n s h:=by kernel_rfl
noncomputable def W2(n s:Nat)(st1:List V)(hh2:ze)(next3:List V->ze->Option (Res×ze)):Option (Res×ze) :=
 (Yi (bop prog .lss 3 (gv st1 2) (V.int .i64 8))
 (bd (nv (gv st1 2)) fun a =>
 (Yg (a < 8) (Yg (0=0/\(a * 1)+1<=8) (Ya (gv st1 2) fun b =>
 (next3 [(V.agg (lcs (gv st1 0))),(V.agg (setR (lcs (gv st1 1)) (a * 1) [(V.ptr s 0)])),b] hh2)))))
 (if ((((lcs (gv st1 1))).drop 0 |>.take 8)).length=8 then
 (Yg (((((lcs (gv st1 1))).drop 0 |>.take 8)).length<=8) (Yr [(V.agg (((setR (lcs (gv st1 0)) 0 (((lcs (gv st1 1))).drop 0 |>.take 8))).drop 0 |>.take 8))] hh2)) else none))
noncomputable def zgp(n s:Nat)(h:ze):Option (Res×ze) :=
 (zV n (W2 n s) [(V.agg [Yn,Yn,Yn,Yn,Yn,Yn,Yn,Yn]),(V.agg [Yn,Yn,Yn,Yn,Yn,Yn,Yn,Yn]),(V.int .i64 0)] h)
theorem zhu(n s h):call (n+1) 230 [(V.ptr s 0)] h=zgp n s h:=by kernel_rfl
noncomputable def znf(n t o:Nat)(h:ze):Option (Res×ze) :=
 (Yi (Qq prog h .eql 177 (V.ptr t 0) (V.ptr o 0))
 (Yr [(V.bool false)] h)
 (Yl h (V.ptr t 1) fun a =>
 (Yi (bop prog .eql 3 a (V.int .i64 0))
 (Yr [(V.bool false)] h)
 (Yl h (V.ptr o 1) fun b =>
 (Yi (bop prog .eql 3 b (V.int .i64 0))
 (Yr [(V.bool true)] h)
 (Yl h (V.ptr t 0) fun c =>
 (Yl h (V.ptr o 0) fun d =>
 (bd (bop prog .geq 21 c d) fun e =>
 Yr [e] h))))))))
theorem zlK(n t o h):call (n+1) 245 [(V.ptr t 0),(V.ptr o 0)] h=znf n t o h:=by kernel_rfl
noncomputable def tall(n:Nat)(x0 x1:Int)(h:ze):Option (Res×ze) :=
 Yr [(V.ptr (h).length 0)] (h++[(HB.box 10 [(V.int .i32 x0),(V.int .i64 (if 1 < (if 8 < x1 then 8 else x1) then(if 8 < x1 then 8 else x1) else 1)),Yn,Yn,Yn,Yn,Yn,Yn,Yn,Yn])])
theorem zto(n x0 x1 h):call (n+1) 232 [(V.int .i32 x0),(V.int .i64 x1)] h=tall n x0 x1 h:=by kernel_rfl
noncomputable def QM(n:Nat)(v:Int)(st1:List V)(next3:List V->ze->Option (Res×ze))(st19:List V)(hh20:ze)(next21:List V->ze->Option (Res×ze)):Option (Res×ze) :=
 (Yi (Qq prog hh20 .neq 177 (gv st19 3) Yn)
 (bd (ZD 0 (gv st19 3)) fun d =>
 (bd (ZD 0 d) fun e =>
 (Yl hh20 e fun f =>
 (Yi (bop prog .leq 21 f (V.int .i32 v))
 (bd (ZD 0 (gv st19 3)) fun g =>
 (bd (ZD 2 g) fun h =>
 (bd (nv (gv st1 3)) fun c =>
 (Yg (c < 8) (bd (ZD (c * 1) h) fun i =>
 (Yl hh20 i fun j =>
 (next21 [(V.agg (lcs (gv st19 0))),(V.agg (lcs (gv st19 1))),(gv st19 3),j] hh20)))))))
 (bd (nv (gv st1 3)) fun a =>
 (Yg (a < 8) (if ((V.cells (gv st19 2))).length=1 then
 (Yg (0=0/\(a * 1)+((V.cells (gv st19 2))).length<=8) (bd (bop prog .sub 3 (gv st1 3) (V.int .i64 1)) fun k =>
 (next3 [(V.agg (setR (lcs (gv st19 0)) (a * 1) (V.cells (gv st19 2)))),(V.agg (lcs (gv st19 1))),(gv st19 2),k] hh20))) else none)))))))
 (bd (nv (gv st1 3)) fun b =>
 (Yg (b < 8) (if ((V.cells (gv st19 2))).length=1 then
 (Yg (0=0/\(b * 1)+((V.cells (gv st19 2))).length<=8) (bd (bop prog .sub 3 (gv st1 3) (V.int .i64 1)) fun l =>
 (next3 [(V.agg (setR (lcs (gv st19 0)) (b * 1) (V.cells (gv st19 2)))),(V.agg (lcs (gv st19 1))),(gv st19 2),l] hh20))) else none))))
noncomputable def zeG(n:Nat)(v:Int)(st1:List V)(next3:List V->ze->Option (Res×ze))(st62:List V)(hh63:ze)(next64:List V->ze->Option (Res×ze)):Option (Res×ze) :=
 (Yi (Qq prog hh63 .neq 177 (gv st62 3) Yn)
 (bd (ZD 0 (gv st62 3)) fun d =>
 (bd (ZD 0 d) fun e =>
 (Yl hh63 e fun f =>
 (Yi (bop prog .leq 21 f (V.int .i32 v))
 (bd (ZD 0 (gv st62 3)) fun g =>
 (bd (ZD 2 g) fun h =>
 (bd (nv (gv st1 3)) fun c =>
 (Yg (c < 8) (bd (ZD (c * 1) h) fun i =>
 (Yl hh63 i fun j =>
 (next64 [(V.agg (lcs (gv st62 0))),(V.agg (lcs (gv st62 1))),(gv st62 3),j] hh63)))))))
 (bd (nv (gv st1 3)) fun a =>
 (Yg (a < 8) (if ((V.cells (gv st62 2))).length=1 then
 (Yg (0=0/\(a * 1)+((V.cells (gv st62 2))).length<=8) (bd (bop prog .sub 3 (gv st1 3) (V.int .i64 1)) fun k =>
 (next3 [(V.agg (setR (lcs (gv st62 0)) (a * 1) (V.cells (gv st62 2)))),(V.agg (lcs (gv st62 1))),(gv st62 2),k] hh63))) else none)))))))
 (bd (nv (gv st1 3)) fun b =>
 (Yg (b < 8) (if ((V.cells (gv st62 2))).length=1 then
 (Yg (0=0/\(b * 1)+((V.cells (gv st62 2))).length<=8) (bd (bop prog .sub 3 (gv st1 3) (V.int .i64 1)) fun l =>
 (next3 [(V.agg (setR (lcs (gv st62 0)) (b * 1) (V.cells (gv st62 2)))),(V.agg (lcs (gv st62 1))),(gv st62 2),l] hh63))) else none))))
noncomputable def zeH(n:Nat)(v:Int)(st1:List V)(next3:List V->ze->Option (Res×ze))(st96:List V)(hh97:ze)(next98:List V->ze->Option (Res×ze)):Option (Res×ze) :=
 (Yi (Qq prog hh97 .neq 177 (gv st96 3) Yn)
 (bd (ZD 0 (gv st96 3)) fun d =>
 (bd (ZD 0 d) fun e =>
 (Yl hh97 e fun f =>
 (Yi (bop prog .leq 21 f (V.int .i32 v))
 (bd (ZD 0 (gv st96 3)) fun g =>
 (bd (ZD 2 g) fun h =>
 (bd (nv (gv st1 3)) fun c =>
 (Yg (c < 8) (bd (ZD (c * 1) h) fun i =>
 (Yl hh97 i fun j =>
 (next98 [(V.agg (lcs (gv st96 0))),(V.agg (lcs (gv st96 1))),(gv st96 3),j] hh97)))))))
 (bd (nv (gv st1 3)) fun a =>
 (Yg (a < 8) (if ((V.cells (gv st96 2))).length=1 then
 (Yg (0=0/\(a * 1)+((V.cells (gv st96 2))).length<=8) (bd (bop prog .sub 3 (gv st1 3) (V.int .i64 1)) fun k =>
 (next3 [(V.agg (setR (lcs (gv st96 0)) (a * 1) (V.cells (gv st96 2)))),(V.agg (lcs (gv st96 1))),(gv st96 2),k] hh97))) else none)))))))
 (bd (nv (gv st1 3)) fun b =>
 (Yg (b < 8) (if ((V.cells (gv st96 2))).length=1 then
 (Yg (0=0/\(b * 1)+((V.cells (gv st96 2))).length<=8) (bd (bop prog .sub 3 (gv st1 3) (V.int .i64 1)) fun l =>
 (next3 [(V.agg (setR (lcs (gv st96 0)) (b * 1) (V.cells (gv st96 2)))),(V.agg (lcs (gv st96 1))),(gv st96 2),l] hh97))) else none))))
noncomputable def WJ(n:Nat)(v:Int)(st1:List V)(hh2:ze)(next3:List V->ze->Option (Res×ze)):Option (Res×ze) :=
 (Yi (bop prog .geq 3 (gv st1 3) (V.int .i64 0))
 (Yi (Qq prog hh2 .eql 177 (gv st1 2) Yn)
 (bd (nv (gv st1 3)) fun b =>
 (Yg (b < 8) (Yg ((b * 1)+1<=8/\0 < 1) (bd ((lcs (gv st1 0)))[(b * 1)]? fun e =>
 (bd (ZD 0 e) fun j =>
 (bd (ZD 2 j) fun k =>
 (bd (nv (gv st1 3)) fun f =>
 (Yg (f < 8) (bd (ZD (f * 1) k) fun l =>
 (Yl hh2 l fun m =>
 (zV n (QM n v st1 next3) [(V.agg (lcs (gv st1 0))),(V.agg (lcs (gv st1 1))),e,m] hh2)))))))))))
 (bd (nv (gv st1 3)) fun c =>
 (Yg (c < 8) (Yg ((c * 1)+1<=8/\0 < 1) (bd ((lcs (gv st1 0)))[(c * 1)]? fun o =>
 (cl (call n 245 [o,(gv st1 2)] hh2) (fun p a =>
 (Zm p fun q =>
 (bv q fun r=>if r then
 (bd (nv (gv st1 3)) fun d =>
 (Yg (d < 8) (Yg ((d * 1)+1<=8/\0 < 1) (bd ((lcs (gv st1 0)))[(d * 1)]? fun g =>
 (bd (ZD 0 g) fun s =>
 (bd (ZD 2 s) fun t =>
 (bd (nv (gv st1 3)) fun h =>
 (Yg (h < 8) (bd (ZD (h * 1) t) fun u =>
 (Yl a u fun w =>
 (zV n (zeG n v st1 next3) [(V.agg (lcs (gv st1 0))),(V.agg (lcs (gv st1 1))),g,w] a)))))))))))
 else
 (bd (ZD 0 (gv st1 2)) fun x =>
 (bd (ZD 2 x) fun y =>
 (bd (nv (gv st1 3)) fun i =>
 (Yg (i < 8) (bd (ZD (i * 1) y) fun z =>
 (Yl a z fun A =>
 (zV n (zeH n v st1 next3) [(V.agg (lcs (gv st1 0))),(V.agg (lcs (gv st1 1))),(gv st1 2),A] a)))))))))) Yp))))))
 (if ((((lcs (gv st1 0))).drop 0 |>.take 8)).length=8 then
 (Yg (((((lcs (gv st1 0))).drop 0 |>.take 8)).length<=8) (Yr [(V.agg (((setR (lcs (gv st1 1)) 0 (((lcs (gv st1 0))).drop 0 |>.take 8))).drop 0 |>.take 8))] hh2)) else none))
noncomputable def zqS(n:Nat)(p:List V)(v:Int)(h:ze):Option (Res×ze) :=
 (if (p).length=8 then
 (zV n (WJ n v) [(V.agg p),(V.agg [Yn,Yn,Yn,Yn,Yn,Yn,Yn,Yn]),Yn,(V.int .i64 7)] h) else none)
theorem zoV(n p v h):call (n+1) 238 [(V.agg p),(V.int .i32 v)] h=zqS n p v h:=by kernel_rfl
noncomputable def KF(n t:Nat)(v3:V)(st5:List V)(hh6:ze)(next7:List V->ze->Option (Res×ze)):Option (Res×ze) :=
 (Yi (bop prog .lss 3 (gv st5 2) v3)
 (bd (nv (gv st5 2)) fun a =>
 (Yg (a < 8) (Yg ((a * 1)+1<=8/\0 < 1) (bd ((lcs (gv st5 0)))[(a * 1)]? fun i =>
 (bd (ZD 0 i) fun j =>
 (bd (ZD 2 j) fun k =>
 (bd (nv (gv st5 2)) fun d =>
 (Yg (d < 8) (bd (ZD (d * 1) k) fun l =>
 (Yl hh6 l fun m =>
 (bd (nv (gv st5 2)) fun e =>
 (Yg (e < 8) (Yw m hh6 (V.ptr t (2+(e * 1))) fun f g =>
 (bd (nv (gv st5 2)) fun b =>
 (Yg (b < 8) (Yg ((b * 1)+1<=8/\0 < 1) (bd ((lcs (gv st5 0)))[(b * 1)]? fun o =>
 (bd (ZD 0 o) fun p =>
 (bd (ZD 2 p) fun q =>
 (bd (nv (gv st5 2)) fun h =>
 (Yg (h < 8) (bd (ZD (h * 1) q) fun r =>
 (bd2 (Zl ((hh6).set f g) [(V.ptr t 0)] r) fun s u =>
 (bd (nv (gv st5 2)) fun c =>
 (Yg (c < 8) (Yg (0=0/\(c * 1)+1<=8) (Ya (gv st5 2) fun v =>
 (next7 [(V.agg (setR (lcs (gv st5 0)) (c * 1) [(V.ptr t 0)])),(V.agg (lcs (gv st5 1))),v] ((((hh6).set f g)).set s u)))))))))))))))))))))))))))))
 (if ((((lcs (gv st5 0))).drop 0 |>.take 8)).length=8 then
 (Yg (((((lcs (gv st5 0))).drop 0 |>.take 8)).length<=8) (Yr [(V.agg (((setR (lcs (gv st5 1)) 0 (((lcs (gv st5 0))).drop 0 |>.take 8))).drop 0 |>.take 8))] hh6)) else none))
noncomputable def zng(n:Nat)(p:List V)(t:Nat)(h:ze):Option (Res×ze) :=
 (if (p).length=8 then
 (Yl h (V.ptr t 1) fun a =>
 (zV n (KF n t a) [(V.agg p),(V.agg [Yn,Yn,Yn,Yn,Yn,Yn,Yn,Yn]),(V.int .i64 0)] h)) else none)
theorem zlL(n p t h):call (n+1) 231 [(V.agg p),(V.ptr t 0)] h=zng n p t h:=by kernel_rfl
noncomputable def zeI(n s:Nat)(v k:Int)(h:ze):Option (Res×ze) :=
 (Yi (Qq prog h .eql 117 (V.ptr s 0) Yn)
 (Yr [(V.bool false)] h)
 (Yl h (V.ptr s 10) fun b =>
 (Yl h (V.ptr s 11) fun c =>
 (Yi (bop prog .geq 3 b c)
 (Yr [(V.bool false)] h)
 (cl (call n 230 [(V.ptr s 0)] h) (fun d e =>
 (Zm d fun f =>
 (cl (call n 238 [f,(V.int .i32 v)] e) (fun g i =>
 (Zm g fun j =>
 (cl (call n 232 [(V.int .i32 v),(V.int .i64 k)] i) (fun l m =>
 (Zm l fun o =>
 (cl (call n 231 [j,o] m) (fun p a =>
 (Zm p fun w =>
 (Yl a (V.ptr s 10) fun q =>
 (Ya q fun r =>
 (Yw r a (V.ptr s 10) fun t u =>
 Yr [(V.bool true)] ((a).set t u)))))) Yp))) Yp))) Yp))) Yp)))))
theorem zfD(n s v k h):call (n+1) 233 [(V.ptr s 0),(V.int .i32 v),(V.int .i64 k)] h=zeI n s v k h:=by kernel_rfl
noncomputable def Wt(n s:Nat)(l m:V)(p15:Nat×List (List V))(st17:List V)(hh18:ze)(next19:List V->ze->Option (Res×ze)):Option (Res×ze) :=
 (Yi (bop prog .lss 3 (gv st17 4) (V.int .i64 ((p15.2).length:Int)))
 (Yx 1 (gv st17 4) l fun h =>
 (Yl hh18 h fun a =>
 (Yl hh18 (V.ptr s 10) fun i =>
 (Yl hh18 (V.ptr s 11) fun j =>
 (Yi (bop prog .geq 3 i j)
 (Yr [(V.sl 1 (lsl (gv st17 1)) false)] hh18)
 (bd (ZI hh18 m) fun k =>
 (Yi (bop prog .lss 3 (gv st17 4) (V.int .i64 ((k.2).length:Int)))
 (Yx 1 (gv st17 4) m fun o =>
 (Yl hh18 o fun p =>
 (cl (call n 238 [(V.agg (((lcs (gv st17 2))).drop 0 |>.take 8)),a] hh18) (fun q r =>
 (Zm q fun t =>
 (cl (call n 232 [a,p] r) (fun u v =>
 (Zm u fun w =>
 (cl (call n 231 [t,w] v) (fun x b =>
 (Zm x fun f =>
 (Yc f 8 (Yl b (V.ptr s 10) fun y =>
 (Ya y fun z =>
 (Yw z b (V.ptr s 10) fun A B =>
 (bdS (nv (gv st17 4)) fun c =>
 (Yg (1=1/\c < ((lsl (gv st17 1))).length/\(some 65:Option Nat)≠some 7) (bd ((lsl (gv st17 1)))[c]? fun C =>
 (Ya (gv st17 4) fun D =>
 (next19 [(V.sl 1 (lsl (gv st17 0)) false),(V.sl 1 (((lsl (gv st17 1))).set c (setR C 0 [(V.bool true)])) false),(V.agg (setR (lcs (gv st17 2)) 0 (V.cells f))),(V.bool false),D] ((b).set A B)))))))))))) Yp))) Yp))) Yp)))
 (cl (call n 238 [(V.agg (((lcs (gv st17 2))).drop 0 |>.take 8)),a] hh18) (fun E F =>
 (Zm E fun G =>
 (cl (call n 232 [a,(V.int .i64 1)] F) (fun H I =>
 (Zm H fun J =>
 (cl (call n 231 [G,J] I) (fun K d =>
 (Zm K fun g =>
 (Yc g 8 (Yl d (V.ptr s 10) fun L =>
 (Ya L fun M =>
 (Yw M d (V.ptr s 10) fun N O =>
 (bdS (nv (gv st17 4)) fun e =>
 (Yg (1=1/\e < ((lsl (gv st17 1))).length/\(some 65:Option Nat)≠some 7) (bd ((lsl (gv st17 1)))[e]? fun P =>
 (Ya (gv st17 4) fun Q =>
 (next19 [(V.sl 1 (lsl (gv st17 0)) false),(V.sl 1 (((lsl (gv st17 1))).set e (setR P 0 [(V.bool true)])) false),(V.agg (setR (lcs (gv st17 2)) 0 (V.cells g))),(V.bool false),Q] ((d).set N O)))))))))))) Yp))) Yp))) Yp))))))))
 (Yr [(V.sl 1 (lsl (gv st17 1)) false)] hh18))
noncomputable def zgq(n s:Nat)(l m:V)(h:ze):Option (Res×ze) :=
 (bd (ZI h l) fun b =>
 (bdS (nv (V.int .i64 ((b.2).length:Int))) fun a =>
 (bdS (nv (V.int .i64 ((b.2).length:Int))) fun c =>
 (Yg (a<=c/\c < lim/\1=1) (Yi (Qq prog h .eql 117 (V.ptr s 0) Yn)
 (Yr [(V.sl 1 (List.replicate a [(V.bool false)]) false)] h)
 (cl (call n 237 [l] h) (fun g d =>
 (Zm g fun i =>
 (Yi (uop .not i)
 (Yr [(V.sl 1 (List.replicate a [(V.bool false)]) false)] d)
 (cl (call n 230 [(V.ptr s 0)] d) (fun j e =>
 (Zm j fun f =>
 (Yc f 8 (bd (ZI e l) fun k =>
 (zV n (Wt n s l m k) [(V.sl 1 [] false),(V.sl 1 (List.replicate a [(V.bool false)]) false),(V.agg (setR [Yn,Yn,Yn,Yn,Yn,Yn,Yn,Yn] 0 (V.cells f))),(V.bool false),(V.int .i64 0)] e))))) Yp)))) Yp))))))
theorem zhv(n s l m h):call (n+1) 228 [(V.ptr s 0),l,m] h=zgq n s l m h:=by kernel_rfl
noncomputable def Jo(n s:Nat)(v9 v15:V)(st17:List V)(hh18:ze)(next19:List V->ze->Option (Res×ze)):Option (Res×ze) :=
 (Yi (bop prog .lss 3 (gv st17 0) v15)
 (bd (ZD 0 v9) fun e =>
 (bd (ZD 2 e) fun f =>
 (bd (nv (gv st17 0)) fun a =>
 (Yg (a < 8) (bd (ZD (a * 1) f) fun g =>
 (Yl hh18 g fun h =>
 (bd (nv (gv st17 0)) fun b =>
 (Yg (b < 8) (Yw h hh18 (V.ptr s (2+(b * 1))) fun i j =>
 (Ya (gv st17 0) fun k =>
 (next19 [k] ((hh18).set i j))))))))))))
 (Yl hh18 (V.ptr s 10) fun l =>
 (bd (bop prog .sub 3 l (V.int .i64 1)) fun m =>
 (Yw m hh18 (V.ptr s 10) fun c d =>
 (bd (ZD 0 v9) fun o =>
 (bd (ZD 0 o) fun p =>
 (Yl ((hh18).set c d) p fun q =>
 Yr [q,(V.bool true)] ((hh18).set c d))))))))
noncomputable def zhw(n s:Nat)(h:ze):Option (Res×ze) :=
 (cl (call n 218 [(V.ptr s 0)] h) (fun c a =>
 (Zm c fun d =>
 (Yi (bop prog .eql 3 d (V.int .i64 0))
 (Yr [(V.int .i32 0),(V.bool false)] a)
 (Yl a (V.ptr s 2) fun b =>
 (bd (ZD 0 b) fun e =>
 (bd (ZD 1 e) fun f =>
 (Yl a f fun g =>
 (zV n (Jo n s b g) [(V.int .i64 0)] a)))))))) Yp)
theorem zeJ(n s h):call (n+1) 239 [(V.ptr s 0)] h=zhw n s h:=by kernel_rfl
noncomputable def zqT(n s:Nat)(k:Int)(h:ze):Option (Res×ze) :=
 Yr [(V.fn 132 [(V.ptr (h).length 0),(V.ptr ((h++[(HB.box 1 [(V.ptr s 0)])])).length 0)])] ((h++[(HB.box 1 [(V.ptr s 0)])])++[(HB.box 1 [(V.int .i64 k)])])
theorem zoW(n s k h):call (n+1) 100 [(V.ptr s 0),(V.int .i64 k)] h=zqT n s k h:=by kernel_rfl
noncomputable def YF(n b k:Nat)(st19:List V)(hh20:ze)(next21:List V->ze->Option (Res×ze)):Option (Res×ze) :=
 (Yi (Qq prog hh20 .neq 177 (gv st19 0) Yn)
 (bd2 (rnd n b [(gv st19 0)] hh20) fun d a =>
 (if d then
 (Yl a (V.ptr k 0) fun e =>
 (bd (bop prog .sub 3 e (V.int .i64 1)) fun f =>
 (bd (ZD 0 (gv st19 0)) fun g =>
 (bd (ZD 2 g) fun h =>
 (bd (nv f) fun c =>
 (Yg (c < 8) (bd (ZD (c * 1) h) fun i =>
 (Yl a i fun j =>
 (next21 [j] a)))))))))
 else
 Yr [] a))
 (Yr [] hh20))
noncomputable def znh(n b s k:Nat)(h:ze):Option (Res×ze) :=
 (Yl h (V.ptr s 0) fun c =>
 (Yl h (V.ptr k 0) fun d =>
 (bd (bop prog .sub 3 d (V.int .i64 1)) fun e =>
 (bd (ZD 0 c) fun f =>
 (bd (ZD 0 f) fun g =>
 (bd (ZD 2 g) fun i =>
 (bd (nv e) fun a =>
 (Yg (a < 8) (bd (ZD (a * 1) i) fun j =>
 (Yl h j fun l =>
 (zV n (YF n b k) [l] h)))))))))))
theorem zlM(n b s k h):call (n+1) 132 [(V.yld b),(V.ptr s 0),(V.ptr k 0)] h=znh n b s k h:=by kernel_rfl
noncomputable def qU(n x5 b:Nat)(z20:V)(h:ze):Option (Bool×ze) :=
 (lpR ((h)[b]?) fun cD cV cF cP cA cB =>
 (Yl ((h).set b (HB.loop cD cV cF cP cA cB .busy)) (V.ptr x5 0) fun e =>
 (bd (ZD 0 z20) fun f =>
 (bd (ZD 0 f) fun g =>
 (Yl ((h).set b (HB.loop cD cV cF cP cA cB .busy)) g fun i =>
 (bd (K6 prog 27 1 [(0,i)]) fun j =>
 (bd2 (Ws 21 1 ((h).set b (HB.loop cD cV cF cP cA cB .busy)) j.2 e) fun k a =>
 (Yw k a (V.ptr x5 0) fun c d =>
 (lpB ((((a).set c d))[b]?) fun eD eV eF eP eA eB=>some (true,(((a).set c d)).set b (HB.loop eD eV eF eP eA eB .ready)))))))))))
theorem zeK(n:Nat)(y0:Option V)(y1:Option V)(y4:Option V)(x5:Nat)(y7:Option V)(y8:Option V)(y9:Option V)(y10:Option V)(y11:Option V)(y12:Option V)(y13:Option V)(y14:Option V)(y15:Option V)(y16:Option V)(y17:Option V)(y18:Option V)(y19:Option V)(b:Nat)(z20:V)(h:ze):zd8 prog (call n) QI Yd n (L.textDraws prog) true [y0,y1,none,none,y4,some (V.ptr x5 0),none,y7,y8,y9,y10,y11,y12,y13,y14,y15,y16,y17,y18,y19,none,none,none,none,none,none,none,none,none] [20] (zaF (Ja f70)) (zaG (Ja f70)) b [z20] h=qU n x5 b z20 h:=by kernel_rfl
noncomputable def zgr(n s:Nat)(k:Int)(h:ze):Option (Res×ze) :=
 (bd (Qq prog h .eql 117 (V.ptr s 0) Yn) fun c =>
 (bv c fun f=>if f then
 Yr [(V.row (h).length 1 0 0)] (h++[(HB.row 21 1 [] true)])
 else
 (if (decide (k < 1)) then
 Yr [(V.row (h).length 1 0 0)] (h++[(HB.row 21 1 [] true)])
 else
 (if (decide (k > 8)) then
 Yr [(V.row (h).length 1 0 0)] (h++[(HB.row 21 1 [] true)])
 else
 (cl (call n 100 [(V.ptr s 0),(V.int .i64 k)] h) (fun g a =>
 (Zm g fun d =>
 (fnK d fun e i=>if ((YX prog e).isNone && (QT (zaF (Ja f70)) && QT (zaG (Ja f70))))=true then
 (clN (call n e ((V.yld ((((a++[(HB.box 1 [(V.sl 0 [] true)])])++[(HB.row 21 1 [] true)])).length+1)) :: i) (((a++[(HB.box 1 [(V.sl 0 [] true)])])++[(HB.row 21 1 [] true)])++[HB.defb,HB.loop (((a++[(HB.box 1 [(V.sl 0 [] true)])])++[(HB.row 21 1 [] true)])).length true [some (V.ptr s 0),some (V.int .i64 k),none,none,some (V.row ((a++[(HB.box 1 [(V.sl 0 [] true)])])).length 1 0 0),some (V.ptr (a).length 0),none,some (V.ptr s 0),some c,some (V.bool false),some (V.int .i64 k),some (V.bool (decide (k < 1))),some (V.bool (decide (k < 1))),some (V.bool false),some (V.int .i64 k),some (V.bool (decide (k > 8))),some (V.bool false),some (V.ptr s 0),some (V.int .i64 k),some d,none,none,none,none,none,none,none,none,none] [20] (zaF (Ja f70)) (zaG (Ja f70)) .ready])) fun b=>lpE ((b)[((((a++[(HB.box 1 [(V.sl 0 [] true)])])++[(HB.row 21 1 [] true)])).length+1)]?) (
 (Yl ((b).set ((((a++[(HB.box 1 [(V.sl 0 [] true)])])++[(HB.row 21 1 [] true)])).length+1) HB.dead) (V.ptr (a).length 0) fun j =>
 (dfB ((((b).set ((((a++[(HB.box 1 [(V.sl 0 [] true)])])++[(HB.row 21 1 [] true)])).length+1) HB.dead))[(((a++[(HB.box 1 [(V.sl 0 [] true)])])++[(HB.row 21 1 [] true)])).length]?) (
 Yr [j] ((((b).set ((((a++[(HB.box 1 [(V.sl 0 [] true)])])++[(HB.row 21 1 [] true)])).length+1) HB.dead)).set (((a++[(HB.box 1 [(V.sl 0 [] true)])])++[(HB.row 21 1 [] true)])).length HB.dead))))) (
 (dfB ((((b).set ((((a++[(HB.box 1 [(V.sl 0 [] true)])])++[(HB.row 21 1 [] true)])).length+1) HB.dead))[(((a++[(HB.box 1 [(V.sl 0 [] true)])])++[(HB.row 21 1 [] true)])).length]?) (
 Yr [(V.row ((a++[(HB.box 1 [(V.sl 0 [] true)])])).length 1 0 0)] ((((b).set ((((a++[(HB.box 1 [(V.sl 0 [] true)])])++[(HB.row 21 1 [] true)])).length+1) HB.dead)).set (((a++[(HB.box 1 [(V.sl 0 [] true)])])++[(HB.row 21 1 [] true)])).length HB.dead))))) else none))) Yp)))))
theorem zhx(n s k h):call (n+1) 70 [(V.ptr s 0),(V.int .i64 k)] h=zgr n s k h:=by kernel_rfl
noncomputable def zgs(n s:Nat)(h:ze):Option (Res×ze) :=
 (cl (call n 70 [(V.ptr s 0),(V.int .i64 1)] h) (fun a b =>
 (Zm a fun c =>
 Yr [c] b)) Yp)
theorem zhy(n s h):call (n+1) 217 [(V.ptr s 0)] h=zgs n s h:=by kernel_rfl
noncomputable def WK(n:Nat)(l:V)(st2:List V)(hh3:ze)(next4:List V->ze->Option (Res×ze)):Option (Res×ze) :=
 (Yi (bop prog .gtr 3 (gv st2 1) (V.int .i64 0))
 (Yx 1 (gv st2 1) l fun b =>
 (Yl hh3 b fun c =>
 (bd (bop prog .sub 3 (gv st2 1) (V.int .i64 1)) fun d =>
 (Yx 1 d l fun e =>
 (Yl hh3 e fun f =>
 (cl (call n 244 [c,f] hh3) (fun g a =>
 (Zm g fun h =>
 (bv h fun i=>if i then
 Yr [(V.bool false)] a
 else
 (bd (bop prog .sub 3 (gv st2 1) (V.int .i64 1)) fun j =>
 (next4 [(gv st2 0),j] a))))) (fun k a=>none)))))))
 (Yr [(V.bool true)] hh3))
noncomputable def zjl(n:Nat)(l:V)(h:ze):Option (Res×ze) :=
 (bd (ZI h l) fun a =>
 (zV n (WK n l) [(V.bool false),(V.int .i64 (IntKind.i64.wrap (((a.2).length:Int) - 1)))] h))
theorem zjm(n l h):call (n+1) 237 [l] h=zjl n l h:=by kernel_rfl
noncomputable def zuL(n:Nat)(x0:Int)(h:ze):Option (Res×ze) :=
 Yr [(V.bool (x0 != x0))] h
theorem zqU(n x0 h):call (n+1) 247 [(V.int .i32 x0)] h=zuL n x0 h:=by kernel_rfl
noncomputable def zni(n:Nat)(x0 x1:Int)(h:ze):Option (Res×ze) :=
 (cl (call n 247 [(V.int .i32 x0)] h) (fun c a =>
 (Zm c fun d =>
 (bv d fun e=>if e then
 (cl (call n 247 [(V.int .i32 x1)] a) (fun f b =>
 (Zm f fun g =>
 (Yi (uop .not g)
 (Yr [(V.bool true)] b)
 (Yr [(V.bool (decide (x0 < x1)))] b)))) Yp)
 else
 Yr [(V.bool (decide (x0 < x1)))] a))) Yp)
theorem zlN(n x0 x1 h):call (n+1) 244 [(V.int .i32 x0),(V.int .i32 x1)] h=zni n x0 x1 h:=by kernel_rfl
noncomputable def zeL(n:Nat)(x0 x1:Int)(h:ze):Option (Res×ze) :=
 (cl (call n 247 [(V.int .i32 x0)] h) (fun c d =>
 (Zm c fun e =>
 (cl (call n 247 [(V.int .i32 x1)] d) (fun f a =>
 (Zm f fun b =>
 (bv e fun g=>if g then
 (bv b fun i=>if i then
 Yr [(V.int .i64 0)] a
 else
 Yr [(V.int .i64 (-1))] a)
 else
 (bv b fun j=>if j then
 Yr [(V.int .i64 1)] a
 else
 (if (decide (x0 < x1)) then
 Yr [(V.int .i64 (-1))] a
 else
 (if (decide (x0 > x1)) then
 Yr [(V.int .i64 1)] a
 else
 Yr [(V.int .i64 0)] a)))))) Yp))) Yp)
theorem zfE(n x0 x1 h):call (n+1) 242 [(V.int .i32 x0),(V.int .i32 x1)] h=zeL n x0 x1 h:=by kernel_rfl
end Go.Proofs.Tryz
set_option linter.unusedSimpArgs false
namespace Go.L
theorem zjn{h:ze}{b e sz lo hi:Nat}{l:List (List V)}{z:Bool}(hb:h[b]?=some (.row e sz l z))(h1:lo<=hi)(h2:hi<=l.length):jc h b sz lo hi=some ((l.take hi).drop lo):=by
 simp only[jc,hb];rw[if_pos ⟨trivial,h1,h2⟩]
theorem zoX{h:ze}{b e sz:Nat}{l:List (List V)}{z:Bool}(hb:h[b]?=some (.row e sz l z)):jc h b sz 0 l.length=some l:=by
 rw[zjn hb (z2 _) (zn _),X9,zR]
theorem Qm{h:ze}{b e sz lo hi:Nat}{l:List (List V)}{z:Bool}(hb:h[b]?=some (.row e sz l z))(h1:lo<=hi)(h2:hi<=l.length):ZI h (.row b sz lo hi)=some (sz,(l.take hi).drop lo):=by
 simp only[ZI,zjn hb h1 h2,Z5]
theorem Jh{h:ze}{b e sz:Nat}{l:List (List V)}{z:Bool}(hb:h[b]?=some (.row e sz l z)):ZI h (.row b sz 0 l.length)=some (sz,l):=by
 simp only[ZI,zoX hb,Z5]
theorem KG(b sz lo hi:Nat):zcm (.row b sz lo hi)=some (hi - lo):=rfl
theorem Q2{r sz u v a b:Nat}(h1:a<=b)(h2:b<=v - u)(ok:Bool):Je sz a b none ok (.row r sz u v)=some (.row r sz (u+a) (u+b)):=by
 simp only[Je];rw[if_pos ⟨⟨h1,h2,trivial⟩,trivial⟩]
theorem Z3{b sz lo hi n:Nat}(h:n < hi - lo):Jz sz n (.row b sz lo hi)=some (.rptr b sz (lo+n) 0):=by
 simp only[Jz];rw[if_pos ⟨trivial,h⟩]
theorem ZJ{h:ze}{b e sz i c:Nat}{l:List (List V)}{z:Bool}{es:List V}(hb:h[b]?=some (.row e sz l z))(h0:0 < sz)(hi:l[i]?=some es):Zv h (.rptr b sz i c)=some (es,sz,c):=by
 simp only[Zv,hb];rw[if_pos ⟨trivial,h0⟩];simp only[hi]
theorem zoY(k b sz i c:Nat):ZD k (.rptr b sz i c)=some (.rptr b sz i (c+k)):=rfl
theorem QU{h:ze}{b e sz i c:Nat}{l:List (List V)}{z:Bool}{es vs:List V}(hb:h[b]?=some (.row e sz l z))(h0:0 < sz)(hc:c+vs.length<=sz)(hi:l[i]?=some es):Zl h vs (.rptr b sz i c)=some (b,.row e sz (l.set i (setR es c vs)) z):=by
 simp only[Zl,hb];rw[if_pos ⟨trivial,h0,hc⟩];simp only[hi]
end Go.L
namespace Go.L
theorem Zx{h:ze}{b n o:Nat}{cs vs:List V}(hb:h[b]?=some (.box n cs))(ho:o+vs.length<=n):Zl h vs (.ptr b o)=some (b,.box n (setR cs o vs)):=by
 simp only[Zl,hb];rw[if_pos ho]
theorem zqV{α:Type}{l:List α}{lo hi i:Nat}(h:lo+i < hi):((l.take hi).drop lo)[i]?=l[lo+i]?:=by
 rw[Zh,Ze,if_pos h]
theorem ZU{h:ze}{b:Nat}(hb:b < h.length)(x:HB):(h.set b x)[b]?=some x:=Zf hb
theorem zQ{h:ze}{b:Nat}{x:HB}(hb:h[b]?=some x):b < h.length:=(zj.1 hb).1
end Go.L
namespace Go.Sk
open Go.L
def hgt : Nat -> List Bool -> Nat × List Bool
 | n,[]=>(n,[])
 | n,b :: r=>if n=8 then(n,b :: r) else if b then hgt (n+1) r else(n,r)
def znj(x:Bool):List V:=[.bool x]
theorem znk : ∀ (l : List Bool) (n : Nat), 1 <= n -> n <= 8 -> 1 <= (hgt n l).1 /\ (hgt n l).1 <= 8
 | [],n,h1,h2=>⟨h1,h2⟩
 | b :: r,n,h1,h2=>by
   simp only[hgt];split
   . exact⟨h1,h2⟩
   . split
     . exact znk r (n+1) (by omega) (by omega)
     . exact⟨h1,h2⟩
end Go.Sk
namespace Go.Proofs.Tryz
open Go.L Go.Rp Go.Sk
set_option maxRecDepth 100000
def BitsAt(h:ze)(c:Nat)(cb:Option Nat)(bits:List Bool):Prop:=match cb with
 | none=>bits=[]/\h[c]?=some (.box 1 [.sl 0 [] true])
 | some b=>b≠c/\∃ lo l z,h[c]?=some (.box 1 [.row b 1 lo (lo+bits.length)])/\h[b]?=some (.row 4 1 l z)/\lo+bits.length<=l.length/\(l.take (lo+bits.length)).drop lo=bits.map znj
theorem BitsAt.keep{h h':ze}{c:Nat}{cb:Option Nat}{bits:List Bool}(hb:BitsAt h c cb bits)(hc:h'[c]?=h[c]?)(hk:∀ b,cb=some b->h'[b]?=h[b]?):BitsAt h' c cb bits:=by
 cases cb with
 | none=>exact⟨hb.1,hc.trans hb.2⟩
 | some b =>
   obtain⟨h1,lo,l,z,h2,h3,h4⟩:=hb;exact⟨h1,lo,l,z,hc.trans h2,(hk b rfl).trans h3,h4⟩
theorem zhz(h:ze)(c:Nat):Qq prog h .eql 122 (V.ptr c 0) (V.val (.pointer none))=some (.bool false):=by kernel_rfl
theorem zoZ(n:Nat){h:ze}{c:Nat}{cb:Option Nat}{bits:List Bool}(hb:BitsAt h c cb bits):call (n+1) 243 [.ptr c 0] h=some (.ret [.int .i64 (bits.length:Int)],h):=by
 refine(zjg n c h).trans ?_;unfold zjf Yl Yi Yr Yn;rw[zhz,za,zm,if_neg (by decide)];cases cb with
 | none =>
   obtain⟨rfl,hc⟩:=hb;rw[zI hc,zo,if_pos (by decide)];rfl
 | some b =>
   obtain⟨h1,lo,l,z,h2,h3,h4,h5⟩:=hb;rw[zI h2,zo,if_pos (by decide)];simp only[zb,za];rw[Qm h3 (by omega) h4,za,h5];simp
theorem zgt (n : Nat) {h : ze} {c : Nat} {cb : Option Nat} {bits : List Bool} (hb : BitsAt h c cb bits) :
    ∃ h',call (n+2) 236 [.ptr c 0] h=some (.ret [.bool (bits.headD false)],h')/\BitsAt h' c cb bits.tail/\h'.length=h.length/\∀ i,i≠c->h'[i]?=h[i]?:=by
 rw[show n+2=(n+1)+1 from rfl,zji];unfold zjh Yl Yi Yw Yr Yp;rw[zoZ n hb,zH,zC,ZT,za,zm];cases bits with
 | nil =>
   rw[if_pos (by rfl)];exact⟨h,rfl,hb,rfl,fun _ _=>rfl⟩
 | cons x r =>
   rw[if_neg (by simp;omega)];cases cb with
   | none=>exact absurd hb.1 (by simp)
   | some b =>
     obtain⟨h1,lo,l,z,h2,h3,h4,h5⟩:=hb;have hx:l[lo]?=some [.bool x]:=by
      have:=zqV (l:=l) (lo:=lo) (hi:=lo+(x :: r).length) (i:=0) (by simp);rw[h5] at this;simpa[znj] using this.symm
     have hr:(l.take (lo+1+r.length)).drop (lo+1)=r.map znj:=by
      have:((l.take (lo+(x :: r).length)).drop lo).drop 1=r.map znj:=by rw[h5];rfl
      rw[List.drop_drop] at this;rw[show lo+1+r.length=lo+(x :: r).length by simp;omega];exact this
     have hs:Je 1 1 (x :: r).length none true (.row b 1 lo (lo+(x :: r).length))=some (.row b 1 (lo+1) (lo+1+r.length)):=by
      rw[Q2 (by simp) (by omega)];congr 2;simp;omega
     have hcl:=zQ h2;rw[zI h2,zo,if_pos (by decide)];simp only[zb,za];rw[Z3 (by simp),za,z8,ZJ h3 (by decide) hx,zo,if_pos (by decide)];simp only[zb,za];rw[zo,if_pos (by decide)];simp only[zb,za];rw[KG,za,Qy,hs,za];simp only[V.cells,zD,zP,zq,if_true];rw[Zx h2 (by simp),zZ];refine⟨_,rfl,⟨h1,lo+1,l,z,?_,?_,?_,hr⟩,by rw[zw],fun i hi=>zd (Ne.symm hi)⟩
     . rw[ZU hcl];rfl
     . rw[zd (Ne.symm h1)];exact h3
     . simp at h4 ⊢;omega
theorem zjo(n:Nat){c:Nat}{cb:Option Nat}:∀ (bits:List Bool) (k N:Nat) (h:ze),BitsAt h c cb bits->1<=k->k<=8->8 < N+k →
    ∃ h',zV N (Yv (n+2) c) [.int .i64 (k:Int)] h=some (.ret [.int .i64 ((hgt k bits).1:Int)],h')/\BitsAt h' c cb (hgt k bits).2/\h'.length=h.length/\∀ i,i≠c->h'[i]?=h[i]?:=by
 intro bits
 induction bits with
 | nil =>
   intro k N h hb h1 h2 hN;obtain⟨N,rfl⟩:∃ N',N=N'+1:=⟨N - 1,by omega⟩;rw[zK];unfold Yv Yi Ya Yr Yp;simp only[gv,zg,ZT,za,zm];by_cases h8:k=8
   . subst h8;exact⟨h,rfl,hb,rfl,fun _ _=>rfl⟩
   . rw[if_neg (by simp;omega)];obtain⟨h',e,b1,b2,b3⟩:=zgt n hb;rw[e,zH,zC];exact⟨h',rfl,b1,b2,b3⟩
 | cons x r ih =>
   intro k N h hb h1 h2 hN;obtain⟨N,rfl⟩:∃ N',N=N'+1:=⟨N - 1,by omega⟩;rw[zK];unfold Yv Yi Ya Yr Yp;simp only[gv,zg,ZT,za,zm];by_cases h8:k=8
   . subst h8;exact⟨h,rfl,by simpa[hgt] using hb,rfl,fun _ _=>rfl⟩
   . rw[if_neg (by simp;omega)];obtain⟨h',e,b1,b2,b3⟩:=zgt n hb;rw[e,zH,zC];simp only[hgt,if_neg h8];cases x with
     | false=>exact⟨h',rfl,b1,b2,b3⟩
     | true =>
       simp only[List.headD_cons,Yu,Jv,za,zm,zt,if_false,zA,if_true];rw[Xl (show k < lim by unfold lim;omega)];obtain⟨h'',e',d1,d2,d3⟩:=ih (k+1) N h' b1 (by omega) (by omega) (by omega);exact⟨h'',e',d1,d2.trans b2,fun i hi=>(d3 i hi).trans (b3 i hi)⟩
theorem zdf (n : Nat) {h : ze} {c : Nat} {cb : Option Nat} {bits : List Bool} (hb : BitsAt h c cb bits) (hn : 8 <= n) :
    ∃ h',call (n+3) 227 [.ptr c 0] h=some (.ret [.int .i64 ((hgt 1 bits).1:Int)],h')/\BitsAt h' c cb (hgt 1 bits).2/\h'.length=h.length/\∀ i,i≠c->h'[i]?=h[i]?:=by
 rw[show n+3=(n+2)+1 from rfl,zfC];unfold zeF;exact zjo n bits 1 (n+2) h hb (zn _) (by omega) (by omega)
structure Fed(h h':ze)(c:Nat)(cb cb':Option Nat):Prop where
 len:h.length<=h'.length
 old:∀ i,i < h.length->i≠c->cb≠some i->h'[i]?=h[i]?
 own:∀ b,cb'=some b->cb=some b\/h.length<=b
theorem Fed.refl(h:ze)(c:Nat)(cb:Option Nat):Fed h h c cb cb:=⟨zn _,fun _ _ _ _=>rfl,fun _ h=>.inl h⟩
theorem Fed.trans{h h' h'':ze}{c:Nat}{cb cb' cb'':Option Nat}(a:Fed h h' c cb cb')(b:Fed h' h'' c cb' cb''):Fed h h'' c cb cb'' :=
 ⟨ZY a.len b.len,fun i h1 h2 h3=>(b.old i (by have:=a.len;omega) h2 fun e=>by rcases a.own i e with h|h;exact h3 h;omega).trans (a.old i h1 h2 h3),fun x hx=>by
  rcases b.own x hx with h|h
  . exact a.own x h
  . exact .inr (by have:=a.len;omega)⟩
theorem zfF(n:Nat)(h:ze):call (n+1) 62 [] h=some (.ret [.ptr h.length 0],h++[.box 1 [.sl 0 [] true]]):=zlH n h
end Go.Proofs.Tryz
namespace Go.Cm
open Go.L
def cel(x:Int):List V:=[.int .i64 x]
def XZ(l:List Int)(a:Int):Option Int:=if a < 0 then none else l[a.toNat]?
def ldV(l:List Int)(a:Int):Int:=(XZ l a).getD 0
def inc(st:Int):Int:=IntKind.i64.wrap (st+1)
def ldS(l:List Int)(a st:Int):Int:=if (XZ l a).isSome then inc st else st
def stL(l:List Int)(a v:Int):List Int:=if a < 0 then l else l.set a.toNat v
theorem XK(l:List Int)(a v:Int):(stL l a v).length=l.length:=by unfold stL;split <;> simp
theorem zjp{l:List Int}{a:Int}(h:XZ l a=none)(v:Int):stL l a v=l:=by
 unfold XZ at h;unfold stL;split
 . rfl
 . rename_i h0;rw[if_neg h0] at h;exact Wy (XS.1 h)
theorem jv{l:List Int}{a x:Int}(h:XZ l a=some x)(v:Int):stL l a v=l.set a.toNat v/\0<=a/\l[a.toNat]?=some x:=by
 unfold XZ at h;split at h
 . cases h
 . rename_i h0;exact⟨by unfold stL;rw[if_neg h0],by omega,h⟩
structure Fr(h h':ze)(w:List Nat):Prop where
 len:h.length<=h'.length
 old:∀ i,i < h.length->i ∉ w->h'[i]?=h[i]?
theorem Fr.refl(h:ze)(w:List Nat):Fr h h w:=⟨zn _,fun _ _ _=>rfl⟩
theorem Fr.trans{h h' h'':ze}{w:List Nat}(a:Fr h h' w)(b:Fr h' h'' w):Fr h h'' w :=
 ⟨ZY a.len b.len,fun i h1 h2=>(b.old i (by have:=a.len;omega) h2).trans (a.old i h1 h2)⟩
theorem Fr.mono{h h':ze}{w w':List Nat}(a:Fr h h' w)(hw:∀ i∈w,i∈w'):Fr h h' w':=⟨a.len,fun i h1 h2=>a.old i h1 fun e=>h2 (hw i e)⟩
theorem Fr.set{h:ze}{b:Nat}(x:HB){w:List Nat}(hb:b∈w):Fr h (h.set b x) w :=
 ⟨by simp,fun i _ h2=>zd (by rintro rfl;exact h2 hb)⟩
theorem Fr.app{h:ze}(l:ze)(w:List Nat):Fr h (h++l) w:=⟨by simp,fun i h1 _=>zk h1⟩
end Go.Cm
namespace Go.Proofs.Tryz
open Go.L Go.Rp Go.Cm
set_option maxRecDepth 100000
theorem zaw{l:List Int}{a x:Int}(h:XZ l a=some x):(l.map cel)[a.toNat]?=some (cel x):=by
 rw[zF,(jv h 0).2.2];rfl
theorem znl(h:ze)(es:List (V×V)):Yy (h++[.map es]) (.map h.length)=some es:=by simp[Yy]
def MemAt(h:ze)(m rb:Nat)(sz:Int)(l:List Int)(st:Int):Prop :=
 m≠rb/\h[m]?=some (.box 3 [.int .i64 sz,.row rb 1 0 l.length,.int .i64 st])/\∃ z,h[rb]?=some (.row 2 1 (l.map cel) z)
theorem MemAt.keep{h h':ze}{m rb:Nat}{sz:Int}{l:List Int}{st:Int}(A:MemAt h m rb sz l st)(h1:h'[m]?=h[m]?)(h2:h'[rb]?=h[rb]?):MemAt h' m rb sz l st:=by
 obtain⟨a,b,z,c⟩:=A;exact⟨a,h1.trans b,z,h2.trans c⟩
theorem MemAt.lt{h:ze}{m rb:Nat}{sz:Int}{l:List Int}{st:Int}(A:MemAt h m rb sz l st):m < h.length/\rb < h.length:=by
 obtain⟨a,b,z,c⟩:=A;exact⟨zQ b,zQ c⟩
theorem MemAt.fr{h h':ze}{m rb:Nat}{sz:Int}{l:List Int}{st:Int}(A:MemAt h m rb sz l st){w:List Nat}(F:Fr h h' w)(h1:m ∉ w)(h2:rb ∉ w):MemAt h' m rb sz l st :=
 A.keep (F.old _ A.lt.1 h1) (F.old _ A.lt.2 h2)
theorem KV(h:ze)(c:Nat):Qq prog h .eql 58 (V.ptr c 0) (V.val (.pointer none))=some (.bool false):=by kernel_rfl
theorem qV(h:ze)(b sz i c:Nat):Qq prog h .eql 167 (V.rptr b sz i c) (V.val (.pointer none))=some (.bool false):=by kernel_rfl
theorem zbe(h:ze):Qq prog h .eql 167 (V.val (.pointer none)) (V.val (.pointer none))=some (.bool true):=by kernel_rfl
theorem ztp(a:Int):bop prog .eql 97 (.int .u16 a) (.int .u16 0)=some (.bool (a == 0)):=by kernel_rfl
theorem KW(a b:Int):bop prog .eql 2 (.int .i64 a) (.int .i64 b)=some (.bool (a == b)):=by kernel_rfl
theorem QV(a b:Int):bop prog .neq 2 (.int .i64 a) (.int .i64 b)=some (.bool (a != b)):=by kernel_rfl
theorem zjq(a b:Int):bop prog .add 2 (.int .i64 a) (.int .i64 b)=some (.int .i64 (IntKind.i64.wrap (a+b))):=by kernel_rfl
theorem qW (n : Nat) {h : ze} {m e : Nat} {a b : V} {st x : Int} (hm : h[m]? = some (.box 3 [a, b, .int .i64 st])) (he : h[e]? = some (.box 1 [.int .u16 x])) :
    dcl n 90 [.ptr m 0,.ptr e 0] h none=some (if x=0 then h.set m (.box 3 [a,b,.int .i64 (inc st)]) else h,false):=by
 rw[zlz];unfold zm5 Yl Yi Yw Ya;rw[zI he,zo,if_pos (by decide)];simp only[zb,za];rw[ztp,za,zm];by_cases hx:x=0
 . subst hx;rw[if_pos (by rfl),if_pos rfl,zI hm,zo,if_pos (by decide)];simp only[zb,zh,za];rw[zA,za];simp only[V.cells,zD,zP,zq,if_true];rw[Zx hm (by simp),zZ];rfl
 . rw[if_neg (by simpa using hx),if_neg hx]
theorem zqW (n : Nat) {h : ze} {m rb : Nat} {sz : Int} {l : List Int} {st : Int} (A : MemAt h m rb sz l st) (a : Int) :
    call (n+1) 89 [.ptr m 0,.int .i64 a] h=some (.ret [match XZ l a with|some _=>.rptr rb 1 a.toNat 0|none=>.val (.pointer none)],h):=by
 obtain⟨h1,h2,z,h3⟩:=A;rw[ztj];unfold zwj Yl Yi Yx Yr Yn;rw[KV,za,zm,if_neg (by decide)];have hll:(l.map cel).length=l.length:=zp ..;by_cases h0:a < 0
 . rw[if_pos (by simpa using h0)];unfold XZ;rw[if_pos h0]
 . rw[if_neg (by simpa using h0),zI h2,zo,if_pos (by decide)];simp only[zb,zh,za];rw[<- hll,Jh h3,za];by_cases h4:(l.length:Int)<=a
   . rw[if_pos (by simpa using h4)];unfold XZ;rw[if_neg h0,zS (by omega)]
   . rw[if_neg (by simpa using h4),zo,if_pos (by decide)];simp only[zb,zh,za];rw[nv_int (by omega),zB,Z3 (by omega),za];unfold XZ;rw[if_neg h0,zf (by omega),zq]
theorem ztq (n : Nat) {h : ze} {m rb : Nat} {sz : Int} {l : List Int} {st : Int} (A : MemAt h m rb sz l st) (a : Int) :
    ∃ h' e,call (n+2) 51 [.ptr m 0,.int .i64 a] h=some (.ret [.int .i64 (ldV l a),.int .u16 e],h')/\MemAt h' m rb sz l (ldS l a st)/\Fr h h' [m]:=by
 rw[show n+2=(n+1)+1 from rfl,zoI];unfold zqC Yl Yi Yr Yn Yp;rw[zqW n A,zH,zC];unfold ldV ldS;cases hg:XZ l a with
 | none =>
   simp only;rw[zbe,za,zm,if_pos rfl];exact⟨_,_,rfl,A,.refl _ _⟩
 | some x =>
   have A0:=A;obtain⟨h1,h2,z,h3⟩:=A;simp only;have hml:=zQ h2;have hrl:=zQ h3;rw[qV,za,zm,if_neg (by decide),show ZD 0 (V.rptr rb 1 a.toNat 0)=some (V.rptr rb 1 a.toNat 0) from rfl,za];have e3:(h++[HB.box 1 [(V.int .u16 0)]])[rb]?=some (.row 2 1 (l.map cel) z):=by rw[zk hrl];exact h3
   have e2:(h++[HB.box 1 [(V.int .u16 0)]])[m]?=some (.box 3 [.int .i64 sz,.row rb 1 0 l.length,.int .i64 st]):=by rw[zk hml];exact h2
   have e4:(h++[HB.box 1 [(V.int .u16 0)]])[h.length]?=some (.box 1 [V.int .u16 0]):=zx;rw[ZJ e3 (by decide) (zaw hg),zo,if_pos (by decide)];unfold cel;simp only[zb,za];rw[Zx e4 (by simp),zZ,show setR [V.int .u16 0] 0 [V.int .u16 0]=[V.int .u16 0] from rfl,show ((h++[HB.box 1 [V.int .u16 0]]).set h.length (HB.box 1 [V.int .u16 0]))=h++[HB.box 1 [V.int .u16 0]] from by rw[Zi _ _ (zn _)];simp];rw[qW (n+1) e2 e4,zZ,if_pos rfl];have e5:((h++[HB.box 1 [V.int .u16 0]]).set m (.box 3 [.int .i64 sz,.row rb 1 0 l.length,.int .i64 (inc st)]))[h.length]?=some (.box 1 [V.int .u16 0]):=by rw[zd (by omega)];exact e4
   rw[zI e5,zo,if_pos (by decide)];simp only[zb,za];refine⟨_,_,rfl,⟨h1,ZU (by simp;omega) _,z,?_⟩,(Fr.app _ _).trans (.set _ (by simp))⟩;rw[zd h1];exact e3
theorem qX (n : Nat) {h : ze} {m rb : Nat} {sz : Int} {l : List Int} {st : Int} (A : MemAt h m rb sz l st) (a v : Int) :
    ∃ h' e,call (n+2) 52 [.ptr m 0,.int .i64 a,.int .i64 v] h=some (.ret [.int .u16 e],h')/\MemAt h' m rb sz (stL l a v) (ldS l a st)/\Fr h h' [m,rb]:=by
 rw[show n+2=(n+1)+1 from rfl,zlB];unfold zm7 Yl Yi Yr Yn Yp;rw[zqW n A,zH,zC];unfold ldS;cases hg:XZ l a with
 | none =>
   simp only;rw[zbe,za,zm,if_pos rfl,zjp hg];exact⟨_,_,rfl,A,.refl _ _⟩
 | some x =>
   obtain⟨h1,h2,z,h3⟩:=A;simp only;have hml:=zQ h2;have hrl:=zQ h3;rw[qV,za,zm,if_neg (by decide),show ZD 0 (V.rptr rb 1 a.toNat 0)=some (V.rptr rb 1 a.toNat 0) from rfl,za];have e3:(h++[HB.box 1 [(V.int .u16 0)]])[rb]?=some (.row 2 1 (l.map cel) z):=by rw[zk hrl];exact h3
   have e2:(h++[HB.box 1 [(V.int .u16 0)]])[m]?=some (.box 3 [.int .i64 sz,.row rb 1 0 l.length,.int .i64 st]):=by rw[zk hml];exact h2
   have e4:(h++[HB.box 1 [(V.int .u16 0)]])[h.length]?=some (.box 1 [V.int .u16 0]):=zx;rw[QU e3 (by decide) (by simp) (zaw hg),zZ];have es:((l.map cel).set a.toNat (setR (cel x) 0 [V.int .i64 v]))=(stL l a v).map cel:=by
    rw[(jv hg v).1,Qo];rfl
   rw[es];generalize hh1:(h++[HB.box 1 [V.int .u16 0]]).set rb (.row 2 1 ((stL l a v).map cel) z)=g;have g3:g[rb]?=some (.row 2 1 ((stL l a v).map cel) z):=by rw[<- hh1];exact ZU (by simp;omega) _
   have g2:g[m]?=some (.box 3 [.int .i64 sz,.row rb 1 0 (stL l a v).length,.int .i64 st]):=by rw[<- hh1,zd h1.symm,e2,XK]
   have g4:g[h.length]?=some (.box 1 [V.int .u16 0]):=by rw[<- hh1,zd (by omega)];exact e4
   have gF:Fr h g [m,rb]:=by rw[<- hh1];exact(Fr.app _ _).trans (.set _ (by simp))
   rw[Zx g4 (by simp),zZ,show setR [V.int .u16 0] 0 [V.int .u16 0]=[V.int .u16 0] from rfl];have k2:(g.set h.length (HB.box 1 [V.int .u16 0]))[m]?=_:=(zd (by omega)).trans g2;have k4:(g.set h.length (HB.box 1 [V.int .u16 0]))[h.length]?=some (.box 1 [V.int .u16 0]):=ZU (zQ g4) _;have k3:(g.set h.length (HB.box 1 [V.int .u16 0]))[rb]?=_:=(zd (by omega)).trans g3;have kF:Fr h (g.set h.length (HB.box 1 [V.int .u16 0])) [m,rb]:=⟨by simpa using gF.len,fun i q1 q2=>(zd (by omega)).trans (gF.old i q1 q2)⟩;rw[qW (n+1) k2 k4,zZ,if_pos rfl];have e5:((g.set h.length (HB.box 1 [V.int .u16 0])).set m (.box 3 [.int .i64 sz,.row rb 1 0 (stL l a v).length,.int .i64 (inc st)]))[h.length]?=some (.box 1 [V.int .u16 0]):=by rw[zd (by omega)];exact k4
   rw[zI e5,zo,if_pos (by decide)];simp only[zb,za];refine⟨_,_,rfl,⟨h1,ZU (zQ k2) _,z,?_⟩,kF.trans (.set _ (by simp))⟩;rw[zd h1];exact k3
theorem ztr (n : Nat) {h : ze} {m rb : Nat} {sz : Int} {l : List Int} {st : Int} (A : MemAt h m rb sz l st) (a u v : Int) :
    ∃ h' e,call (n+2) 147 [.ptr m 0,.int .i64 a,.int .i64 u,.int .i64 v] h=some (.ret [.bool (XZ l a == some u),.int .u16 e],h')/\MemAt h' m rb sz (if (XZ l a == some u)=true then stL l a v else l) (ldS l a st)/\Fr h h' [m,rb]:=by
 rw[show n+2=(n+1)+1 from rfl,zoJ];unfold zqD Yl Yi Yr Yn Yp;rw[zqW n A,zH,zC];unfold ldS;cases hg:XZ l a with
 | none =>
   simp only;rw[zbe,za,zm,if_pos rfl];exact⟨_,_,rfl,A,.refl _ _⟩
 | some x =>
   obtain⟨h1,h2,z,h3⟩:=A;simp only;have hml:=zQ h2;have hrl:=zQ h3;rw[qV,za,zm,if_neg (by decide),show ZD 0 (V.rptr rb 1 a.toNat 0)=some (V.rptr rb 1 a.toNat 0) from rfl,za];have e3:(h++[HB.box 1 [(V.int .u16 0)]])[rb]?=some (.row 2 1 (l.map cel) z):=by rw[zk hrl];exact h3
   have e2:(h++[HB.box 1 [(V.int .u16 0)]])[m]?=some (.box 3 [.int .i64 sz,.row rb 1 0 l.length,.int .i64 st]):=by rw[zk hml];exact h2
   have e4:(h++[HB.box 1 [(V.int .u16 0)]])[h.length]?=some (.box 1 [V.int .u16 0]):=zx;rw[ZJ e3 (by decide) (zaw hg),zo,if_pos (by decide),show (cel x)[0]?=some (V.int .i64 x) from rfl,za,QV,za,zm];by_cases hxu:x=u
   . subst hxu;rw[if_neg (by simp)];rw[za];rw[QU e3 (by decide) (by simp) (zaw hg),zZ];have es:((l.map cel).set a.toNat (setR (cel x) 0 [V.int .i64 v]))=(stL l a v).map cel:=by
      rw[(jv hg v).1,Qo];rfl
     rw[es];generalize hh1:(h++[HB.box 1 [V.int .u16 0]]).set rb (.row 2 1 ((stL l a v).map cel) z)=g;have g3:g[rb]?=some (.row 2 1 ((stL l a v).map cel) z):=by rw[<- hh1];exact ZU (by simp;omega) _
     have g2:g[m]?=some (.box 3 [.int .i64 sz,.row rb 1 0 (stL l a v).length,.int .i64 st]):=by rw[<- hh1,zd h1.symm,e2,XK]
     have g4:g[h.length]?=some (.box 1 [V.int .u16 0]):=by rw[<- hh1,zd (by omega)];exact e4
     have gF:Fr h g [m,rb]:=by rw[<- hh1];exact(Fr.app _ _).trans (.set _ (by simp))
     rw[Zx g4 (by simp),zZ,show setR [V.int .u16 0] 0 [V.int .u16 0]=[V.int .u16 0] from rfl];have k2:(g.set h.length (HB.box 1 [V.int .u16 0]))[m]?=_:=(zd (by omega)).trans g2;have k4:(g.set h.length (HB.box 1 [V.int .u16 0]))[h.length]?=some (.box 1 [V.int .u16 0]):=ZU (zQ g4) _;have k3:(g.set h.length (HB.box 1 [V.int .u16 0]))[rb]?=_:=(zd (by omega)).trans g3;have kF:Fr h (g.set h.length (HB.box 1 [V.int .u16 0])) [m,rb]:=⟨by simpa using gF.len,fun i q1 q2=>(zd (by omega)).trans (gF.old i q1 q2)⟩;rw[qW (n+1) k2 k4,zZ,if_pos rfl];have e5:((g.set h.length (HB.box 1 [V.int .u16 0])).set m (.box 3 [.int .i64 sz,.row rb 1 0 (stL l a v).length,.int .i64 (inc st)]))[h.length]?=some (.box 1 [V.int .u16 0]):=by rw[zd (by omega)];exact k4
     rw[zI e5,zo,if_pos (by decide)];simp only[zb,za];refine⟨_,_,by rw[show (some x == some x)=true by simp],⟨h1,?_,z,?_⟩,kF.trans (.set _ (by simp))⟩
     . rw[if_pos (by simp)];exact ZU (zQ k2) _
     . rw[if_pos (by simp),zd h1];exact k3
   . have hb:(some x == some u)=false:=by simpa using hxu
     rw[if_pos (by simpa using hxu),hb,if_neg (by decide),Zx e4 (by simp),zZ,show setR [V.int .u16 0] 0 [V.int .u16 0]=[V.int .u16 0] from rfl,show ((h++[HB.box 1 [V.int .u16 0]]).set h.length (HB.box 1 [V.int .u16 0]))=h++[HB.box 1 [V.int .u16 0]] from by rw[Zi _ _ (zn _)];simp];rw[qW (n+1) e2 e4,zZ,if_pos rfl];have e5:((h++[HB.box 1 [V.int .u16 0]]).set m (.box 3 [.int .i64 sz,.row rb 1 0 l.length,.int .i64 (inc st)]))[h.length]?=some (.box 1 [V.int .u16 0]):=by rw[zd (by omega)];exact e4
     rw[zI e5,zo,if_pos (by decide)];simp only[zb,za];refine⟨_,_,rfl,⟨h1,ZU (by simp;omega) _,z,?_⟩,(Fr.app _ _).trans (.set _ (by simp))⟩;rw[zd h1];exact e3
end Go.Proofs.Tryz
namespace Go.Proofs.Tryz
open Go.L
set_option maxRecDepth 100000
noncomputable def zvr(n:Nat)(x0:Int)(h:ze):Option (Res×ze) :=
 Yr [(V.ptr (h).length 0)] (h++[(HB.box 2 [(V.sl 0 [] true),(V.int .i64 (if 0 < (if 1000 < x0 then 1000 else x0) then(if 1000 < x0 then 1000 else x0) else 0))])])
theorem zo0(n x0 h):call (n+1) 57 [(V.int .i64 x0)] h=zvr n x0 h:=by kernel_rfl
noncomputable def zhA(n s:Nat)(x:Int)(h:ze):Option (Res×ze) :=
 (cl (call n 180 [(V.ptr s 0),(V.int .i32 x)] h) (fun b a =>
 (Zm b fun c =>
 (bv c fun d=>if d then
 Yr [(V.agg [(V.int .u8 1),(V.int .i32 0)])] a
 else
 Yr [(V.agg [(V.int .u8 3),(V.int .i32 0)])] a))) Yp)
theorem zeM(n s x h):call (n+1) 189 [(V.ptr s 0),(V.int .i32 x)] h=zhA n s x h:=by kernel_rfl
noncomputable def zlO(n s:Nat)(h:ze):Option (Res×ze) :=
 (cl (call n 184 [(V.ptr s 0)] h) (fun b c =>
 (bd (b)[0]? fun d =>
 (bd (b)[1]? fun e =>
 (bv e fun f=>if f then
 (bd (Wz prog 35 [(0,(V.int .u8 2)),(1,d)]) fun a =>
 (if (a).length=2 then
 (Yg ((a).length<=2) (Yr [(V.agg (((setR [(V.int .u8 0),(V.int .i32 0)] 0 a)).drop 0 |>.take 2))] c)) else none))
 else
 Yr [(V.agg [(V.int .u8 4),(V.int .i32 0)])] c)))) Yp)
noncomputable def zhB(n s:Nat)(x:Int)(h:ze):Option (Res×ze) :=
 (Yi (Qq prog h .eql 109 (V.ptr s 0) Yn)
 (Yr [(V.bool false)] h)
 (Yl h (V.ptr s 0) fun b =>
 (bd (ZI h b) fun c =>
 (Yl h (V.ptr s 1) fun d =>
 (Yi (bop prog .geq 3 (V.int .i64 ((c.2).length:Int)) d)
 (Yr [(V.bool false)] h)
 (Yl h (V.ptr s 0) fun e =>
 (bd2 (Ws 21 1 h [[(V.int .i32 x)]] e) fun f a =>
 (Yw f a (V.ptr s 0) fun g i =>
 Yr [(V.bool true)] ((a).set g i)))))))))
theorem zeN(n s x h):call (n+1) 180 [(V.ptr s 0),(V.int .i32 x)] h=zhB n s x h:=by kernel_rfl
noncomputable def zlP(n s:Nat)(h:ze):Option (Res×ze) :=
 (cl (call n 169 [(V.ptr s 0)] h) (fun d a =>
 (Zm d fun e =>
 (Yi (bop prog .eql 3 e (V.int .i64 0))
 (Yr [(V.int .i32 0),(V.bool false)] a)
 (Yl a (V.ptr s 0) fun f =>
 (bd (ZI a f) fun b =>
 (Yl a (V.ptr s 0) fun g =>
 (Yx 1 (V.int .i64 (IntKind.i64.wrap (((b.2).length:Int) - 1))) g fun i =>
 (Yl a i fun j =>
 (Yl a (V.ptr s 0) fun c =>
 (bd (zcm c) fun p =>
 (bdS (nv (V.int .i64 (IntKind.i64.wrap (((b.2).length:Int) - 1)))) fun k =>
 (bd (Je 1 0 k (none:Option Nat) true c) fun l =>
 (Yw l a (V.ptr s 0) fun m o =>
 Yr [j,(V.bool true)] ((a).set m o)))))))))))))) Yp)
theorem zgu(n s h):call (n+1) 184 [(V.ptr s 0)] h=zlP n s h:=by kernel_rfl
noncomputable def zjr(n s:Nat)(h:ze):Option (Res×ze) :=
 (Yi (Qq prog h .eql 109 (V.ptr s 0) Yn)
 (Yr [(V.row (h).length 1 0 0)] (h++[(HB.row 21 1 [] true)]))
 (Yl h (V.ptr s 0) fun b =>
 (bd (ZI h b) fun a =>
 (Yg ((a.1=1\/(a.2).isEmpty=true)/\(a.2).length < lim) (Yr [(V.row (h).length 1 0 (a.2).length)] (h++[(HB.row 21 1 a.2 true)]))))))
theorem zjs(n s h):call (n+1) 168 [(V.ptr s 0)] h=zjr n s h:=by kernel_rfl
noncomputable def zqX(n s:Nat)(h:ze):Option (Res×ze) :=
 (Yi (Qq prog h .eql 109 (V.ptr s 0) Yn)
 (Yr [(V.int .i64 0)] h)
 (Yl h (V.ptr s 0) fun a =>
 (bd (ZI h a) fun b =>
 Yr [(V.int .i64 ((b.2).length:Int))] h)))
theorem zo1(n s h):call (n+1) 169 [(V.ptr s 0)] h=zqX n s h:=by kernel_rfl
noncomputable def znm(n s:Nat)(h:ze):Option (Res×ze) :=
 (Yi (Qq prog h .eql 109 (V.ptr s 0) Yn)
 (Yr [(V.int .i64 0)] h)
 (Yl h (V.ptr s 1) fun a =>
 Yr [a] h))
theorem zlQ(n s h):call (n+1) 178 [(V.ptr s 0)] h=znm n s h:=by kernel_rfl
noncomputable def zqY(n s:Nat)(x:Int)(h:ze):Option (Res×ze) :=
 (if (decide (0 ≥ 3)) then
 Yr [(V.agg [(V.int .u8 5),(V.int .i32 0)])] h
 else
 Yr [(V.agg [(V.int .u8 5),(V.int .i32 0)])] h)
theorem zo2(n s x h):call (n+2) 177 [(V.ptr s 0),(V.agg [(V.int .u8 0),(V.int .i32 x)])] h=zqY (n+1) s x h:=by kernel_rfl
noncomputable def zlR(n s:Nat)(x:Int)(h:ze):Option (Res×ze) :=
 (if (decide (1 ≥ 3)) then
 Yr [(V.agg [(V.int .u8 5),(V.int .i32 0)])] h
 else
 (cl (call n 189 [(V.ptr s 0),(V.int .i32 x)] h) (fun c a =>
 (Zm c fun b =>
 (Yc b 2 (Yr [(V.agg (((setR [(V.int .u8 0),(V.int .i32 0)] 0 (V.cells b))).drop 0 |>.take 2))] a)))) (fun d a=>none)))
theorem zgv(n s x h):call (n+2) 177 [(V.ptr s 0),(V.agg [(V.int .u8 1),(V.int .i32 x)])] h=zlR (n+1) s x h:=by kernel_rfl
noncomputable def zlS(n s:Nat)(x:Int)(h:ze):Option (Res×ze) :=
 (if (decide (2 ≥ 3)) then
 Yr [(V.agg [(V.int .u8 5),(V.int .i32 0)])] h
 else
 (cl (call n 190 [(V.ptr s 0),(V.int .i32 x)] h) (fun c a =>
 (Zm c fun b =>
 (Yc b 2 (Yr [(V.agg (((setR [(V.int .u8 0),(V.int .i32 0)] 0 (V.cells b))).drop 0 |>.take 2))] a)))) (fun d a=>none)))
theorem zgw(n s x h):call (n+2) 177 [(V.ptr s 0),(V.agg [(V.int .u8 2),(V.int .i32 x)])] h=zlS (n+1) s x h:=by kernel_rfl
end Go.Proofs.Tryz
namespace Go.Sk
open Go.L
def jz(x:Int):List V:=[.int .i32 x]
def zjt(c v:Int):V:=.agg [.int .u8 c,.int .i32 v]
def Qh(most:Int)(c x:Int)(xs:List Int):(Int×Int)×List Int :=
 if c=1 then(if (xs.length:Int) < most then((1,0),xs++[x]) else((3,0),xs))
 else if c=2 then(match xs.getLast? with|some y=>((2,y),xs.dropLast)|none=>((4,0),xs))
 else((5,0),xs)
end Go.Sk
namespace Go.Proofs.Tryz
open Go.L Go.Rp Go.Sk
set_option maxRecDepth 100000
def StkAt(h:ze)(s:Nat)(sb:Option Nat)(most:Int)(xs:List Int):Prop:=match sb with
 | none=>xs=[]/\h[s]?=some (.box 2 [.sl 0 [] true,.int .i64 most])
 | some b=>b≠s/\∃ l z,h[s]?=some (.box 2 [.row b 1 0 xs.length,.int .i64 most])/\h[b]?=some (.row 21 1 l z)/\xs.length<=l.length/\l.take xs.length=xs.map jz
theorem StkAt.keep{h h':ze}{s:Nat}{sb:Option Nat}{most:Int}{xs:List Int}(hb:StkAt h s sb most xs)(hc:h'[s]?=h[s]?)(hk:∀ b,sb=some b->h'[b]?=h[b]?):StkAt h' s sb most xs:=by
 cases sb with
 | none=>exact⟨hb.1,hc.trans hb.2⟩
 | some b =>
   obtain⟨h1,l,z,h2,h3,h4⟩:=hb;exact⟨h1,l,z,hc.trans h2,(hk b rfl).trans h3,h4⟩
theorem YG(h:ze)(c:Nat):Qq prog h .eql 109 (V.ptr c 0) (V.val (.pointer none))=some (.bool false):=by kernel_rfl
theorem StkAt.box{h:ze}{s:Nat}{sb:Option Nat}{most:Int}{xs:List Int}(hb:StkAt h s sb most xs):∃ v sz,h[s]?=some (.box 2 [v,.int .i64 most])/\ZI h v=some (sz,xs.map jz)/\(sz=1\/xs=[]):=by
 cases sb with
 | none =>
   obtain⟨rfl,hc⟩:=hb;exact⟨_,0,hc,j9 ..,.inr rfl⟩
 | some b =>
   obtain⟨h1,l,z,h2,h3,h4,h5⟩:=hb;refine⟨_,1,h2,?_,.inl rfl⟩;rw[Qm h3 (z2 _) h4,zR,h5]
theorem qa(n:Nat){h:ze}{s:Nat}{sb:Option Nat}{most:Int}{xs:List Int}(hb:StkAt h s sb most xs):call (n+1) 169 [.ptr s 0] h=some (.ret [.int .i64 (xs.length:Int)],h):=by
 obtain⟨v,sz,h1,h2,h3⟩:=hb.box;refine(zo1 n s h).trans ?_;unfold zqX Yl Yi Yr Yn;rw[YG,za,zm,if_neg (by decide),zI h1,zo,if_pos (by decide)];simp only[zb,za];rw[h2,za];simp
theorem zfG(n:Nat){h:ze}{s:Nat}{sb:Option Nat}{most:Int}{xs:List Int}(hb:StkAt h s sb most xs):call (n+1) 178 [.ptr s 0] h=some (.ret [.int .i64 most],h):=by
 obtain⟨v,sz,h1,h2,h3⟩:=hb.box;refine(zlQ n s h).trans ?_;unfold znm Yl Yi Yr Yn;rw[YG,za,zm,if_neg (by decide),zI h1,zo,if_pos (by decide)];rfl
theorem zeO(n:Nat){h:ze}{s:Nat}{sb:Option Nat}{most:Int}{xs:List Int}(hb:StkAt h s sb most xs)(hl:xs.length < lim):call (n+1) 168 [.ptr s 0] h=some (.ret [.row h.length 1 0 xs.length],h++[.row 21 1 (xs.map jz) true]):=by
 obtain⟨v,sz,h1,h2,h3⟩:=hb.box;refine(zjs n s h).trans ?_;unfold zjr Yl Yi Yg Yr Yn;rw[YG,za,zm,if_neg (by decide),zI h1,zo,if_pos (by decide)];simp only[zb,za];rw[h2,za,if_pos ⟨h3.imp id (fun e=>by rw[e];rfl),by simpa using hl⟩,zp]
theorem zfH(n:Nat){h:ze}{s:Nat}{sb:Option Nat}{most:Int}{xs:List Int}(hb:StkAt h s sb most xs)(x:Int)(hm:most<=xs.length):call (n+1) 180 [.ptr s 0,.int .i32 x] h=some (.ret [.bool false],h):=by
 obtain⟨v,sz,h1,h2,h3⟩:=hb.box;refine(zeN n s x h).trans ?_;unfold zhB Yl Yi Yw Yr Yn;rw[YG,za,zm,if_neg (by decide),zI h1,zo,if_pos (by decide)];simp only[zb,za];rw[h2,za,zI h1,zo,if_pos (by decide)];simp only[zb,zh,za];rw[Z7,za,zm,if_pos (by simpa using hm)]
theorem zaP (n : Nat) {h : ze} {s : Nat} {sb : Option Nat} {most : Int} {xs : List Int} (hb : StkAt h s sb most xs) (x : Int) (hm : (xs.length : Int) < most) (hl : xs.length + 1 < lim) :
    ∃ h' sb',call (n+1) 180 [.ptr s 0,.int .i32 x] h=some (.ret [.bool true],h')/\StkAt h' s sb' most (xs++[x])/\Fed h h' s sb sb':=by
 rw[zeN n s x h];unfold zhB Yl Yi Yw Yr Yn;rw[YG,za,zm,if_neg (by decide)];cases sb with
 | none =>
   obtain⟨rfl,hc⟩:=hb;have hcl:=zQ hc;rw[zI hc,zo,if_pos (by decide)];simp only[zb,za];rw[j9,za,zI hc,zo,if_pos (by decide)];simp only[zb,zh,za];rw[Z7,za,zm,if_neg (by simpa using hm),zo,if_pos (by decide)];simp only[zb,za];have jj:Ws 21 1 h [[.int .i32 x]] (.sl 0 [] true)=some (.row h.length 1 0 1,h++[.row 21 1 [[.int .i32 x]] true]):=rfl;simp only[jj,zZ,V.cells,zD,zP,zq,if_true];have hc':(h++[HB.row 21 1 [[.int .i32 x]] true])[s]?=some (.box 2 [.sl 0 [] true,.int .i64 most]):=by rw[zk hcl];exact hc
   rw[Zx hc' (by simp),zZ];refine⟨_,some h.length,rfl,⟨by omega,[[.int .i32 x]],true,?_,?_,?_,?_⟩,⟨by simp,fun j h1 h2 h3=>?_,fun b hb=>.inr (by cases hb;exact zn _)⟩⟩
   . rw[ZU (by simp;omega)];rfl
   . rw[zd (by omega)];exact zx
   . simp
   . simp[jz]
   . rw[zd (by omega),zk h1]
 | some b =>
   obtain⟨h1,l,z,h2,h3,h4,h5⟩:=hb;have hcl:=zQ h2;have hbl:=zQ h3;rw[zI h2,zo,if_pos (by decide)];simp only[zb,za];rw[Qm h3 (z2 _) h4,za,zI h2,zo,if_pos (by decide)];simp only[zb,zh,za];rw[Z7,za,zm,if_neg (by rw[zR,h5];simpa using hm),zo,if_pos (by decide)];simp only[zb,za];have jj:Ws 21 1 h [[.int .i32 x]] (.row b 1 0 xs.length)=some (.row h.length 1 0 (xs.length+1),h.set b .dead++[.row 21 1 (xs.map jz++[[.int .i32 x]]) z]):=by
    simp only[Ws,h3];rw[if_pos (by refine⟨⟨?_,?_,?_⟩,⟨by omega,h4⟩,by simp;omega⟩ <;> first|trivial|rfl),zR,h5];simp
   rw[jj,zZ];simp only[V.cells,zD,zP,zq,if_true];have hc':(h.set b .dead++[HB.row 21 1 (xs.map jz++[[.int .i32 x]]) z])[s]?=some (.box 2 [.row b 1 0 xs.length,.int .i64 most]):=by
    rw[zk (by simpa using hcl),zd h1];exact h2
   rw[Zx hc' (by simp),zZ];refine⟨_,some h.length,rfl,⟨by omega,xs.map jz++[[.int .i32 x]],z,?_,?_,?_,?_⟩,⟨by simp,fun j k1 k2 k3=>?_,fun b hb=>.inr (by cases hb;exact zn _)⟩⟩
   . rw[ZU (by simp;omega)];simp;rfl
   . rw[zd (by omega),zJ (by simp)];simp
   . simp
   . simp[jz,zU]
   . rw[zd (by omega),zk (by simpa using k1),zd (fun e=>k3 (by rw[e]))]
theorem zhC(n:Nat){h:ze}{s:Nat}{sb:Option Nat}{most:Int}(hb:StkAt h s sb most []):call (n+2) 184 [.ptr s 0] h=some (.ret [.int .i32 0,.bool false],h):=by
 rw[show n+2=(n+1)+1 from rfl,zgu];unfold zlP Yl Yi Yw Yx Yr Yp;rw[qa n hb,zH,zC,ZT,za,zm,if_pos (by rfl)]
theorem zbM (n : Nat) {h : ze} {s : Nat} {sb : Option Nat} {most : Int} {xs : List Int} {x : Int} (hb : StkAt h s sb most (xs ++ [x])) (hl : xs.length + 1 < lim) :
    ∃ h',call (n+2) 184 [.ptr s 0] h=some (.ret [.int .i32 x,.bool true],h')/\StkAt h' s sb most xs/\h'.length=h.length/\∀ i,i≠s->h'[i]?=h[i]?:=by
 rw[show n+2=(n+1)+1 from rfl,zgu];unfold zlP Yl Yi Yw Yx Yr Yp;rw[qa n hb,zH,zC,ZT,za,zm,if_neg (by simp;omega)];cases sb with
 | none=>exact absurd hb.1 (by simp)
 | some b =>
   obtain⟨h1,l,z,h2,h3,h4,h5⟩:=hb;rw[zL,ZG] at h2 h4 h5;have hcl:=zQ h2;have hx:l[xs.length]?=some [.int .i32 x]:=by
    have:=congrArg (fun t:List (List V)=>t[xs.length]?) h5;simpa[jz,Ze] using this
   have hr:l.take xs.length=xs.map jz:=by
    have:=congrArg (List.take xs.length) h5;rw[List.take_take,Q3 (by omega)] at this;rw[this,Zo,Qj (by simp),zU (by simp)]
   have hw:IntKind.i64.wrap ((((l.take (xs.length+1)).drop 0).length:Int) - 1)=(xs.length:Int):=by
    rw[zR,h5];rw[show (((List.map jz (xs++[x])).length:Int) - 1)=(xs.length:Int) by simp];unfold lim at hl;rw[w64] <;> omega
   have hn:nv (V.int .i64 (xs.length:Int))=some xs.length:=by simp[nv]
   rw[zI h2,zo,if_pos (by decide)];simp only[zb,za];rw[Qm h3 (z2 _) h4,za,zo,if_pos (by decide)];simp only[zb,za];rw[hw,hn,zB,Z3 (by omega),za,zq,ZJ h3 (by decide) hx,zo,if_pos (by decide)];simp only[zb,za];rw[zo,if_pos (by decide)];simp only[zb,za];rw[KG,za,zB,Q2 (z2 _) (by omega),za];simp only[V.cells,zD,zP,zq,if_true];rw[Zx h2 (by simp),zZ];refine⟨_,rfl,⟨h1,l,z,?_,?_,by omega,hr⟩,by rw[zw],fun i hi=>zd (Ne.symm hi)⟩
   . rw[ZU hcl];rfl
   . rw[zd (Ne.symm h1)];exact h3
theorem zqZ(c v:Int):Wz prog 35 [(0,.int .u8 c),(1,.int .i32 v)]=some [.int .u8 c,.int .i32 v]:=by kernel_rfl
theorem zq0{P:Nat->Prop}{m:Nat}(h:∀ k,3<=k->k < m->P k)(hm:P m):∀ k,3<=k->k < m+1->P k:=fun k h3 hk=>by
 rcases ZX k m with e|e
 . exact h k h3 e
 . obtain rfl:k=m:=by omega
   exact hm
theorem zlT(n s:Nat)(x:Int)(h:ze):∀ k:Nat,3<=k->k < 256->call (n+2) 177 [.ptr s 0,.agg [.int .u8 (k:Int),.int .i32 x]] h=some (.ret [zjt 5 0],h):=by
 iterate 253 (refine zq0 (m:=_) ?_ (by show call _ _ _ _=_;kernel_rfl))
 intro k h1 h2;omega
theorem zju (n : Nat) {h : ze} {s : Nat} {sb : Option Nat} {most : Int} {xs : List Int} (hb : StkAt h s sb most xs) (hl : xs.length + 1 < lim) (c x : Int) (c0 : 0 <= c) (c1 : c < 256) :
    ∃ h' sb',call (n+5) 177 [.ptr s 0,.agg [.int .u8 c,.int .i32 x]] h=some (.ret [zjt (Qh most c x xs).1.1 (Qh most c x xs).1.2],h')/\StkAt h' s sb' most (Qh most c x xs).2/\Fed h h' s sb sb':=by
 obtain⟨k,rfl⟩:∃ k:Nat,c=(k:Int):=⟨c.toNat,(Xx c0).symm⟩;by_cases k3:3<=k
 . have:Qh most (k:Int) x xs=((5,0),xs):=by unfold Qh;rw[if_neg (by omega),if_neg (by omega)]
   rw[this];exact⟨h,sb,zlT (n+3) s x h k k3 (by omega),hb,Fed.refl ..⟩
 obtain rfl|rfl|rfl:k=0\/k=1\/k=2:=by omega
 . exact⟨h,sb,(zo2 (n+3) s x h).trans (by unfold zqY Yr;rw[if_neg (by decide)];rfl),hb,Fed.refl ..⟩
 . by_cases hm:(xs.length:Int) < most
   . obtain⟨h',sb',e,b1,b2⟩:=zaP (n+2) hb x hm hl;have:Qh most ((1:Nat):Int) x xs=((1,0),xs++[x]):=by unfold Qh;rw[if_pos (by decide),if_pos hm]
     rw[this];refine⟨h',sb',(zgv (n+3) s x h).trans ?_,b1,b2⟩;unfold zlR Yc Yr;rw[if_neg (by decide),zeM];unfold zhA Yr Yp;rw[e,zH,zC,zm,if_pos (by rfl)];rfl
   . have e:=zfH (n+2) hb x (by omega);have:Qh most ((1:Nat):Int) x xs=((3,0),xs):=by unfold Qh;rw[if_pos (by decide),if_neg hm]
     rw[this];refine⟨h,sb,(zgv (n+3) s x h).trans ?_,hb,Fed.refl ..⟩;unfold zlR Yc Yr;rw[if_neg (by decide),zeM];unfold zhA Yr Yp;rw[e,zH,zC,zm,if_neg (by decide)];rfl
 . have e2:∀ (m:Nat) (h:ze),call (m+1) 190 [.ptr s 0,.int .i32 x] h=zlO m s h:=fun m h=>by kernel_rfl
   rcases ZH xs with rfl|⟨ys,y,rfl⟩
   . have e:=zhC (n+1) hb;have:Qh most ((2:Nat):Int) x []=((4,0),[]):=rfl;rw[this];refine⟨h,sb,(zgw (n+3) s x h).trans ?_,hb,Fed.refl ..⟩;unfold zlS Yc Yr;rw[if_neg (by decide),e2];unfold zlO Yg Yr Yp;rw[e,zH];rfl
   . rw[QK] at hb hl ⊢;obtain⟨h',e,b1,b2,b3⟩:=zbM (n+1) hb (by simp at hl;omega);have:Qh most ((2:Nat):Int) x (ys++[y])=((2,y),ys):=by unfold Qh;rw[if_neg (by decide),if_pos (by decide)];simp
     rw[this];refine⟨h',sb,(zgw (n+3) s x h).trans ?_,b1,⟨by omega,fun i h1 h2 h3=>b3 i h2,fun b hb=>.inl hb⟩⟩;unfold zlS Yc Yr;rw[if_neg (by decide),e2];unfold zlO Yg Yr Yp;rw[e,zH];simp only[zb,zh,za,zm,if_true];rw[zqZ,za];rfl
end Go.Proofs.Tryz
namespace Go.Proofs.Tryz
open Go.L
set_option maxRecDepth 100000
noncomputable def zhD(n s:Nat)(i:Int)(h:ze):Option (Res×ze) :=
 (Yl h (V.ptr s 1) fun b =>
 (Yl h (V.ptr s 0) fun c =>
 (bd (ZI h c) fun d =>
 (bd (bop prog .add 3 b (V.int .i64 ((d.2).length:Int))) fun e =>
 (Yl h (V.ptr s 2) fun f =>
 (Yi (bop prog .geq 3 e f)
 (Yr [(V.bool false)] h)
 (Yl h (V.ptr s 0) fun g =>
 (bd2 (Ws 3 1 h [[(V.int .i64 i)]] g) fun j a =>
 (Yw j a (V.ptr s 0) fun k l =>
 Yr [(V.bool true)] ((a).set k l))))))))))
theorem zeP(n s i h):call (n+1) 186 [(V.ptr s 0),(V.int .i64 i)] h=zhD n s i h:=by kernel_rfl
noncomputable def zlU(n s:Nat)(h:ze):Option (Res×ze) :=
 (Yl h (V.ptr s 0) fun c =>
 (bd (ZI h c) fun a =>
 (if (decide ((IntKind.i64.wrap (((a.2).length:Int) - 1)) < 0)) then
 Yr [(V.int .i64 (-1)),(V.bool false)] h
 else
 (Yl h (V.ptr s 0) fun d =>
 (Yx 1 (V.int .i64 (IntKind.i64.wrap (((a.2).length:Int) - 1))) d fun e =>
 (Yl h e fun f =>
 (Yl h (V.ptr s 0) fun b =>
 (bd (zcm b) fun l =>
 (bdS (nv (V.int .i64 (IntKind.i64.wrap (((a.2).length:Int) - 1)))) fun g =>
 (bd (Je 1 0 g (none:Option Nat) true b) fun i =>
 (Yw i h (V.ptr s 0) fun j k =>
 Yr [f,(V.bool true)] ((h).set j k))))))))))))
theorem zgx(n s h):call (n+1) 187 [(V.ptr s 0)] h=zlU n s h:=by kernel_rfl
noncomputable def zeQ(n s:Nat)(h:ze):Option (Res×ze) :=
 (Yl h (V.ptr s 1) fun a =>
 (Yi (bop prog .eql 3 a (V.int .i64 0))
 (Yr [(V.bool false)] h)
 (Yl h (V.ptr s 1) fun b =>
 (bd (bop prog .sub 3 b (V.int .i64 1)) fun c =>
 (Yw c h (V.ptr s 1) fun d e =>
 Yr [(V.bool true)] ((h).set d e))))))
theorem zdg(n s h):call (n+1) 188 [(V.ptr s 0)] h=zeQ n s h:=by kernel_rfl
noncomputable def zuM(n:Nat)(i j:Int)(bo r l:Nat)(h:ze):Option (Res×ze) :=
 (Yl h (V.ptr bo 0) fun a =>
 (Yx 2 (V.int .i64 j) a fun b =>
 (bd (ZD 1 b) fun c =>
 (Yl h c fun d =>
 (Yx 1 (V.int .i64 i) (V.row r 1 0 l) fun e =>
 (Yw d h e fun f g =>
 Yr [] ((h).set f g)))))))
theorem zq1(n i j bo r l h):call (n+1) 182 [(V.int .i64 i),(V.int .i64 j),(V.ptr bo 0),(V.iptr 1 [(V.row r 1 0 l)] 0)] h=zuM n i j bo r l h:=by kernel_rfl
noncomputable def zuN(n:Nat)(i:Int)(bs r l:Nat)(h:ze):Option (Res×ze) :=
 (Yl h (V.ptr bs 0) fun c =>
 (clH (call n 184 [c] h) fun a b =>
 (bd (a)[0]? fun d =>
 (bd (a)[1]? fun j =>
 (Yx 1 (V.int .i64 i) (V.row r 1 0 l) fun e =>
 (Yw d b (V.rptr r 1 (ixP e) 0) fun f g =>
 Yr [] ((b).set f g)))))))
theorem zq2(n i bs r l h):call (n+1) 183 [(V.int .i64 i),(V.ptr bs 0),(V.iptr 1 [(V.row r 1 0 l)] 0)] h=zuN n i bs r l h:=by kernel_rfl
noncomputable def Jl(n s:Nat)(os:List (List V))(osb:Bool)(bo bs r l:Nat)(st3:List V)(hh4:ze)(next5:List V->ze->Option (Res×ze)):Option (Res×ze) :=
 (Yi (bop prog .lss 3 (gv st3 3) (V.int .i64 ((os).length:Int)))
 (Yx 2 (gv st3 3) (V.sl 2 os osb) fun k =>
 (bd3 (Zv hh4 k) fun d m b=>if (b+2<=m/\0 < 2) then
 (if (((d).drop b |>.take 2)).length=2 then
 (Yg ((((d).drop b |>.take 2)).length<=2) (bdS (nv (gv st3 3)) fun a =>
 (Yg (2=2/\a < ((lsl (gv st3 1))).length/\(some 27:Option Nat)≠some 9) (bd ((setR [(V.int .u8 0),(V.int .i32 0)] 0 ((d).drop b |>.take 2)))[0]? fun f =>
 (Yi (bop prog .eql 5 f (V.int .u8 1))
 (bd ((lsl (gv st3 1)))[a]? fun e =>
 (cl (call n 186 [(V.ptr s 0),(gv st3 3)] hh4) (fun o g =>
 (Zm o fun p =>
 (bv p fun q=>if q then
 (bd ((((lsl (gv st3 1))).set a (setR e 0 [(V.int .u8 3)])))[a]? fun t =>
 (Ya (gv st3 3) fun u =>
 (next5 [(V.sl 2 (lsl (gv st3 0)) false),(V.sl 2 (((((lsl (gv st3 1))).set a (setR e 0 [(V.int .u8 3)]))).set a (setR t 0 [(V.int .u8 1)])) false),(V.bool false),u] g)))
 else
 (Ya (gv st3 3) fun v =>
 (next5 [(V.sl 2 (lsl (gv st3 0)) false),(V.sl 2 (((lsl (gv st3 1))).set a (setR e 0 [(V.int .u8 3)])) false),(V.bool false),v] g))))) Yp))
 (Yi (bop prog .eql 5 f (V.int .u8 2))
 (bd ((lsl (gv st3 1)))[a]? fun c =>
 (cl (call n 187 [(V.ptr s 0)] hh4) (fun h i =>
 (bd (h)[0]? fun w =>
 (bd (h)[1]? fun x =>
 (bv x fun y=>if y then
 (cl (call n 182 [(gv st3 3),w,(V.ptr bo 0),(V.iptr 1 [(V.row r 1 0 l)] 0)] i) (fun K z =>
 (Ya (gv st3 3) fun A =>
 (next5 [(V.sl 2 (lsl (gv st3 0)) false),(V.sl 2 (((lsl (gv st3 1))).set a (setR c 0 [(V.int .u8 2)])) false),(V.bool false),A] z))) Yp)
 else
 (cl (call n 188 [(V.ptr s 0)] i) (fun B j =>
 (Zm B fun C =>
 (bv C fun D=>if D then
 (cl (call n 183 [(gv st3 3),(V.ptr bs 0),(V.iptr 1 [(V.row r 1 0 l)] 0)] j) (fun L E =>
 (Ya (gv st3 3) fun F =>
 (next5 [(V.sl 2 (lsl (gv st3 0)) false),(V.sl 2 (((lsl (gv st3 1))).set a (setR c 0 [(V.int .u8 2)])) false),(V.bool false),F] E))) Yp)
 else
 (bd ((((lsl (gv st3 1))).set a (setR c 0 [(V.int .u8 2)])))[a]? fun G =>
 (Ya (gv st3 3) fun H =>
 (next5 [(V.sl 2 (lsl (gv st3 0)) false),(V.sl 2 (((((lsl (gv st3 1))).set a (setR c 0 [(V.int .u8 2)]))).set a (setR G 0 [(V.int .u8 4)])) false),(V.bool false),H] j)))))) Yp))))) Yp))
 (bd ((lsl (gv st3 1)))[a]? fun I =>
 (Ya (gv st3 3) fun J =>
 (next5 [(V.sl 2 (lsl (gv st3 0)) false),(V.sl 2 (((lsl (gv st3 1))).set a (setR I 0 [(V.int .u8 5)])) false),(V.bool false),J] hh4))))))))) else none) else none))
 (Yr [(V.row (hh4).length 2 0 ((lsl (gv st3 1))).length)] (hh4++[(HB.row 35 2 (lsl (gv st3 1)) true)])))
noncomputable def zq3(n s:Nat)(os:List (List V))(osb:Bool)(bo bs r l:Nat)(h:ze):Option (Res×ze) :=
 (bdS (nv (V.int .i64 ((os).length:Int))) fun a =>
 (bdS (nv (V.int .i64 ((os).length:Int))) fun b =>
 (Yg (a<=b/\b < lim/\2=2) (zV n (Jl n s os osb bo bs r l) [(V.sl 2 [] false),(V.sl 2 (List.replicate a [(V.int .u8 0),(V.int .i32 0)]) false),(V.bool false),(V.int .i64 0)] h))))
theorem zo3(n:Nat)(s:Nat)(os:List (List V))(osb:Bool)(bo:Nat)(bs:Nat)(r:Nat)(l:Nat)(h:ze):call (n+1) 181 [(V.ptr s 0),(V.sl 2 os osb),(V.fn 182 [(V.ptr bo 0),(V.iptr 1 [(V.row r 1 0 l)] 0)]),(V.fn 183 [(V.ptr bs 0),(V.iptr 1 [(V.row r 1 0 l)] 0)])] h=zq3 n s os osb bo bs r l h:=by kernel_rfl
noncomputable def W3(n s:Nat)(os:List (List V))(osb:Bool)(h5:ze)(cs8:List V)(n14:Nat)(v27:V)(p28:Nat×List (List V))(st30:List V)(hh31:ze)(next32:List V->ze->Option (Res×ze)):Option (Res×ze) :=
 (Yi (bop prog .lss 3 (gv st30 1) (V.int .i64 ((p28.2).length:Int)))
 (Yx 1 (gv st30 1) (V.row (((((h5++[(HB.box 3 cs8)])++[(HB.box 1 [(V.ptr (h5).length 0)])])++[(HB.box 1 [(V.ptr s 0)])])++[(HB.box 1 [(V.sl 2 os osb)])])).length 1 0 ((List.replicate n14 [(V.int .i32 0)])).length) fun a =>
 (Yl hh31 a fun b =>
 (Yx 2 (gv st30 1) v27 fun c =>
 (bd (ZD 1 c) fun d =>
 (Yw b hh31 d fun e f =>
 (Ya (gv st30 1) fun g =>
 (next32 [(V.sl 2 (lsl (gv st30 0)) false),g] ((hh31).set e f))))))))
 (bd2 (dcl n 179 [(V.ptr ((h5++[(HB.box 3 cs8)])).length 0),(V.ptr (((h5++[(HB.box 3 cs8)])++[(HB.box 1 [(V.ptr (h5).length 0)])])).length 0),(V.ptr ((((h5++[(HB.box 3 cs8)])++[(HB.box 1 [(V.ptr (h5).length 0)])])++[(HB.box 1 [(V.ptr s 0)])])).length 0)] hh31 none) fun h i =>
 Yr [v27] h))
noncomputable def zjv(n s:Nat)(os:List (List V))(osb:Bool)(h:ze):Option (Res×ze) :=
 (clH (call n 169 [(V.ptr s 0)] h) fun j k =>
 (Zm j fun l =>
 (clH (call n 178 [(V.ptr s 0)] k) fun m a =>
 (Zm m fun o =>
 (bd (Wz prog 249 [(1,l),(2,o)]) fun b =>
 (if (b).length=3 then
 (Yl ((((a++[(HB.box 3 b)])++[(HB.box 1 [(V.ptr (a).length 0)])])++[(HB.box 1 [(V.ptr s 0)])])++[(HB.box 1 [(V.sl 2 os osb)])]) (V.ptr ((((a++[(HB.box 3 b)])++[(HB.box 1 [(V.ptr (a).length 0)])])++[(HB.box 1 [(V.ptr s 0)])])).length 0) fun p =>
 (bd (ZI ((((a++[(HB.box 3 b)])++[(HB.box 1 [(V.ptr (a).length 0)])])++[(HB.box 1 [(V.ptr s 0)])])++[(HB.box 1 [(V.sl 2 os osb)])]) p) fun f =>
 (bdS (nv (V.int .i64 ((f.2).length:Int))) fun c =>
 (bdS (nv (V.int .i64 ((f.2).length:Int))) fun g =>
 (Yg (c<=g/\g < lim/\1=1) (Yl (((((a++[(HB.box 3 b)])++[(HB.box 1 [(V.ptr (a).length 0)])])++[(HB.box 1 [(V.ptr s 0)])])++[(HB.box 1 [(V.sl 2 os osb)])])++[(HB.row 21 1 (List.replicate c [(V.int .i32 0)]) true)]) (V.ptr ((a++[(HB.box 3 b)])).length 0) fun q =>
 (Yl (((((a++[(HB.box 3 b)])++[(HB.box 1 [(V.ptr (a).length 0)])])++[(HB.box 1 [(V.ptr s 0)])])++[(HB.box 1 [(V.sl 2 os osb)])])++[(HB.row 21 1 (List.replicate c [(V.int .i32 0)]) true)]) (V.ptr ((((a++[(HB.box 3 b)])++[(HB.box 1 [(V.ptr (a).length 0)])])++[(HB.box 1 [(V.ptr s 0)])])).length 0) fun r =>
 (cl (call n 181 [q,r,(V.fn 182 [(V.ptr ((((a++[(HB.box 3 b)])++[(HB.box 1 [(V.ptr (a).length 0)])])++[(HB.box 1 [(V.ptr s 0)])])).length 0),(V.iptr 1 [(V.row (((((a++[(HB.box 3 b)])++[(HB.box 1 [(V.ptr (a).length 0)])])++[(HB.box 1 [(V.ptr s 0)])])++[(HB.box 1 [(V.sl 2 os osb)])])).length 1 0 ((List.replicate c [(V.int .i32 0)])).length)] 0)]),(V.fn 183 [(V.ptr (((a++[(HB.box 3 b)])++[(HB.box 1 [(V.ptr (a).length 0)])])).length 0),(V.iptr 1 [(V.row (((((a++[(HB.box 3 b)])++[(HB.box 1 [(V.ptr (a).length 0)])])++[(HB.box 1 [(V.ptr s 0)])])++[(HB.box 1 [(V.sl 2 os osb)])])).length 1 0 ((List.replicate c [(V.int .i32 0)])).length)] 0)])] (((((a++[(HB.box 3 b)])++[(HB.box 1 [(V.ptr (a).length 0)])])++[(HB.box 1 [(V.ptr s 0)])])++[(HB.box 1 [(V.sl 2 os osb)])])++[(HB.row 21 1 (List.replicate c [(V.int .i32 0)]) true)])) (fun t d =>
 (Zm t fun u =>
 (bd (ZI d (V.row (((((a++[(HB.box 3 b)])++[(HB.box 1 [(V.ptr (a).length 0)])])++[(HB.box 1 [(V.ptr s 0)])])++[(HB.box 1 [(V.sl 2 os osb)])])).length 1 0 ((List.replicate c [(V.int .i32 0)])).length)) fun v =>
 (zV n (W3 n s os osb a b c u v) [(V.sl 2 [] false),(V.int .i64 0)] d)))) (fun i d=>(bd2 (dcl n 179 [(V.ptr ((a++[(HB.box 3 b)])).length 0),(V.ptr (((a++[(HB.box 3 b)])++[(HB.box 1 [(V.ptr (a).length 0)])])).length 0),(V.ptr ((((a++[(HB.box 3 b)])++[(HB.box 1 [(V.ptr (a).length 0)])])++[(HB.box 1 [(V.ptr s 0)])])).length 0)] d (some i)) fun e w=>if w then
 Yr [(V.row (e).length 2 0 0)] (e++[(HB.row 35 2 [] true)])
 else
 some (Res.pan i,e))))))))))) else none))))))
theorem zjw(n:Nat)(s:Nat)(os:List (List V))(osb:Bool)(h:ze):call (n+1) 174 [(V.ptr s 0),(V.sl 2 os osb)] h=zjv n s os osb h:=by kernel_rfl
noncomputable def jA(n bs bo:Nat)(v9:V)(p10:Nat×List (List V))(st12:List V)(hh13:ze)(next14:List V->ze->Option (ze×Bool)):Option (ze×Bool) :=
 (Yi (bop prog .lss 3 (gv st12 0) (V.int .i64 ((p10.2).length:Int)))
 (Yx 1 (gv st12 0) v9 fun b =>
 (Yl hh13 b fun c =>
 (Yl hh13 (V.ptr bs 0) fun d =>
 (Yl hh13 (V.ptr bo 0) fun e =>
 (Yx 2 c e fun f =>
 (bd (ZD 1 f) fun g =>
 (Yl hh13 g fun h =>
 (cl (call n 180 [d,h] hh13) (fun i a =>
 (Zm i fun k =>
 (Ya (gv st12 0) fun j =>
 (next14 [j] a)))) (fun l a=>none)))))))))
 (some (hh13,false)))
noncomputable def zuO(n b bs bo:Nat)(h:ze):Option (ze×Bool) :=
 (Yl h (V.ptr b 0) fun c =>
 (bd (ZD 0 c) fun d =>
 (bd (ZD 0 d) fun e =>
 (Yl h e fun a =>
 (bd (ZI h a) fun f =>
 (zV n (jA n bs bo a f) [(V.int .i64 0)] h))))))
theorem zq4(n b bs bo h):dcl n 179 [(V.ptr b 0),(V.ptr bs 0),(V.ptr bo 0)] h none=zuO n b bs bo h:=by kernel_rfl
end Go.Proofs.Tryz
namespace Go.Sk
open Go.L
def WQ(x:Nat):List V:=[.int .i64 (x:Int)]
end Go.Sk
namespace Go.Proofs.Tryz
open Go.L Go.Rp Go.Sk
set_option maxRecDepth 100000
def MatAt(h:ze)(s:Nat)(sb:Option Nat)(u m:Nat)(xs:List Nat):Prop:=match sb with
 | none=>xs=[]/\h[s]?=some (.box 3 [.sl 0 [] true,.int .i64 (u:Int),.int .i64 (m:Int)])
 | some b=>b≠s/\∃ l z,h[s]?=some (.box 3 [.row b 1 0 xs.length,.int .i64 (u:Int),.int .i64 (m:Int)])/\h[b]?=some (.row 3 1 l z)/\xs.length<=l.length/\l.take xs.length=xs.map WQ
theorem MatAt.keep{h h':ze}{s:Nat}{sb:Option Nat}{u m:Nat}{xs:List Nat}(hb:MatAt h s sb u m xs)(hc:h'[s]?=h[s]?)(hk:∀ b,sb=some b->h'[b]?=h[b]?):MatAt h' s sb u m xs:=by
 cases sb with
 | none=>exact⟨hb.1,hc.trans hb.2⟩
 | some b =>
   obtain⟨h1,l,z,h2,h3,h4⟩:=hb;exact⟨h1,l,z,hc.trans h2,(hk b rfl).trans h3,h4⟩
theorem MatAt.box{h:ze}{s:Nat}{sb:Option Nat}{u m:Nat}{xs:List Nat}(hb:MatAt h s sb u m xs):∃ v sz,h[s]?=some (.box 3 [v,.int .i64 (u:Int),.int .i64 (m:Int)])/\ZI h v=some (sz,xs.map WQ):=by
 cases sb with
 | none =>
   obtain⟨rfl,hc⟩:=hb;exact⟨_,0,hc,j9 ..⟩
 | some b =>
   obtain⟨h1,l,z,h2,h3,h4,h5⟩:=hb;refine⟨_,1,h2,?_⟩;rw[Qm h3 (z2 _) h4,zR,h5]
theorem zfI(n:Nat){h:ze}{s:Nat}{sb:Option Nat}{u m:Nat}{xs:List Nat}(hb:MatAt h s sb u m xs)(i:Int)(hm:m<=u+xs.length)(hl:u+xs.length < lim):call (n+1) 186 [.ptr s 0,.int .i64 i] h=some (.ret [.bool false],h):=by
 obtain⟨v,sz,h1,h2⟩:=hb.box;refine(zeP n s i h).trans ?_;unfold zhD Yl Yi Yw Yr;rw[zI h1,zo,if_pos (by decide)];simp only[zb,zh,za];rw[zI h1,zo,if_pos (by decide)];simp only[zb,za];rw[h2,za,zA,za,zI h1,zo,if_pos (by decide)];simp only[zb,zh,za];rw[Z7,za,zm,zp,w64 (by omega) (by unfold lim at hl;omega),if_pos (by simp;omega)]
theorem zfJ (n : Nat) {h : ze} {s : Nat} {sb : Option Nat} {u m : Nat} {xs : List Nat} (hb : MatAt h s sb u m xs) (i : Nat) (hm : u + xs.length < m) (hl : u + xs.length + 1 < lim) :
    ∃ h' sb',call (n+1) 186 [.ptr s 0,.int .i64 (i:Int)] h=some (.ret [.bool true],h')/\MatAt h' s sb' u m (xs++[i])/\Fed h h' s sb sb':=by
 rw[zeP n s i h];unfold zhD Yl Yi Yw Yr;obtain⟨v,sz,k1,k2⟩:=hb.box;rw[zI k1,zo,if_pos (by decide)];simp only[zb,zh,za];rw[zI k1,zo,if_pos (by decide)];simp only[zb,za];rw[k2,za,zA,za,zI k1,zo,if_pos (by decide)];simp only[zb,zh,za];rw[Z7,za,zm,zp,w64 (by omega) (by unfold lim at hl;omega),if_neg (by simp;omega),zo,if_pos (by decide)];simp only[zb,za];cases sb with
 | none =>
   obtain⟨rfl,hc⟩:=hb;have hcl:=zQ hc;obtain rfl:v=.sl 0 [] true:=by rw[hc] at k1;simpa using k1.symm
   have jj:Ws 3 1 h [[.int .i64 (i:Int)]] (.sl 0 [] true)=some (.row h.length 1 0 1,h++[.row 3 1 [[.int .i64 (i:Int)]] true]):=rfl;simp only[jj,zZ,V.cells,zD,zP,zq,if_true];have hc':(h++[HB.row 3 1 [[.int .i64 (i:Int)]] true])[s]?=some (.box 3 [.sl 0 [] true,.int .i64 (u:Int),.int .i64 (m:Int)]):=by rw[zk hcl];exact hc
   rw[Zx hc' (by simp),zZ];refine⟨_,some h.length,rfl,⟨by omega,[[.int .i64 (i:Int)]],true,?_,?_,?_,?_⟩,⟨by simp,fun j h1 h2 h3=>?_,fun b hb=>.inr (by cases hb;exact zn _)⟩⟩
   . rw[ZU (by simp;omega)];rfl
   . rw[zd (by omega)];exact zx
   . simp
   . simp[WQ]
   . rw[zd (by omega),zk h1]
 | some b =>
   obtain⟨h1,l,z,h2,h3,h4,h5⟩:=hb;have hcl:=zQ h2;have hbl:=zQ h3;obtain rfl:v=.row b 1 0 xs.length:=by rw[h2] at k1;simpa using k1.symm
   have jj:Ws 3 1 h [[.int .i64 (i:Int)]] (.row b 1 0 xs.length)=some (.row h.length 1 0 (xs.length+1),h.set b .dead++[.row 3 1 (xs.map WQ++[[.int .i64 (i:Int)]]) z]):=by
    simp only[Ws,h3];rw[if_pos (by refine⟨⟨?_,?_,?_⟩,⟨by omega,h4⟩,by simp;omega⟩ <;> first|trivial|rfl),zR,h5];simp
   rw[jj,zZ];simp only[V.cells,zD,zP,zq,if_true];have hc':(h.set b .dead++[HB.row 3 1 (xs.map WQ++[[.int .i64 (i:Int)]]) z])[s]?=some (.box 3 [.row b 1 0 xs.length,.int .i64 (u:Int),.int .i64 (m:Int)]):=by
    rw[zk (by simpa using hcl),zd h1];exact h2
   rw[Zx hc' (by simp),zZ];refine⟨_,some h.length,rfl,⟨by omega,xs.map WQ++[[.int .i64 (i:Int)]],z,?_,?_,?_,?_⟩,⟨by simp,fun j k1 k2 k3=>?_,fun b hb=>.inr (by cases hb;exact zn _)⟩⟩
   . rw[ZU (by simp;omega)];simp;rfl
   . rw[zd (by omega),zJ (by simp)];simp
   . simp
   . simp[WQ,zU]
   . rw[zd (by omega),zk (by simpa using k1),zd (fun e=>k3 (by rw[e]))]
theorem zeR(n:Nat){h:ze}{s:Nat}{sb:Option Nat}{m:Nat}{xs:List Nat}(hb:MatAt h s sb 0 m xs):call (n+1) 188 [.ptr s 0] h=some (.ret [.bool false],h):=by
 obtain⟨v,sz,h1,h2⟩:=hb.box;refine(zdg n s h).trans ?_;unfold zeQ Yl Yi Yw Yr;rw[zI h1,zo,if_pos (by decide)];simp only[zb,zh,za];rw[ZT,za,zm,if_pos (by rfl)]
theorem zeS (n : Nat) {h : ze} {s : Nat} {sb : Option Nat} {u m : Nat} {xs : List Nat} (hb : MatAt h s sb (u + 1) m xs) (hu : u < lim) :
    ∃ h',call (n+1) 188 [.ptr s 0] h=some (.ret [.bool true],h')/\MatAt h' s sb u m xs/\h'.length=h.length/\∀ i,i≠s->h'[i]?=h[i]?:=by
 have hw:IntKind.i64.wrap (((u+1:Nat):Int) - 1)=(u:Int):=by unfold lim at hu;rw[w64] <;> omega
 rw[zdg n s h];unfold zeQ Yl Yi Yw Yr;cases sb with
 | none =>
   obtain⟨rfl,hc⟩:=hb;rw[zI hc,zo,if_pos (by decide)];simp only[zb,zh,za];rw[ZT,za,zm,if_neg (by simp;omega),zo,if_pos (by decide)];simp only[zb,zh,za];rw[ZF,za,hw,if_pos (by rfl),Zx hc (by simp[V.cells]),zZ];refine⟨_,rfl,⟨rfl,?_⟩,by rw[zw],fun i hi=>zd (Ne.symm hi)⟩;rw[ZU (zQ hc)];rfl
 | some b =>
   obtain⟨h1,l,z,h2,h3,h4,h5⟩:=hb;rw[zI h2,zo,if_pos (by decide)];simp only[zb,zh,za];rw[ZT,za,zm,if_neg (by simp;omega),zo,if_pos (by decide)];simp only[zb,zh,za];rw[ZF,za,hw,if_pos (by rfl),Zx h2 (by simp[V.cells]),zZ];refine⟨_,rfl,⟨h1,l,z,?_,?_,h4,h5⟩,by rw[zw],fun i hi=>zd (Ne.symm hi)⟩
   . rw[ZU (zQ h2)];rfl
   . rw[zd (Ne.symm h1)];exact h3
theorem zhE(n:Nat){h:ze}{s:Nat}{sb:Option Nat}{u m:Nat}(hb:MatAt h s sb u m []):call (n+1) 187 [.ptr s 0] h=some (.ret [.int .i64 (-1),.bool false],h):=by
 obtain⟨v,sz,h1,h2⟩:=hb.box;refine(zgx n s h).trans ?_;unfold zlU Yl Yw Yx Yr;rw[zI h1,zo,if_pos (by decide)];simp only[zb,za];rw[h2,za,if_pos (by show decide (IntKind.i64.wrap (((0:Nat):Int) - 1) < 0)=true;decide)]
theorem zhF (n : Nat) {h : ze} {s : Nat} {sb : Option Nat} {u m : Nat} {xs : List Nat} {x : Nat} (hb : MatAt h s sb u m (xs ++ [x])) (hl : xs.length + 1 < lim) :
    ∃ h',call (n+1) 187 [.ptr s 0] h=some (.ret [.int .i64 (x:Int),.bool true],h')/\MatAt h' s sb u m xs/\h'.length=h.length/\∀ i,i≠s->h'[i]?=h[i]?:=by
 rw[zgx];unfold zlU Yl Yw Yx Yr;cases sb with
 | none=>exact absurd hb.1 (by simp)
 | some b =>
   obtain⟨h1,l,z,h2,h3,h4,h5⟩:=hb;rw[zL,ZG] at h2 h4 h5;have hcl:=zQ h2;have hx:l[xs.length]?=some [.int .i64 (x:Int)]:=by
    have:=congrArg (fun t:List (List V)=>t[xs.length]?) h5;simpa[WQ,Ze] using this
   have hr:l.take xs.length=xs.map WQ:=by
    have:=congrArg (List.take xs.length) h5;rw[List.take_take,Q3 (by omega)] at this;rw[this,Zo,Qj (by simp),zU (by simp)]
   have hw:IntKind.i64.wrap ((((l.take (xs.length+1)).drop 0).length:Int) - 1)=(xs.length:Int):=by
    rw[zR,h5];rw[show (((List.map WQ (xs++[x])).length:Int) - 1)=(xs.length:Int) by simp];unfold lim at hl;rw[w64] <;> omega
   have hn:nv (V.int .i64 (xs.length:Int))=some xs.length:=by simp[nv]
   rw[zI h2,zo,if_pos (by decide)];simp only[zb,za];rw[Qm h3 (z2 _) h4,za,hw,if_neg (by simp),zo,if_pos (by decide)];simp only[zb,za];rw[hn,zB,Z3 (by omega),za,zq,ZJ h3 (by decide) hx,zo,if_pos (by decide)];simp only[zb,za];rw[zo,if_pos (by decide)];simp only[zb,za];rw[KG,za,zB,Q2 (z2 _) (by omega),za];simp only[V.cells,zD,zP,zq,if_true];rw[Zx h2 (by simp),zZ];refine⟨_,rfl,⟨h1,l,z,?_,?_,by omega,hr⟩,by rw[zw],fun i hi=>zd (Ne.symm hi)⟩
   . rw[ZU hcl];rfl
   . rw[zd (Ne.symm h1)];exact h3
theorem zjx (n : Nat) {h : ze} {bo r : Nat} {os : List O} {osb : Bool} {l : List (List V)} {z : Bool} {i j : Nat} (ho : h[bo]? = some (.box 1 [.sl 2 (os.map O.w) osb])) (hr : h[r]? = some (.row 21 1 l z)) (hl : ∀ es ∈ l, es.length = 1) (hi : i < l.length) (hj : j < os.length) :
    call (n+1) 182 [.int .i64 (i:Int),.int .i64 (j:Int),.ptr bo 0,.iptr 1 [.row r 1 0 l.length] 0] h=some (.ret [],h.set r (.row 21 1 (l.set i [.int .i32 os[j].v]) z)):=by
 refine(zq1 n _ _ bo r _ h).trans ?_;unfold zuM Yl Yw Yx Yr;have hx:l[i]?=some l[i]:=zf hi;have h1:l[i].length=1:=hl _ (ZN hi);rw[zI ho,zo,if_pos (by decide)];simp only[zb,za];rw[z3,zB,XJ (es:=O.w os[j]) (by rw[zF,zf hj];rfl),za];simp only[ZD,za];rw[Zq,zo,if_pos (by decide)];simp only[O.w,zq,zh,zb,za];rw[z3,zB,Z3 (by omega),za,zq];simp only[V.cells,zD,zP,zq,if_true];have hw:Zl h [V.int .i32 os[j].v] (.rptr r 1 i 0)=some (r,.row 21 1 (l.set i [.int .i32 os[j].v]) z):=by
  obtain⟨e,he⟩:∃ e,l[i]=[e]:=ZS.1 h1;simp[Zl,hr,hx,he,setR]
 rw[hw,zZ]
theorem zjy (n : Nat) {h : ze} {bs r s : Nat} {sb : Option Nat} {most : Int} {xs : List Int} {x : Int} {l : List (List V)} {z : Bool} {i : Nat} (hbs : h[bs]? = some (.box 1 [.ptr s 0])) (hs : StkAt h s sb most (xs ++ [x])) (hm : xs.length + 1 < lim) (hr : h[r]? = some (.row 21 1 l z)) (hrs : r ≠ s) (hrb : sb ≠ some r) (hl : ∀ es ∈ l, es.length = 1) (hi : i < l.length) :
    ∃ h',call (n+3) 183 [.int .i64 (i:Int),.ptr bs 0,.iptr 1 [.row r 1 0 l.length] 0] h=some (.ret [],h')/\StkAt h' s sb most xs/\h'[r]?=some (.row 21 1 (l.set i [.int .i32 x]) z)/\h'.length=h.length/\∀ j,j≠s->j≠r->h'[j]?=h[j]?:=by
 obtain⟨h1,e,b1,b2,b3⟩:=zbM n hs hm;have hr1:h1[r]?=some (.row 21 1 l z):=(b3 r hrs).trans hr;have hx:l[i]?=some l[i]:=zf hi;have hw:Zl h1 [V.int .i32 x] (.rptr r 1 i 0)=some (r,.row 21 1 (l.set i [.int .i32 x]) z):=by
  obtain⟨e,he⟩:∃ e,l[i]=[e]:=ZS.1 (hl _ (ZN hi));simp[Zl,hr1,hx,he,setR]
 rw[zq2];unfold zuN Yl Yw Yx Yr;rw[zI hbs,zo,if_pos (by decide)];simp only[zb,za];rw[e];simp only[clH,zb,zh,za];rw[z3,zB,Z3 (by omega),za,zq];simp only[V.cells,ixP,zD,zP,zq,if_true];rw[hw,zZ];refine⟨_,rfl,b1.keep (zd hrs) (fun b hb=>zd (fun e=>hrb (by rw[hb,e]))),ZU (zQ hr1) _,by rw[zw];exact b2,fun j h2 h3=>?_⟩;rw[zd (Ne.symm h3)];exact b3 j h2
end Go.Proofs.Tryz
namespace Go.Proofs.Tryz
open Go.L
set_option maxRecDepth 100000
noncomputable def zq5(n:Nat)(x0:Int)(h:ze):Option (Res×ze) :=
 (bdS (nv (V.int .i64 (if 0 < (if 1000 < x0 then 1000 else x0) then(if 1000 < x0 then 1000 else x0) else 0))) fun a =>
 (bdS (nv (V.int .i64 (if 0 < (if 1000 < x0 then 1000 else x0) then(if 1000 < x0 then 1000 else x0) else 0))) fun b =>
 (Yg (a<=b/\b < lim/\1=1) (Yr [(V.ptr ((h++[(HB.row 21 1 (List.replicate a [(V.int .i32 0)]) true)])).length 0)] ((h++[(HB.row 21 1 (List.replicate a [(V.int .i32 0)]) true)])++[(HB.box 3 [(V.row (h).length 1 0 ((List.replicate a [(V.int .i32 0)])).length),(V.int .i64 0),(V.int .i64 0)])])))))
theorem zo4(n x0 h):call (n+1) 59 [(V.int .i64 x0)] h=zq5 n x0 h:=by kernel_rfl
noncomputable def zbf(n x3 b:Nat)(z17:V)(h:ze):Option (Bool×ze) :=
 (lpR ((h)[b]?) fun cD cV cF cP cA cB =>
 (Yl ((h).set b (HB.loop cD cV cF cP cA cB .busy)) (V.ptr x3 0) fun e =>
 (bd (K6 prog 27 1 [(0,z17)]) fun f =>
 (bd2 (Ws 21 1 ((h).set b (HB.loop cD cV cF cP cA cB .busy)) f.2 e) fun g a =>
 (Yw g a (V.ptr x3 0) fun c d =>
 (lpB ((((a).set c d))[b]?) fun eD eV eF eP eA eB=>some (true,(((a).set c d)).set b (HB.loop eD eV eF eP eA eB .ready))))))))
theorem zfK(n:Nat)(y0:Option V)(y2:Option V)(x3:Nat)(y5:Option V)(y6:Option V)(y7:Option V)(y8:Option V)(y9:Option V)(y10:Option V)(y11:Option V)(y12:Option V)(y13:Option V)(y14:Option V)(y15:Option V)(y16:Option V)(b:Nat)(z17:V)(h:ze):zd8 prog (call n) QI Yd n (L.textDraws prog) true [y0,none,y2,some (V.ptr x3 0),none,y5,y6,y7,y8,y9,y10,y11,y12,y13,y14,y15,y16,none,none,none,none,none,none] [17] (zaF (Ja f191)) (zaG (Ja f191)) b [z17] h=zbf n x3 b z17 h:=by kernel_rfl
noncomputable def zjz(n s:Nat)(h:ze):Option (Res×ze) :=
 (Yi (Qq prog h .eql 113 (V.ptr s 0) Yn)
 (Yr [(V.row (h).length 1 0 0)] (h++[(HB.row 21 1 [] true)]))
 (Yl h (V.ptr s 2) fun c =>
 (bdS (nv c) fun d =>
 (Yg (0<=d/\d < lim/\1=1) (cl (call n 193 [(V.ptr s 0)] (h++[(HB.row 21 1 (List.replicate 0 [(V.int .i32 0)]) true)])) (fun g a =>
 (Zm g fun e =>
 (fnK e fun f i=>if ((YX prog f).isNone && (QT (zaF (Ja f191)) && QT (zaG (Ja f191))))=true then
 (clN (call n f ((V.yld ((((a++[(HB.box 1 [(V.row (h).length 1 0 ((List.replicate 0 [(V.int .i32 0)])).length)])])++[(HB.row 21 1 [] true)])).length+1)) :: i) (((a++[(HB.box 1 [(V.row (h).length 1 0 ((List.replicate 0 [(V.int .i32 0)])).length)])])++[(HB.row 21 1 [] true)])++[HB.defb,HB.loop (((a++[(HB.box 1 [(V.row (h).length 1 0 ((List.replicate 0 [(V.int .i32 0)])).length)])])++[(HB.row 21 1 [] true)])).length true [some (V.ptr s 0),none,some (V.row ((a++[(HB.box 1 [(V.row (h).length 1 0 ((List.replicate 0 [(V.int .i32 0)])).length)])])).length 1 0 0),some (V.ptr (a).length 0),none,some (V.ptr s 0),some (V.bool false),some (V.ptr s 0),some (V.ptr s 0),some (V.ptr s 0),some (V.ptr s 2),some c,some (V.row (h).length 1 0 ((List.replicate 0 [(V.int .i32 0)])).length),some (V.ptr s 0),some (V.ptr s 0),some (V.ptr s 0),some e,none,none,none,none,none,none] [17] (zaF (Ja f191)) (zaG (Ja f191)) .ready])) fun b=>lpE ((b)[((((a++[(HB.box 1 [(V.row (h).length 1 0 ((List.replicate 0 [(V.int .i32 0)])).length)])])++[(HB.row 21 1 [] true)])).length+1)]?) (
 (Yl ((b).set ((((a++[(HB.box 1 [(V.row (h).length 1 0 ((List.replicate 0 [(V.int .i32 0)])).length)])])++[(HB.row 21 1 [] true)])).length+1) HB.dead) (V.ptr (a).length 0) fun j =>
 (dfB ((((b).set ((((a++[(HB.box 1 [(V.row (h).length 1 0 ((List.replicate 0 [(V.int .i32 0)])).length)])])++[(HB.row 21 1 [] true)])).length+1) HB.dead))[(((a++[(HB.box 1 [(V.row (h).length 1 0 ((List.replicate 0 [(V.int .i32 0)])).length)])])++[(HB.row 21 1 [] true)])).length]?) (
 Yr [j] ((((b).set ((((a++[(HB.box 1 [(V.row (h).length 1 0 ((List.replicate 0 [(V.int .i32 0)])).length)])])++[(HB.row 21 1 [] true)])).length+1) HB.dead)).set (((a++[(HB.box 1 [(V.row (h).length 1 0 ((List.replicate 0 [(V.int .i32 0)])).length)])])++[(HB.row 21 1 [] true)])).length HB.dead))))) (
 (dfB ((((b).set ((((a++[(HB.box 1 [(V.row (h).length 1 0 ((List.replicate 0 [(V.int .i32 0)])).length)])])++[(HB.row 21 1 [] true)])).length+1) HB.dead))[(((a++[(HB.box 1 [(V.row (h).length 1 0 ((List.replicate 0 [(V.int .i32 0)])).length)])])++[(HB.row 21 1 [] true)])).length]?) (
 Yr [(V.row ((a++[(HB.box 1 [(V.row (h).length 1 0 ((List.replicate 0 [(V.int .i32 0)])).length)])])).length 1 0 0)] ((((b).set ((((a++[(HB.box 1 [(V.row (h).length 1 0 ((List.replicate 0 [(V.int .i32 0)])).length)])])++[(HB.row 21 1 [] true)])).length+1) HB.dead)).set (((a++[(HB.box 1 [(V.row (h).length 1 0 ((List.replicate 0 [(V.int .i32 0)])).length)])])++[(HB.row 21 1 [] true)])).length HB.dead))))) else none))) Yp)))))
theorem zjA(n s h):call (n+1) 191 [(V.ptr s 0)] h=zjz n s h:=by kernel_rfl
noncomputable def zq6(n s:Nat)(h:ze):Option (Res×ze) :=
 (Yi (Qq prog h .eql 113 (V.ptr s 0) Yn)
 (Yr [(V.int .i64 0)] h)
 (Yl h (V.ptr s 2) fun a =>
 Yr [a] h))
theorem zo5(n s h):call (n+1) 192 [(V.ptr s 0)] h=zq6 n s h:=by kernel_rfl
noncomputable def znn(n s:Nat)(h:ze):Option (Res×ze) :=
 (Yi (Qq prog h .eql 113 (V.ptr s 0) Yn)
 (Yr [(V.int .i64 0)] h)
 (Yl h (V.ptr s 0) fun a =>
 (bd (ZI h a) fun b =>
 Yr [(V.int .i64 ((b.2).length:Int))] h)))
theorem zlV(n s h):call (n+1) 202 [(V.ptr s 0)] h=znn n s h:=by kernel_rfl
noncomputable def zuP(n s:Nat)(c x:Int)(h:ze):Option (Res×ze) :=
 (if (c == 1) then
 (cl (call n 205 [(V.ptr s 0),(V.int .i32 x)] h) (fun i j =>
 (Zm i fun k =>
 (cl (call n 209 [k] j) (fun l m =>
 (Zm l fun a =>
 (Yc a 2 (Yr [(V.agg (((setR [(V.int .u8 0),(V.int .i32 0)] 0 (V.cells a))).drop 0 |>.take 2))] m)))) Yp))) Yp)
 else
 (if (c == 2) then
 (cl (call n 206 [(V.ptr s 0),(V.int .i32 x)] h) (fun o p =>
 (Zm o fun q =>
 (cl (call n 209 [q] p) (fun r t =>
 (Zm r fun b =>
 (Yc b 2 (Yr [(V.agg (((setR [(V.int .u8 0),(V.int .i32 0)] 0 (V.cells b))).drop 0 |>.take 2))] t)))) Yp))) Yp)
 else
 (if (c == 3) then
 (cl (call n 203 [(V.ptr s 0)] h) (fun d u =>
 (bd (d)[0]? fun v =>
 (bd (d)[1]? fun w =>
 (cl (call n 210 [v,w] u) (fun y z =>
 (Zm y fun e =>
 (Yc e 2 (Yr [(V.agg (((setR [(V.int .u8 0),(V.int .i32 0)] 0 (V.cells e))).drop 0 |>.take 2))] z)))) Yp)))) Yp)
 else
 (if (c == 4) then
 (cl (call n 204 [(V.ptr s 0)] h) (fun f A =>
 (bd (f)[0]? fun B =>
 (bd (f)[1]? fun C =>
 (cl (call n 210 [B,C] A) (fun D E =>
 (Zm D fun g =>
 (Yc g 2 (Yr [(V.agg (((setR [(V.int .u8 0),(V.int .i32 0)] 0 (V.cells g))).drop 0 |>.take 2))] E)))) Yp)))) Yp)
 else
 Yr [(V.agg [(V.int .u8 5),(V.int .i32 0)])] h))))
theorem zq7(n s c x h):call (n+1) 201 [(V.ptr s 0),(V.agg [(V.int .u8 c),(V.int .i32 x)])] h=zuP n s c x h:=by kernel_rfl
noncomputable def zhG(n s:Nat)(h:ze):Option (Res×ze) :=
 (cl (call n 192 [(V.ptr s 0)] h) (fun d b =>
 (Zm d fun e =>
 (Yi (bop prog .eql 3 e (V.int .i64 0))
 (Yr [(V.int .i32 0),(V.bool false)] b)
 (cl (call n 195 [(V.ptr s 0),(V.int .i64 0)] b) (fun f c =>
 (Zm f fun g =>
 (bd (ZD 0 g) fun i =>
 (Yl c i fun j =>
 (cl (call n 211 [(V.ptr s 0),(V.int .i64 1)] c) (fun p a =>
 (Yl a (V.ptr s 2) fun k =>
 (bd (bop prog .sub 3 k (V.int .i64 1)) fun l =>
 (Yw l a (V.ptr s 2) fun m o =>
 Yr [j,(V.bool true)] ((a).set m o))))) Yp))))) Yp)))) Yp)
theorem zeT(n s h):call (n+1) 203 [(V.ptr s 0)] h=zhG n s h:=by kernel_rfl
noncomputable def zhH(n s:Nat)(h:ze):Option (Res×ze) :=
 (cl (call n 192 [(V.ptr s 0)] h) (fun e a =>
 (Zm e fun f =>
 (Yi (bop prog .eql 3 f (V.int .i64 0))
 (Yr [(V.int .i32 0),(V.bool false)] a)
 (Yl a (V.ptr s 2) fun g =>
 (bd (bop prog .sub 3 g (V.int .i64 1)) fun i =>
 (Yw i a (V.ptr s 2) fun b c =>
 (Yl ((a).set b c) (V.ptr s 2) fun j =>
 (clH (call n 195 [(V.ptr s 0),j] ((a).set b c)) fun k d =>
 (Zm k fun l =>
 (bd (ZD 0 l) fun m =>
 (Yl d m fun o =>
 Yr [o,(V.bool true)] d))))))))))) Yp)
theorem zeU(n s h):call (n+1) 204 [(V.ptr s 0)] h=zhH n s h:=by kernel_rfl
noncomputable def zeV(n s:Nat)(x:Int)(h:ze):Option (Res×ze) :=
 (cl (call n 192 [(V.ptr s 0)] h) (fun e f =>
 (Zm e fun g =>
 (cl (call n 202 [(V.ptr s 0)] f) (fun i d =>
 (Zm i fun j =>
 (Yi (bop prog .geq 3 g j)
 (Yr [(V.bool false)] d)
 (cl (call n 211 [(V.ptr s 0),(V.int .i64 (-1))] d) (fun u k =>
 (cl (call n 195 [(V.ptr s 0),(V.int .i64 0)] k) (fun l a =>
 (Zm l fun m =>
 (bd (ZD 0 m) fun o =>
 (bd2 (Zl a [(V.int .i32 x)] o) fun b c =>
 (Yl ((a).set b c) (V.ptr s 2) fun p =>
 (Ya p fun q =>
 (Yw q ((a).set b c) (V.ptr s 2) fun r t =>
 Yr [(V.bool true)] ((((a).set b c)).set r t)))))))) Yp)) Yp)))) Yp))) Yp)
theorem zdh(n s x h):call (n+1) 205 [(V.ptr s 0),(V.int .i32 x)] h=zeV n s x h:=by kernel_rfl
noncomputable def zeW(n s:Nat)(x:Int)(h:ze):Option (Res×ze) :=
 (cl (call n 192 [(V.ptr s 0)] h) (fun e f =>
 (Zm e fun g =>
 (cl (call n 202 [(V.ptr s 0)] f) (fun i b =>
 (Zm i fun j =>
 (Yi (bop prog .geq 3 g j)
 (Yr [(V.bool false)] b)
 (Yl b (V.ptr s 2) fun k =>
 (clH (call n 195 [(V.ptr s 0),k] b) fun l a =>
 (Zm l fun m =>
 (bd (ZD 0 m) fun o =>
 (bd2 (Zl a [(V.int .i32 x)] o) fun c d =>
 (Yl ((a).set c d) (V.ptr s 2) fun p =>
 (Ya p fun q =>
 (Yw q ((a).set c d) (V.ptr s 2) fun r t =>
 Yr [(V.bool true)] ((((a).set c d)).set r t)))))))))))) Yp))) Yp)
theorem zdi(n s x h):call (n+1) 206 [(V.ptr s 0),(V.int .i32 x)] h=zeW n s x h:=by kernel_rfl
noncomputable def zq8(n s:Nat)(h:ze):Option (Res×ze) :=
 Yr [(V.fn 194 [(V.ptr (h).length 0)])] (h++[(HB.box 1 [(V.ptr s 0)])])
theorem zo6(n s h):call (n+1) 193 [(V.ptr s 0)] h=zq8 n s h:=by kernel_rfl
noncomputable def YH(n y b:Nat)(v9:V)(st11:List V)(hh12:ze)(next13:List V->ze->Option (Res×ze)):Option (Res×ze) :=
 (Yi (bop prog .lss 3 (gv st11 0) v9)
 (Yl hh12 (V.ptr b 0) fun d =>
 (cl (call n 195 [d,(gv st11 0)] hh12) (fun e a =>
 (Zm e fun f =>
 (bd (ZD 0 f) fun g =>
 (Yl a g fun h =>
 (bd2 (rnd n y [h] a) fun i c =>
 (if (!i) then
 Yr [] c
 else
 (Ya (gv st11 0) fun j =>
 (next13 [j] c)))))))) Yp))
 (Yr [] hh12))
noncomputable def zno(n y b:Nat)(h:ze):Option (Res×ze) :=
 (Yl h (V.ptr b 0) fun a =>
 (bd (ZD 0 a) fun c =>
 (bd (ZD 2 c) fun d =>
 (Yl h d fun e =>
 (zV n (YH n y b e) [(V.int .i64 0)] h)))))
theorem zlW(n y b h):call (n+1) 194 [(V.yld y),(V.ptr b 0)] h=zno n y b h:=by kernel_rfl
noncomputable def zuQ(n s:Nat)(i:Int)(h:ze):Option (Res×ze) :=
 (Yl h (V.ptr s 0) fun a =>
 (Yl h (V.ptr s 1) fun b =>
 (bd (bop prog .add 3 b (V.int .i64 i)) fun c =>
 (Yl h (V.ptr s 0) fun d =>
 (bd (ZI h d) fun e =>
 (bd (bop prog .add 3 c (V.int .i64 ((e.2).length:Int))) fun f =>
 (Yl h (V.ptr s 0) fun g =>
 (bd (ZI h g) fun j =>
 (bd (bop prog .rem 3 f (V.int .i64 ((j.2).length:Int))) fun k =>
 (Yx 1 k a fun l =>
 Yr [(jd a l)] h))))))))))
theorem zq9(n s i h):call (n+1) 195 [(V.ptr s 0),(V.int .i64 i)] h=zuQ n s i h:=by kernel_rfl
noncomputable def znp(n s:Nat)(i:Int)(h:ze):Option (Res×ze) :=
 (Yl h (V.ptr s 1) fun a =>
 (bd (bop prog .add 3 a (V.int .i64 i)) fun b =>
 (Yl h (V.ptr s 0) fun c =>
 (bd (ZI h c) fun d =>
 (bd (bop prog .add 3 b (V.int .i64 ((d.2).length:Int))) fun e =>
 (Yl h (V.ptr s 0) fun f =>
 (bd (ZI h f) fun g =>
 (bd (bop prog .rem 3 e (V.int .i64 ((g.2).length:Int))) fun j =>
 (Yw j h (V.ptr s 1) fun k l =>
 Yr [] ((h).set k l))))))))))
theorem zlX(n s i h):call (n+1) 211 [(V.ptr s 0),(V.int .i64 i)] h=znp n s i h:=by kernel_rfl
noncomputable def zgy(n:Nat)(x0:Bool)(h:ze):Option (Res×ze) :=
 (if x0 then
 Yr [(V.agg [(V.int .u8 1),(V.int .i32 0)])] h
 else
 Yr [(V.agg [(V.int .u8 3),(V.int .i32 0)])] h)
theorem zhI(n x0 h):call (n+1) 209 [(V.bool x0)] h=zgy n x0 h:=by kernel_rfl
noncomputable def zgz(n:Nat)(x0:Int)(x1:Bool)(h:ze):Option (Res×ze) :=
 (if x1 then
 Yr [(V.agg [(V.int .u8 2),(V.int .i32 x0)])] h
 else
 Yr [(V.agg [(V.int .u8 4),(V.int .i32 0)])] h)
theorem zhJ(n x0 x1 h):call (n+1) 210 [(V.int .i32 x0),(V.bool x1)] h=zgz n x0 x1 h:=by kernel_rfl
end Go.Proofs.Tryz
namespace Go.Sk
open Go.L
def XN(most:Int)(c x:Int)(xs:List Int):(Int×Int)×List Int :=
 if c=1 then(if (xs.length:Int) < most then((1,0),x :: xs) else((3,0),xs))
 else if c=2 then(if (xs.length:Int) < most then((1,0),xs++[x]) else((3,0),xs))
 else if c=3 then(match xs with|y :: r=>((2,y),r)|[]=>((4,0),xs))
 else if c=4 then(match xs.getLast? with|some y=>((2,y),xs.dropLast)|none=>((4,0),xs))
 else((5,0),xs)
theorem zra{f c i:Nat}(hc:0 < c):((f+1) % c+i) % c=(f+(i+1)) % c:=by
 rw[Nat.mod_add_mod];congr 1;omega
theorem zrb{f c i:Nat}(hc:0 < c)(hf:f < c):((f+c - 1) % c+(i+1)) % c=(f+i) % c:=by
 rw[Nat.mod_add_mod,show f+c - 1+(i+1)=f+i+c by omega,Nat.add_mod_right]
theorem zrc{f c i j:Nat}(hi:i < c)(hj:j < c)(h:i≠j):(f+i) % c≠(f+j) % c:=by
 intro e;have h1:=Nat.div_add_mod (f+i) c;have h2:=Nat.div_add_mod (f+j) c;rw[e] at h1;have h3:c * ((f+i) / c)+j=c * ((f+j) / c)+i:=by omega
 rcases Nat.lt_trichotomy ((f+i) / c) ((f+j) / c) with hlt|heq|hgt
 . have:c * ((f+i) / c+1)<=c * ((f+j) / c):=Nat.mul_le_mul_left c hlt;rw[Nat.mul_add] at this;omega
 . rw[heq] at h3;omega
 . have:c * ((f+j) / c+1)<=c * ((f+i) / c):=Nat.mul_le_mul_left c hgt;rw[Nat.mul_add] at this;omega
end Go.Sk
namespace Go.Proofs.Tryz
open Go.L Go.Rp Go.Sk
set_option maxRecDepth 100000
def RngAt(h:ze)(s b:Nat)(c:Nat)(xs:List Int):Prop :=
 b≠s/\∃ l z f,h[s]?=some (.box 3 [.row b 1 0 c,.int .i64 ((f:Nat):Int),.int .i64 (xs.length:Int)])/\h[b]?=some (.row 21 1 l z)/\l.length=c/\(f < c\/(c=0/\f=0))/\xs.length<=c/\(∀ i (hi:i < xs.length),l[(f+i) % c]?=some (jz xs[i]))/\∀ es∈l,es.length=1
theorem RngAt.keep{h h':ze}{s b c:Nat}{xs:List Int}(hb:RngAt h s b c xs)(h1:h'[s]?=h[s]?)(h2:h'[b]?=h[b]?):RngAt h' s b c xs:=by
 obtain⟨k,l,z,f,e1,e2,e3⟩:=hb;exact⟨k,l,z,f,h1.trans e1,h2.trans e2,e3⟩
theorem qY(h:ze)(c:Nat):Qq prog h .eql 113 (V.ptr c 0) (V.val (.pointer none))=some (.bool false):=by kernel_rfl
theorem qZ{a b:Nat}(h:b≠0):bop prog .rem 3 (.int .i64 (a:Int)) (.int .i64 (b:Int))=some (.int .i64 ((a % b:Nat):Int)):=by
 have:bop prog .rem 3 (.int .i64 (a:Int)) (.int .i64 (b:Int))=if (b:Int)=0 then none else some (.int .i64 ((a:Int).tmod b)):=by kernel_rfl
 rw[this,if_neg (by omega)];rfl
theorem Q6(n:Nat){h:ze}{s b c:Nat}{xs:List Int}(hb:RngAt h s b c xs):call (n+1) 192 [.ptr s 0] h=some (.ret [.int .i64 (xs.length:Int)],h):=by
 obtain⟨k,l,z,f,e1,e2,e3,e4,e5,e6,e7⟩:=hb;refine(zo5 n s h).trans ?_;unfold zq6 Yl Yi Yr Yn;rw[qY,za,zm,if_neg (by decide),zI e1,zo,if_pos (by decide)];rfl
theorem Wu(n:Nat){h:ze}{s b c:Nat}{xs:List Int}(hb:RngAt h s b c xs):call (n+1) 202 [.ptr s 0] h=some (.ret [.int .i64 (c:Int)],h):=by
 obtain⟨k,l,z,f,e1,e2,e3,e4,e5,e6,e7⟩:=hb;refine(zlV n s h).trans ?_;unfold znn Yl Yi Yr Yn;rw[qY,za,zm,if_neg (by decide),zI e1,zo,if_pos (by decide)];simp only[zb,za];rw[Qm e2 (z2 _) (by omega),za];simp[e3]
theorem YI (n : Nat) {h : ze} {s b c f m : Nat} {l : List (List V)} {z : Bool} {w : V} (e1 : h[s]? = some (.box 3 [.row b 1 0 c, .int .i64 (f : Int), w])) (e2 : h[b]? = some (.row 21 1 l z)) (e3 : l.length = c) (hf : f < c) (hm : m <= c) (hc : c < 100000) :
    call (n+1) 195 [.ptr s 0,.int .i64 (m:Int)] h=some (.ret [.rptr b 1 ((f+m) % c) 0],h):=by
 refine(zq9 n s _ h).trans ?_;unfold zuQ Yl Yx Yr;rw[zI e1,zo,if_pos (by decide)];simp only[zb,za];rw[zI e1,zo,if_pos (by decide)];simp only[zb,zh,za];rw[zA,za,zo,if_pos (by decide)];simp only[zb,za];rw[Qm e2 (z2 _) (by omega),za,zA,za,zo,if_pos (by decide)];simp only[zb,za];have hl:((l.take c).drop 0).length=c:=by simp[e3]
 rw[Qm e2 (z2 _) (by omega),za,hl,w64 (n:=(f:Int)+(m:Int)) (by omega) (by omega),w64 (by omega) (by omega),show ((f:Int)+(m:Int)+(c:Int))=((f+m+c:Nat):Int) by omega,qZ (by omega),za,z3,zB,Nat.add_mod_right];have hlt:(f+m) % c < c:=WD _ (by omega);rw[Z3 (by omega),za,zq];rfl
theorem zaQ (n : Nat) {h : ze} {s b c f y : Nat} {i : Int} {l : List (List V)} {z : Bool} {w : V} (e1 : h[s]? = some (.box 3 [.row b 1 0 c, .int .i64 (f : Int), w])) (e2 : h[b]? = some (.row 21 1 l z)) (e3 : l.length = c) (hf : f < c) (hy : (f : Int) + i + c = (y : Int)) (hi : -10 <= i /\ i <= 10) (hc : c < 100000) :
    call (n+1) 211 [.ptr s 0,.int .i64 i] h=some (.ret [],h.set s (.box 3 [.row b 1 0 c,.int .i64 ((y % c:Nat):Int),w])):=by
 refine(zlX n s _ h).trans ?_;unfold znp Yl Yw Yr;rw[zI e1,zo,if_pos (by decide)];simp only[zb,zh,za];rw[zA,za,zI e1,zo,if_pos (by decide)];simp only[zb,za];rw[Qm e2 (z2 _) (by omega),za,zA,za,zo,if_pos (by decide)];simp only[zb,za];have hl:((l.take c).drop 0).length=c:=by simp[e3]
 rw[Qm e2 (z2 _) (by omega),za,hl,w64 (n:=(f:Int)+i) (by omega) (by omega),w64 (by omega) (by omega),hy,qZ (by omega),za,if_pos (by rfl),Zx e1 (by simp[V.cells]),zZ];rfl
theorem zeX(n:Nat){h:ze}{s b c:Nat}{xs:List Int}(hb:RngAt h s b c xs)(x:Int)(hm:c<=xs.length):call (n+2) 205 [.ptr s 0,.int .i32 x] h=some (.ret [.bool false],h):=by
 refine(zdh (n+1) s x h).trans ?_;unfold zeV Yl Yi Yw Ya Yr Yp;rw[Q6 n hb,zH,zC,Wu n hb,zH,zC,Z7,za,zm,if_pos (by simp;omega)]
theorem zeY(n:Nat){h:ze}{s b c:Nat}{xs:List Int}(hb:RngAt h s b c xs)(x:Int)(hm:c<=xs.length):call (n+2) 206 [.ptr s 0,.int .i32 x] h=some (.ret [.bool false],h):=by
 refine(zdi (n+1) s x h).trans ?_;unfold zeW Yl Yi Yw Ya Yr Yp;rw[Q6 n hb,zH,zC,Wu n hb,zH,zC,Z7,za,zm,if_pos (by simp;omega)]
theorem zfL(n:Nat){h:ze}{s b c:Nat}(hb:RngAt h s b c []):call (n+2) 203 [.ptr s 0] h=some (.ret [.int .i32 0,.bool false],h):=by
 refine(zeT (n+1) s h).trans ?_;unfold zhG Yl Yi Yw Yr Yp;rw[Q6 n hb,zH,zC,ZT,za,zm,if_pos (by rfl)]
theorem zfM(n:Nat){h:ze}{s b c:Nat}(hb:RngAt h s b c []):call (n+2) 204 [.ptr s 0] h=some (.ret [.int .i32 0,.bool false],h):=by
 refine(zeU (n+1) s h).trans ?_;unfold zhH Yl Yi Yw Yr Yp;rw[Q6 n hb,zH,zC,ZT,za,zm,if_pos (by rfl)]
structure RFed(h h':ze)(s b:Nat):Prop where
 len:h'.length=h.length
 old:∀ i,i≠s->i≠b->h'[i]?=h[i]?
theorem RFed.refl(h:ze)(s b:Nat):RFed h h s b:=⟨rfl,fun _ _ _=>rfl⟩
theorem RFed.trans{h h' h'':ze}{s b:Nat}(x:RFed h h' s b)(y:RFed h' h'' s b):RFed h h'' s b:=⟨y.len.trans x.len,fun i h1 h2=>(y.old i h1 h2).trans (x.old i h1 h2)⟩
theorem q6 (n : Nat) {h : ze} {s b c : Nat} {xs : List Int} (hb : RngAt h s b c xs) (x : Int) (hm : xs.length < c) (hc : c < 100000) :
    ∃ h',call (n+2) 205 [.ptr s 0,.int .i32 x] h=some (.ret [.bool true],h')/\RngAt h' s b c (x :: xs)/\RFed h h' s b:=by
 have hb0:=hb;obtain⟨k,l,z,f,e1,e2,e3,e4,e5,e6,e7⟩:=hb;have hf:f < c:=by omega
 have hcl:=zQ e1;have hbl:=zQ e2;rw[show n+2=(n+1)+1 from rfl,zdh];unfold zeV Yl Yi Yw Ya Yr Yp;rw[Q6 n hb0,zH,zC,Wu n hb0,zH,zC,Z7,za,zm,if_neg (by simp;omega)];have hy:(f:Int)+(-1)+c=((f+c - 1:Nat):Int):=by omega
 rw[zaQ n e1 e2 e3 hf hy (by omega) hc,zH];have hg:(f+c - 1) % c < c:=WD _ (by omega);generalize hgd:(f+c - 1) % c=g at hg ⊢;have m1:(h.set s (HB.box 3 [V.row b 1 0 c,V.int .i64 (g:Int),V.int .i64 (xs.length:Int)]))[s]?=some (.box 3 [V.row b 1 0 c,V.int .i64 (g:Int),V.int .i64 (xs.length:Int)]):=ZU hcl _;have m2:(h.set s (HB.box 3 [V.row b 1 0 c,V.int .i64 (g:Int),V.int .i64 (xs.length:Int)]))[b]?=some (.row 21 1 l z):=by rw[zd (Ne.symm k)];exact e2
 have hgl:g < l.length:=by omega
 have ea:=YI n (m:=0) m1 m2 e3 hg (by omega) hc;rw[show (g+0) % c=g by rw[z8];exact Nat.mod_eq_of_lt hg] at ea;have hx:l[g]?=some l[g]:=zf hgl;rw[show ((0:Nat):Int)=0 from rfl] at ea;rw[ea,zH,zC];simp only[ZD,za,z8];rw[QU m2 (by decide) (by simp) hx,zZ];have m3:((h.set s (HB.box 3 [V.row b 1 0 c,V.int .i64 (g:Int),V.int .i64 (xs.length:Int)])).set b (.row 21 1 (l.set g (setR l[g] 0 [V.int .i32 x])) z))[s]?=some (.box 3 [V.row b 1 0 c,V.int .i64 (g:Int),V.int .i64 (xs.length:Int)]):=by rw[zd k];exact m1
 rw[zI m3,zo,if_pos (by decide)];simp only[zb,zh,za];rw[zA,za,w64 (by omega) (by omega)];simp only[V.cells,zD,zP,zq,if_true];rw[Zx m3 (by simp),zZ];have hone:setR l[g] 0 [V.int .i32 x]=jz x:=by
  obtain⟨e,he⟩:∃ e,l[g]=[e]:=ZS.1 (e7 _ (ZN hgl));rw[he];rfl
 refine⟨_,rfl,⟨k,l.set g (jz x),z,g,?_,?_,by simpa using e3,.inl hg,by simp;omega,?_,?_⟩,⟨by simp,fun i h1 h2=>?_⟩⟩
 . rw[ZU (by simpa using hcl)];simp[setR]
 . rw[zd (Ne.symm k),ZU (by simpa using hbl),hone]
 . intro i hi;cases i with
   | zero =>
     rw[z8,Nat.mod_eq_of_lt hg,Zf hgl];rfl
   | succ j =>
     have hj:j < xs.length:=by simpa using hi
     have q1:(g+(j+1)) % c=(f+j) % c:=by rw[<- hgd];exact zrb (by omega) hf
     have q2:(f+j) % c≠g:=by rw[<- hgd,show f+c - 1=f+(c - 1) by omega];exact zrc (by omega) (by omega) (by omega)
     rw[q1,zd (Ne.symm q2),e6 j hj];rfl
 . intro es hes;rcases Qb hes with h1|rfl
   . exact e7 es h1
   . rfl
 . rw[zd (Ne.symm h1),zd (Ne.symm h2),zd (Ne.symm h1)]
theorem q7 (n : Nat) {h : ze} {s b c : Nat} {xs : List Int} (hb : RngAt h s b c xs) (x : Int) (hm : xs.length < c) (hc : c < 100000) :
    ∃ h',call (n+2) 206 [.ptr s 0,.int .i32 x] h=some (.ret [.bool true],h')/\RngAt h' s b c (xs++[x])/\RFed h h' s b:=by
 have hb0:=hb;obtain⟨k,l,z,f,e1,e2,e3,e4,e5,e6,e7⟩:=hb;have hf:f < c:=by omega
 have hcl:=zQ e1;have hbl:=zQ e2;rw[show n+2=(n+1)+1 from rfl,zdi];unfold zeW Yl Yi Yw Ya Yr Yp;rw[Q6 n hb0,zH,zC,Wu n hb0,zH,zC,Z7,za,zm,if_neg (by simp;omega),zI e1,zo,if_pos (by decide)];simp only[zb,zh,za];have hg:(f+xs.length) % c < c:=WD _ (by omega);rw[YI n e1 e2 e3 hf e5 hc];generalize hgd:(f+xs.length) % c=g at hg ⊢;have hgl:g < l.length:=by omega
 have hx:l[g]?=some l[g]:=zf hgl;simp only[clH,ZD,za,z8];rw[zC,za,QU e2 (by decide) (by simp) hx,zZ];have m3:(h.set b (.row 21 1 (l.set g (setR l[g] 0 [V.int .i32 x])) z))[s]?=some (.box 3 [V.row b 1 0 c,V.int .i64 (f:Int),V.int .i64 (xs.length:Int)]):=by rw[zd k];exact e1
 rw[zI m3,zo,if_pos (by decide)];simp only[zb,zh,za];rw[zA,za,w64 (by omega) (by omega)];simp only[V.cells,zD,zP,zq,if_true];rw[Zx m3 (by simp),zZ];have hone:setR l[g] 0 [V.int .i32 x]=jz x:=by
  obtain⟨e,he⟩:∃ e,l[g]=[e]:=ZS.1 (e7 _ (ZN hgl));rw[he];rfl
 refine⟨_,rfl,⟨k,l.set g (jz x),z,f,?_,?_,by simpa using e3,.inl hf,by simp;omega,?_,?_⟩,⟨by simp,fun i h1 h2=>?_⟩⟩
 . rw[ZU (by simpa using hcl)];simp[setR]
 . rw[zd (Ne.symm k),ZU (by simpa using hbl),hone]
 . intro i hi;rw[zL,ZG] at hi;rcases ZX i xs.length with h1|h1
   . have q2:(f+i) % c≠g:=by rw[<- hgd];exact zrc (by omega) (by omega) (by omega)
     rw[zd (Ne.symm q2),e6 i h1,List.getElem_append_left h1]
   . obtain rfl:i=xs.length:=by omega
     rw[hgd,Zf hgl];simp
 . intro es hes;rcases Qb hes with h1|rfl
   . exact e7 es h1
   . rfl
 . rw[zd (Ne.symm h1),zd (Ne.symm h2)]
theorem zaR (n : Nat) {h : ze} {s b c : Nat} {x : Int} {xs : List Int} (hb : RngAt h s b c (x :: xs)) (hc : c < 100000) :
    ∃ h',call (n+2) 203 [.ptr s 0] h=some (.ret [.int .i32 x,.bool true],h')/\RngAt h' s b c xs/\RFed h h' s b:=by
 have hb0:=hb;obtain⟨k,l,z,f,e1,e2,e3,e4,e5,e6,e7⟩:=hb;simp only[zD] at e1 e5 e6;have hf:f < c:=by omega
 have hcl:=zQ e1;have hbl:=zQ e2;rw[show n+2=(n+1)+1 from rfl,zeT];unfold zhG Yl Yi Yw Yr Yp;rw[Q6 n hb0,zH,zC,ZT,za,zm,if_neg (by simp;omega)];have ea:=YI n (m:=0) e1 e2 e3 hf (by omega) hc;rw[show ((0:Nat):Int)=0 from rfl] at ea;rw[ea,zH,zC];simp only[ZD,za,z8];have h0:=e6 0 (by omega);rw[z8] at h0;rw[ZJ e2 (by decide) h0,zo,if_pos (by decide)];simp only[jz,zb,za,List.getElem_cons_zero];have hy:(f:Int)+1+c=((f+1+c:Nat):Int):=by omega
 rw[zaQ n e1 e2 e3 hf hy (by omega) hc,zH,Nat.add_mod_right];have hg:(f+1) % c < c:=WD _ (by omega);generalize hgd:(f+1) % c=g at hg ⊢;have m1:(h.set s (HB.box 3 [V.row b 1 0 c,V.int .i64 (g:Int),V.int .i64 ((xs.length+1:Nat):Int)]))[s]?=some (.box 3 [V.row b 1 0 c,V.int .i64 (g:Int),V.int .i64 ((xs.length+1:Nat):Int)]):=ZU hcl _;rw[zI m1,zo,if_pos (by decide)];simp only[zb,zh,za];rw[ZF,za,w64 (by omega) (by omega)];simp only[V.cells,zD,zP,zq,if_true];rw[Zx m1 (by simp),zZ];refine⟨_,rfl,⟨k,l,z,g,?_,?_,e3,.inl hg,by omega,?_,e7⟩,⟨by simp,fun i h1 h2=>?_⟩⟩
 . rw[ZU (by simpa using hcl)];simp[setR]
 . rw[zd (Ne.symm k),zd (Ne.symm k)];exact e2
 . intro i hi;have q:=e6 (i+1) (by omega);rw[<- hgd,zra (by omega),q];rfl
 . rw[zd (Ne.symm h1),zd (Ne.symm h1)]
theorem zaS (n : Nat) {h : ze} {s b c : Nat} {x : Int} {xs : List Int} (hb : RngAt h s b c (xs ++ [x])) (hc : c < 100000) :
    ∃ h',call (n+2) 204 [.ptr s 0] h=some (.ret [.int .i32 x,.bool true],h')/\RngAt h' s b c xs/\RFed h h' s b:=by
 have hb0:=hb;obtain⟨k,l,z,f,e1,e2,e3,e4,e5,e6,e7⟩:=hb;rw[zL,ZG] at e1 e5;have hf:f < c:=by omega
 have hcl:=zQ e1;have hbl:=zQ e2;rw[show n+2=(n+1)+1 from rfl,zeU];unfold zhH Yl Yi Yw Yr Yp;rw[Q6 n hb0,zH,zC,ZT,za,zm,if_neg (by simp;omega),zI e1,zo,if_pos (by decide)];simp only[zb,zh,za];rw[ZF,za,w64 (by omega) (by omega)];simp only[V.cells,zD,zP,zq,if_true];rw[Zx e1 (by simp),zZ];have m1:(h.set s (HB.box 3 [V.row b 1 0 c,V.int .i64 (f:Int),V.int .i64 (xs.length:Int)]))[s]?=some (.box 3 [V.row b 1 0 c,V.int .i64 (f:Int),V.int .i64 (xs.length:Int)]):=ZU hcl _;have m2:(h.set s (HB.box 3 [V.row b 1 0 c,V.int .i64 (f:Int),V.int .i64 (xs.length:Int)]))[b]?=some (.row 21 1 l z):=by rw[zd (Ne.symm k)];exact e2
 have hset:setR [V.row b 1 0 c,V.int .i64 (f:Int),V.int .i64 ((xs.length+1:Nat):Int)] 2 [V.int .i64 (((xs.length+1:Nat):Int) - 1)]=[V.row b 1 0 c,V.int .i64 (f:Int),V.int .i64 (xs.length:Int)]:=by
  rw[show (((xs.length+1:Nat):Int) - 1)=(xs.length:Int) by omega];rfl
 rw[hset,zI m1,zo,if_pos (by decide)];simp only[zb,zh,za];rw[YI n m1 m2 e3 hf (by omega) hc];have hl0:=e6 xs.length (by simp);simp only[clH,ZD,za,z8];rw[zC,za,ZJ m2 (by decide) hl0,zo,if_pos (by decide)];simp only[jz,zb,za];refine⟨_,by simp,⟨k,l,z,f,m1,m2,e3,.inl hf,by omega,?_,e7⟩,⟨by simp,fun i h1 h2=>?_⟩⟩
 . intro i hi;have q:=e6 i (by simp;omega);rw[q,List.getElem_append_left hi]
 . rw[zd (Ne.symm h1)]
theorem zjB (n : Nat) {h : ze} {s b c : Nat} {xs : List Int} (hb : RngAt h s b c xs) (hc : c < 100000) (k x : Int) :
    ∃ h',call (n+3) 201 [.ptr s 0,.agg [.int .u8 k,.int .i32 x]] h=some (.ret [zjt (XN c k x xs).1.1 (XN c k x xs).1.2],h')/\RngAt h' s b c (XN c k x xs).2/\RFed h h' s b:=by
 rw[show n+3=(n+2)+1 from rfl,zq7];unfold zuP Yc Yr Yp;have ep:∀ (w:Bool) (h:ze),call (n+2) 209 [.bool w] h=some (.ret [zjt (if w then 1 else 3) 0],h):=fun w h=>by
  rw[show n+2=(n+1)+1 from rfl,zhI];unfold zgy Yr;cases w <;> rfl
 have eq:∀ (y:Int) (w:Bool) (h:ze),call (n+2) 210 [.int .i32 y,.bool w] h=some (.ret [if w then zjt 2 y else zjt 4 0],h):=fun y w h=>by
  rw[show n+2=(n+1)+1 from rfl,zhJ];unfold zgz Yr;cases w <;> rfl
 by_cases k1:k=1
 . rw[if_pos (by simp[k1])];by_cases hm:xs.length < c
   . obtain⟨h',e,b1,b2⟩:=q6 n hb x hm hc;have ht:XN c k x xs=((1,0),x :: xs):=by unfold XN;rw[if_pos k1,if_pos (by omega)]
     refine⟨h',?_,by rw[ht];exact b1,b2⟩;rw[e,zH,zC,ep,zH,zC,ht];rfl
   . have ht:XN c k x xs=((3,0),xs):=by unfold XN;rw[if_pos k1,if_neg (by omega)]
     refine⟨h,?_,by rw[ht];exact hb,RFed.refl ..⟩;rw[zeX n hb x (by omega),zH,zC,ep,zH,zC,ht];rfl
 rw[if_neg (by simp[k1])];by_cases k2:k=2
 . rw[if_pos (by simp[k2])];by_cases hm:xs.length < c
   . obtain⟨h',e,b1,b2⟩:=q7 n hb x hm hc;have ht:XN c k x xs=((1,0),xs++[x]):=by unfold XN;rw[if_neg k1,if_pos k2,if_pos (by omega)]
     refine⟨h',?_,by rw[ht];exact b1,b2⟩;rw[e,zH,zC,ep,zH,zC,ht];rfl
   . have ht:XN c k x xs=((3,0),xs):=by unfold XN;rw[if_neg k1,if_pos k2,if_neg (by omega)]
     refine⟨h,?_,by rw[ht];exact hb,RFed.refl ..⟩;rw[zeY n hb x (by omega),zH,zC,ep,zH,zC,ht];rfl
 rw[if_neg (by simp[k2])];by_cases k3:k=3
 . rw[if_pos (by simp[k3])];cases xs with
   | nil =>
     have ht:XN c k x []=((4,0),[]):=by unfold XN;rw[if_neg k1,if_neg k2,if_pos k3]
     refine⟨h,?_,by rw[ht];exact hb,RFed.refl ..⟩;rw[zfL n hb,zH];simp only[zb,zh,za];rw[eq,zH,zC,ht];rfl
   | cons y xs =>
     obtain⟨h',e,b1,b2⟩:=zaR n hb hc;have ht:XN c k x (y :: xs)=((2,y),xs):=by unfold XN;rw[if_neg k1,if_neg k2,if_pos k3]
     refine⟨h',?_,by rw[ht];exact b1,b2⟩;rw[e,zH];simp only[zb,zh,za];rw[eq,zH,zC,ht];rfl
 rw[if_neg (by simp[k3])];by_cases k4:k=4
 . rw[if_pos (by simp[k4])];rcases ZH xs with rfl|⟨ys,y,rfl⟩
   . have ht:XN c k x []=((4,0),[]):=by unfold XN;rw[if_neg k1,if_neg k2,if_neg k3,if_pos k4];rfl
     refine⟨h,?_,by rw[ht];exact hb,RFed.refl ..⟩;rw[zfM n hb,zH];simp only[zb,zh,za];rw[eq,zH,zC,ht];rfl
   . rw[QK] at hb ⊢;obtain⟨h',e,b1,b2⟩:=zaS n hb hc;have ht:XN c k x (ys++[y])=((2,y),ys):=by unfold XN;rw[if_neg k1,if_neg k2,if_neg k3,if_pos k4];simp
     refine⟨h',?_,by rw[ht];exact b1,b2⟩;rw[e,zH];simp only[zb,zh,za];rw[eq,zH,zC,ht];rfl
 rw[if_neg (by simp[k4])];have ht:XN c k x xs=((5,0),xs):=by unfold XN;rw[if_neg k1,if_neg k2,if_neg k3,if_neg k4]
 exact⟨h,by rw[ht];rfl,by rw[ht];exact hb,RFed.refl ..⟩
end Go.Proofs.Tryz
namespace Go.Proofs.Tryz
open Go.L
set_option maxRecDepth 100000
noncomputable def znq(n:Nat)(h:ze):Option (Res×ze) :=
 (zbL ((h++[(HB.map [])]))[(h).length]? fun a=>(bd (kds prog 12 5) fun f=>bd (Qp f (V.int .u8 1) a 0) fun b=>if (((V.int .u8 1)).one=!false/\((V.int .u8 1)).cells.length=f.length) then
 (zbL ((((h++[(HB.map [])])).set (h).length (HB.map (upd a (V.int .u8 1) (V.agg [(V.bool true),(V.int .i64 0)]) b))))[(h).length]? fun c=>(bd (kds prog 12 5) fun g=>bd (Qp g (V.int .u8 2) c 0) fun d=>if (((V.int .u8 2)).one=!false/\((V.int .u8 2)).cells.length=g.length) then
 (zbL ((((((h++[(HB.map [])])).set (h).length (HB.map (upd a (V.int .u8 1) (V.agg [(V.bool true),(V.int .i64 0)]) b)))).set (h).length (HB.map (upd c (V.int .u8 2) (V.agg [(V.bool true),(V.int .i64 1)]) d))))[(h).length]? fun e=>(bd (kds prog 12 5) fun i=>bd (Qp i (V.int .u8 3) e 0) fun j=>if (((V.int .u8 3)).one=!false/\((V.int .u8 3)).cells.length=i.length) then
 (zbL ((((((((h++[(HB.map [])])).set (h).length (HB.map (upd a (V.int .u8 1) (V.agg [(V.bool true),(V.int .i64 0)]) b)))).set (h).length (HB.map (upd c (V.int .u8 2) (V.agg [(V.bool true),(V.int .i64 1)]) d)))).set (h).length (HB.map (upd e (V.int .u8 3) (V.agg [(V.bool false),(V.int .i64 0)]) j))))[(h).length]? fun k=>(bd (kds prog 12 5) fun l=>bd (Qp l (V.int .u8 4) k 0) fun m=>if (((V.int .u8 4)).one=!false/\((V.int .u8 4)).cells.length=l.length) then
 Yr [(V.map (h).length)] (((((((((h++[(HB.map [])])).set (h).length (HB.map (upd a (V.int .u8 1) (V.agg [(V.bool true),(V.int .i64 0)]) b)))).set (h).length (HB.map (upd c (V.int .u8 2) (V.agg [(V.bool true),(V.int .i64 1)]) d)))).set (h).length (HB.map (upd e (V.int .u8 3) (V.agg [(V.bool false),(V.int .i64 0)]) j)))).set (h).length (HB.map (upd k (V.int .u8 4) (V.agg [(V.bool false),(V.int .i64 1)]) m))) else none)) else none)) else none)) else none))
theorem zlY(n h):call (n+1) 212 [] h=znq n h:=by kernel_rfl
noncomputable def zhK(n s:Nat)(d i:Int)(h:ze):Option (Res×ze) :=
 (Yl h (V.ptr s 2) fun e =>
 (Yl h (V.ptr s 0) fun f =>
 (bd (ZI h f) fun g =>
 (bd (bop prog .add 3 e (V.int .i64 ((g.2).length:Int))) fun j =>
 (Yl h (V.ptr s 1) fun k =>
 (bd (ZI h k) fun l =>
 (bd (bop prog .add 3 j (V.int .i64 ((l.2).length:Int))) fun m =>
 (Yl h (V.ptr s 3) fun o =>
 (Yi (bop prog .geq 3 m o)
 (Yr [(V.bool false)] h)
 (bd (nv (V.int .i64 d)) fun a =>
 (Yg (a < 2) (Yl h (V.ptr s ((0+(a * 1))+0)) fun p =>
 (bd2 (Ws 3 1 h [[(V.int .i64 i)]] p) fun q b =>
 (bd (nv (V.int .i64 d)) fun c =>
 (Yg (c < 2) (Yw q b (V.ptr s ((0+(c * 1))+0)) fun r t =>
 Yr [(V.bool true)] ((b).set r t)))))))))))))))))
theorem zeZ(n s d i h):call (n+1) 213 [(V.ptr s 0),(V.int .i64 d),(V.int .i64 i)] h=zhK n s d i h:=by kernel_rfl
noncomputable def ze0(n s:Nat)(d:Int)(h:ze):Option (Res×ze) :=
 (bd (nv (V.int .i64 d)) fun a =>
 (Yg (a < 2) (bd (nv (V.int .i64 (IntKind.i64.wrap (1 - d)))) fun b =>
 (Yg (b < 2) (Yl h (V.ptr s (((0+(a * 1))+0)+0)) fun c =>
 (bd (ZI h c) fun e =>
 (if (decide (((e.2).length:Int) > 0)) then
 (cl (call n 215 [(V.ptr s (0+(a * 1)))] h) (fun f g =>
 (Zm f fun i =>
 Yr [i,(V.bool true)] g)) Yp)
 else
 (Yl h (V.ptr s 2) fun j =>
 (Yi (bop prog .gtr 3 j (V.int .i64 0))
 (Yl h (V.ptr s 2) fun k =>
 (bd (bop prog .sub 3 k (V.int .i64 1)) fun l =>
 (Yw l h (V.ptr s 2) fun m o =>
 Yr [(V.int .i64 (-1)),(V.bool true)] ((h).set m o))))
 (Yl h (V.ptr s (((0+(b * 1))+0)+0)) fun p =>
 (bd (ZI h p) fun q =>
 (if (decide (((q.2).length:Int) > 0)) then
 (cl (call n 216 [(V.ptr s (0+(b * 1)))] h) (fun r t =>
 (Zm r fun u =>
 Yr [u,(V.bool true)] t)) Yp)
 else
 Yr [(V.int .i64 0),(V.bool false)] h))))))))))))
theorem zax(n s d h):call (n+1) 214 [(V.ptr s 0),(V.int .i64 d)] h=ze0 n s d h:=by kernel_rfl
noncomputable def zjC(n:Nat)(x0:V)(h:ze):Option (Res×ze) :=
 (bd (ZD 0 x0) fun c =>
 (bd (ZD 0 c) fun d =>
 (Yl h d fun a =>
 (bd (ZD 0 x0) fun e =>
 (bd (ZD 0 e) fun f =>
 (Yl h f fun g =>
 (bd (ZI h g) fun i =>
 (Yx 1 (V.int .i64 (IntKind.i64.wrap (((i.2).length:Int) - 1))) a fun j =>
 (Yl h (jd a j) fun k =>
 (bd (ZD 0 x0) fun l =>
 (bd (ZD 0 l) fun m =>
 (Yl h m fun b =>
 (bd (ZD 0 x0) fun o =>
 (bd (ZD 0 o) fun p =>
 (Yl h p fun q =>
 (bd (ZI h q) fun r =>
 (bd (zcm b) fun y =>
 (bdS (nv (V.int .i64 (IntKind.i64.wrap (((r.2).length:Int) - 1)))) fun s =>
 (bd (Je 1 0 s (none:Option Nat) true b) fun t =>
 (bd (ZD 0 x0) fun u =>
 (bd (ZD 0 u) fun v =>
 (Yw t h v fun w x =>
 Yr [k] ((h).set w x)))))))))))))))))))))))
theorem zjD(n x0 h):call (n+1) 215 [x0] h=zjC n x0 h:=by kernel_rfl
noncomputable def zjE(n:Nat)(x0:V)(h:ze):Option (Res×ze) :=
 (bd (ZD 0 x0) fun b =>
 (bd (ZD 0 b) fun c =>
 (Yl h c fun d =>
 (bd (Jz 1 0 d) fun e =>
 (Yl h e fun f =>
 (bd (ZD 0 x0) fun g =>
 (bd (ZD 0 g) fun i =>
 (Yl h i fun a =>
 (bd (zcm a) fun j =>
 (bd (Je 1 1 j (none:Option Nat) true a) fun k =>
 (bd (ZD 0 x0) fun l =>
 (bd (ZD 0 l) fun m =>
 (Yw k h m fun o p =>
 Yr [f] ((h).set o p))))))))))))))
theorem zjF(n x0 h):call (n+1) 216 [x0] h=zjE n x0 h:=by kernel_rfl
noncomputable def zrd(n:Nat)(i j:Int)(q r l:Nat)(os:List (List V))(osb:Bool)(h:ze):Option (Res×ze) :=
 (if (decide (j < 0)) then
 (clH (call n 203 [(V.ptr q 0)] h) fun a b =>
 (bd (a)[0]? fun c =>
 (bd (a)[1]? fun t =>
 (Yx 1 (V.int .i64 i) (V.row r 1 0 l) fun d =>
 (Yw c b (V.rptr r 1 (ixP d) 0) fun e f =>
 Yr [] ((b).set e f))))))
 else
 (Yx 2 (V.int .i64 j) (V.sl 2 os osb) fun g =>
 (bd (ZD 1 g) fun k =>
 (Yl h k fun m =>
 (Yx 1 (V.int .i64 i) (V.row r 1 0 l) fun o =>
 (Yw m h o fun p s =>
 Yr [] ((h).set p s)))))))
theorem zjG(n:Nat)(i:Int)(j:Int)(q:Nat)(r:Nat)(l:Nat)(os:List (List V))(osb:Bool)(h:ze):call (n+1) 208 [(V.int .i64 i),(V.int .i64 0),(V.int .i64 j),(V.iptr 2 [(V.bf 203 [(V.ptr q 0)]),(V.bf 204 [(V.ptr q 0)])] 0),(V.iptr 1 [(V.row r 1 0 l)] 0),(V.iptr 1 [(V.sl 2 os osb)] 0)] h=zrd n i j q r l os osb h:=by kernel_rfl
noncomputable def zre(n:Nat)(i j:Int)(q r l:Nat)(os:List (List V))(osb:Bool)(h:ze):Option (Res×ze) :=
 (if (decide (j < 0)) then
 (clH (call n 204 [(V.ptr q 0)] h) fun a b =>
 (bd (a)[0]? fun c =>
 (bd (a)[1]? fun t =>
 (Yx 1 (V.int .i64 i) (V.row r 1 0 l) fun d =>
 (Yw c b (V.rptr r 1 (ixP d) 0) fun e f =>
 Yr [] ((b).set e f))))))
 else
 (Yx 2 (V.int .i64 j) (V.sl 2 os osb) fun g =>
 (bd (ZD 1 g) fun k =>
 (Yl h k fun m =>
 (Yx 1 (V.int .i64 i) (V.row r 1 0 l) fun o =>
 (Yw m h o fun p s =>
 Yr [] ((h).set p s)))))))
theorem zjH(n:Nat)(i:Int)(j:Int)(q:Nat)(r:Nat)(l:Nat)(os:List (List V))(osb:Bool)(h:ze):call (n+1) 208 [(V.int .i64 i),(V.int .i64 1),(V.int .i64 j),(V.iptr 2 [(V.bf 203 [(V.ptr q 0)]),(V.bf 204 [(V.ptr q 0)])] 0),(V.iptr 1 [(V.row r 1 0 l)] 0),(V.iptr 1 [(V.sl 2 os osb)] 0)] h=zre n i j q r l os osb h:=by kernel_rfl
noncomputable def JB(n s:Nat)(os:List (List V))(osb:Bool)(q r l:Nat)(v5:V)(st7:List V)(hh8:ze)(next9:List V->ze->Option (Res×ze)):Option (Res×ze) :=
 (Yi (bop prog .lss 3 (gv st7 3) (V.int .i64 ((os).length:Int)))
 (Yx 2 (gv st7 3) (V.sl 2 os osb) fun B =>
 (bd3 (Zv hh8 B) fun g C d=>if (d+2<=C/\0 < 2) then
 (if (((g).drop d |>.take 2)).length=2 then
 (Yg ((((g).drop d |>.take 2)).length<=2) (bd ((setR [(V.int .u8 0),(V.int .i32 0)] 0 ((g).drop d |>.take 2)))[0]? fun h =>
 (bdS (Yy hh8 v5) fun u =>
 (bd (kds prog 12 5) fun v=>bdS (Qp v h u 0) fun w=>bd (J1 u (V.agg [(V.bool false),(V.int .i64 0)]) w) fun a=>if ((h).one=!false/\(h).cells.length=v.length/\true=true) then
 (Yc a 2 (if (!w.isSome) then
 (bdS (nv (gv st7 3)) fun i =>
 (Yg (2=2/\i < ((lsl (gv st7 1))).length/\(some 60:Option Nat)≠some 7) (bd ((lsl (gv st7 1)))[i]? fun D =>
 (Ya (gv st7 3) fun E =>
 (next9 [(V.sl 2 (lsl (gv st7 0)) false),(V.sl 2 (((lsl (gv st7 1))).set i (setR D 0 [(V.int .u8 5)])) false),(V.bool false),E] hh8)))))
 else
 (bd ((setR [(V.bool false),(V.int .i64 0)] 0 (V.cells a)))[0]? fun F =>
 (bv F fun G=>if G then
 (bd ((setR [(V.bool false),(V.int .i64 0)] 0 (V.cells a)))[1]? fun H =>
 (cl (call n 213 [(V.ptr s 0),H,(gv st7 3)] hh8) (fun I j =>
 (Zm I fun J =>
 (bv J fun K=>if K then
 (bdS (nv (gv st7 3)) fun k =>
 (Yg (2=2/\k < ((lsl (gv st7 1))).length/\(some 74:Option Nat)≠some 7) (bd ((lsl (gv st7 1)))[k]? fun L =>
 (Ya (gv st7 3) fun M =>
 (next9 [(V.sl 2 (lsl (gv st7 0)) false),(V.sl 2 (((lsl (gv st7 1))).set k (setR L 0 [(V.int .u8 1)])) false),(V.bool false),M] j)))))
 else
 (bd ((setR [(V.bool false),(V.int .i64 0)] 0 (V.cells a)))[0]? fun N =>
 (bv N fun O=>if O then
 (bdS (nv (gv st7 3)) fun m =>
 (Yg (2=2/\m < ((lsl (gv st7 1))).length/\(some 81:Option Nat)≠some 7) (bd ((lsl (gv st7 1)))[m]? fun P =>
 (Ya (gv st7 3) fun Q =>
 (next9 [(V.sl 2 (lsl (gv st7 0)) false),(V.sl 2 (((lsl (gv st7 1))).set m (setR P 0 [(V.int .u8 3)])) false),(V.bool false),Q] j)))))
 else
 (bdS (nv (gv st7 3)) fun b =>
 (Yg (2=2/\b < ((lsl (gv st7 1))).length/\(some 35:Option Nat)≠some 7) (bd ((lsl (gv st7 1)))[b]? fun e =>
 (bd ((setR [(V.bool false),(V.int .i64 0)] 0 (V.cells a)))[1]? fun R =>
 (cl (call n 214 [(V.ptr s 0),R] j) (fun x y =>
 (bd (x)[0]? fun S =>
 (bd (x)[1]? fun T =>
 (bv T fun U=>if U then
 (bdS (nv (gv st7 3)) fun o =>
 (Yg (2=2/\o < ((((lsl (gv st7 1))).set b (setR e 0 [(V.int .u8 4)]))).length/\(some 47:Option Nat)≠some 7) (bd ((((lsl (gv st7 1))).set b (setR e 0 [(V.int .u8 4)])))[o]? fun W =>
 (bd ((setR [(V.bool false),(V.int .i64 0)] 0 (V.cells a)))[1]? fun X =>
 (cl (call n 208 [(gv st7 3),X,S,(V.iptr 2 [(V.bf 203 [(V.ptr q 0)]),(V.bf 204 [(V.ptr q 0)])] 0),(V.iptr 1 [(V.row r 1 0 l)] 0),(V.iptr 1 [(V.sl 2 os osb)] 0)] y) (fun ao Y =>
 (Ya (gv st7 3) fun Z =>
 (next9 [(V.sl 2 (lsl (gv st7 0)) false),(V.sl 2 (((((lsl (gv st7 1))).set b (setR e 0 [(V.int .u8 4)]))).set o (setR W 0 [(V.int .u8 2)])) false),(V.bool false),Z] Y))) Yp)))))
 else
 (Ya (gv st7 3) fun aa =>
 (next9 [(V.sl 2 (lsl (gv st7 0)) false),(V.sl 2 (((lsl (gv st7 1))).set b (setR e 0 [(V.int .u8 4)])) false),(V.bool false),aa] y)))))) Yp)))))))))) Yp))
 else
 (bd ((setR [(V.bool false),(V.int .i64 0)] 0 (V.cells a)))[0]? fun ab =>
 (bv ab fun ac=>if ac then
 (bdS (nv (gv st7 3)) fun p =>
 (Yg (2=2/\p < ((lsl (gv st7 1))).length/\(some 81:Option Nat)≠some 7) (bd ((lsl (gv st7 1)))[p]? fun ad =>
 (Ya (gv st7 3) fun ae =>
 (next9 [(V.sl 2 (lsl (gv st7 0)) false),(V.sl 2 (((lsl (gv st7 1))).set p (setR ad 0 [(V.int .u8 3)])) false),(V.bool false),ae] hh8)))))
 else
 (bdS (nv (gv st7 3)) fun c =>
 (Yg (2=2/\c < ((lsl (gv st7 1))).length/\(some 35:Option Nat)≠some 7) (bd ((lsl (gv st7 1)))[c]? fun f =>
 (bd ((setR [(V.bool false),(V.int .i64 0)] 0 (V.cells a)))[1]? fun af =>
 (cl (call n 214 [(V.ptr s 0),af] hh8) (fun z A =>
 (bd (z)[0]? fun ag =>
 (bd (z)[1]? fun ah =>
 (bv ah fun ai=>if ai then
 (bdS (nv (gv st7 3)) fun t =>
 (Yg (2=2/\t < ((((lsl (gv st7 1))).set c (setR f 0 [(V.int .u8 4)]))).length/\(some 47:Option Nat)≠some 7) (bd ((((lsl (gv st7 1))).set c (setR f 0 [(V.int .u8 4)])))[t]? fun aj =>
 (bd ((setR [(V.bool false),(V.int .i64 0)] 0 (V.cells a)))[1]? fun ak =>
 (cl (call n 208 [(gv st7 3),ak,ag,(V.iptr 2 [(V.bf 203 [(V.ptr q 0)]),(V.bf 204 [(V.ptr q 0)])] 0),(V.iptr 1 [(V.row r 1 0 l)] 0),(V.iptr 1 [(V.sl 2 os osb)] 0)] A) (fun ap al =>
 (Ya (gv st7 3) fun am =>
 (next9 [(V.sl 2 (lsl (gv st7 0)) false),(V.sl 2 (((((lsl (gv st7 1))).set c (setR f 0 [(V.int .u8 4)]))).set t (setR aj 0 [(V.int .u8 2)])) false),(V.bool false),am] al))) Yp)))))
 else
 (Ya (gv st7 3) fun an =>
 (next9 [(V.sl 2 (lsl (gv st7 0)) false),(V.sl 2 (((lsl (gv st7 1))).set c (setR f 0 [(V.int .u8 4)])) false),(V.bool false),an] A)))))) Yp))))))))))) else none)))) else none) else none))
 (Yr [(V.row (hh8).length 2 0 ((lsl (gv st7 1))).length)] (hh8++[(HB.row 35 2 (lsl (gv st7 1)) true)])))
noncomputable def zrf(n s:Nat)(os:List (List V))(osb:Bool)(q r l:Nat)(h:ze):Option (Res×ze) :=
 (bdS (nv (V.int .i64 ((os).length:Int))) fun a =>
 (bdS (nv (V.int .i64 ((os).length:Int))) fun b =>
 (Yg (a<=b/\b < lim/\2=2) (cl (call n 212 [] h) (fun c d =>
 (Zm c fun e =>
 (zV n (JB n s os osb q r l e) [(V.sl 2 [] false),(V.sl 2 (List.replicate a [(V.int .u8 0),(V.int .i32 0)]) false),(V.bool false),(V.int .i64 0)] d))) Yp))))
theorem zo7(n:Nat)(s:Nat)(os:List (List V))(osb:Bool)(q:Nat)(r:Nat)(l:Nat)(h:ze):call (n+1) 207 [(V.ptr s 0),(V.sl 2 os osb),(V.fn 208 [(V.iptr 2 [(V.bf 203 [(V.ptr q 0)]),(V.bf 204 [(V.ptr q 0)])] 0),(V.iptr 1 [(V.row r 1 0 l)] 0),(V.iptr 1 [(V.sl 2 os osb)] 0)])] h=zrf n s os osb q r l h:=by kernel_rfl
noncomputable def Wh(n:Nat)(os:List (List V))(osb:Bool)(st19:List V)(next21:List V->ze->Option (Res×ze))(v25:V)(p26:Nat×List (List V))(st28:List V)(hh29:ze)(next30:List V->ze->Option (Res×ze)):Option (Res×ze) :=
 (Yi (bop prog .lss 3 (gv st28 3) (V.int .i64 ((p26.2).length:Int)))
 (Yx 1 (gv st28 3) v25 fun m =>
 (Yl hh29 m fun o =>
 (bd (nv (gv st19 2)) fun e =>
 (Yg (e < 2) (Yg ((e * 1)+1<=2/\0 < 1) (bd ((lcs (gv st28 1)))[(e * 1)]? fun p =>
 (Yx 2 o (V.sl 2 os osb) fun q =>
 (bd (ZD 1 q) fun r =>
 (Yl hh29 r fun c =>
 (zwe p (fun a i=>if (okV prog 4 a=true) then(if QI a then
 (cl (call n a ([c]++i) hh29) (fun d b =>
 (Zm d fun D =>
 (Ya (gv st28 3) fun s =>
 (next30 [(V.sl 2 (lsl (gv st28 0)) false),(V.agg (lcs (gv st28 1))),(V.agg (lcs (gv st28 2))),s] b)))) (fun j b=>none))
 else if Yd a then
 (bd (WI [(Wp hh29 c)]) fun t=>cl (call n a (t++i) hh29) (fun d b=>if V.simple.simpleL d then
 (Zm d fun E =>
 (Ya (gv st28 3) fun u =>
 (next30 [(V.sl 2 (lsl (gv st28 0)) false),(V.agg (lcs (gv st28 1))),(V.agg (lcs (gv st28 2))),u] b))) else none) (fun j b=>if j.simple then none else none))
 else none) else none) (fun f v=>if (QI f=true/\okV prog 4 f=true) then
 (cl (call n f (v++[c]) hh29) (fun w k =>
 (Zm w fun F =>
 (Ya (gv st28 3) fun x =>
 (next30 [(V.sl 2 (lsl (gv st28 0)) false),(V.agg (lcs (gv st28 1))),(V.agg (lcs (gv st28 2))),x] k)))) (fun G k=>none)) else none) (fun g y=>if (zd2 prog g=false/\(prog.underlying g).isSome=true) then bd2 (JR prog g c y) fun h z=>if (QI h=true/\okV prog 4 h=true) then
 (cl (call n h ([z]++[]) hh29) (fun A l =>
 (Zm A fun H =>
 (Ya (gv st28 3) fun B =>
 (next30 [(V.sl 2 (lsl (gv st28 0)) false),(V.agg (lcs (gv st28 1))),(V.agg (lcs (gv st28 2))),B] l)))) (fun I l=>none)) else none else none)))))))))))
 (Ya (gv st19 2) fun C =>
 (next21 [(V.sl 2 (lsl (gv st28 0)) false),(V.agg (lcs (gv st28 1))),C] hh29)))
noncomputable def W4(n:Nat)(h5:ze)(n9:Nat)(v14:V)(p75:Nat×List (List V))(st77:List V)(hh78:ze)(next79:List V->ze->Option (Res×ze)):Option (Res×ze) :=
 (Yi (bop prog .lss 3 (gv st77 2) (V.int .i64 ((p75.2).length:Int)))
 (Yx 1 (gv st77 2) (V.row (h5).length 1 0 ((List.replicate n9 [(V.int .i32 0)])).length) fun a =>
 (Yl hh78 a fun b =>
 (Yx 2 (gv st77 2) v14 fun c =>
 (bd (ZD 1 c) fun d =>
 (Yw b hh78 d fun e f =>
 (Ya (gv st77 2) fun g =>
 (next79 [(V.sl 2 (lsl (gv st77 0)) false),(V.agg (lcs (gv st77 1))),g] ((hh78).set e f))))))))
 (Yr [v14] hh78))
noncomputable def JJ(n:Nat)(os:List (List V))(osb:Bool)(h5:ze)(n9:Nat)(v14:V)(cs16:List V)(o17:Nat)(st19:List V)(hh20:ze)(next21:List V->ze->Option (Res×ze)):Option (Res×ze) :=
 (Yi (bop prog .lss 3 (gv st19 2) (V.int .i64 2))
 (bdS (nv (gv st19 2)) fun a =>
 (Yg (a < 2/\(a * 1)+1<=(((cs16).drop o17 |>.take 2)).length) (if (((((cs16).drop o17 |>.take 2)).drop (a * 1) |>.take 1)).length=1 then
 (Yg ((((((cs16).drop o17 |>.take 2)).drop (a * 1) |>.take 1)).length<=1) (bd ((setR [(V.sl 0 [] true)] 0 ((((cs16).drop o17 |>.take 2)).drop (a * 1) |>.take 1)))[0]? fun b =>
 (bd (ZI hh20 b) fun c =>
 (zV n (Wh n os osb st19 next21 b c) [(V.sl 2 (lsl (gv st19 0)) false),(V.agg (lcs (gv st19 1))),(V.agg (setR [(V.sl 0 [] true)] 0 ((((cs16).drop o17 |>.take 2)).drop (a * 1) |>.take 1))),(V.int .i64 0)] hh20)))) else none)))
 (bd (ZI hh20 (V.row (h5).length 1 0 ((List.replicate n9 [(V.int .i32 0)])).length)) fun d =>
 (zV n (W4 n h5 n9 v14 d) [(V.sl 2 (lsl (gv st19 0)) false),(V.agg (lcs (gv st19 1))),(V.int .i64 0)] hh20)))
noncomputable def zjI(n s:Nat)(os:List (List V))(osb:Bool)(h:ze):Option (Res×ze) :=
 (cl (call n 192 [(V.ptr s 0)] h) (fun g i =>
 (Zm g fun j =>
 (cl (call n 202 [(V.ptr s 0)] i) (fun k b =>
 (Zm k fun l =>
 (bd (Wz prog 274 [(1,j),(2,l)]) fun c =>
 (if (c).length=4 then
 (bdS (nv (V.int .i64 ((os).length:Int))) fun a =>
 (bdS (nv (V.int .i64 ((os).length:Int))) fun d =>
 (Yg (a<=d/\d < lim/\1=1) (cl (call n 207 [(V.ptr ((b++[(HB.row 21 1 (List.replicate a [(V.int .i32 0)]) true)])).length 0),(V.sl 2 os osb),(V.fn 208 [(V.iptr 2 [(V.bf 203 [(V.ptr s 0)]),(V.bf 204 [(V.ptr s 0)])] 0),(V.iptr 1 [(V.row (b).length 1 0 ((List.replicate a [(V.int .i32 0)])).length)] 0),(V.iptr 1 [(V.sl 2 os osb)] 0)])] ((b++[(HB.row 21 1 (List.replicate a [(V.int .i32 0)]) true)])++[(HB.box 4 c)])) (fun m e =>
 (Zm m fun o =>
 (bd3 (Zv e (V.ptr ((b++[(HB.row 21 1 (List.replicate a [(V.int .i32 0)]) true)])).length 0)) fun p q f=>if (f+2<=q/\0 < 2) then
 (zV n (JJ n os osb b a o p f) [(V.sl 2 [] false),(V.agg [(V.bf 205 [(V.ptr s 0)]),(V.bf 206 [(V.ptr s 0)])]),(V.int .i64 0)] e) else none))) Yp)))) else none)))) Yp))) Yp)
theorem zjJ(n:Nat)(s:Nat)(os:List (List V))(osb:Bool)(h:ze):call (n+1) 199 [(V.ptr s 0),(V.sl 2 os osb)] h=zjI n s os osb h:=by kernel_rfl
end Go.Proofs.Tryz
namespace Go.Sk
open Go.L Go.Rp
def WR{α:Type}(d:Nat)(x:α)(v:Nat->α):Nat->α:=fun j=>if j=d then x else v j
theorem Wi{α:Type}(d:Nat)(x:α)(v:Nat->α):WR d x v d=x:=if_pos rfl
theorem Y1{α:Type}{d e:Nat}(x:α)(v:Nat->α)(h:e≠d):WR d x v e=v e:=if_neg h
end Go.Sk
namespace Go.Proofs.Tryz
open Go.L Go.Rp Go.Sk
set_option maxRecDepth 100000
def SideV(h:ze)(v:V)(ob:Option Nat)(ws:List Nat):Prop:=match ob with
 | none=>v=.sl 0 [] true/\ws=[]
 | some b=>∃ lo l z,v=.row b 1 lo (lo+ws.length)/\h[b]?=some (.row 3 1 l z)/\lo+ws.length<=l.length/\(l.take (lo+ws.length)).drop lo=ws.map WQ
theorem SideV.keep{h h':ze}{v:V}{ob:Option Nat}{ws:List Nat}(hv:SideV h v ob ws)(hk:∀ b,ob=some b->h'[b]?=h[b]?):SideV h' v ob ws:=by
 cases ob with
 | none=>exact hv
 | some b =>
   obtain⟨lo,l,z,h1,h2,h3⟩:=hv;exact⟨lo,l,z,h1,(hk b rfl).trans h2,h3⟩
theorem SideV.lt{h:ze}{v:V}{b:Nat}{ws:List Nat}(hv:SideV h v (some b) ws):b < h.length:=by
 obtain⟨lo,l,z,h1,h2,h3⟩:=hv;exact zQ h2
theorem SideV.slc{h:ze}{v:V}{ob:Option Nat}{ws:List Nat}(hv:SideV h v ob ws):∃ sz,ZI h v=some (sz,ws.map WQ):=by
 cases ob with
 | none =>
   obtain⟨rfl,rfl⟩:=hv;exact⟨0,j9 ..⟩
 | some b =>
   obtain⟨lo,l,z,rfl,h2,h3,h4⟩:=hv;exact⟨1,by rw[Qm h2 (Nat.le_add_right _ _) h3,h4]⟩
theorem SideV.one{h:ze}{v:V}{ob:Option Nat}{ws:List Nat}(hv:SideV h v ob ws):V.cells v=[v]:=by
 cases ob with
 | none =>
   obtain⟨rfl,rfl⟩:=hv;rfl
 | some b =>
   obtain⟨lo,l,z,rfl,h2,h3,h4⟩:=hv;rfl
theorem SideV.app{h:ze}{v:V}{ob:Option Nat}{ws:List Nat}(hv:SideV h v ob ws)(i:Nat)(hl:ws.length+1 < lim):∃ v' h',Ws 3 1 h [[.int .i64 (i:Int)]] v=some (v',h')/\SideV h' v' (some h.length) (ws++[i])/\h'.length=h.length+1/\∀ j,j < h.length->ob≠some j->h'[j]?=h[j]?:=by
 cases ob with
 | none =>
   obtain⟨rfl,rfl⟩:=hv;exact⟨.row h.length 1 0 1,h++[.row 3 1 [[.int .i64 (i:Int)]] true],rfl,⟨0,_,_,rfl,zx,by simp,by simp[WQ]⟩,by simp,fun j h1 h2=>zk h1⟩
 | some b =>
   obtain⟨lo,l,z,rfl,h2,h3,h4⟩:=hv;have hbl:=zQ h2;have jj:Ws 3 1 h [[.int .i64 (i:Int)]] (.row b 1 lo (lo+ws.length))=some (.row h.length 1 0 (ws.length+1),h.set b .dead++[.row 3 1 (ws.map WQ++[[.int .i64 (i:Int)]]) (z && lo == 0)]):=by
    simp only[Ws,h2];rw[if_pos (by refine⟨⟨?_,?_,?_⟩,⟨by omega,h3⟩,by simp;omega⟩ <;> first|trivial|rfl),h4];simp
   refine⟨_,_,jj,⟨0,ws.map WQ++[[.int .i64 (i:Int)]],(z && lo == 0),by simp,?_,by simp,?_⟩,by simp,fun j h1 h2=>?_⟩
   . rw[zJ (by simp)];simp
   . simp[WQ,zU]
   . rw[zk (by simpa using h1),zd (fun e=>h2 (by rw[e]))]
theorem SideV.outer{h:ze}{v:V}{ob:Option Nat}{w0:List Nat}{w:Nat}(hv:SideV h v ob (w0++[w])):∃ p cs m o v',Jz 1 w0.length v=some p/\jd v p=p/\Zv h p=some (cs,m,o)/\(o+1<=m/\0 < 1)/\cs[o]?=some (.int .i64 (w:Int))/\zcm v=some (w0.length+1)/\Je 1 0 w0.length none true v=some v'/\SideV h v' ob w0:=by
 cases ob with
 | none=>exact absurd hv.2 (by simp)
 | some b =>
   obtain⟨lo,l,z,rfl,h2,h3,h4⟩:=hv;rw[zL,ZG] at h3 h4 ⊢;have hx:l[lo+w0.length]?=some [.int .i64 (w:Int)]:=by
    have:=congrArg (fun t:List (List V)=>t[w0.length]?) h4;simpa[WQ,Ze] using this
   have hr:(l.take (lo+w0.length)).drop lo=w0.map WQ:=by
    have:=congrArg (List.take w0.length) h4;rw[List.take_drop,List.take_take,Q3 (by omega)] at this;rw[this,Zo,Qj (by simp),zU (by simp)]
   exact⟨_,_,_,_,_,Z3 (by omega),rfl,ZJ h2 (by decide) hx,by decide,rfl,by rw[KG];congr 1;omega,Q2 (z2 _) (by omega) true,⟨lo,l,z,rfl,h2,by omega,hr⟩⟩
theorem SideV.inner{h:ze}{v:V}{ob:Option Nat}{w0:List Nat}{w:Nat}(hv:SideV h v ob (w :: w0)):∃ p cs m o v',Jz 1 0 v=some p/\Zv h p=some (cs,m,o)/\(o+1<=m/\0 < 1)/\cs[o]?=some (.int .i64 (w:Int))/\zcm v=some (w0.length+1)/\Je 1 1 (w0.length+1) none true v=some v'/\SideV h v' ob w0:=by
 cases ob with
 | none=>exact absurd hv.2 (by simp)
 | some b =>
   obtain⟨lo,l,z,rfl,h2,h3,h4⟩:=hv;rw[zD] at h3 h4 ⊢;have hx:l[lo]?=some [.int .i64 (w:Int)]:=by
    have:=congrArg (fun t:List (List V)=>t[0]?) h4;simpa[WQ,Ze] using this
   have hr:(l.take (lo+(w0.length+1))).drop (lo+1)=w0.map WQ:=by
    have:=congrArg (List.drop 1) h4;rw[List.drop_drop] at this;rw[this];rfl
   exact⟨_,_,_,_,_,Z3 (by omega),ZJ h2 (by decide) (by rw[z8];exact hx),by decide,rfl,by rw[KG];congr 1;omega,Q2 (by omega) (by omega) true,⟨lo+1,l,z,by congr 1;omega,h2,by omega,by rw[show lo+1+w0.length=lo+(w0.length+1) by omega];exact hr⟩⟩
structure EndAt(h:ze)(s:Nat)(sb:Nat->Option Nat)(u m:Nat)(ws:Nat->List Nat)(v:Nat->V):Prop where
 box:h[s]?=some (.box 4 [v 0,v 1,.int .i64 (u:Int),.int .i64 (m:Int)])
 side:∀ d,d < 2->SideV h (v d) (sb d) (ws d)
 own:∀ d,d < 2->sb d≠some s
 apart:∀ b,sb 0=some b->sb 1≠some b
structure EFed(h h':ze)(s:Nat)(sb sb':Nat->Option Nat):Prop where
 len:h.length<=h'.length
 old:∀ j,j < h.length->j≠s->sb 0≠some j->sb 1≠some j->h'[j]?=h[j]?
 new:∀ d b,d < 2->sb' d=some b->sb d=some b\/h.length<=b
theorem EFed.of{h h':ze}{s:Nat}{sb:Nat->Option Nat}(h1:h'.length=h.length)(h2:∀ j,j≠s->h'[j]?=h[j]?):EFed h h' s sb sb:=⟨by omega,fun j _ k _ _=>h2 j k,fun _ _ _ e=>.inl e⟩
theorem JC{v:Nat->V}{a b:V}{d:Nat}(hd:d < 2):[v 0,v 1,a,b][d]?=some (v d):=by
 obtain rfl|rfl:d=0\/d=1:=by omega
 . rfl
 . rfl
theorem zrg{v:Nat->V}{a b x:V}{d:Nat}(hd:d < 2):setR [v 0,v 1,a,b] d [x]=[WR d x v 0,WR d x v 1,a,b]:=by
 obtain rfl|rfl:d=0\/d=1:=by omega
 . rfl
 . rfl
theorem EndAt.write {h h' h2 : ze} {s : Nat} {sb : Nat -> Option Nat} {u m : Nat} {ws : Nat -> List Nat} {v : Nat -> V} (E : EndAt h s sb u m ws v) {d : Nat} (hd : d < 2) {x : V} {ob : Option Nat} {w : List Nat} (hx : SideV h2 x ob w) (ho : ob ≠ some s) (ha : ∀ e, e < 2 -> e ≠ d -> ∀ b, sb e = some b -> ob ≠ some b)
    (hk:∀ e,e < 2->e≠d->∀ b,sb e=some b->h2[b]?=h[b]?) (hs:s < h2.length) (he:h'=h2.set s (.box 4 (setR [v 0,v 1,.int .i64 (u:Int),.int .i64 (m:Int)] d [x]))):EndAt h' s (WR d ob sb) u m (WR d w ws) (WR d x v):=by
 subst he;refine⟨?_,fun e he=>?_,fun e he=>?_,fun b hb hb1=>?_⟩
 . rw[ZU hs,zrg hd]
 . by_cases k:e=d
   . subst k;rw[Wi,Wi,Wi];exact hx.keep (fun b hb=>zd (fun k=>ho (by rw[hb,k])))
   . rw[Y1 _ _ k,Y1 _ _ k,Y1 _ _ k];exact(E.side e he).keep (fun b hb=>(zd (fun k2=>E.own e he (by rw[hb,k2]))).trans (hk e he k b hb))
 . by_cases k:e=d
   . subst k;rw[Wi];exact ho
   . rw[Y1 _ _ k];exact E.own e he
 . obtain rfl|rfl:d=0\/d=1:=by omega
   . rw[Wi] at hb;rw[Y1 _ _ (by decide)] at hb1;exact ha 1 (by decide) (by decide) b hb1 hb
   . rw[Wi] at hb1;rw[Y1 _ _ (by decide)] at hb;exact ha 0 (by decide) (by decide) b hb hb1
theorem zfN(n:Nat){h:ze}{s:Nat}{sb:Nat->Option Nat}{u m:Nat}{ws:Nat->List Nat}{v:Nat->V}(E:EndAt h s sb u m ws v)(d i:Int)(hm:m<=u+(ws 0).length+(ws 1).length)(hl:u+(ws 0).length+(ws 1).length < lim):call (n+1) 213 [.ptr s 0,.int .i64 d,.int .i64 i] h=some (.ret [.bool false],h):=by
 obtain⟨z0,k0⟩:=(E.side 0 (by decide)).slc;obtain⟨z1,k1⟩:=(E.side 1 (by decide)).slc;unfold lim at hl;refine(zeZ n s d i h).trans ?_;unfold zhK Yl Yi Yw Yg Yr;rw[zI E.box,zo,if_pos (by decide)];simp only[zb,zh,za];rw[zI E.box,zo,if_pos (by decide)];simp only[zb,zh,za];rw[k0,za,zA,za,zI E.box,zo,if_pos (by decide)];simp only[zb,zh,za];rw[k1,za,zA,za,zI E.box,zo,if_pos (by decide)];simp only[zb,zh,za];rw[Z7,za,zm,zp,zp,w64 (n:=(u:Int)+_) (by omega) (by omega),w64 (by omega) (by omega),if_pos (by simp;omega)]
theorem zfO (n : Nat) {h : ze} {s : Nat} {sb : Nat -> Option Nat} {u m : Nat} {ws : Nat -> List Nat} {v : Nat -> V} (E : EndAt h s sb u m ws v) {d : Nat} (hd : d < 2) (i : Nat) (hm : u + (ws 0).length + (ws 1).length < m) (hl : u + (ws 0).length + (ws 1).length + 1 < lim) :
    ∃ h' v',call (n+1) 213 [.ptr s 0,.int .i64 (d:Int),.int .i64 (i:Int)] h=some (.ret [.bool true],h')/\EndAt h' s (WR d (some h.length) sb) u m (WR d (ws d++[i]) ws) v'/\EFed h h' s sb (WR d (some h.length) sb):=by
 obtain⟨z0,k0⟩:=(E.side 0 (by decide)).slc;obtain⟨z1,k1⟩:=(E.side 1 (by decide)).slc;have hwd:(ws d).length<=(ws 0).length+(ws 1).length:=by
  obtain rfl|rfl:d=0\/d=1:=by omega
  . omega
  . omega
 obtain⟨x,h2,a1,a2,a3,a4⟩:=(E.side d hd).app i (by omega);have hcl:=zQ E.box;have e2:h2[s]?=some (.box 4 [v 0,v 1,.int .i64 (u:Int),.int .i64 (m:Int)]):=(a4 s hcl (E.own d hd)).trans E.box;have hds:∀ e,e < 2->e≠d->∀ b,sb e=some b->sb d≠some b:=by
  intro e he hed b hb hb';obtain rfl|rfl:d=0\/d=1:=by omega
  . obtain rfl:e=1:=by omega
    exact E.apart b hb' hb
  . obtain rfl:e=0:=by omega
    exact E.apart b hb hb'
 refine⟨_,_,?_,E.write (h2:=h2) hd a2 (fun e=>by cases e;omega) (fun e he hed b hb e2=>by have:=(hb ▸ E.side e he:SideV h (v e) (some b) (ws e)).lt;cases e2;omega) (fun e he hed b hb=>a4 b (hb ▸ E.side e he:SideV h (v e) (some b) (ws e)).lt (fun e2=>hds e he hed b hb e2)) (by omega) rfl,⟨by rw[zw];omega,fun j h1 h3 h4 h5=>?_,fun e b he hb=>?_⟩⟩
 . unfold lim at hl;rw[zeZ];unfold zhK Yl Yi Yw Yg Yr;rw[zI E.box,zo,if_pos (by decide)];simp only[zb,zh,za];rw[zI E.box,zo,if_pos (by decide)];simp only[zb,zh,za];rw[k0,za,zA,za,zI E.box,zo,if_pos (by decide)];simp only[zb,zh,za];rw[k1,za,zA,za,zI E.box,zo,if_pos (by decide)];simp only[zb,zh,za];rw[Z7,za,zm,zp,zp,w64 (n:=(u:Int)+_) (by omega) (by omega),w64 (by omega) (by omega),if_neg (by simp;omega),z3,za,if_pos hd];simp only[zq,Z9,z8];rw[zI E.box,zo,if_pos (by omega),JC hd,za,a1,zZ,za,if_pos hd,a2.one,if_pos (by rfl),Zx e2 (by simp;omega),zZ]
 . rw[zd (Ne.symm h3)];have hdj:sb d≠some j:=by
    rcases(show d=0\/d=1 by omega) with rfl|rfl
    . exact h4
    . exact h5
   exact a4 j h1 hdj
 . by_cases k:e=d
   . subst k;rw[Wi] at hb;cases hb;exact .inr (zn _)
   . rw[Y1 _ _ k] at hb;exact .inl hb
theorem qd{d:Nat}(hd:d < 2):IntKind.i64.wrap (1 - (d:Int))=((1 - d:Nat):Int):=by rw[w64] <;> omega
theorem ze1 (n : Nat) {h : ze} {s : Nat} {sb : Nat -> Option Nat} {u m : Nat} {ws : Nat -> List Nat} {v : Nat -> V} (E : EndAt h s sb u m ws v) {d : Nat} (hd : d < 2) {w0 : List Nat} {w : Nat} (hw : ws d = w0 ++ [w]) (hl : w0.length + 1 < lim) :
    ∃ h' v',call (n+1) 215 [.ptr s d] h=some (.ret [.int .i64 (w:Int)],h')/\EndAt h' s sb u m (WR d w0 ws) v'/\h'.length=h.length/\∀ j,j≠s->h'[j]?=h[j]?:=by
 have hs:=E.side d hd;rw[hw] at hs;obtain⟨z,k⟩:=hs.slc;obtain⟨p,cs,m',o,v',a1,a2,a3,a4,a5,a6,a7,a8⟩:=hs.outer;have hcl:=zQ E.box;have hds:∀ e,e < 2->e≠d->∀ b,sb e=some b->sb d≠some b:=by
  intro e he hed b hb hb';obtain rfl|rfl:d=0\/d=1:=by omega
  . obtain rfl:e=1:=by omega
    exact E.apart b hb' hb
  . obtain rfl:e=0:=by omega
    exact E.apart b hb hb'
 have W:=E.write (h2:=h) hd a8 (E.own d hd) hds (fun e he hed b hb=>rfl) hcl rfl;have hp:WR d (sb d) sb=sb:=by funext j;unfold WR;split <;> simp_all
 rw[hp] at W;refine⟨_,_,?_,W,by rw[zw],fun j hj=>zd (Ne.symm hj)⟩;unfold lim at hl;have hlen:IntKind.i64.wrap ((((w0++[w]).map WQ).length:Int) - 1)=(w0.length:Int):=by
  rw[zp,zL,ZG,w64 (by omega) (by omega)];omega
 rw[zjD];unfold zjC Yl Yw Yx Yr;simp only[ZD,z8,za];rw[zI E.box,zo,if_pos (by omega),JC hd,za,zo,if_pos (by omega),JC hd,za,k,za,hlen,z3,zB,a1,za,a2,a3,zo,if_pos a4,a5,za,zo,if_pos (by omega),JC hd,za,zo,if_pos (by omega),JC hd,za,k,za,a6,za,hlen,z3,zB,a7,za,a8.one,if_pos (by rfl),Zx E.box (by simp;omega),zZ]
theorem ze2 (n : Nat) {h : ze} {s : Nat} {sb : Nat -> Option Nat} {u m : Nat} {ws : Nat -> List Nat} {v : Nat -> V} (E : EndAt h s sb u m ws v) {d : Nat} (hd : d < 2) {w0 : List Nat} {w : Nat} (hw : ws d = w :: w0) :
    ∃ h' v',call (n+1) 216 [.ptr s d] h=some (.ret [.int .i64 (w:Int)],h')/\EndAt h' s sb u m (WR d w0 ws) v'/\h'.length=h.length/\∀ j,j≠s->h'[j]?=h[j]?:=by
 have hs:=E.side d hd;rw[hw] at hs;obtain⟨p,cs,m',o,v',a1,a3,a4,a5,a6,a7,a8⟩:=hs.inner;have hcl:=zQ E.box;have hds:∀ e,e < 2->e≠d->∀ b,sb e=some b->sb d≠some b:=by
  intro e he hed b hb hb';obtain rfl|rfl:d=0\/d=1:=by omega
  . obtain rfl:e=1:=by omega
    exact E.apart b hb' hb
  . obtain rfl:e=0:=by omega
    exact E.apart b hb hb'
 have W:=E.write (h2:=h) hd a8 (E.own d hd) hds (fun e he hed b hb=>rfl) hcl rfl;have hp:WR d (sb d) sb=sb:=by funext j;unfold WR;split <;> simp_all
 rw[hp] at W;refine⟨_,_,?_,W,by rw[zw],fun j hj=>zd (Ne.symm hj)⟩;rw[zjF];unfold zjE Yl Yw Yr;simp only[ZD,z8,za];rw[zI E.box,zo,if_pos (by omega),JC hd,za,a1,za,a3,zo,if_pos a4,a5,za,zo,if_pos (by omega),JC hd,za,a6,za,a7,za,a8.one,if_pos (by rfl),Zx E.box (by simp;omega),zZ]
theorem zhL (n : Nat) {h : ze} {s : Nat} {sb : Nat -> Option Nat} {u m : Nat} {ws : Nat -> List Nat} {v : Nat -> V} (E : EndAt h s sb u m ws v) {d : Nat} (hd : d < 2) {w0 : List Nat} {w : Nat} (hw : ws d = w0 ++ [w]) (hl : w0.length + 1 < lim) :
    ∃ h' v',call (n+2) 214 [.ptr s 0,.int .i64 (d:Int)] h=some (.ret [.int .i64 (w:Int),.bool true],h')/\EndAt h' s sb u m (WR d w0 ws) v'/\h'.length=h.length/\∀ j,j≠s->h'[j]?=h[j]?:=by
 obtain⟨h',v',e,b1,b2,b3⟩:=ze1 n E hd hw hl;obtain⟨z,k⟩:=(E.side d hd).slc;refine⟨h',v',?_,b1,b2,b3⟩;rw[show n+2=(n+1)+1 from rfl,zax];unfold ze0 Yl Yi Yw Yg Yr Yp;rw[z3,za,if_pos hd,qd hd,z3,za,if_pos (by omega)];simp only[zq,Z9,z8];rw[zI E.box,zo,if_pos (by omega),JC hd,za,k,za,if_pos (by rw[hw];simp),e,zH,zC]
theorem zjK (n : Nat) {h : ze} {s : Nat} {sb : Nat -> Option Nat} {u m : Nat} {ws : Nat -> List Nat} {v : Nat -> V} (E : EndAt h s sb (u + 1) m ws v) {d : Nat} (hd : d < 2) (hw : ws d = []) (hu : u + 1 < lim) :
    ∃ h' v',call (n+2) 214 [.ptr s 0,.int .i64 (d:Int)] h=some (.ret [.int .i64 (-1),.bool true],h')/\EndAt h' s sb u m ws v'/\h'.length=h.length/\∀ j,j≠s->h'[j]?=h[j]?:=by
 obtain⟨z,k⟩:=(E.side d hd).slc;have hcl:=zQ E.box;refine⟨h.set s (.box 4 [v 0,v 1,.int .i64 (u:Int),.int .i64 (m:Int)]),v,?_,⟨ZU hcl _,fun e he=>(E.side e he).keep (fun b hb=>zd (fun k2=>E.own e he (by rw[hb,k2]))),E.own,E.apart⟩,by rw[zw],fun j hj=>zd (Ne.symm hj)⟩;unfold lim at hu;rw[show n+2=(n+1)+1 from rfl,zax];unfold ze0 Yl Yi Yw Yg Yr Yp;rw[z3,za,if_pos hd,qd hd,z3,za,if_pos (by omega)];simp only[zq,Z9,z8];rw[zI E.box,zo,if_pos (by omega),JC hd,za,k,za,if_neg (by rw[hw];simp),zI E.box,zo,if_pos (by decide)];simp only[zb,zh,za];rw[Qg,za,zm,if_pos (by simp),zo,if_pos (by decide)];simp only[zb,zh,za];rw[ZF,za,if_pos (by rfl),Zx E.box (by simp[V.cells]),zZ,w64 (by omega) (by omega),show (((u+1:Nat):Int) - 1)=(u:Int) by omega];rfl
theorem zjL (n : Nat) {h : ze} {s : Nat} {sb : Nat -> Option Nat} {m : Nat} {ws : Nat -> List Nat} {v : Nat -> V} (E : EndAt h s sb 0 m ws v) {d : Nat} (hd : d < 2) (hw : ws d = []) {w0 : List Nat} {w : Nat} (hw2 : ws (1 - d) = w :: w0) :
    ∃ h' v',call (n+2) 214 [.ptr s 0,.int .i64 (d:Int)] h=some (.ret [.int .i64 (w:Int),.bool true],h')/\EndAt h' s sb 0 m (WR (1 - d) w0 ws) v'/\h'.length=h.length/\∀ j,j≠s->h'[j]?=h[j]?:=by
 have hd':1 - d < 2:=by omega
 obtain⟨h',v',e,b1,b2,b3⟩:=ze2 n E hd' hw2;obtain⟨z,k⟩:=(E.side d hd).slc;obtain⟨z',k'⟩:=(E.side (1 - d) hd').slc;refine⟨h',v',?_,b1,b2,b3⟩;rw[show n+2=(n+1)+1 from rfl,zax];unfold ze0 Yl Yi Yw Yg Yr Yp;rw[z3,za,if_pos hd,qd hd,z3,za,if_pos (by omega)];simp only[zq,Z9,z8];rw[zI E.box,zo,if_pos (by omega),JC hd,za,k,za,if_neg (by rw[hw];simp),zI E.box,zo,if_pos (by decide)];simp only[zb,zh,za];rw[Qg,za,zm,if_neg (by decide),zI E.box,zo,if_pos (by omega),JC hd',za,k',za,if_pos (by rw[hw2];simp),e,zH,zC]
theorem zhM (n : Nat) {h : ze} {s : Nat} {sb : Nat -> Option Nat} {m : Nat} {ws : Nat -> List Nat} {v : Nat -> V} (E : EndAt h s sb 0 m ws v) {d : Nat} (hd : d < 2) (hw : ws d = []) (hw2 : ws (1 - d) = []) :
    call (n+2) 214 [.ptr s 0,.int .i64 (d:Int)] h=some (.ret [.int .i64 0,.bool false],h):=by
 have hd':1 - d < 2:=by omega
 obtain⟨z,k⟩:=(E.side d hd).slc;obtain⟨z',k'⟩:=(E.side (1 - d) hd').slc;rw[show n+2=(n+1)+1 from rfl,zax];unfold ze0 Yl Yi Yw Yg Yr Yp;rw[z3,za,if_pos hd,qd hd,z3,za,if_pos (by omega)];simp only[zq,Z9,z8];rw[zI E.box,zo,if_pos (by omega),JC hd,za,k,za,if_neg (by rw[hw];simp),zI E.box,zo,if_pos (by decide)];simp only[zb,zh,za];rw[Qg,za,zm,if_neg (by decide),zI E.box,zo,if_pos (by omega),JC hd',za,k',za,if_neg (by rw[hw2];simp)]
end Go.Proofs.Tryz
namespace Go.Proofs.Tryz
open Go.L
set_option maxRecDepth 100000
noncomputable def znr(n:Nat)(x0:Int)(h:ze):Option (Res×ze) :=
 (cl (call n 57 [(V.int .i64 x0)] h) (fun a b =>
 (Zm a fun c =>
 (bd (Wz prog 112 [(0,c)]) fun d =>
 Yr [(V.iface 112 (V.agg d))] b))) Yp)
theorem zlZ(n x0 h):call (n+1) 56 [(V.int .i64 x0)] h=znr n x0 h:=by kernel_rfl
noncomputable def zns(n:Nat)(x0:Int)(h:ze):Option (Res×ze) :=
 (cl (call n 59 [(V.int .i64 x0)] h) (fun a b =>
 (Zm a fun c =>
 (bd (Wz prog 116 [(0,c)]) fun d =>
 Yr [(V.iface 116 (V.agg d))] b))) Yp)
theorem zl0(n x0 h):call (n+1) 58 [(V.int .i64 x0)] h=zns n x0 h:=by kernel_rfl
noncomputable def znt(n:Nat)(x0:Int)(h:ze):Option (Res×ze) :=
 (cl (call n 61 [(V.int .i64 x0)] h) (fun a b =>
 (Zm a fun c =>
 (bd (Wz prog 120 [(0,c)]) fun d =>
 Yr [(V.iface 120 (V.agg d))] b))) Yp)
theorem zl1(n x0 h):call (n+1) 60 [(V.int .i64 x0)] h=znt n x0 h:=by kernel_rfl
noncomputable def zuR(n s:Nat)(os:List (List V))(osb:Bool)(h:ze):Option (Res×ze) :=
 (Yi (Qq prog h .eql 25 (V.ptr s 0) Yn)
 (Yr [(V.sl 2 [] false)] h)
 (Yl h (V.ptr s 2) fun e =>
 (bv e fun f=>if f then
 (Yl h (V.ptr s 0) fun c =>
 (Yl h (V.ptr s 1) fun g =>
 (Yg (zog c=true) (ifK c fun i j=>bd2 (JR prog i j "reaper/object.plain") fun a k=>if (QI a=true/\okV prog 28 a=true) then
 (clH (call n a ([k]++[g,(V.sl 2 os osb)]) h) fun l m =>
 (Zm l fun o =>
 Yr [o] m)) else none))))
 else
 (Yl h (V.ptr s 0) fun d =>
 (Yl h (V.ptr s 1) fun p =>
 (Yg (zog d=true) (ifK d fun q r=>bd2 (JR prog q r "reaper/object.batch") fun b t=>if (QI b=true/\okV prog 28 b=true) then
 (clH (call n b ([t]++[p,(V.sl 2 os osb)]) h) fun u v =>
 (Zm u fun w =>
 Yr [w] v)) else none)))))))
theorem zrh(n:Nat)(s:Nat)(os:List (List V))(osb:Bool)(h:ze):call (n+1) 17 [(V.ptr s 0),(V.sl 2 os osb)] h=zuR n s os osb h:=by kernel_rfl
noncomputable def zjM(n s:Nat)(h:ze):Option (Res×ze) :=
 (Yi (Qq prog h .eql 25 (V.ptr s 0) Yn)
 (Yr [(V.sl 1 [] false)] h)
 (Yl h (V.ptr s 0) fun b =>
 (ifK b fun c d=>bd2 (JR prog c d "Items") fun a e=>if (QI a=true/\okV prog 27 a=true) then
 (cl (call n a ([e]++[]) h) (fun f g =>
 (Zm f fun i =>
 Yr [i] g)) Yp) else none)))
theorem zjN(n s h):call (n+1) 20 [(V.ptr s 0)] h=zjM n s h:=by kernel_rfl
noncomputable def KH(n s:Nat)(os:List (List V))(osb:Bool)(st3:List V)(hh4:ze)(next5:List V->ze->Option (Res×ze)):Option (Res×ze) :=
 (Yi (bop prog .lss 3 (gv st3 3) (V.int .i64 ((os).length:Int)))
 (Yx 2 (gv st3 3) (V.sl 2 os osb) fun e =>
 (bd3 (Zv hh4 e) fun b f a=>if (a+2<=f/\0 < 2) then
 (if (((b).drop a |>.take 2)).length=2 then
 (Yg ((((b).drop a |>.take 2)).length<=2) (cl (call n 177 [(V.ptr s 0),(V.agg (((setR [(V.int .u8 0),(V.int .i32 0)] 0 ((b).drop a |>.take 2))).drop 0 |>.take 2))] hh4) (fun g h =>
 (Zm g fun c =>
 (bdS (nv (gv st3 3)) fun d =>
 (Yg (2=2/\d < ((lsl (gv st3 1))).length/\(some 23:Option Nat)≠some 5) (if ((V.cells c)).length=2 then
 (Yg (2=2/\0 < 2/\0+((V.cells c)).length<=2) (bd ((lsl (gv st3 1)))[d]? fun i =>
 (Ya (gv st3 3) fun j =>
 (next5 [(V.sl 2 (lsl (gv st3 0)) false),(V.sl 2 (((lsl (gv st3 1))).set d (setR i 0 (V.cells c))) false),(V.bool false),j] h)))) else none))))) Yp)) else none) else none))
 (Yr [(V.row (hh4).length 2 0 ((lsl (gv st3 1))).length)] (hh4++[(HB.row 35 2 (lsl (gv st3 1)) true)])))
noncomputable def znu(n s:Nat)(os:List (List V))(osb:Bool)(h:ze):Option (Res×ze) :=
 (bdS (nv (V.int .i64 ((os).length:Int))) fun a =>
 (bdS (nv (V.int .i64 ((os).length:Int))) fun b =>
 (Yg (a<=b/\b < lim/\2=2) (zV n (KH n s os osb) [(V.sl 2 [] false),(V.sl 2 (List.replicate a [(V.int .u8 0),(V.int .i32 0)]) false),(V.bool false),(V.int .i64 0)] h))))
theorem zl2(n:Nat)(s:Nat)(os:List (List V))(osb:Bool)(h:ze):call (n+1) 176 [(V.bf 177 [(V.ptr s 0)]),(V.sl 2 os osb)] h=znu n s os osb h:=by kernel_rfl
noncomputable def KI(n s:Nat)(os:List (List V))(osb:Bool)(st3:List V)(hh4:ze)(next5:List V->ze->Option (Res×ze)):Option (Res×ze) :=
 (Yi (bop prog .lss 3 (gv st3 3) (V.int .i64 ((os).length:Int)))
 (Yx 2 (gv st3 3) (V.sl 2 os osb) fun e =>
 (bd3 (Zv hh4 e) fun b f a=>if (a+2<=f/\0 < 2) then
 (if (((b).drop a |>.take 2)).length=2 then
 (Yg ((((b).drop a |>.take 2)).length<=2) (cl (call n 201 [(V.ptr s 0),(V.agg (((setR [(V.int .u8 0),(V.int .i32 0)] 0 ((b).drop a |>.take 2))).drop 0 |>.take 2))] hh4) (fun g h =>
 (Zm g fun c =>
 (bdS (nv (gv st3 3)) fun d =>
 (Yg (2=2/\d < ((lsl (gv st3 1))).length/\(some 23:Option Nat)≠some 5) (if ((V.cells c)).length=2 then
 (Yg (2=2/\0 < 2/\0+((V.cells c)).length<=2) (bd ((lsl (gv st3 1)))[d]? fun i =>
 (Ya (gv st3 3) fun j =>
 (next5 [(V.sl 2 (lsl (gv st3 0)) false),(V.sl 2 (((lsl (gv st3 1))).set d (setR i 0 (V.cells c))) false),(V.bool false),j] h)))) else none))))) Yp)) else none) else none))
 (Yr [(V.row (hh4).length 2 0 ((lsl (gv st3 1))).length)] (hh4++[(HB.row 35 2 (lsl (gv st3 1)) true)])))
noncomputable def znv(n s:Nat)(os:List (List V))(osb:Bool)(h:ze):Option (Res×ze) :=
 (bdS (nv (V.int .i64 ((os).length:Int))) fun a =>
 (bdS (nv (V.int .i64 ((os).length:Int))) fun b =>
 (Yg (a<=b/\b < lim/\2=2) (zV n (KI n s os osb) [(V.sl 2 [] false),(V.sl 2 (List.replicate a [(V.int .u8 0),(V.int .i32 0)]) false),(V.bool false),(V.int .i64 0)] h))))
theorem zl3(n:Nat)(s:Nat)(os:List (List V))(osb:Bool)(h:ze):call (n+1) 176 [(V.bf 201 [(V.ptr s 0)]),(V.sl 2 os osb)] h=znv n s os osb h:=by kernel_rfl
noncomputable def zjO(n s c:Nat)(os:List (List V))(osb:Bool)(h:ze):Option (Res×ze) :=
 (cl (call n 174 [(V.ptr s 0),(V.sl 2 os osb)] h) (fun a b =>
 (Zm a fun d =>
 Yr [d] b)) Yp)
theorem zjP(n:Nat)(s:Nat)(c:Nat)(os:List (List V))(osb:Bool)(h:ze):call (n+1) 171 [(V.agg [(V.ptr s 0)]),(V.ptr c 0),(V.sl 2 os osb)] h=zjO n s c os osb h:=by kernel_rfl
noncomputable def zjQ(n s c:Nat)(os:List (List V))(osb:Bool)(h:ze):Option (Res×ze) :=
 (cl (call n 176 [(V.bf 177 [(V.ptr s 0)]),(V.sl 2 os osb)] h) (fun a b =>
 (Zm a fun d =>
 Yr [d] b)) Yp)
theorem zjR(n:Nat)(s:Nat)(c:Nat)(os:List (List V))(osb:Bool)(h:ze):call (n+1) 173 [(V.agg [(V.ptr s 0)]),(V.ptr c 0),(V.sl 2 os osb)] h=zjQ n s c os osb h:=by kernel_rfl
noncomputable def zjS(n s c:Nat)(os:List (List V))(osb:Bool)(h:ze):Option (Res×ze) :=
 (cl (call n 199 [(V.ptr s 0),(V.sl 2 os osb)] h) (fun a b =>
 (Zm a fun d =>
 Yr [d] b)) Yp)
theorem zjT(n:Nat)(s:Nat)(c:Nat)(os:List (List V))(osb:Bool)(h:ze):call (n+1) 196 [(V.agg [(V.ptr s 0)]),(V.ptr c 0),(V.sl 2 os osb)] h=zjS n s c os osb h:=by kernel_rfl
noncomputable def zjU(n s c:Nat)(os:List (List V))(osb:Bool)(h:ze):Option (Res×ze) :=
 (cl (call n 176 [(V.bf 201 [(V.ptr s 0)]),(V.sl 2 os osb)] h) (fun a b =>
 (Zm a fun d =>
 Yr [d] b)) Yp)
theorem zjV(n:Nat)(s:Nat)(c:Nat)(os:List (List V))(osb:Bool)(h:ze):call (n+1) 198 [(V.agg [(V.ptr s 0)]),(V.ptr c 0),(V.sl 2 os osb)] h=zjU n s c os osb h:=by kernel_rfl
noncomputable def zjW(n s c:Nat)(os:List (List V))(osb:Bool)(h:ze):Option (Res×ze) :=
 (cl (call n 222 [(V.ptr s 0),(V.ptr c 0),(V.sl 2 os osb)] h) (fun a b =>
 (Zm a fun d =>
 Yr [d] b)) Yp)
theorem zjX(n:Nat)(s:Nat)(c:Nat)(os:List (List V))(osb:Bool)(h:ze):call (n+1) 219 [(V.agg [(V.ptr s 0)]),(V.ptr c 0),(V.sl 2 os osb)] h=zjW n s c os osb h:=by kernel_rfl
noncomputable def zjY(n s c:Nat)(os:List (List V))(osb:Bool)(h:ze):Option (Res×ze) :=
 (cl (call n 224 [(V.ptr s 0),(V.ptr c 0),(V.sl 2 os osb)] h) (fun a b =>
 (Zm a fun d =>
 Yr [d] b)) Yp)
theorem zjZ(n:Nat)(s:Nat)(c:Nat)(os:List (List V))(osb:Bool)(h:ze):call (n+1) 221 [(V.agg [(V.ptr s 0)]),(V.ptr c 0),(V.sl 2 os osb)] h=zjY n s c os osb h:=by kernel_rfl
end Go.Proofs.Tryz
