/- Xd Xe Pu Xf Xp Xq Xr Xo Xn Xm Xk Xg Xh Xi Xj Xu Xt Xv Xw Tl Xy Xz Ya: what the law needs of these -/import Derived.Test.YtclhmdhdpejhhaaGreatJsv15
set_option linter.unusedVariables false
set_option linter.unusedSimpArgs false
namespace Go.Cm
open Go.L Go.Rp
theorem fill_set{α β:Type}(f:α->β)(z:β){l:List α}{k:Nat}{x:α}(h:l[k]?=some x):((l.take k).map f++List.replicate (l.length - k) z).set k (f x)=(l.take (k+1)).map f++List.replicate (l.length - (k+1)) z:=by
 have hk:=(zj.1 h).1;have h1:((l.take k).map f).length=k:=by simp;omega
 rw[Zi _ _ (by omega),h1,X8,show l.length - k=(l.length - (k+1))+1 by omega,XP,Ji];rw[JZ,h,Zo];simp
theorem zsC{α β:Type}(f:α->β)(z:β){l:List α}{k:Nat}(h:k < l.length):((l.take k).map f++List.replicate (l.length - k) z)[k]?=some z:=by
 have h1:((l.take k).map f).length=k:=by simp;omega
 rw[zJ (by omega),h1,X8,Zw,if_pos (by omega)]
def opO(x:It):O:=⟨ofK x.w,ofV x.w⟩
def told1(x:It)(r:R):It:={ x with s:=pkW r.c r.v }
def Qa(xs:List It)(rs:List R)(k:Nat):List It:=List.zipWith told1 (xs.take k) (rs.take k)++xs.drop k
theorem Yo{xs:List It}{rs:List R}(h:rs.length=xs.length)(k:Nat):(Qa xs rs k).length=xs.length:=by
 unfold Qa;simp;omega
theorem zpL{xs:List It}{rs:List R}(h:rs.length=xs.length){k:Nat}{x:It}(hx:xs[k]?=some x):(Qa xs rs k)[k]?=some x:=by
 have hk:=(zj.1 hx).1;unfold Qa;rw[zJ (by simp;omega),Zh];rw[show (List.zipWith told1 (xs.take k) (rs.take k)).length=k by simp;omega,X8,z8,hx]
theorem zpM{xs:List It}{rs:List R}(h:rs.length=xs.length){k:Nat}{x:It}{r:R}(hx:xs[k]?=some x)(hr:rs[k]?=some r):(Qa xs rs k).set k (told1 x r)=Qa xs rs (k+1):=by
 have hk:=(zj.1 hx).1;have h1:(List.zipWith told1 (xs.take k) (rs.take k)).length=k:=by simp;omega
 unfold Qa;rw[Zi _ _ (by omega),h1,X8,Zb hk,Ji];rw[JZ,JZ,hx,hr,Option.toList_some,Option.toList_some,List.zipWith_append (by simp;omega)];simp
theorem zsD(x:Int):0<=ofK x/\ofK x < 256:=by
 unfold ofK;split
 . rw[IntKind.wrap_u8];omega
 . omega
def pDo(s:Ps)(rs:List R):Ps:={ s with T:={ s.T with nt:=0,pc:=37 },xs:=Qa s.xs rs s.xs.length }
end Go.Cm
namespace Go.Proofs.Tryz
open Go.L Go.Rp Go.Sk Go.Cm
set_option maxRecDepth 100000
structure ObjC(σ:Type)(o:Nat) where
 P:ze->List Nat->σ->Prop
 run:List O->σ->List R×σ
 K:Nat
 rl:∀ os st,(run os st).1.length=os.length
 lt:∀ {h X st},P h X st->∀ x∈X,x < h.length
 keep:∀ {h h' X st},P h X st->(∀ x∈X,h'[x]?=h[x]?)->P h' X st
 dof:∀ (n:Nat) {h X st} (os:List O),P h X st->(∀ x∈os,0<=x.k/\x.k < 256)->os.length<=1000->2 * os.length+K<=n->∃ h' X' T,call (n+8) 17 [.ptr o 0,.sl 2 (os.map O.w) false] h=some (.ret [.row T 2 0 os.length],h')/\RowR h' T (run os st).1/\P h' X' (run os st).2/\h.length<=T/\T ∉ X'/\XFed h h' X X'
section
variable {h:ze} {t m rb o:Nat} {pp:Int} {bb:Option Nat} {dn:V} {sz:Int} {s:Ps}
theorem TS.row(A:TS h t m rb o pp bb dn sz s)(h0:s.xs≠[]):∃ b z,bb=some b/\h[b]?=some (.row 87 3 (s.xs.map It.c) z)/\b≠t/\b≠m/\b≠rb:=by
 have:=A.bt;cases bb with
 | none=>exact absurd this h0
 | some b =>
   obtain⟨⟨z,h1⟩,h2⟩:=this;exact⟨b,z,rfl,h1,h2⟩
def zcP(xs:List It)(k:Nat):List (List V):=(xs.take k).map (fun x=>O.w (opO x))++List.replicate (xs.length - k) [.int .u8 0,.int .i32 0]
theorem zsE (n : Nat) (hl : s.xs.length <= 1000) (zz : Nat) (X : Option (Res × ze)) :
    ∀ (d k M:Nat) (b0:Bool) (bb:Option Nat),TS h t m rb o pp bb dn sz s->(∀ b0 next,jJ (n+3) t (QS bb s.xs.length) (zz,s.xs.map It.c) [.sl 2 (zcP s.xs s.xs.length) false,.bool b0,.int .i64 (s.xs.length:Int)] h next=X)->k+d=s.xs.length->d < M->zV M (jJ (n+3) t (QS bb s.xs.length) (zz,s.xs.map It.c)) [.sl 2 (zcP s.xs k) false,.bool b0,.int .i64 (k:Int)] h=X
 | _,_,0,_,_,_,_,_,hd=>by omega
 | 0,k,M+1,b0,bb,A,hX,hk,_=>by
   obtain rfl:k=s.xs.length:=by omega
   exact hX b0 _
 | d+1,k,M+1,b0,bb,A,hX,hk,hd=>by
   rw[zK];have hkl:k < s.xs.length:=by omega
   obtain⟨b,z,rfl,e2,_⟩:=A.row (fun e=>by rw[e] at hkl;exact absurd hkl (by simp));obtain⟨x,hx⟩:∃ x,s.xs[k]?=some x:=⟨_,zf hkl⟩;have e3:(s.xs.map It.c)[k]?=some x.c:=by rw[zF,hx];rfl
   generalize hnx:zV M (jJ (n+3) t (QS (some b) s.xs.length) (zz,s.xs.map It.c))=nx;unfold jJ Yl Yi Yx Ya Yg Yp;simp only[gv,zg,zi];rw[zy,za,zm,if_pos (by simp;omega),z3,zB];unfold QS;simp only;rw[Z3 (by omega),za,zq,ZJ e2 (by decide) e3,zo,if_pos (by decide)];rw[show ((It.c x).drop 0 |>.take 3)=It.c x from rfl,if_pos (show (It.c x).length=3 from rfl),if_pos (show (It.c x).length<=3 from zn 3),show (setR [(V.int .i64 0),(V.int .i64 0),(V.int .i64 0)] 0 (It.c x))[1]?=some (V.int .i64 x.w) from rfl,za,ztX n,zH];simp only[zb,zh,za,z3,zB];have hol:(zcP s.xs k).length=s.xs.length:=by unfold zcP;simp;omega
   rw[show lsl (V.sl 2 (zcP s.xs k) false)=zcP s.xs k from rfl,if_pos ⟨by first|trivial|rfl,by omega,by decide⟩,if_pos (by rfl),if_pos ⟨by first|trivial|rfl,by decide,by exact zn 2⟩];rw[show (zcP s.xs k)[k]?=some [.int .u8 0,.int .i32 0] from zsC _ _ hkl,za,zA,za,Xl (by unfold lim;omega)];rw[show setR [V.int .u8 0,V.int .i32 0] 0 (V.cells (.agg [.int .u8 (ofK x.w),.int .i32 (ofV x.w)]))=O.w (opO x) from rfl];rw[show (zcP s.xs k).set k (O.w (opO x))=zcP s.xs (k+1) from fill_set (fun x=>O.w (opO x)) _ hx];rw[<- hnx];exact zsE n hl zz X d (k+1) M false (some b) A hX (by omega) (by omega)
theorem znY (n : Nat) {T : Nat} {rs : List R} (hl : s.xs.length <= 1000) (hr : rs.length = s.xs.length) (zz : Nat) (L : List (List V)) (hL : L.length = s.xs.length) (hTt : T ≠ t) :
    ∀ (d k M:Nat) (h:ze) (b0:Bool) (bb:Option Nat),bb≠some T->TS h t m rb o pp bb dn sz { s with xs:=Qa s.xs rs k }->RowR h T rs->k+d=s.xs.length->d < M →
     ∃ h',zV M (zb6 (n+2) t (.row T 2 0 rs.length) (zz,L)) [.bool b0,.int .i64 (k:Int)] h=some (.ret [],h')/\TS h' t m rb o pp bb (.sl 3 ((Qa s.xs rs s.xs.length).map It.c) false) sz (pDo s rs)/\h'.length=h.length/\∀ i,i≠t->bb≠some i->h'[i]?=h[i]?
 | _,_,0,_,_,_,_,_,_,_,hd=>by omega
 | 0,k,M+1,h,b0,bb,hTb,A,RR,hk,_=>by
   obtain rfl:k=s.xs.length:=by omega
   rw[zK];unfold zb6 Yl Yi Yw Yx Ya Yg Yr;simp only[gv,zg,zi];rw[zy,za,zm,if_neg (by simp;omega),A.rd (by decide),zif];obtain⟨z,hb,hz⟩:=A.bat
   rw[hb,za,if_pos ⟨hz.imp id (fun e=>by rw[e];rfl),by rw[zp,Yo hr];unfold lim;omega⟩,A.wr (by decide)];have A1:TS (h.set t (.box 17 (tcl s.T (QS bb (Qa s.xs rs s.xs.length).length) m o pp (.sl 3 ((Qa s.xs rs s.xs.length).map It.c) false)))) t m rb o pp bb (.sl 3 ((Qa s.xs rs s.xs.length).map It.c) false) sz { s with xs:=Qa s.xs rs s.xs.length }:=by
    refine⟨ZU A.lt _,A.mem.keep (zd A.tm) (zd A.tr),A.tm,A.tr,?_⟩;have:=A.bt;cases bb with
    | none=>exact this
    | some b =>
      obtain⟨⟨z,h1⟩,h2,h3,h4⟩:=this;exact⟨⟨z,(zd (Ne.symm h2)).trans h1⟩,h2,h3,h4⟩
   rw[show ((tcl s.T (QS bb (Qa s.xs rs s.xs.length).length) m o pp dn).set 16 (.sl 3 ((Qa s.xs rs s.xs.length).map It.c) false))=tcl s.T (QS bb (Qa s.xs rs s.xs.length).length) m o pp (.sl 3 ((Qa s.xs rs s.xs.length).map It.c) false) from rfl];rw[A1.wr0 (by decide) _ _ _ { s.T with nt:=0 } rfl];have A2:=A1.upd { s.T with nt:=0 };rw[A2.wr0 (by decide) _ _ _ { s.T with nt:=0,pc:=37 } rfl];exact⟨_,rfl,A2.upd { s.T with nt:=0,pc:=37 },by simp,fun i hi _=>by rw[zd (Ne.symm hi),zd (Ne.symm hi),zd (Ne.symm hi)]⟩
 | d+1,k,M+1,h,b0,bb,hTb,A,RR,hk,hd=>by
   rw[zK];have hkl:k < s.xs.length:=by omega
   obtain⟨b,z,rfl,e2,n1,n2,n3⟩:=A.row (fun e=>by
    have h2:(Qa s.xs rs k).length=0:=congrArg List.length e;rw[Yo hr] at h2;omega)
   obtain⟨x,hx⟩:∃ x,s.xs[k]?=some x:=⟨_,zf hkl⟩;obtain⟨r,hrk⟩:∃ r,rs[k]?=some r:=⟨_,zf (by omega)⟩;have e3:((Qa s.xs rs k).map It.c)[k]?=some x.c:=by rw[zF,zpL hr hx];rfl
   obtain⟨zr,hR⟩:=RR;have hRl:(rs.map R.w).length=rs.length:=zp ..;have e4:(rs.map R.w)[k]?=some (R.w r):=by rw[zF,hrk];rfl
   have hsl:ZI h (.row T 2 0 rs.length)=some (2,rs.map R.w):=by have:=Jh hR;rwa[hRl] at this
   unfold zb6 Yl Yi Yw Yx Ya Yg Yr;simp only[gv,zg,zi];rw[zy,za,zm,if_pos (by simp;omega),hsl,za,zy,za,zm,if_pos (by simp;omega),z3,zB,Z3 (by omega),za,zq,ZJ hR (by decide) e4,zo,if_pos (by decide)];rw[show ((R.w r).drop 0 |>.take 2)=R.w r from rfl,if_pos (show (R.w r).length=2 from rfl),if_pos (show (R.w r).length<=2 from zn 2),A.rd (by decide),zif];rw[show (V.agg ((setR [(V.int .u8 0),(V.int .i32 0)] 0 (R.w r)).drop 0 |>.take 2))=V.agg [.int .u8 r.c,.int .i32 r.v] from rfl,zvD n,j8,zC,zB];unfold QS;simp only;rw[Z3 (by rw[Yo hr];omega),za,zq,show ZD 2 (jd (V.row b 3 0 (Qa s.xs rs k).length) (V.rptr b 3 k 0))=some (V.rptr b 3 k 2) from rfl,za,if_pos (by rfl),show V.cells (.int .i64 (pkW r.c r.v))=[.int .i64 (pkW r.c r.v)] from rfl,QU e2 (by decide) (by simp) e3,zZ,zA,za,Xl (by unfold lim;omega)];have hs:((Qa s.xs rs k).map It.c).set k (setR (It.c x) 2 [V.int .i64 (pkW r.c r.v)])=(Qa s.xs rs (k+1)).map It.c:=by
    rw[<- zpM hr hx hrk,Qo];rfl
   rw[hs];have A1:TS (h.set b (.row 87 3 ((Qa s.xs rs (k+1)).map It.c) z)) t m rb o pp (some b) dn sz { s with xs:=Qa s.xs rs (k+1) }:=by
    refine⟨?_,A.mem.keep (zd n2) (zd n3),A.tm,A.tr,⟨⟨z,ZU (zQ e2) _⟩,n1,n2,n3⟩⟩;rw[zd n1,A.tn];simp only[Yo hr]
   obtain⟨h',c1,A2,l1,f1⟩:=znY n hl hr zz L hL hTt d (k+1) M _ false (some b) hTb A1 ⟨zr,(zd (fun e=>hTb (by rw[e]))).trans hR⟩ (by omega) (by omega);exact⟨h',c1,A2,by simpa using l1,fun i q1 q2=>(f1 i q1 q2).trans (zd (fun e=>q2 (by rw[e])))⟩
theorem zwy (n : Nat) {σ : Type} (C : ObjC σ o) {X : List Nat} {st : σ} (A : TS h t m rb o pp bb dn sz s) (B : C.P h X st) (ht : t ∉ X) (hm : m ∉ X) (hrb : rb ∉ X) (hbb : ∀ b, bb = some b -> b ∉ X) (hl : s.xs.length <= 1000) (hn : 2 * s.xs.length + C.K <= n) :
    ∃ h' X',call (n+9) 119 [.ptr t 0] h=some (.ret [],h')/\TS h' t m rb o pp bb (.sl 3 ((Qa s.xs (C.run (s.xs.map opO) st).1 s.xs.length).map It.c) false) sz (pDo s (C.run (s.xs.map opO) st).1)/\C.P h' X' (C.run (s.xs.map opO) st).2 ∧
     h.length<=h'.length/\(∀ i,i < h.length->i≠t->bb≠some i->i ∉ X->h'[i]?=h[i]?)/\∀ x∈X',x∈X\/h.length<=x:=by
 rw[show n+9=(n+8)+1 from rfl,ztU];unfold zwv Yl Yg;obtain⟨z,hb,hz⟩:=A.bat
 rw[A.rd (by decide),zif,hb,za];simp only[zp];rw[z3,zB,zB,if_pos ⟨zn _,by unfold lim;omega,by first|trivial|rfl⟩,A.rd (by decide),zif,hb,za];have hops:zcP s.xs s.xs.length=(s.xs.map opO).map O.w:=by unfold zcP;simp[zU]
 have hlen:(s.xs.map opO).length=s.xs.length:=zp ..;obtain⟨h1,X',T,c1,RR,B1,t1,t2,XF⟩:=C.dof n (s.xs.map opO) B (fun x hx=>by obtain⟨y,_,rfl⟩:=ZL.1 hx;exact zsD _) (by rw[hlen];exact hl) (by rw[hlen];exact hn);have hrl:=C.rl (s.xs.map opO) st;rw[hlen] at hrl;have A1:TS h1 t m rb o pp bb dn sz s:=by
  refine⟨(XF.old t A.lt ht).trans A.tn,A.mem.keep (XF.old m A.mem.lt.1 hm) (XF.old rb A.mem.lt.2 hrb),A.tm,A.tr,?_⟩;have:=A.bt;cases bb with
  | none=>exact this
  | some b =>
    obtain⟨⟨z,q1⟩,q2⟩:=this;exact⟨⟨z,(XF.old b (zQ q1) (hbb b rfl)).trans q1⟩,q2⟩
 have hbl:∀ b,bb=some b->b < h.length:=fun b hb=>by
  subst hb;obtain⟨⟨z,q1⟩,_⟩:=A.bt;exact zQ q1
 have hTb:bb≠some T:=fun e=>by have:=hbl T e;omega
 have hTt:T≠t:=by have:=A.lt;omega
 obtain⟨z1,hb1,_⟩:=A1.bat
 have hA1:TS h1 t m rb o pp bb dn sz { s with xs:=Qa s.xs (C.run (s.xs.map opO) st).1 0 }:=by
  have:Qa s.xs (C.run (s.xs.map opO) st).1 0=s.xs:=by unfold Qa;simp
  rw[this];exact A1
 obtain⟨h',c2,A2,l2,f2⟩:=znY (n+6) (T:=T) hl hrl z1 (s.xs.map It.c) (zp ..) hTt s.xs.length 0 (n+8) h1 false bb hTb hA1 RR (by omega) (by omega);refine⟨h',X',?_,A2,C.keep B1 (fun x hx=>f2 x ?_ ?_),by rw[l2];exact XF.len,fun i q1 q2 q3 q4=>(f2 i q2 q3).trans (XF.old i q1 q4),XF.new⟩
 . refine zsE (n+5) hl z _ s.xs.length 0 (n+8) false bb A (fun b0 next=>?_) (by omega) (by omega);unfold jJ Yl Yi Yx Ya Yg Yp;simp only[gv,zg,zi];rw[zy,za,zm,if_neg (by simp),A.rd (by decide),zwZ,show lsl (V.sl 2 (zcP s.xs s.xs.length) false)=zcP s.xs s.xs.length from rfl,hops,show n+5+3=n+8 from rfl,c1,zH,zC,A1.rd (by decide),zif,hb1,za,hlen,<- hrl];exact c2
 . rintro rfl;rcases XF.new _ hx with e|e
   . exact ht e
   . have:=A.lt;omega
 . intro e;rcases XF.new _ hx with e1|e1
   . exact hbb x e e1
   . have:=hbl x e;omega
end
end Go.Proofs.Tryz
namespace Go.Cm
open Go.L
def plE(t:Nat)(l:List (Int×Nat)):List (V×V):=l.map fun p=>(.int .i64 p.1,.bf p.2 [.ptr t 0])
theorem zkO (t : Nat) (k : Int) : ∀ (l : List (Int × Nat)) (i : Nat), (∀ p ∈ l, p.1 ≠ k) -> Qp [0] (.int .i64 k) (plE t l) i = some none
 | [],_,_=>rfl
 | (a,f) :: l,i,h=>by
   have h1:a≠k:=h (a,f) (zG ..);have h2:=zkO t k l (i+1) fun p hp=>h p (zu _ hp);show (match keq [0] (.int .i64 k) (.int .i64 a) with|some true=>some (some i)|some false=>Qp [0] (.int .i64 k) (plE t l) (i+1)|none=>none)=_;have h3:keq [0] (.int .i64 k) (.int .i64 a)=some false:=by
    show some (k == a && true)=some false;rw[show (k == a)=false by simpa using Ne.symm h1];rfl
   rw[h3];exact h2
def QY(pp:Int)(s:Ps):Ps :=
 if s.T.pc=20 then zsr s else if s.T.pc=21 then zmz s else if s.T.pc=22 then zu1 s else if s.T.pc=23 then zss s else if s.T.pc=24 then zst s
 else if s.T.pc=25 then zsu s else if s.T.pc=26 then zie s else if s.T.pc=27 then zsv s else if s.T.pc=28 then zsw s else if s.T.pc=29 then zmA s
 else if s.T.pc=30 then zvE s else if s.T.pc=31 then zvF s else if s.T.pc=32 then zsx s else if s.T.pc=33 then znX s else if s.T.pc=34 then zfl s
 else if s.T.pc=35 then zaY s else if s.T.pc=37 then zgR s else if s.T.pc=38 then zpK s else zgS pp s
end Go.Cm
namespace Go.Proofs.Tryz
open Go.L Go.Rp Go.Sk Go.Cm
set_option maxRecDepth 100000
theorem znZ:kds prog 12 3=some [0]:=by kernel_rfl
theorem zn0 {R : Type} (h : ze) (t : Nat) (K : ze -> Option R) : ∀ (l d : List (Int × Nat)), ((d ++ l).map Prod.fst).Nodup -> plF h.length t l (h ++ [.map (plE t d)]) K = K (h ++ [.map (plE t (d ++ l))])
 | [],d,_=>by rw[z6];rfl
 | (k,f) :: l,d,hn=>by
   have hk:∀ p∈d,p.1≠k:=fun p hp e=>by
    rw[Zo,Qi] at hn;exact hn.2.2 p.1 (ZL.2 ⟨p,hp,rfl⟩) k (by simp) e
   unfold plF;rw[zx,Kf,znZ];simp only[za];rw[zkO t k d 0 hk,za,if_pos ⟨rfl,rfl⟩];have e:(h++[HB.map (plE t d)]).set h.length (.map (upd (plE t d) (.int .i64 k) (.bf f [.ptr t 0]) none))=h++[.map (plE t (d++[(k,f)]))]:=by
    simp[upd,plE]
   rw[e,zn0 h t K l (d++[(k,f)]) (by simpa using hn)];simp
theorem zkP(n:Nat)(t:Nat)(h:ze):call (n+1) 79 [.ptr t 0] h=some (.ret [.map h.length],h++[.map (plE t zfX)]):=by
 rw[zkI];exact zn0 h t _ zfX [] (by decide)
theorem zal(n:Nat)(T:Th)(bv:V)(h:ze):call (n+1) 50 [.agg (T.v bv)] h=some (.ret [.bool (decide (20<=T.pc/\T.pc<=39))],h):=by
 refine(zkM n T.id T.pc T.rc T.sq T.wd T.lk T.cu T.pv T.nt T.mn T.ps T.rn bv h).trans ?_;unfold zkL Yr;by_cases h1:20<=T.pc
 . rw[if_pos (by simpa using h1)];simp[h1]
 . rw[if_neg (by simpa using h1)];simp[h1]
theorem zvM{R:Type}(f:Nat)(c:List V)(a b:Nat->List V->Option R):fbK (.bf f c) a b=b f c:=rfl
theorem zgT (n : Nat) {h : ze} {m rb o : Nat} {pp sz : Int} {T : Th} {bat : V} {xs : List It} {l : List Int} {st : Int} {z : Nat} (hS : 20 <= T.pc /\ T.pc <= 39) (hb : ZI h bat = some (z, xs.map It.c)) (hz : z = 3 \/ xs = []) (hxl : xs.length < lim)
    (M:MemAt h m rb sz l st) (f i:Nat) (hpl:Qp [0] (.int .i64 T.pc) (plE (h.length+1) zfX) 0=some (some i)) (hpi:(plE (h.length+1) zfX)[i]?=some (.int .i64 T.pc,.bf f [.ptr (h.length+1) 0])) (hk:QI f=true/\okV prog 0 f=true)
    {s':Ps} {Q:ze->Option Nat->V->Prop}
    (hf:∀ g,TS g (h.length+1) m rb o pp (some h.length) (.sl 0 [] true) sz ⟨T,xs,l,st⟩->Fr h g []->∃ g' bb' dn',call (n+1) f [.ptr (h.length+1) 0] g=some (.ret [],g')/\TS g' (h.length+1) m rb o pp bb' dn' sz s'/\Q g' bb' dn') :
    ∃ h' bb' dn',call (n+2) 38 [.ptr m 0,.ptr o 0,.int .i64 pp,.agg (T.v bat)] h=some (.ret [.agg (s'.T.v (QS bb' s'.xs.length)),dn'],h')/\TS h' (h.length+1) m rb o pp bb' dn' sz s'/\Q h' bb' dn':=by
 have hml:=M.lt;have e0:=(zpJ (n+1) m o pp T.id T.pc T.rc T.sq T.wd T.lk T.cu T.pv T.nt T.mn T.ps T.rn bat h);rw[show call (n+2) 38 [.ptr m 0,.ptr o 0,.int .i64 pp,.agg (T.v bat)] h=_ from e0];unfold zsp Yl Yi Yg Yr zbd Yp;rw[hb,za];simp only[zp];rw[if_pos ⟨hz.imp id (fun e=>by rw[e];rfl),hxl⟩];have e1:=zal n T (.row h.length 3 0 xs.length) (h++[.row 87 3 (xs.map It.c) true]);rw[show (decide (20<=T.pc/\T.pc<=39))=true from decide_eq_true hS] at e1;unfold Th.v at e1;rw[e1,zH,zC,Yu,za,zm,if_neg (by decide)];generalize hh1:(h++[HB.row 87 3 (xs.map It.c) true])=h1;have l1:h1.length=h.length+1:=by rw[<- hh1];simp
 rw[l1];generalize hh2:(h1++[HB.box 17 [.int .i64 T.id,.int .i64 T.pc,.int .i64 T.rc,.int .i64 T.sq,.int .i64 T.wd,.int .i64 T.lk,.int .i64 T.cu,.int .i64 T.pv,.int .i64 T.nt,.int .i64 T.mn,.int .i64 T.ps,.int .i64 T.rn,.row h.length 3 0 xs.length,.ptr m 0,.ptr o 0,.int .i64 pp,.sl 0 [] true]])=h2;have l2:h2.length=h.length+2:=by rw[<- hh2];simp[l1]
 rw[zkP,Q5,zC,znl,zB,show kds prog 12 3=some [0] from znZ];simp only[za];rw[hpl,zB,show J1 (plE (h.length+1) zfX) (V.val .nilFunc) (some i)=some (.bf f [.ptr (h.length+1) 0]) from by unfold J1;simp only[hpi];rfl,za,if_pos ⟨rfl,rfl,by first|trivial|rfl⟩,zvM,if_pos hk,z6];have g1:∀ i,i < h.length->(h2++[HB.map (plE (h.length+1) zfX)])[i]?=h[i]?:=fun i hi=>by
  rw[zk (by omega),<- hh2,zk (by omega),<- hh1,zk hi]
 have A:TS (h2++[HB.map (plE (h.length+1) zfX)]) (h.length+1) m rb o pp (some h.length) (.sl 0 [] true) sz ⟨T,xs,l,st⟩:=by
  refine⟨?_,M.keep (g1 m hml.1) (g1 rb hml.2),by omega,by omega,⟨⟨true,?_⟩,by omega,by omega,by omega⟩⟩
  . rw[zk (by omega),<- hh2,<- l1,zx];rfl
  . rw[zk (by omega),<- hh2,zk (by omega),<- hh1,zx]
 obtain⟨g',bb',dn',c1,A1,q⟩:=hf _ A ⟨by simp;omega,fun i h1 _=>g1 i h1⟩;rw[c1,Q5,zI A1.tn,zo,if_pos (by decide),zI A1.tn,zo,if_pos (by decide)];refine⟨g',bb',dn',?_,A1,q⟩;rw[show (tcl s'.T (QS bb' s'.xs.length) m o pp dn')[16]?=some dn' from rfl,za];rfl
def BtR(h:ze)(m rb:Nat)(bat:V)(xs:List It):Prop:=∃ bb,bat=QS bb xs.length/\match bb with|none=>xs=[]|some b=>(∃ z,h[b]?=some (.row 87 3 (xs.map It.c) z))/\b≠m/\b≠rb
theorem BtR.rd{h:ze}{m rb:Nat}{bat:V}{xs:List It}(B:BtR h m rb bat xs):∃ z,ZI h bat=some (z,xs.map It.c)/\(z=3\/xs=[]):=by
 obtain⟨bb,rfl,hb⟩:=B;cases bb with
 | none=>exact⟨0,by rw[show xs=[] from hb];rfl,.inr hb⟩
 | some b =>
   obtain⟨⟨z,h1⟩,_⟩:=hb;refine⟨3,?_,.inl rfl⟩;unfold QS;have:=Jh h1;rwa[zp] at this
theorem TS.btr{h:ze}{t m rb o:Nat}{pp:Int}{bb:Option Nat}{dn:V}{sz:Int}{s:Ps}(A:TS h t m rb o pp bb dn sz s):BtR h m rb (QS bb s.xs.length) s.xs:=by
 refine⟨bb,rfl,?_⟩;have:=A.bt;cases bb with
 | none=>exact this
 | some b=>exact⟨this.1,this.2.2⟩
structure StepR(h h':ze)(m rb:Nat)(sz:Int)(s':Ps)(bat':V)(w:List Nat):Prop where
 mem:MemAt h' m rb sz s'.l s'.st
 bt:BtR h' m rb bat' s'.xs
 fr:Fr h h' w
theorem zsF (n : Nat) {h : ze} {m rb o : Nat} {pp sz : Int} {T : Th} {bat : V} {xs : List It} {l : List Int} {st : Int} (hS : 20 <= T.pc /\ T.pc <= 39) (h36 : T.pc ≠ 36) (B : BtR h m rb bat xs) (hxl : xs.length + 1 < lim) (hll : l.length < lim)
    (M:MemAt h m rb sz l st):∃ h' bat',call (n+6) 38 [.ptr m 0,.ptr o 0,.int .i64 pp,.agg (T.v bat)] h=some (.ret [.agg ((QY pp ⟨T,xs,l,st⟩).T.v bat'),.sl 0 [] true],h')/\StepR h h' m rb sz (QY pp ⟨T,xs,l,st⟩) bat' [m,rb]:=by
 obtain⟨z,hb,hz⟩:=B.rd;have hml:=M.lt;have key:∀ (f i:Nat) (s':Ps),QY pp ⟨T,xs,l,st⟩=s'->Qp [0] (.int .i64 T.pc) (plE (h.length+1) zfX) 0=some (some i)->(plE (h.length+1) zfX)[i]?=some (.int .i64 T.pc,.bf f [.ptr (h.length+1) 0])->(QI f=true/\okV prog 0 f=true) →
     (∀ g,TS g (h.length+1) m rb o pp (some h.length) (.sl 0 [] true) sz ⟨T,xs,l,st⟩->∃ g' bb',call (n+4+1) f [.ptr (h.length+1) 0] g=some (.ret [],g')/\TS g' (h.length+1) m rb o pp bb' (.sl 0 [] true) sz s'/\Fx g g' (h.length+1) m rb (some h.length) bb') →
     ∃ h' bat',call (n+6) 38 [.ptr m 0,.ptr o 0,.int .i64 pp,.agg (T.v bat)] h=some (.ret [.agg ((QY pp ⟨T,xs,l,st⟩).T.v bat'),.sl 0 [] true],h')/\StepR h h' m rb sz (QY pp ⟨T,xs,l,st⟩) bat' [m,rb]:=by
  intro f i s' hs' h1 h2 h3 h4;obtain⟨h',bb',dn',c1,A1,q,rfl⟩:=zgT (n+4) (o:=o) (pp:=pp) (Q:=fun g' bb' dn=>Fr h g' [m,rb]/\dn=.sl 0 [] true) hS hb hz (by omega) M f i h1 h2 h3 (fun g A F=>by
   obtain⟨g',bb',c,A',F'⟩:=h4 g A;exact⟨g',bb',_,c,A',⟨ZY F.len F'.len,fun i q1 q2=>(F'.old i (by have:=F.len;omega) (by omega) (fun e=>q2 (by simp[e])) (fun e=>q2 (by simp[e])) (by simp;omega)).trans (F.old i q1 (by simp))⟩,rfl⟩)
  rw[hs'];exact⟨h',_,c1,A1.mem,A1.btr,q⟩
 have one:∀ (f:Nat) (p:Ps->Ps),(∀ g,TS g (h.length+1) m rb o pp (some h.length) (.sl 0 [] true) sz ⟨T,xs,l,st⟩->∃ g',call (n+1+4) f [.ptr (h.length+1) 0] g=some (.ret [],g')/\TS g' (h.length+1) m rb o pp (some h.length) (.sl 0 [] true) sz (p ⟨T,xs,l,st⟩)/\Fx g g' (h.length+1) m rb (some h.length) (some h.length)) →
     (∀ g,TS g (h.length+1) m rb o pp (some h.length) (.sl 0 [] true) sz ⟨T,xs,l,st⟩->∃ g' bb',call (n+4+1) f [.ptr (h.length+1) 0] g=some (.ret [],g')/\TS g' (h.length+1) m rb o pp bb' (.sl 0 [] true) sz (p ⟨T,xs,l,st⟩)/\Fx g g' (h.length+1) m rb (some h.length) bb') :=
  fun f p hp g A=>by obtain⟨g',c,A',F'⟩:=hp g A;exact⟨g',_,c,A',F'⟩
 have hcs:T.pc=20\/T.pc=21\/T.pc=22\/T.pc=23\/T.pc=24\/T.pc=25\/T.pc=26\/T.pc=27\/T.pc=28\/T.pc=29\/T.pc=30\/T.pc=31\/T.pc=32\/T.pc=33\/T.pc=34\/T.pc=35\/T.pc=37\/T.pc=38\/T.pc=39:=by omega
 obtain⟨id,pc,rc,sq,wd,lk,cu,pv,nt,mn,ps,rn⟩:=T;simp only at hcs;rcases hcs with rfl|rfl|rfl|rfl|rfl|rfl|rfl|rfl|rfl|rfl|rfl|rfl|rfl|rfl|rfl|rfl|rfl|rfl|rfl
 . exact key 103 0 _ rfl rfl rfl ⟨by kernel_rfl,by kernel_rfl⟩ (one _ zsr fun g A=>ztZ (n+1) A)
 . exact key 104 1 _ rfl rfl rfl ⟨by kernel_rfl,by kernel_rfl⟩ (one _ zmz fun g A=>zsy (n+1) A)
 . exact key 105 2 _ rfl rfl rfl ⟨by kernel_rfl,by kernel_rfl⟩ (fun g A=>by obtain⟨g',c,A',F'⟩:=zt0 (n+1) A hll;exact⟨g',none,c,A',F'⟩)
 . exact key 106 3 _ rfl rfl rfl ⟨by kernel_rfl,by kernel_rfl⟩ (one _ zss fun g A=>zt1 (n+1) A)
 . exact key 107 4 _ rfl rfl rfl ⟨by kernel_rfl,by kernel_rfl⟩ (one _ zst fun g A=>zt2 (n+1) A)
 . exact key 108 5 _ rfl rfl rfl ⟨by kernel_rfl,by kernel_rfl⟩ (one _ zsu fun g A=>zt3 (n+1) A)
 . exact key 109 6 _ rfl rfl rfl ⟨by kernel_rfl,by kernel_rfl⟩ (one _ zie fun g A=>zsz (n+1) A)
 . exact key 110 7 _ rfl rfl rfl ⟨by kernel_rfl,by kernel_rfl⟩ (one _ zsv fun g A=>zt4 (n+1) A)
 . exact key 111 8 _ rfl rfl rfl ⟨by kernel_rfl,by kernel_rfl⟩ (one _ zsw fun g A=>zt5 (n+1) A)
 . exact key 112 9 _ rfl rfl rfl ⟨by kernel_rfl,by kernel_rfl⟩ (one _ zmA fun g A=>zsA (n+1) A)
 . exact key 113 10 _ rfl rfl rfl ⟨by kernel_rfl,by kernel_rfl⟩ (one _ zvE fun g A=>zvH (n+1) A)
 . exact key 114 11 _ rfl rfl rfl ⟨by kernel_rfl,by kernel_rfl⟩ (one _ zvF fun g A=>zvI (n+1) A)
 . exact key 115 12 _ rfl rfl rfl ⟨by kernel_rfl,by kernel_rfl⟩ (one _ zsx fun g A=>zt6 (n+1) A)
 . exact key 116 13 _ rfl rfl rfl ⟨by kernel_rfl,by kernel_rfl⟩ (one _ znX fun g A=>zt7 (n+1) A)
 . exact key 117 14 _ rfl rfl rfl ⟨by kernel_rfl,by kernel_rfl⟩ (fun g A=>zua (n+1) A hxl)
 . exact key 118 15 _ rfl rfl rfl ⟨by kernel_rfl,by kernel_rfl⟩ (one _ zaY fun g A=>zt8 (n+1) A)
 . exact key 120 17 _ rfl rfl rfl ⟨by kernel_rfl,by kernel_rfl⟩ (one _ zgR fun g A=>zt9 (n+1) A)
 . exact key 121 18 _ rfl rfl rfl ⟨by kernel_rfl,by kernel_rfl⟩ (one _ zpK fun g A=>zvJ (n+1) A)
 . exact key 122 19 _ rfl rfl rfl ⟨by kernel_rfl,by kernel_rfl⟩ (one _ (zgS pp) fun g A=>zub (n+1) A)
theorem zuc (n : Nat) {h : ze} {m rb o : Nat} {pp sz : Int} {T : Th} {bat : V} {xs : List It} {l : List Int} {st : Int} (h36 : T.pc = 36) (B : BtR h m rb bat xs) (hxl : xs.length <= 1000) {σ : Type} (C : ObjC σ o) {X : List Nat} {so : σ} (O1 : C.P h X so) (hm : m ∉ X) (hrb : rb ∉ X)
    (M:MemAt h m rb sz l st) (hn:2 * xs.length+C.K<=n):∃ h' bat' X',call (n+10) 38 [.ptr m 0,.ptr o 0,.int .i64 pp,.agg (T.v bat)] h=some (.ret [.agg ((pDo ⟨T,xs,l,st⟩ (C.run (xs.map opO) so).1).T.v bat'),.sl 3 ((Qa xs (C.run (xs.map opO) so).1 xs.length).map It.c) false],h')/\StepR h h' m rb sz (pDo ⟨T,xs,l,st⟩ (C.run (xs.map opO) so).1) bat' (m :: rb :: X) ∧
     C.P h' X' (C.run (xs.map opO) so).2/\∀ x∈X',x∈X\/h.length<=x:=by
 obtain⟨z,hb,hz⟩:=B.rd;have hlim:100000 < lim:=by decide
 have hXl:=C.lt O1;obtain⟨i0,pc,rc,sq,wd,lk,cu,pv,nt,mn,ps,rn⟩:=T;obtain rfl:pc=36:=h36;obtain⟨h',bb',dn',c1,A1,⟨X',q1,q2,q3,rfl⟩⟩:=zgT (n+8) (o:=o) (pp:=pp) (T:=⟨i0,36,rc,sq,wd,lk,cu,pv,nt,mn,ps,rn⟩) (s':=pDo ⟨_,xs,l,st⟩ (C.run (xs.map opO) so).1) (Q:=fun g' bb' dn'=>∃ X',C.P g' X' (C.run (xs.map opO) so).2/\(∀ x∈X',x∈X\/h.length<=x)/\Fr h g' (m :: rb :: X)/\dn'=.sl 3 ((Qa xs (C.run (xs.map opO) so).1 xs.length).map It.c) false) (show (20:Int)<=36/\(36:Int)<=39 by decide) hb hz (by omega) M 119 16 rfl rfl ⟨by kernel_rfl,by kernel_rfl⟩ (fun g A F=>by
  have O2:C.P g X so:=C.keep O1 (fun x hx=>F.old x (hXl x hx) (by simp));obtain⟨g',X',c,A',P',f1,f2,f3⟩:=zwy n C A O2 (fun hx=>by have:=hXl _ hx;omega) hm hrb (fun b hb hx=>by cases hb;have:=hXl _ hx;omega) hxl hn;refine⟨g',_,_,c,A',X',P',fun x hx=>(f3 x hx).imp id (fun e=>ZY F.len e),⟨ZY F.len f1,fun i q1 q2=>?_⟩,rfl⟩;exact(f2 i (by have:=F.len;omega) (by omega) (by simp;omega) (fun e=>q2 (by simp[e]))).trans (F.old i q1 (by simp)))
 exact⟨h',_,X',c1,⟨A1.mem,A1.btr,q3⟩,q1,q2⟩
end Go.Proofs.Tryz
namespace Go.Proofs.Tryz
open Go.L
set_option maxRecDepth 100000
noncomputable def zu2(n:Nat)(x0:Int)(h:ze):Option (Res×ze) :=
 Yr [(V.agg [(V.int .i64 (if 0 < (if 1000 < x0 then 1000 else x0) then(if 1000 < x0 then 1000 else x0) else 0)),(V.sl 0 [] true),(V.int .i64 0)])] h
theorem zsG(n x0 h):call (n+1) 72 [(V.int .i64 x0)] h=zu2 n x0 h:=by kernel_rfl
noncomputable def zn1(n:Nat)(sz:Int)(cv:V)(st:Int)(h:ze):Option (Res×ze) :=
 (bdS (ZI h cv) fun a =>
 (Yg (54=54/\(a.1=1\/(a.2).isEmpty=true)) (bd (app 2 1 (S.own 2 1 []) a.2) fun b =>
 Yr [(V.agg [(V.int .i64 sz),(V.row (h).length 1 0 (b).length),(V.int .i64 st)])] (h++[(HB.row 2 1 b true)]))))
theorem zfm(n sz cv st h):call (n+1) 101 [(V.agg [(V.int .i64 sz),cv,(V.int .i64 st)])] h=zn1 n sz cv st h:=by kernel_rfl
noncomputable def zu3(n:Nat)(sz:Int)(cv:V)(st a:Int)(h:ze):Option (Res×ze) :=
 (if (decide (a ≥ 0)) then
 (bd (ZI h cv) fun b =>
 Yr [(V.bool (decide (a < ((b.2).length:Int))))] h)
 else
 Yr [(V.bool false)] h)
theorem zsH(n sz cv st a h):call (n+1) 102 [(V.agg [(V.int .i64 sz),cv,(V.int .i64 st)]),(V.int .i64 a)] h=zu3 n sz cv st a h:=by kernel_rfl
noncomputable def zn2(n:Nat)(sz:Int)(cv:V)(st k:Int)(h:ze):Option (Res×ze) :=
 (if (decide (k < 0)) then
 Yr [(V.agg [(V.int .i64 sz),cv,(V.int .i64 st)]),(V.int .i64 0),(V.int .i64 1)] h
 else
 (bd (ZI h cv) fun l =>
 (if (decide (k > (IntKind.i64.wrap (sz - ((l.2).length:Int))))) then
 Yr [(V.agg [(V.int .i64 sz),cv,(V.int .i64 st)]),(V.int .i64 0),(V.int .i64 11)] h
 else
 (bd (ZI h cv) fun j =>
 (cl (call n 101 [(V.agg [(V.int .i64 sz),cv,(V.int .i64 st)])] h) (fun m d =>
 (Zm m fun a =>
 (Yc a 3 (bd ((setR Yq3 0 (V.cells a)))[1]? fun b =>
 (bdS (nv (V.int .i64 k)) fun c =>
 (Yg (c < lim/\1=1) (if (zg7 b=true/\0 < c) then
 (bd ((setR (setR Yq3 0 (V.cells a)) 1 [(V.row (d).length 1 0 ((List.replicate c [(V.int .i64 0)])).length)]))[2]? fun o =>
 (Ya o fun f =>
 (if ((V.cells f)).length=1 then
 (Yg (0=0/\2+((V.cells f)).length<=3) (if ((((setR (setR (setR Yq3 0 (V.cells a)) 1 [(V.row (d).length 1 0 ((List.replicate c [(V.int .i64 0)])).length)]) 2 (V.cells f))).drop 0 |>.take 3)).length=3 then
 (Yg (((((setR (setR (setR Yq3 0 (V.cells a)) 1 [(V.row (d).length 1 0 ((List.replicate c [(V.int .i64 0)])).length)]) 2 (V.cells f))).drop 0 |>.take 3)).length<=3) (Yr [(V.agg (((setR Yq3 0 (((setR (setR (setR Yq3 0 (V.cells a)) 1 [(V.row (d).length 1 0 ((List.replicate c [(V.int .i64 0)])).length)]) 2 (V.cells f))).drop 0 |>.take 3))).drop 0 |>.take 3)),(V.int .i64 ((j.2).length:Int)),(V.int .i64 0)] (d++[(HB.row 2 1 (List.replicate c [(V.int .i64 0)]) true)]))) else none)) else none)))
 else if (true=true/\zmL b=true) then(bd2 (Ws 2 1 d (List.replicate c [(V.int .i64 0)]) b) fun e p =>
 (if ((V.cells e)).length=1 then
 (Yg (0=0/\1+((V.cells e)).length<=3) (bd ((setR (setR Yq3 0 (V.cells a)) 1 (V.cells e)))[2]? fun q =>
 (Ya q fun g =>
 (if ((V.cells g)).length=1 then
 (Yg (0=0/\2+((V.cells g)).length<=3) (if ((((setR (setR (setR Yq3 0 (V.cells a)) 1 (V.cells e)) 2 (V.cells g))).drop 0 |>.take 3)).length=3 then
 (Yg (((((setR (setR (setR Yq3 0 (V.cells a)) 1 (V.cells e)) 2 (V.cells g))).drop 0 |>.take 3)).length<=3) (Yr [(V.agg (((setR Yq3 0 (((setR (setR (setR Yq3 0 (V.cells a)) 1 (V.cells e)) 2 (V.cells g))).drop 0 |>.take 3))).drop 0 |>.take 3)),(V.int .i64 ((j.2).length:Int)),(V.int .i64 0)] p)) else none)) else none)))) else none)) else if (zg7 b=true) then(if ((V.cells b)).length=1 then
 (Yg (0=0/\1+((V.cells b)).length<=3) (bd ((setR (setR Yq3 0 (V.cells a)) 1 (V.cells b)))[2]? fun r =>
 (Ya r fun i =>
 (if ((V.cells i)).length=1 then
 (Yg (0=0/\2+((V.cells i)).length<=3) (if ((((setR (setR (setR Yq3 0 (V.cells a)) 1 (V.cells b)) 2 (V.cells i))).drop 0 |>.take 3)).length=3 then
 (Yg (((((setR (setR (setR Yq3 0 (V.cells a)) 1 (V.cells b)) 2 (V.cells i))).drop 0 |>.take 3)).length<=3) (Yr [(V.agg (((setR Yq3 0 (((setR (setR (setR Yq3 0 (V.cells a)) 1 (V.cells b)) 2 (V.cells i))).drop 0 |>.take 3))).drop 0 |>.take 3)),(V.int .i64 ((j.2).length:Int)),(V.int .i64 0)] d)) else none)) else none)))) else none) else none))))))) Yp)))))
theorem zmB(n sz cv st k h):call (n+1) 73 [(V.agg [(V.int .i64 sz),cv,(V.int .i64 st)]),(V.int .i64 k)] h=zn2 n sz cv st k h:=by kernel_rfl
noncomputable def zn3(n:Nat)(sz:Int)(cv:V)(st a v:Int)(h:ze):Option (Res×ze) :=
 (cl (call n 102 [(V.agg [(V.int .i64 sz),cv,(V.int .i64 st)]),(V.int .i64 a)] h) (fun f d =>
 (Zm f fun g =>
 (Yi (uop .not g)
 (Yr [(V.agg [(V.int .i64 sz),cv,(V.int .i64 st)]),(V.int .i64 10)] d)
 (cl (call n 101 [(V.agg [(V.int .i64 sz),cv,(V.int .i64 st)])] d) (fun i e =>
 (Zm i fun b =>
 (Yc b 3 (bd ((setR Yq3 0 (V.cells b)))[1]? fun j =>
 (Yx 1 (V.int .i64 a) j fun k =>
 (bd2 (Zl e [(V.int .i64 v)] k) fun l m =>
 (bd ((setR Yq3 0 (V.cells b)))[2]? fun o =>
 (Ya o fun c =>
 (if ((V.cells c)).length=1 then
 (Yg (0=0/\2+((V.cells c)).length<=3) (if ((((setR (setR Yq3 0 (V.cells b)) 2 (V.cells c))).drop 0 |>.take 3)).length=3 then
 (Yg (((((setR (setR Yq3 0 (V.cells b)) 2 (V.cells c))).drop 0 |>.take 3)).length<=3) (Yr [(V.agg (((setR Yq3 0 (((setR (setR Yq3 0 (V.cells b)) 2 (V.cells c))).drop 0 |>.take 3))).drop 0 |>.take 3)),(V.int .i64 0)] ((e).set l m))) else none)) else none))))))))) Yp)))) Yp)
theorem zmC(n sz cv st a v h):call (n+1) 75 [(V.agg [(V.int .i64 sz),cv,(V.int .i64 st)]),(V.int .i64 a),(V.int .i64 v)] h=zn3 n sz cv st a v h:=by kernel_rfl
end Go.Proofs.Tryz
namespace Go.Proofs.Tryz
open Go.L Go.Rp Go.Cm
set_option maxRecDepth 100000
theorem zud{l:List Int}(h:l.length < lim):app 2 1 (S.own 2 1 []) (l.map cel)=some (l.map cel):=by
 unfold app;simp[h]
theorem zcc(x y z:V):setR [.int .i64 0,.sl 0 [] true,.int .i64 0] 0 [x,y,z]=[x,y,z]:=rfl
theorem zue(x y z w:V):setR [x,y,z] 1 [w]=[x,w,z]:=rfl
theorem zn4(x y z w:V):setR [x,y,z] 2 [w]=[x,y,w]:=rfl
theorem zaK(x y z:V):(([x,y,z]:List V).drop 0 |>.take 3)=[x,y,z]:=rfl
theorem ca(l:List V):V.cells (.agg l)=l:=rfl
theorem ci(k:IntKind)(x:Int):V.cells (.int k x)=[.int k x]:=rfl
theorem cr(b sz lo hi:Nat):V.cells (.row b sz lo hi)=[.row b sz lo hi]:=rfl
def RefAt(h:ze)(b:Nat)(r:List V)(sz:Int)(l:List Int)(st:Int):Prop :=
 r=[.int .i64 sz,.row b 1 0 l.length,.int .i64 st]/\∃ z,h[b]?=some (.row 2 1 (l.map cel) z)
theorem RefAt.keep{h h':ze}{b:Nat}{r:List V}{sz:Int}{l:List Int}{st:Int}(A:RefAt h b r sz l st)(hk:h'[b]?=h[b]?):RefAt h' b r sz l st:=by
 obtain⟨h1,z,h2⟩:=A;exact⟨h1,z,hk.trans h2⟩
theorem RefAt.lt{h:ze}{b:Nat}{r:List V}{sz:Int}{l:List Int}{st:Int}(A:RefAt h b r sz l st):b < h.length:=by
 obtain⟨h1,z,h2⟩:=A;exact zQ h2
theorem zvN(n:Nat)(k:Int)(h1:0 < k/\k<=1000)(h:ze):call (n+1) 72 [.int .i64 k] h=some (.ret [.agg [.int .i64 k,.sl 0 [] true,.int .i64 0]],h):=by
 rw[zsG];unfold zu2 Yr;simp only[if_neg (show ¬ 1000 < k by omega),if_pos h1.1]
theorem zsI (n : Nat) {h : ze} {b : Nat} {r : List V} {sz : Int} {l : List Int} {st : Int} (A : RefAt h b r sz l st) (hl : l.length < lim) :
    call (n+1) 101 [.agg r] h=some (.ret [.agg [.int .i64 sz,.row h.length 1 0 l.length,.int .i64 st]],h++[.row 2 1 (l.map cel) true]):=by
 obtain⟨rfl,z,h2⟩:=A;have hll:(l.map cel).length=l.length:=zp ..;rw[zfm];unfold zn1 Yg Yr;have e:=Jh h2;rw[hll] at e;rw[e,zB,if_pos ⟨rfl,.inl rfl⟩,zud hl,za,hll]
theorem zsJ(n:Nat)(k:Nat)(h1:0 < k/\k<=1000)(h:ze):∃ h' b r,call (n+2) 73 [.agg [.int .i64 (k:Int),.sl 0 [] true,.int .i64 0],.int .i64 (k:Int)] h=some (.ret [.agg r,.int .i64 0,.int .i64 0],h')/\RefAt h' b r k (List.replicate k 0) 1/\Fr h h' []/\h.length<=b:=by
 rw[show n+2=(n+1)+1 from rfl,zmB];unfold zn2 Yc Ya Yg Yr Yq3 Yp;have hlim:1000 < lim:=by decide
 rw[if_neg (by simp),show ZI h (V.sl 0 [] true)=some (0,[]) from rfl,za];rw[show ((0,([]:List (List V))).2).length=0 from rfl,if_neg (by rw[w64 (by omega) (by omega)];simp),za];have e1:call (n+1) 101 [.agg [.int .i64 (k:Int),.sl 0 [] true,.int .i64 0]] h=some (.ret [.agg [.int .i64 (k:Int),.row h.length 1 0 0,.int .i64 0]],h++[.row 2 1 [] true]):=by
  rw[zfm];rfl
 rw[e1,zH,zC];simp only[ca,zcc,zaK,zD,zP,zq,Nat.reduceAdd,if_true,zn,zb,zh,za];rw[z3,zB,if_pos ⟨by omega,by first|trivial|rfl⟩,if_neg (by simp[zg7]),if_pos ⟨by first|trivial|rfl,rfl⟩];have e2:Ws 2 1 (h++[.row 2 1 [] true]) (List.replicate k [V.int .i64 0]) (V.row h.length 1 0 0)=some (.row (h.length+1) 1 0 k,(h++[.dead])++[.row 2 1 ((List.replicate k 0).map cel) true]):=by
  unfold Ws
  dsimp only
  rw[zx];simp only[zP,ZZ,X8,zq,zL,zD];rw[if_pos ⟨by decide,by decide,by omega⟩];simp[cel]
 rw[e2,zZ];simp only[cr,zue,zD,zP,zq,Nat.reduceAdd,Nat.reduceLeDiff,and_self,if_true,zb,zh,za];rw[zA,za];simp only[ci,zcc,zn4,zaK,zD,zP,zq,Nat.reduceAdd,Nat.reduceLeDiff,and_self,if_true,zn];refine⟨_,h.length+1,_,rfl,⟨?_,true,?_⟩,⟨by simp,fun i q1 _=>?_⟩,by omega⟩
 . simp only[ZZ];rfl
 . rw[zJ (by simp)];simp
 . rw[zk (by simp;omega),zk (by omega)]
theorem zsK (n : Nat) {h : ze} {b : Nat} {r : List V} {sz : Int} {l : List Int} {st : Int} (A : RefAt h b r sz l st) (a : Int) :
    call (n+1) 102 [.agg r,.int .i64 a] h=some (.ret [.bool (XZ l a).isSome],h):=by
 obtain⟨rfl,z,h2⟩:=A;have hll:(l.map cel).length=l.length:=zp ..;have e:=Jh h2;rw[hll] at e;rw[zsH];unfold zu3 XZ Yr;by_cases h0:a < 0
 . rw[if_neg (by simpa using h0),if_pos h0];rfl
 . rw[if_pos (by simpa using h0),if_neg h0,e,za];simp only[hll];by_cases h3:a < (l.length:Int)
   . rw[zf (by omega)];simp[h3]
   . rw[zS (by omega)];simp[h3]
theorem zsL (n : Nat) {h : ze} {b : Nat} {r : List V} {sz : Int} {l : List Int} {st : Int} (A : RefAt h b r sz l st) (hl : l.length < lim) (a v : Int) :
    ∃ h' b' r' e,call (n+2) 75 [.agg r,.int .i64 a,.int .i64 v] h=some (.ret [.agg r',.int .i64 e],h')/\RefAt h' b' r' sz (stL l a v) (ldS l a st)/\Fr h h' []/\(b'=b\/h.length<=b'):=by
 have A0:=A;have e1:=zsK n A a;have e2:=zsI n A hl;obtain⟨rfl,z,h2⟩:=A;rw[show n+2=(n+1)+1 from rfl,zmC];unfold zn3 Yc Yi Yx Ya Yg Yr Yq3 Yp;rw[e1,zH,zC,Yu,za,zm];unfold ldS;cases hg:XZ l a with
 | none =>
   rw[if_pos (by rfl),zjp hg];exact⟨_,_,_,_,rfl,A0,.refl _ _,.inl rfl⟩
 | some x =>
   obtain⟨q1,q2,q3⟩:=jv hg v;have hlt:=(zj.1 q3).1;rw[if_neg (by simp),e2,zH,zC];simp only[ca,zcc,zaK,zD,zP,zq,Nat.reduceAdd,if_true,zn,zb,zh,za];rw[Go.L.nv_int q2,zB,Z3 (by omega),za,QU (zx) (by decide) (by simp) (by rw[zq];exact zaw hg),zZ,zA,za];simp only[ci,zcc,zn4,zaK,zD,zP,zq,Nat.reduceAdd,Nat.reduceLeDiff,and_self,if_true,zn,Zi _ _ (zn _),X8,Ji];refine⟨_,h.length,_,_,rfl,⟨?_,true,?_⟩,Fr.app _ _,.inr (zn _)⟩
   . rw[XK];rfl
   . rw[zx,q1,Qo];rfl
theorem zvO(n:Nat)(k:Int)(h1:0 < k/\k<=1000)(h:ze):call (n+1) 71 [.int .i64 k] h=some (.ret [.ptr h.length 0],h++[.box 3 [.int .i64 k,.sl 0 [] true,.int .i64 0]]):=by
 rw[zqB];unfold zuG Yr;simp only[if_neg (show ¬ 1000 < k by omega),if_pos h1.1]
theorem zsM (n : Nat) {h : ze} {m : Nat} (k : Nat) (h1 : 0 < k /\ k <= 1000) (hm : h[m]? = some (.box 3 [.int .i64 (k : Int), .sl 0 [] true, .int .i64 0])) :
    ∃ h' a e,call (n+1) 74 [.ptr m 0,.int .i64 (k:Int)] h=some (.ret [.int .i64 a,.int .u16 e],h')/\MemAt h' m (h.length+1) k (List.replicate k 0) 1/\Fr h h' [m]:=by
 have hml:=zQ hm;have hlim:1000 < lim:=by decide
 rw[zlA];unfold zm6 Yl Yi Yw Yg Yr Yn;rw[if_neg (by simp),KV,za,zm,if_neg (by decide)];generalize hg:h++[HB.box 1 [V.int .u16 0]]=g;have gl:g.length=h.length+1:=by rw[<- hg];simp
 have g1:g[m]?=some (.box 3 [.int .i64 (k:Int),.sl 0 [] true,.int .i64 0]):=by rw[<- hg,zk hml,hm]
 have g2:g[h.length]?=some (.box 1 [V.int .u16 0]):=by rw[<- hg,zx]
 have g3:∀ i,i < h.length->g[i]?=h[i]?:=fun i hi=>by rw[<- hg,zk hi]
 rw[zI g1,zo,if_pos (by decide)];simp only[zb,zh,za];rw[show ZI g (V.sl 0 [] true)=some (0,[]) from rfl,za,zI g1,zo,if_pos (by decide)];simp only[zb,zh,za,zP];rw[ZF,za,w64 (by omega) (by omega),Qg,za,zm,if_neg (by simp),zo,if_pos (by decide)];simp only[zb,zh,za];rw[z3,zB,if_pos ⟨by omega,by first|trivial|rfl⟩,if_pos ⟨rfl,h1.1⟩];have k1:(g++[HB.row 2 1 (List.replicate k [V.int .i64 0]) true])[m]?=some (.box 3 [.int .i64 (k:Int),.sl 0 [] true,.int .i64 0]):=by rw[zk (by omega),g1]
 rw[Zx k1 (by simp),zZ];generalize hk:(g++[HB.row 2 1 (List.replicate k [V.int .i64 0]) true]).set m (HB.box 3 (setR [.int .i64 (k:Int),.sl 0 [] true,.int .i64 0] 1 [(V.row (g).length 1 0 ((List.replicate k [(V.int .i64 0)])).length)]))=g';have k2:g'[h.length]?=some (.box 1 [V.int .u16 0]):=by rw[<- hk,zd (by omega),zk (by omega),g2]
 have k3:g'[m]?=some (.box 3 [.int .i64 (k:Int),.row (h.length+1) 1 0 k,.int .i64 0]):=by
  rw[<- hk,ZU (by simp;omega),gl,ZZ];rfl
 have k4:g'[h.length+1]?=some (.row 2 1 ((List.replicate k 0).map cel) true):=by
  rw[<- hk,zd (by omega),<- gl,zx];simp[cel]
 have k5:∀ i,i < h.length->i≠m->g'[i]?=h[i]?:=fun i hi hn=>by rw[<- hk,zd (Ne.symm hn),zk (by omega),g3 i hi]
 rw[Zx k2 (by simp),zZ,show setR [V.int .u16 0] 0 [V.int .u16 0]=[V.int .u16 0] from rfl];have j2:(g'.set h.length (HB.box 1 [V.int .u16 0]))[h.length]?=some (.box 1 [V.int .u16 0]):=ZU (zQ k2) _;have j3:(g'.set h.length (HB.box 1 [V.int .u16 0]))[m]?=_:=(zd (by omega)).trans k3;have j4:(g'.set h.length (HB.box 1 [V.int .u16 0]))[h.length+1]?=_:=(zd (by omega)).trans k4;rw[qW n j3 j2,zZ,if_pos rfl];have i2:((g'.set h.length (HB.box 1 [V.int .u16 0])).set m (.box 3 [.int .i64 (k:Int),.row (h.length+1) 1 0 k,.int .i64 (inc 0)]))[h.length]?=some (.box 1 [V.int .u16 0]):=(zd (by omega)).trans j2;rw[zI i2,zo,if_pos (by decide)];simp only[zb,za];refine⟨_,_,_,rfl,⟨by omega,?_,true,?_⟩,⟨?_,fun i q1 q2=>?_⟩⟩
 . rw[ZU (zQ j3),ZZ];rfl
 . rw[zd (by omega)];exact j4
 . have:=zQ k4;simp;omega
 . simp only[ZE] at q2;rw[zd (Ne.symm q2),zd (by omega),k5 i q1 q2]
theorem qj(l:List (List V))(b:Bool)(c:List V):jd (V.sl 1 l b) (V.iptr 1 c 0)=V.iptr 1 c 0:=rfl
theorem zcd(x:Int):(cel x)[0]?=some (V.int .i64 x):=rfl
def Rd(g:ze)(lv:V)(l:List Int):Prop:=ZI g lv=some (1,l.map cel)/\∀ (j:Nat) (x:Int),l[j]?=some x->∃ p,Jz 1 j lv=some p/\jd lv p=p/\Zv g p=some (cel x,1,0)
theorem zwz(g:ze)(l:List Int)(lb:Bool):Rd g (.sl 1 (l.map cel) lb) l :=
 ⟨rfl,fun j x hx=>⟨_,XJ (es:=cel x) (by rw[zF,hx];rfl) lb,qj ..,Zq ..⟩⟩
theorem zvP{g:ze}{bl:Nat}{l:List Int}{z:Bool}(h:g[bl]?=some (.row 2 1 (l.map cel) z)):Rd g (.row bl 1 0 l.length) l:=by
 have e:=Jh h;rw[zp] at e;refine⟨e,fun j x hx=>⟨.rptr bl 1 j 0,?_,rfl,ZJ h (by decide) (by rw[zF,hx];rfl)⟩⟩;have hj:=(zj.1 hx).1;rw[Z3 (by omega),zq]
theorem zkQ(n:Nat)(l:List Int){lv:V}{m rb:Nat}{sz:Int}(hl:l.length<=1000){s2:List V}:∀ (d j M:Nat) (h:ze) (cur:List Int) (st:Int) (b:Nat) (r s0:List V),s0.length=3->(∀ g,Fr h g [m,rb]->Rd g lv l)->j+d=l.length->d < M->cur.length=l.length->(∀ i,i < j->cur[i]?=l[i]?)->MemAt h m rb sz cur st->RefAt h b r sz cur st->b≠m->b≠rb →
    ∃ h' b' r' st',zV M (YE (n+2) lv (.ptr m 0)) [.agg s0,.agg r,.agg s2,.int .i64 (j:Int)] h=some (.ret [.ptr m 0,.agg r'],h')/\MemAt h' m rb sz l st'/\RefAt h' b' r' sz l st'/\Fr h h' [m,rb]/\(b'=b\/h.length<=b')/\b'≠m/\b'≠rb
 | 0,j,M+1,h,cur,st,b,r,s0=>by
   intro h0 hv hj hM hc hcur A B hb1 hb2;have hll:(l.map cel).length=l.length:=zp ..;have e0:cur=l:=ZM fun i=>by
    by_cases hi:i < l.length
    . exact hcur i (by omega)
    . rw[zS (by omega),zS (by omega)]
   subst e0;obtain⟨x,y,w,rfl⟩:∃ x y z,s0=[x,y,z]:=by
    match s0,h0 with
    | [x,y,z],_=>exact⟨x,y,z,rfl⟩
   obtain⟨rfl,B2⟩:=id B;refine⟨h,b,_,st,?_,A,B,.refl _ _,.inl rfl,hb1,hb2⟩;rw[zK];unfold YE Yc Yl Yi Yx Ya Yg Yr Yq3 Yp;simp only[gv,zg,zi,XT];rw[(hv h (.refl _ _)).1,za];simp only[hll];rw[zy,za,zm,if_neg (by simp;omega)];rfl
 | d+1,j,M+1,h,cur,st,b,r,s0=>by
   intro h0 hv hj hM hc hcur A B hb1 hb2;have hlim:1000 < lim:=by decide
   have hll:(l.map cel).length=l.length:=zp ..;have hjl:j < l.length:=by omega
   obtain⟨h1,e1,c1,A1,F1⟩:=qX n A (j:Int) l[j];have B1:RefAt h1 b r sz cur st:=B.keep (F1.old _ B.lt (by simp[hb1,hb2]));obtain⟨h2,b2,r2,e2,c2,B2,F2,hb⟩:=zsL n B1 (by omega) (j:Int) l[j];obtain⟨v1,v2⟩:=hv h (.refl _ _);obtain⟨p,p1,p2,p3⟩:=v2 j l[j] (zf hjl);obtain⟨p',p1',_,p3'⟩:=(hv h1 F1).2 j l[j] (zf hjl);obtain rfl:p'=p:=by rw[p1] at p1';cases p1';rfl
   have hg:XZ cur (j:Int)=some (cur[j]'(by omega)):=by
    unfold XZ;rw[if_neg (by omega),XR,zf (by omega)]
   obtain⟨q1,_,_⟩:=jv hg l[j];rw[XR] at q1;have A2:=A1.fr F2 (by simp) (by simp);have hml:=A1.lt;have hn1:b2≠m:=by rcases hb with e|e <;> omega
   have hn2:b2≠rb:=by rcases hb with e|e <;> omega
   have hset:∀ i,i < j+1->(stL cur (j:Int) l[j])[i]?=l[i]?:=fun i hi=>by
    rw[q1];by_cases e:i=j
    . subst e;rw[Zf (by omega),zf hjl]
    . rw[zd (Ne.symm e)];exact hcur i (by omega)
   obtain⟨rr,hrr⟩:∃ rr,r2=[V.int .i64 sz,rr,V.int .i64 (ldS cur (j:Int) st)]:=⟨_,B2.1⟩;obtain⟨r0,hr0⟩:∃ rr,r=[V.int .i64 sz,rr,V.int .i64 st]:=⟨_,B.1⟩;obtain⟨h',b',r',st',e,A3,B3,F3,hb3,hb4,hb5⟩:=zkQ n l hl (s2:=s2) d (j+1) M h2 (stL cur (j:Int) l[j]) (ldS cur (j:Int) st) b2 r2 s0 h0 (fun g F=>hv g ((F1.trans (F2.mono (by simp))).trans F)) (by omega) (by omega) (by rw[XK,hc]) hset A2 B2 hn1 hn2;refine⟨h',b',r',st',?_,A3,B3,(F1.trans (F2.mono (by simp))).trans F3,?_,hb4,hb5⟩
   . rw[zK,<- e];generalize (zV M (YE (n+2) lv (.ptr m 0)))=nx;unfold YE Yc Yl Yi Yx Ya Yg Yr Yq3 Yp;simp only[gv,zg,zi,XT];subst hr0 hrr;rw[v1,za];simp only[hll];rw[zy,za,zm,if_pos (by simp;omega),z3,zB,p1,za,p3,zo,if_pos (by decide),zcd,za,c1,zH,zC,zB,p1,za,p2,p3',zo,if_pos (by decide),zcd,za,zaK,c2,Q5];simp only[zb,zh,za,ca,zcc,zaK,zD,zP,zq,Nat.reduceAdd,if_true,zn];rw[zA,za,Xl (by omega)];rfl
   . rcases hb3 with e|e
     . rcases hb with e'|e'
       . exact .inl (e.trans e')
       . exact .inr (by have:=F1.len;omega)
     . exact .inr (by have:=F1.len;have:=F2.len;omega)
 | d,j,0,h,cur,st,b,r,s0=>by
   intro _ _ _ hM;omega
theorem zgU (n : Nat) {l : List Int} {lv : V} (h1 : 0 < l.length /\ l.length <= 1000) (hn : l.length < n + 2) {h : ze} (hv : ∀ g, Fr h g [] -> Rd g lv l) :
    ∃ h' m rb b r st,call (n+3) 32 [lv] h=some (.ret [.ptr m 0,.agg r],h')/\MemAt h' m rb l.length l st/\RefAt h' b r l.length l st/\Fr h h' []/\h.length<=m/\h.length<=rb/\h.length<=b:=by
 have hll:(l.map cel).length=l.length:=zp ..;have c1:=zvO (n+1) (l.length:Int) (by omega) h;have F0:Fr h (h++[HB.box 3 [.int .i64 (l.length:Int),.sl 0 [] true,.int .i64 0]]) []:=Fr.app _ _;have gm:(h++[HB.box 3 [.int .i64 (l.length:Int),.sl 0 [] true,.int .i64 0]])[h.length]?=some (.box 3 [.int .i64 (l.length:Int),.sl 0 [] true,.int .i64 0]):=zx;have gl:(h++[HB.box 3 [.int .i64 (l.length:Int),.sl 0 [] true,.int .i64 0]]).length=h.length+1:=by simp
 generalize h++[HB.box 3 [.int .i64 (l.length:Int),.sl 0 [] true,.int .i64 0]]=g at c1 F0 gm gl;have c2:=zvN (n+1) (l.length:Int) (by omega) g;obtain⟨h2,b,r,c3,B,F2,hb⟩:=zsJ n l.length h1 g;have gm2:=(F2.old h.length (by omega) (by simp)).trans gm;obtain⟨h3,a,e,c4,A,F3⟩:=zsM (n+1) l.length h1 gm2;have hl2:=F2.len;have B3:RefAt h3 b r l.length (List.replicate l.length 0) 1:=B.keep (F3.old b B.lt (by simp;omega));have fr:∀ {g':ze},Fr h3 g' [h.length,h2.length+1]->Fr h g' []:=fun F=>⟨by have:=F3.len;have:=F.len;omega,fun i q1 _=>by
  rw[F.old i (by have:=F3.len;omega) (by simp;omega),F3.old i (by omega) (by simp;omega),F2.old i (by omega) (by simp),F0.old i q1 (by simp)]⟩
 obtain⟨rr,hrr⟩:∃ rr,r=[V.int .i64 l.length,rr,V.int .i64 1]:=⟨_,B.1⟩;obtain⟨h',b',r',st',e5,A5,B5,F5,hb5,_,_⟩:=zkQ n l (lv:=lv) h1.2 (s2:=r) l.length 0 (n+2) h3 (List.replicate l.length 0) 1 b r [V.int .i64 0,V.sl 0 [] true,V.int .i64 0] rfl (fun g F=>hv g (fr F)) (by omega) hn (by simp) (fun i hi=>by omega) A B3 (by omega) (by have:=B.lt;omega);refine⟨h',h.length,h2.length+1,b',r',st',?_,A5,B5,fr F5,zn _,by omega,?_⟩
 . rw[show n+3=(n+2)+1 from rfl,zlG];unfold znc Yc Yg Yq3 Yp;subst hrr;rw[(hv h (.refl _ _)).1,za];simp only[hll];rw[c1,zH,zC,(hv g F0).1,za];simp only[hll];rw[c2,zH,zC];simp only[ca,zcc,zaK,zD,zP,zq,Nat.reduceAdd,if_true,zn];rw[(hv g F0).1,za];simp only[hll];rw[c3,zH];simp only[zb,zh,za,ca,zcc,zaK,zD,zP,zq,Nat.reduceAdd,if_true,zn];rw[(hv h2 (F0.trans F2)).1,za];simp only[hll];rw[c4,zH];exact e5
 . have:=F3.len;rcases hb5 with e|e <;> omega
theorem zsN (n : Nat) (l : List Int) (lb : Bool) (h1 : 0 < l.length /\ l.length <= 1000) (hn : l.length < n + 2) (h : ze) :
    ∃ h' m rb b r st,call (n+3) 32 [.sl 1 (l.map cel) lb] h=some (.ret [.ptr m 0,.agg r],h')/\MemAt h' m rb l.length l st/\RefAt h' b r l.length l st/\Fr h h' []/\h.length<=m/\h.length<=rb/\h.length<=b :=
 zgU n h1 hn fun g _=>zwz g l lb
theorem zpN (n : Nat) {l : List Int} (h1 : 0 < l.length /\ l.length <= 1000) (hn : l.length < n + 2) {h : ze} {bl : Nat} {z : Bool} (hbl : h[bl]? = some (.row 2 1 (l.map cel) z)) :
    ∃ h' m rb b r st,call (n+3) 32 [.row bl 1 0 l.length] h=some (.ret [.ptr m 0,.agg r],h')/\MemAt h' m rb l.length l st/\RefAt h' b r l.length l st/\Fr h h' []/\h.length<=m/\h.length<=rb/\h.length<=b :=
 zgU n h1 hn fun g F=>zvP ((F.old bl (zQ hbl) (by simp)).trans hbl)
end Go.Proofs.Tryz
namespace Go.Cm
open Go.L Go.Rp Go.Sk
theorem Jq{x:Int}(h1:-9223372036854775808<=x)(h2:x < 9223372036854775808):Zp x=x:=by
 unfold Zp;rw[IntKind.wrap_i64];omega
def agT(pc lk cu pv nt mn ps p:Int):Th:=⟨0,pc,0,0,0,lk,cu,pv,nt,mn,ps,p⟩
section
variable {pp W X p lk cu pv nt mn ps a t st k:Int} {xs:List It} {q:List Int}
end
end Go.Cm
namespace Go.Cm
open Go.L Go.Rp Go.Sk
section
variable {pp lk cu pv nt mn ps p st:Int} {xs:List It} {l:List Int}
theorem p20:∃ st',QY pp ⟨agT 20 lk cu pv nt mn ps p,xs,l,st⟩=⟨agT 21 (ldV l 2) cu pv nt mn ps p,xs,l,st'⟩:=⟨_,rfl⟩
theorem p21:∃ st',QY pp ⟨agT 21 lk cu pv nt mn ps p,xs,l,st⟩=⟨agT 22 lk cu pv nt mn (Zp (lk+1)) (Zp (p+1)),xs,stL l 2 (Zp (lk+1)),st'⟩:=⟨_,rfl⟩
theorem p22:∃ st',QY pp ⟨agT 22 lk cu pv nt mn ps p,xs,l,st⟩=⟨agT (if 0 < mnN l then 23 else 33) lk cu pv 0 (mnN l) ps p,[],l,st'⟩:=⟨_,rfl⟩
theorem zsO{lk cu pv nt mn ps p pc:Int}(h:0<=nt/\nt < 1000):Ps.on ⟨agT pc lk cu pv nt mn ps p,xs,l,st⟩=⟨agT (if nt+1 < mn then 23 else 33) lk cu pv (nt+1) mn ps p,xs,l,st⟩:=by
 have e:Zp (nt+1)=nt+1:=Jq (by omega) (by omega);show (⟨⟨0,if Zp (nt+1) < mn then 23 else 33,0,0,0,lk,cu,pv,Zp (nt+1),mn,ps,p⟩,xs,l,st⟩:Ps)=_;rw[e];rfl
theorem zvQ(h:0<=nt/\nt < 1000):bsN nt=3+5 * nt:=by
 unfold bsN;rw[if_neg (by omega),if_neg (by omega),Jq (x:=5 * nt) (by omega) (by omega),Jq (by omega) (by omega)]
theorem zkR(h:0<=nt/\nt < 1000):∃ st',zb8 ⟨agT 23 lk cu pv nt mn ps p,xs,l,st⟩=⟨agT 24 (ldV l (3+5 * nt+1)) (3+5 * nt) pv nt mn ps p,xs,l,st'⟩:=by
 have e1:=zvQ h;have e2:Zp (3+5 * nt+1)=3+5 * nt+1:=Jq (by omega) (by omega);refine⟨ldS l (3+5 * nt+1) st,?_⟩;show (⟨⟨0,24,0,0,0,ldV l (Zp (bsN nt+1)),bsN nt,pv,nt,mn,ps,p⟩,xs,l,ldS l (Zp (bsN nt+1)) st⟩:Ps)=_;rw[e1,e2];rfl
theorem zw1(h:0<=nt/\nt < 1000)(ha:ldV l (3+5 * nt+1)≠0):∃ st',QY pp ⟨agT 23 lk cu pv nt mn ps p,xs,l,st⟩=⟨agT (if nt+1 < mn then 23 else 33) (ldV l (3+5 * nt+1)) (3+5 * nt) pv (nt+1) mn ps p,xs,l,st'⟩:=by
 obtain⟨s1,e1⟩:=zkR (lk:=lk) (cu:=cu) (pv:=pv) (mn:=mn) (ps:=ps) (p:=p) (xs:=xs) (l:=l) (st:=st) h;refine⟨s1,?_⟩;show (zb8 _).unless ((zb8 _).T.lk == 0)=_;rw[e1];show Ps.unless _ (ldV l (3+5 * nt+1) == 0)=_;rw[show (ldV l (3+5 * nt+1) == 0)=false by simpa using ha];exact zsO h
theorem zw2(h:0<=nt/\nt < 1000)(ha:ldV l (3+5 * nt+1)=0):∃ st',QY pp ⟨agT 23 lk cu pv nt mn ps p,xs,l,st⟩=⟨agT 24 0 (3+5 * nt) pv nt mn ps p,xs,l,st'⟩:=by
 obtain⟨s1,e1⟩:=zkR (lk:=lk) (cu:=cu) (pv:=pv) (mn:=mn) (ps:=ps) (p:=p) (xs:=xs) (l:=l) (st:=st) h;refine⟨s1,?_⟩;show (zb8 _).unless ((zb8 _).T.lk == 0)=_;rw[e1,ha];rfl
theorem zkS(h:0<=cu/\cu < 100000):∃ st',zb9 ⟨agT 24 lk cu pv nt mn ps p,xs,l,st⟩=⟨agT 25 (ldV l cu) cu pv nt mn ps p,xs,l,st'⟩:=by
 have e:Zp (cu+0)=cu:=by rw[Int.add_zero];exact Jq (by omega) (by omega)
 refine⟨ldS l cu st,?_⟩;show (⟨⟨0,25,0,0,0,ldV l (Zp (cu+0)),cu,pv,nt,mn,ps,p⟩,xs,l,ldS l (Zp (cu+0)) st⟩:Ps)=_;rw[e];rfl
theorem zw3(h:0<=cu/\cu < 100000)(hn:0<=nt/\nt < 1000)(ha:¬ 0 < ldV l cu):∃ st',QY pp ⟨agT 24 lk cu pv nt mn ps p,xs,l,st⟩=⟨agT (if nt+1 < mn then 23 else 33) (ldV l cu) cu pv (nt+1) mn ps p,xs,l,st'⟩:=by
 obtain⟨s1,e1⟩:=zkS (lk:=lk) (pv:=pv) (nt:=nt) (mn:=mn) (ps:=ps) (p:=p) (xs:=xs) (l:=l) (st:=st) h;refine⟨s1,?_⟩;show (zb9 _).unless (decide ((zb9 _).T.lk > 0))=_;rw[e1];show Ps.unless _ (decide (ldV l cu > 0))=_;rw[show decide (ldV l cu > 0)=false by simpa using ha];exact zsO hn
theorem zw4(h:0<=cu/\cu < 100000)(ha:0 < ldV l cu):∃ st',QY pp ⟨agT 24 lk cu pv nt mn ps p,xs,l,st⟩=⟨agT 25 (ldV l cu) cu pv nt mn ps p,xs,l,st'⟩:=by
 obtain⟨s1,e1⟩:=zkS (lk:=lk) (pv:=pv) (nt:=nt) (mn:=mn) (ps:=ps) (p:=p) (xs:=xs) (l:=l) (st:=st) h;refine⟨s1,?_⟩;show (zb9 _).unless (decide ((zb9 _).T.lk > 0))=_;rw[e1];show Ps.unless _ (decide (ldV l cu > 0))=_;rw[show decide (ldV l cu > 0)=true by simpa using ha];rfl
theorem p25(h:0<=cu/\cu < 100000)(ha:XZ l (cu+1)=some 0):∃ st',QY pp ⟨agT 25 lk cu pv nt mn ps p,xs,l,st⟩=⟨agT 26 lk cu pv nt mn ps p,xs,stL l (cu+1) 2,st'⟩:=by
 have e:Zp (cu+1)=cu+1:=Jq (by omega) (by omega);have e1:help1 ⟨agT 25 lk cu pv nt mn ps p,xs,l,st⟩=⟨agT 26 lk cu pv nt mn ps p,xs,stL l (cu+1) 2,ldS l (cu+1) st⟩:=by
  show (⟨⟨0,if (XZ l (Zp (cu+1)) == some 0)=true then 26 else 23,0,0,0,lk,cu,pv,nt,mn,ps,p⟩,xs,if (XZ l (Zp (cu+1)) == some 0)=true then stL l (Zp (cu+1)) 2 else l,ldS l (Zp (cu+1)) st⟩:Ps)=_;rw[e,ha];rfl
 refine⟨ldS l (cu+1) st,?_⟩;show (help1 _).unless ((help1 _).T.pc == 26)=_;rw[e1];rfl
theorem p26(ha:ldV l 1≠0):∃ st',QY pp ⟨agT 26 lk cu pv nt mn ps p,xs,l,st⟩=⟨agT 29 (ldV l 1) cu (ldV l 1) nt mn ps p,xs,l,st'⟩:=by
 refine⟨ldS l 1 st,?_⟩;show (if (ldV l 1 != 0)=true then _ else _)=_;rw[if_pos (by simpa using ha)];rfl
theorem p29(h:0<=pv/\pv < 100000):∃ st',QY pp ⟨agT 29 lk cu pv nt mn ps p,xs,l,st⟩=⟨agT 30 (ldV l (pv+3)) cu pv nt mn ps p,xs,l,st'⟩:=by
 have e:Zp (pv+3)=pv+3:=Jq (by omega) (by omega);refine⟨ldS l (pv+3) st,?_⟩;show (⟨⟨0,30,0,0,0,ldV l (Zp (pv+3)),cu,pv,nt,mn,ps,p⟩,xs,l,ldS l (Zp (pv+3)) st⟩:Ps)=_;rw[e];rfl
theorem p30(h:0<=cu/\cu < 100000):∃ st',QY pp ⟨agT 30 lk cu pv nt mn ps p,xs,l,st⟩=⟨agT 31 lk cu pv nt mn ps p,xs,stL l (cu+3) lk,st'⟩:=by
 have e:Zp (cu+3)=cu+3:=Jq (by omega) (by omega);refine⟨ldS l (cu+3) st,?_⟩;show (⟨⟨0,31,0,0,0,lk,cu,pv,nt,mn,ps,p⟩,xs,stL l (Zp (cu+3)) lk,ldS l (Zp (cu+3)) st⟩:Ps)=_;rw[e];rfl
theorem p31(h:0<=pv/\pv < 100000):∃ st',QY pp ⟨agT 31 lk cu pv nt mn ps p,xs,l,st⟩=⟨agT 32 lk cu pv nt mn ps p,xs,stL l (pv+3) cu,st'⟩:=by
 have e:Zp (pv+3)=pv+3:=Jq (by omega) (by omega);refine⟨ldS l (pv+3) st,?_⟩;show (⟨⟨0,32,0,0,0,lk,cu,pv,nt,mn,ps,p⟩,xs,stL l (Zp (pv+3)) cu,ldS l (Zp (pv+3)) st⟩:Ps)=_;rw[e];rfl
theorem p32(h:0<=cu/\cu < 100000)(hn:0<=nt/\nt < 1000):∃ st',QY pp ⟨agT 32 lk cu pv nt mn ps p,xs,l,st⟩=⟨agT (if nt+1 < mn then 23 else 33) lk cu pv (nt+1) mn ps p,xs,stL l (cu+1) 1,st'⟩:=by
 have e:Zp (cu+1)=cu+1:=Jq (by omega) (by omega);refine⟨ldS l (cu+1) st,?_⟩;show Ps.on (⟨agT 23 lk cu pv nt mn ps p,xs,stL l (Zp (cu+1)) 1,ldS l (Zp (cu+1)) st⟩:Ps)=_;rw[e,zsO hn]
theorem zw5(ha:ldV l 1=0):∃ st',QY pp ⟨agT 33 lk cu pv nt mn ps p,xs,l,st⟩=⟨agT 40 0 cu pv nt mn ps p,xs,l,st'⟩:=by
 refine⟨ldS l 1 st,?_⟩;show (if (ldV l 1 != 0)=true then _ else(⟨⟨0,40,0,0,0,ldV l 1,cu,pv,nt,mn,ps,p⟩,xs,l,ldS l 1 st⟩:Ps))=_;rw[if_neg (by simpa using ha),ha];rfl
theorem zw6(ha:ldV l 1≠0):∃ st',QY pp ⟨agT 33 lk cu pv nt mn ps p,xs,l,st⟩=⟨agT 34 (ldV l 1) (ldV l 1) pv nt mn ps p,xs,l,st'⟩:=by
 refine⟨ldS l 1 st,?_⟩;show (if (ldV l 1 != 0)=true then _ else _)=_;rw[if_pos (by simpa using ha)];rfl
theorem zkT(h:0<=cu/\cu < 100000):∃ st',K3 ⟨agT 34 lk cu pv nt mn ps p,xs,l,st⟩=⟨agT 35 (ldV l cu) cu pv nt mn ps p,xs,l,st'⟩:=by
 have e:Zp (cu+0)=cu:=by rw[Int.add_zero];exact Jq (by omega) (by omega)
 refine⟨ldS l cu st,?_⟩;show (⟨⟨0,35,0,0,0,ldV l (Zp (cu+0)),cu,pv,nt,mn,ps,p⟩,xs,l,ldS l (Zp (cu+0)) st⟩:Ps)=_;rw[e];rfl
theorem zw7(h:0<=cu/\cu < 100000)(ha:¬ 0 < ldV l cu):∃ st',QY pp ⟨agT 34 lk cu pv nt mn ps p,xs,l,st⟩=⟨agT 35 (ldV l cu) cu pv nt mn ps p,xs,l,st'⟩:=by
 obtain⟨s1,e1⟩:=zkT (lk:=lk) (pv:=pv) (nt:=nt) (mn:=mn) (ps:=ps) (p:=p) (xs:=xs) (l:=l) (st:=st) h;refine⟨s1,?_⟩;show zfl _=_;unfold zfl;rw[e1];exact if_neg ha
theorem zw8(h:0<=cu/\cu < 100000)(ha:0 < ldV l cu):∃ st',QY pp ⟨agT 34 lk cu pv nt mn ps p,xs,l,st⟩=⟨agT 35 (ldV l cu) cu pv nt mn ps p,xs++[⟨cu,ldV l cu,0⟩],l,st'⟩:=by
 obtain⟨s1,e1⟩:=zkT (lk:=lk) (pv:=pv) (nt:=nt) (mn:=mn) (ps:=ps) (p:=p) (xs:=xs) (l:=l) (st:=st) h;refine⟨s1,?_⟩;show zfl _=_;unfold zfl;rw[e1];exact if_pos ha
theorem zfn(h:0<=cu/\cu < 100000):∃ st',WO ⟨agT 35 lk cu pv nt mn ps p,xs,l,st⟩=⟨agT 36 (ldV l (cu+3)) cu pv nt mn ps p,xs,l,st'⟩:=by
 have e:Zp (cu+3)=cu+3:=Jq (by omega) (by omega);refine⟨ldS l (cu+3) st,?_⟩;show (⟨⟨0,36,0,0,0,ldV l (Zp (cu+3)),cu,pv,nt,mn,ps,p⟩,xs,l,ldS l (Zp (cu+3)) st⟩:Ps)=_;rw[e];rfl
theorem zw9(h:0<=cu/\cu < 100000)(ha:ldV l (cu+3)≠0):∃ st',QY pp ⟨agT 35 lk cu pv nt mn ps p,xs,l,st⟩=⟨agT 34 (ldV l (cu+3)) (ldV l (cu+3)) pv nt mn ps p,xs,l,st'⟩:=by
 obtain⟨s1,e1⟩:=zfn (lk:=lk) (pv:=pv) (nt:=nt) (mn:=mn) (ps:=ps) (p:=p) (xs:=xs) (l:=l) (st:=st) h;refine⟨s1,?_⟩;show zaY _=_;unfold zaY;rw[e1];exact if_pos (show (ldV l (cu+3) != 0)=true by simpa using ha)
theorem zxa(h:0<=cu/\cu < 100000)(ha:ldV l (cu+3)=0)(hx:xs=[]):∃ st',QY pp ⟨agT 35 lk cu pv nt mn ps p,xs,l,st⟩=⟨agT 40 0 cu pv nt mn ps p,[],l,st'⟩:=by
 subst hx;obtain⟨s1,e1⟩:=zfn (lk:=lk) (pv:=pv) (nt:=nt) (mn:=mn) (ps:=ps) (p:=p) (xs:=[]) (l:=l) (st:=st) h;refine⟨s1,?_⟩;show zaY _=_;unfold zaY;rw[e1,ha];rfl
theorem zxb(h:0<=cu/\cu < 100000)(ha:ldV l (cu+3)=0)(hx:xs≠[]):∃ st',QY pp ⟨agT 35 lk cu pv nt mn ps p,xs,l,st⟩=⟨agT 36 0 cu pv nt mn ps p,xs,l,st'⟩:=by
 obtain⟨s1,e1⟩:=zfn (lk:=lk) (pv:=pv) (nt:=nt) (mn:=mn) (ps:=ps) (p:=p) (xs:=xs) (l:=l) (st:=st) h;refine⟨s1,?_⟩;show zaY _=_;unfold zaY;rw[e1,ha];exact(if_neg (show ¬ ((0:Int) != 0)=true by decide)).trans (if_neg (show ¬ xs.length=0 by simpa using hx))
theorem zce{x:It}{pc:Int}(hn:0<=nt)(hx:xs[nt.toNat]?=some x):zaJ ⟨agT pc lk cu pv nt mn ps p,xs,l,st⟩=some x:=by
 show (if nt < 0 then none else xs[nt.toNat]?)=_;rw[if_neg (by omega),hx]
theorem p37{x:It}(hn:0<=nt)(hx:xs[nt.toNat]?=some x)(hr:0<=x.r/\x.r < 100000):∃ st',QY pp ⟨agT 37 lk cu pv nt mn ps p,xs,l,st⟩=⟨agT 38 lk cu pv nt mn ps p,xs,stL l (x.r+4) x.s,st'⟩:=by
 have e:Zp (x.r+4)=x.r+4:=Jq (by omega) (by omega);refine⟨ldS l (x.r+4) st,?_⟩;show zgR _=_;unfold zgR;rw[zce hn hx];show (⟨⟨0,38,0,0,0,lk,cu,pv,nt,mn,ps,p⟩,xs,stL l (Zp (x.r+4)) x.s,ldS l (Zp (x.r+4)) st⟩:Ps)=_;rw[e];rfl
theorem p38{x:It}(hn:0<=nt)(hx:xs[nt.toNat]?=some x)(hr:0<=x.r/\x.r < 100000):∃ st',QY pp ⟨agT 38 lk cu pv nt mn ps p,xs,l,st⟩=⟨agT 39 lk cu pv nt mn ps p,xs,stL l (x.r+2) ps,st'⟩:=by
 have e:Zp (x.r+2)=x.r+2:=Jq (by omega) (by omega);refine⟨ldS l (x.r+2) st,?_⟩;show zpK _=_;unfold zpK;rw[zce hn hx];show (⟨⟨0,39,0,0,0,lk,cu,pv,nt,mn,ps,p⟩,xs,stL l (Zp (x.r+2)) ps,ldS l (Zp (x.r+2)) st⟩:Ps)=_;rw[e];rfl
theorem zsP{x:It}(hn:0<=nt/\nt < 1000)(hx:xs[nt.toNat]?=some x)(hr:0<=x.r/\x.r < 100000):∃ st',W5 ⟨agT 39 lk cu pv nt mn ps p,xs,l,st⟩=⟨agT 39 lk cu pv (nt+1) mn ps p,xs,stL l x.r 0,st'⟩:=by
 have e:Zp (x.r+0)=x.r:=by rw[Int.add_zero];exact Jq (by omega) (by omega)
 have e2:Zp (nt+1)=nt+1:=Jq (by omega) (by omega);refine⟨ldS l x.r st,?_⟩;have e1:zca ⟨agT 39 lk cu pv nt mn ps p,xs,l,st⟩=⟨agT 39 lk cu pv nt mn ps p,xs,stL l x.r 0,ldS l x.r st⟩:=by
  unfold zca;rw[zce hn.1 hx];show (⟨⟨0,39,0,0,0,lk,cu,pv,nt,mn,ps,p⟩,xs,stL l (Zp (x.r+0)) 0,ldS l (Zp (x.r+0)) st⟩:Ps)=_;rw[e];rfl
 unfold W5;rw[e1];show (⟨⟨0,39,0,0,0,lk,cu,pv,Zp (nt+1),mn,ps,p⟩,xs,stL l x.r 0,ldS l x.r st⟩:Ps)=_;rw[e2];rfl
theorem p39{x:It}(hn:0<=nt/\nt < 1000)(hx:xs[nt.toNat]?=some x)(hr:0<=x.r/\x.r < 100000):∃ st',QY pp ⟨agT 39 lk cu pv nt mn ps p,xs,l,st⟩=⟨agT (if nt+1 < (xs.length:Int) then 37 else if p < pp then 20 else 40) lk cu pv (nt+1) mn ps p,xs,stL l x.r 0,st'⟩:=by
 obtain⟨s1,e1⟩:=zsP (lk:=lk) (cu:=cu) (pv:=pv) (mn:=mn) (ps:=ps) (p:=p) (l:=l) (st:=st) hn hx hr;refine⟨s1,?_⟩;show zgS pp _=_;unfold zgS;rw[e1,zce hn.1 hx];by_cases h1:nt+1 < (xs.length:Int)
 . have h2:xs[(nt+1).toNat]?=some xs[(nt+1).toNat]:=zf (by omega);rw[zce (by omega) h2,if_pos h1];rfl
 . have h2:zaJ ⟨agT 39 lk cu pv (nt+1) mn ps p,xs,stL l x.r 0,s1⟩=none:=by
     show (if nt+1 < 0 then none else xs[(nt+1).toNat]?)=none;rw[if_neg (by omega)];exact zS (by omega)
   rw[h2,if_neg h1];rfl
end
end Go.Cm
namespace Go.Cm
open Go.L Go.Rp Go.Sk
def Ch (l : List Int) : Int -> List Nat -> Prop
 | v,[]=>v=0
 | v,a :: r=>v=(a:Int)/\3<=a/\a < 1000/\Ch l (ldV l ((a:Int)+3)) r
theorem Qt{l:List Int}{a b v:Int}(h:a≠b)(ha:0<=a)(hb:0<=b):ldV (stL l a v) b=ldV l b:=by
 unfold ldV XZ stL;rw[if_neg (by omega),if_neg (by omega),if_neg (by omega),zd (by omega)]
theorem Ch.keep {l : List Int} {a v : Int} : ∀ {r : List Nat} {w : Int}, Ch l w r -> (∀ x ∈ r, a ≠ (x : Int) + 3) -> 0 <= a -> Ch (stL l a v) w r
 | [],_,h,_,_=>h
 | x :: r,w,h,hn,ha=>⟨h.1,h.2.1,h.2.2.1,by rw[Qt (hn x (by simp)) ha (by omega)];exact h.2.2.2.keep (fun y hy=>hn y (zu _ hy)) ha⟩
end Go.Cm
namespace Go.Cm
open Go.L Go.Rp Go.Sk
theorem JP{l:List Int}{a v:Int}(h:0<=a/\a < l.length):ldV (stL l a v) a=v:=by
 unfold ldV XZ stL;rw[if_neg (by omega),if_neg (by omega),Zf (by omega)];rfl
theorem XE{l:List Int}{a b v:Int}(h:a≠b)(ha:0<=a)(hb:0<=b):XZ (stL l a v) b=XZ l b:=by
 unfold XZ stL;rw[if_neg (by omega),if_neg (by omega),if_neg (by omega),zd (by omega)]
def hR(on:List Nat):Nat->List Nat
 | 0=>[]
 | k+1=>if 3+5 * k∈on then hR on k else(3+5 * k) :: hR on k
theorem jb{l:List Int}{a x:Int}(h:XZ l a=some x):ldV l a=x:=by unfold ldV;rw[h];rfl
theorem zn5{xs:List It}{rs:List R}(h:rs.length=xs.length):(Qa xs rs xs.length).map It.r=xs.map It.r:=by
 unfold Qa;rw[Wl,z6,X9,zU (by omega)];have:∀ (xs:List It) (rs:List R),rs.length=xs.length->(List.zipWith told1 xs rs).map It.r=xs.map It.r:=by
  intro xs
  induction xs with
  | nil=>intro rs _;rfl
  | cons x xs ih =>
    intro rs h;cases rs with
    | nil=>simp at h
    | cons r rs =>
      simp only[List.zipWith_cons_cons,zW];rw[ih rs (by simpa using h)];rfl
 exact this xs rs h
end Go.Cm
namespace Go.Cm
open Go.L Go.Rp Go.Sk
def atC(c:List Int)(k:Nat):Nat:=match c[k]? with|some x=>x.toNat % (k+1)|none=>0
theorem zvR(c:List Int)(k:Nat):atC c k<=k:=by
 unfold atC;split
 . have:=WD (y:=k+1) (x:=Int.toNat ‹Int›) (by omega);omega
 . omega
def J0(c:List Int):Nat->List Nat
 | 0=>[]
 | k+1=>(J0 c k).take (atC c k)++(3+5 * k) :: (J0 c k).drop (atC c k)
theorem zcQ(c:List Int)(k:Nat):(J0 c (k+1)).Perm ((3+5 * k) :: J0 c k):=by
 show ((J0 c k).take (atC c k)++(3+5 * k) :: (J0 c k).drop (atC c k)).Perm _;have:=List.perm_middle (a:=3+5 * k) (l₁:=(J0 c k).take (atC c k)) (l₂:=(J0 c k).drop (atC c k));rwa[Zu] at this
theorem zcf (c : List Int) : ∀ k, (J0 c k).length = k
 | 0=>rfl
 | k+1=>by rw[(zcQ c k).length_eq,zD,zcf c k]
theorem zfo (c : List Int) : ∀ (k : Nat) {x : Nat}, x ∈ J0 c k ↔ ∃ j, j < k /\ x = 3 + 5 * j
 | 0,x=>by simp[J0]
 | k+1,x=>by
   rw[(zcQ c k).mem_iff,zN,zfo c k];constructor
   . rintro (rfl|⟨j,h1,h2⟩)
     . exact⟨k,by omega,rfl⟩
     . exact⟨j,by omega,h2⟩
   . rintro ⟨j,h1,h2⟩;by_cases e:j=k
     . subst e;exact .inl h2
     . exact .inr ⟨j,by omega,h2⟩
theorem zn6 (c : List Int) : ∀ k, (J0 c k).Nodup
 | 0=>List.nodup_nil
 | k+1=>by
   rw[(zcQ c k).nodup_iff,Zt];refine⟨fun h=>?_,zn6 c k⟩;obtain⟨j,h1,h2⟩:=(zfo c k).1 h;omega
def nC:List Int->Nat
 | []=>1
 | x :: _=>1+x.toNat % 9
theorem zwA(c:List Int):1<=nC c/\nC c<=9:=by
 unfold nC;split
 . omega
 . have:=WD (y:=9) (x:=Int.toNat ‹Int›) (by omega);omega
theorem zn7(l:List Int)(i:Nat)(v:Int):stL l (i:Int) v=l.set i v:=by
 unfold stL;rw[if_neg (by omega),XR]
structure CI(nn:Nat)(ord:List Nat)(k:Nat)(l:List Int):Prop where
 len:l.length=3+5 * nn
 pass:ldV l 2=50
 req:∀ j:Nat,j < nn->ldV l (3+5 * (j:Int))=0
 hd:ldV l 1=if k=0 then 0 else((ord.getD 0 0:Nat):Int)
 nx:∀ i:Nat,i < nn->ldV l (((ord.getD i 0:Nat):Int)+3)=if i+1 < k then((ord.getD (i+1) 0:Nat):Int) else 0
 ac:∀ i:Nat,i < nn->XZ l (((ord.getD i 0:Nat):Int)+1)=some (if i < k then 1 else 0)
structure OrdOk(nn:Nat)(ord:List Nat):Prop where
 len:ord.length=nn
 mem:∀ x:Nat,x∈ord ↔ ∃ j,j < nn/\x=3+5 * j
 nd:ord.Nodup
theorem OrdOk.at{nn:Nat}{ord:List Nat}(O:OrdOk nn ord){i:Nat}(hi:i < nn):∃ j,j < nn/\ord.getD i 0=3+5 * j:=by
 have h:=O.len;rw[zO,zf (by omega)];exact(O.mem _).1 (ZN _)
theorem OrdOk.inj{nn:Nat}{ord:List Nat}(O:OrdOk nn ord){i j:Nat}(hi:i < nn)(hj:j < nn)(h:ord.getD i 0=ord.getD j 0):i=j:=by
 have hl:=O.len;rw[zO,zO,zf (by omega),zf (by omega)] at h;exact(List.getElem_inj O.nd).1 h
theorem K4{l:List Int}{a v:Int}(h:0<=a/\a < l.length):XZ (stL l a v) a=some v:=by
 unfold XZ stL;rw[if_neg (by omega),if_neg (by omega),Zf (by omega)]
def ciS(c:List Int)(ord:List Nat)(k:Nat)(l:List Int):List Int :=
 let l2:=((l.set (if k=0 then 1 else ord.getD (k - 1) 0+3) ((ord.getD k 0:Nat):Int)).set (ord.getD k 0+1) 1)
 match c[k]? with
 | some x=>l2.set (ord.getD k 0+2) (x.tmod 60)
 | none=>l2
theorem CI.step{nn:Nat}{ord:List Nat}(O:OrdOk nn ord){c:List Int}{k:Nat}{l:List Int}(A:CI nn ord k l)(hk:k < nn):CI nn ord (k+1) (ciS c ord k l):=by
 obtain⟨jk,hjk,ek⟩:=O.at hk;have hlen:=A.len;generalize ha:(if k=0 then 1 else ord.getD (k - 1) 0+3)=a;have ha1:a=1/\k=0\/∃ j,j < nn/\a=3+5 * j+3/\0 < k/\ord.getD (k - 1) 0=3+5 * j:=by
  by_cases h0:k=0
  . rw[if_pos h0] at ha;exact .inl ⟨ha.symm,h0⟩
  . rw[if_neg h0] at ha;obtain⟨j,h1,h2⟩:=O.at (i:=k - 1) (by omega);exact .inr ⟨j,h1,by omega,by omega,h2⟩
 have hal:a < l.length:=by rcases ha1 with ⟨h,_⟩|⟨j,h1,h2,_⟩ <;> omega
 generalize hv:((ord.getD k 0:Nat):Int)=v;have hL:ciS c ord k l=(match c[k]? with|some x=>stL (stL (stL l (a:Int) v) ((3+5 * jk+1:Nat):Int) 1) ((3+5 * jk+2:Nat):Int) (x.tmod 60)|none=>stL (stL l (a:Int) v) ((3+5 * jk+1:Nat):Int) 1):=by
  unfold ciS;simp only[zn7];rw[ha,hv,ek]
 have hlen2:(ciS c ord k l).length=l.length:=by rw[hL];split <;> simp only[XK]
 have g0:∀ b:Int,0<=b->b≠(3+5 * jk+2:Nat)->XZ (ciS c ord k l) b=XZ (stL (stL l (a:Int) v) ((3+5 * jk+1:Nat):Int) 1) b:=by
  intro b h1 h2;rw[hL];split
  . rw[XE (by omega) (by omega) h1]
  . rfl
 have g1:∀ b:Int,0<=b->b≠(a:Int)->b≠(3+5 * jk+1:Nat)->b≠(3+5 * jk+2:Nat)->XZ (ciS c ord k l) b=XZ l b:=by
  intro b h1 h2 h3 h4;rw[g0 b h1 h4,XE (by omega) (by omega) h1,XE (by omega) (by omega) h1]
 have g2:∀ b:Int,0<=b->b≠(a:Int)->b≠(3+5 * jk+1:Nat)->b≠(3+5 * jk+2:Nat)->ldV (ciS c ord k l) b=ldV l b:=fun b h1 h2 h3 h4=>by unfold ldV;rw[g1 b h1 h2 h3 h4]
 have g3:ldV (ciS c ord k l) (a:Int)=v:=by
  refine jb ?_;rw[g0 _ (by omega) (by rcases ha1 with ⟨h,_⟩|⟨j,h1,h2,_⟩ <;> omega),XE (by rcases ha1 with ⟨h,_⟩|⟨j,h1,h2,_⟩ <;> omega) (by omega) (by omega),K4 (by omega)]
 refine⟨by rw[hlen2,hlen],?_,fun j hj=>?_,?_,fun i hi=>?_,fun i hi=>?_⟩
 . rw[g2 2 (by decide) (by rcases ha1 with ⟨h,_⟩|⟨j,h1,h2,_⟩ <;> omega) (by omega) (by omega),A.pass]
 . rw[g2 _ (by omega) (by rcases ha1 with ⟨h,_⟩|⟨j',h1,h2,_⟩ <;> omega) (by omega) (by omega),A.req j hj]
 . rw[if_neg (by omega)];rcases ha1 with ⟨h,h0⟩|⟨j,h1,h2,h3,h4⟩
   . rw[show (1:Int)=(a:Int) by omega,g3,<- hv,h0]
   . rw[g2 1 (by decide) (by omega) (by omega) (by omega),A.hd,if_neg (by omega)]
 . obtain⟨ji,hji,ei⟩:=O.at hi;by_cases e:i+1=k
   . have hk0:0 < k:=by omega
     rcases ha1 with ⟨h,h0⟩|⟨j,h1,h2,h3,h4⟩
     . omega
     . have e2:k - 1=i:=by omega
       rw[e2] at h4;rw[show (((ord.getD i 0:Nat):Int)+3)=(a:Int) by omega,g3,if_pos (by omega),e,hv]
   . have hne:(((ord.getD i 0:Nat):Int)+3)≠(a:Int):=by
       rcases ha1 with ⟨h,h0⟩|⟨j,h1,h2,h3,h4⟩
       . omega
       . intro h;have:=O.inj hi (show k - 1 < nn by omega) (by omega);omega
     rw[g2 _ (by omega) hne (by omega) (by omega),A.nx i hi];by_cases h5:i+1 < k
     . rw[if_pos h5,if_pos (by omega)]
     . rw[if_neg h5,if_neg (by omega)]
 . obtain⟨ji,hji,ei⟩:=O.at hi;by_cases e:i=k
   . subst e;rw[if_pos (by omega),g0 _ (by omega) (by omega),show (((ord.getD i 0:Nat):Int)+1)=((3+5 * jk+1:Nat):Int) by omega,K4 (by simp only[XK];omega)]
   . have hne:ord.getD i 0≠ord.getD k 0:=fun h=>e (O.inj hi hk h);rw[g1 _ (by omega) (by rcases ha1 with ⟨h,_⟩|⟨j,h1,h2,_⟩ <;> omega) (by omega) (by omega),A.ac i hi];by_cases h5:i < k
     . rw[if_pos h5,if_pos (by omega)]
     . rw[if_neg h5,if_neg (by omega)]
theorem CI.chain {nn w : Nat} {ord : List Nat} (O : OrdOk nn ord) {l : List Int} (A : CI nn ord w l) (hw : w <= nn) (hnn : nn <= 100) : ∀ d i, i + d = w -> Ch l (if i < w then ((ord.getD i 0 : Nat) : Int) else 0) ((ord.take w).drop i)
 | 0,i,h=>by
   rw[if_neg (by omega),Z2 (by simp;omega)];rfl
 | d+1,i,h=>by
   have hl:=O.len;obtain⟨j,h1,h2⟩:=O.at (show i < nn by omega);rw[if_pos (by omega),Zb (by simp;omega)];have e:(ord.take w)[i]'(by simp;omega)=ord.getD i 0:=by
    rw[JY,zO,zf (by omega)];rfl
   rw[e];refine⟨rfl,by omega,by omega,?_⟩;rw[A.nx i (by omega)];exact CI.chain O A hw hnn d (i+1) (by omega)
structure ChL(nn:Nat)(ord:List Nat)(w:Nat)(l:List Int):Prop where
 lo:1<=nn/\nn<=9
 ok:OrdOk nn ord
 wle:w<=nn
 len:l.length=3+5 * nn
 pass:ldV l 2=50
 req:∀ j:Nat,j < nn->ldV l (3+5 * (j:Int))=0
 ch:Ch l (ldV l 1) (ord.take w)
 act:∀ j:Nat,j < nn->3+5 * j∈ord.take w->ldV l (3+5 * (j:Int)+1)≠0
 off:∀ j:Nat,j < nn->3+5 * j ∉ ord.take w->XZ l (3+5 * (j:Int)+1)=some 0
 act1:∀ j:Nat,j < nn->3+5 * j∈ord.take w->XZ l (3+5 * (j:Int)+1)=some 1
theorem CI.fin{nn w:Nat}{ord:List Nat}(O:OrdOk nn ord){l:List Int}(A:CI nn ord w l)(hw:w<=nn)(hnn:1<=nn/\nn<=9):ChL nn ord w l:=by
 have hl:=O.len;have pos:∀ j,j < nn->∃ i,i < nn/\ord.getD i 0=3+5 * j/\(3+5 * j∈ord.take w ↔ i < w):=by
  intro j hj;obtain⟨i,hi,e⟩:=Wr ((O.mem (3+5 * j)).2 ⟨j,hj,rfl⟩);have e1:ord.getD i 0=3+5 * j:=by rw[zO,zf hi];exact e
  refine⟨i,by omega,e1,⟨fun h=>?_,fun h=>?_⟩⟩
  . obtain⟨i',hi',e'⟩:=Wr h;simp only[z5] at hi';rw[JY] at e';have:=O.inj (i:=i) (j:=i') (by omega) (by omega) (by rw[e1,zO,zf (by omega)];exact e'.symm);omega
  . rw[<- e];exact List.mem_take_iff_getElem.2 ⟨i,by omega,rfl⟩
 refine⟨hnn,O,hw,A.len,A.pass,A.req,?_,fun j hj h=>?_,fun j hj h=>?_,fun j hj h=>?_⟩
 . rw[A.hd];have:=A.chain O hw (by omega) w 0 (by omega);rw[zR] at this;by_cases h0:w=0
   . rw[if_pos h0];rw[if_neg (by omega)] at this;exact this
   . rw[if_neg h0];rw[if_pos (by omega)] at this;exact this
 . obtain⟨i,hi,e,h1⟩:=pos j hj;have:=A.ac i hi;rw[e,if_pos (h1.1 h)] at this;have h2:=jb this;rw[show (((3+5 * j:Nat):Int)+1)=3+5 * (j:Int)+1 by omega] at h2;omega
 . obtain⟨i,hi,e,h1⟩:=pos j hj;have:=A.ac i hi;rw[e,if_neg (fun e=>h (h1.2 e))] at this;rwa[show (((3+5 * j:Nat):Int)+1)=3+5 * (j:Int)+1 by omega] at this
 . obtain⟨i,hi,e,h1⟩:=pos j hj;have:=A.ac i hi;rw[e,if_pos (h1.1 h)] at this;rwa[show (((3+5 * j:Nat):Int)+1)=3+5 * (j:Int)+1 by omega] at this
end Go.Cm
namespace Go.Proofs.Tryz
open Go.L Go.Rp Go.Sk Go.Cm
set_option maxRecDepth 100000
def nlN(l:List Nat):List (List V):=l.map fun(x:Nat)=>cel (x:Int)
theorem W6(l:List Nat):(nlN l).length=l.length:=zp ..
theorem zu4{l:List Nat}{i:Nat}(h:i < l.length):(nlN l)[i]?=some (cel ((l.getD i 0:Nat):Int)):=by
 unfold nlN;rw[zF,zf h,zO,zf h];rfl
theorem W7{e sz:Nat}{l m:List (List V)}(h:l.length+m.length < lim):app e sz (.own e sz l) m=some (l++m):=by
 unfold app;simp[h]
theorem zcg(x:Int):K6 prog 55 1 [(0,.int .i64 x)]=some (1,[cel x]):=by kernel_rfl
theorem zig(a:Int):bop prog .mul 3 (.int .i64 5) (.int .i64 a)=some (.int .i64 (IntKind.i64.wrap (5 * a))):=by kernel_rfl
theorem zn8(a:Int):cvt prog 5 3 (.int .u8 a)=some (.int .i64 (IntKind.i64.wrap a)):=by kernel_rfl
theorem zgV(a:Int):cvt prog 5 2 (.int .u8 a)=some (.int .i64 (IntKind.i64.wrap a)):=by kernel_rfl
theorem zsQ(a:Int):bop prog .rem 5 (.int .u8 a) (.int .u8 9)=some (.int .u8 (a.tmod 9)):=by kernel_rfl
theorem zgW(a:Int):bop prog .rem 5 (.int .u8 a) (.int .u8 60)=some (.int .u8 (a.tmod 60)):=by kernel_rfl
theorem qk(l:List Int)(i:Nat)(x v:Int):(l.map cel).set i (setR (cel x) 0 [V.int .i64 v])=(l.set i v).map cel:=by
 rw[Qo];rfl
theorem zcR{l:List Int}{i:Nat}(h:i < l.length):(l.map cel)[i]?=some (cel l[i]):=by rw[zF,zf h];rfl
theorem zbl{c:List Int}{k:Nat}{x:Int}(h:c[k]?=some x):(c.map (Qs .u8))[k]?=some [V.int .u8 x]:=by rw[zF,h];rfl
theorem zpO (n : Nat) {c : List Int} (hc : ∀ x ∈ c, 0 <= x /\ x < 256) {cb : Bool} {m : Int} {nn k : Nat} (hk : k < nn) (hnn : nn <= 9) {s0 s1 : List (List V)} {h : ze} (next : List V -> ze -> Option (Res × ze)) :
    Wg n (c.map (Qs .u8)) cb m (.int .i64 (nn:Int)) [.sl 1 s0 false,.sl 1 s1 false,.sl 1 (nlN (J0 c k)) false,.int .i64 (k:Int)] h next=next [.sl 1 s0 false,.sl 1 s1 false,.sl 1 (nlN (J0 c (k+1))) false,.int .i64 ((k+1:Nat):Int)] (h++[.row 3 1 (nlN (J0 c k)) true]):=by
 have hlim:1000 < lim:=by decide
 have hol:=zcf c k;have hal:=zvR c k;have hb:(h++[HB.row 3 1 (nlN (J0 c k)) true])[h.length]?=some (.row 3 1 (nlN (J0 c k)) true):=zx;have hl:(nlN (J0 c k)).length=k:=by rw[W6,hol]
 have e3:IntKind.i64.wrap (3+IntKind.i64.wrap (5 * (k:Int)))=((3+5 * k:Nat):Int):=by
  rw[w64 (n:=5 * (k:Int)) (by omega) (by omega),w64 (by omega) (by omega)];omega
 have fin:((nlN (J0 c k)).take (atC c k)++[cel ((3+5 * k:Nat):Int)])++(nlN (J0 c k)).drop (atC c k)=nlN (J0 c (k+1)):=by
  show _=(((J0 c k).take (atC c k)++(3+5 * k) :: (J0 c k).drop (atC c k))).map _;unfold nlN;rw[Zo,zW,List.map_take,List.map_drop];simp
 unfold Wg Yl Yi Yx Ya Yg;simp only[gv,zg,zi,lsl];rw[zy,za,zm,if_pos (by simp;omega),zy,za,zm,zp];cases hx:c[k]? with
 | some x =>
   have hkl:=(zj.1 hx).1;have hx2:=hc x (zM hx);have ha:atC c k=x.toNat % (k+1):=by unfold atC;rw[hx]
   rw[if_pos (by simp;omega),z3,zB,XJ (zbl hx),za,Zq,zo,if_pos (by decide)];simp only[zb,za];rw[zn8,za,w64 (n:=x) (by omega) (by omega),zA,za,Xl (by omega),show x=((x.toNat:Nat):Int) by omega,qZ (by omega),za,z3,zB,<- ha];rw[Q2 (z2 _) (by omega),za,Qm hb (by omega) (by omega),zB,if_pos ⟨by first|trivial|rfl,.inl rfl⟩,W7 (by simp;omega),za,zig,za,zA,za,e3,zcg,za,W7 (by simp;omega),za];rw[zB,Q2 (by omega) (by omega),za,Qm hb (by omega) (by omega),zB,if_pos ⟨by first|trivial|rfl,.inl rfl⟩,W7 (by simp;omega),za];rw[za];simp only[zX,zq,Nat.sub_zero,zR,X9];rw[fin]
 | none =>
   have hkl:c.length<=k:=XS.1 hx;have ha:atC c k=0:=by unfold atC;rw[hx]
   rw[if_neg (by simp;omega)];rw[za,Q2 (z2 _) (by omega),za,Qm hb (by omega) (by omega),zB,if_pos ⟨by first|trivial|rfl,.inl rfl⟩,W7 (by simp;omega),za,zig,za,zA,za,e3,zcg,za,W7 (by simp;omega),za];rw[za,Q2 (by omega) (by omega),za,Qm hb (by omega) (by omega),zB,if_pos ⟨by first|trivial|rfl,.inl rfl⟩,W7 (by simp;omega),za,zA,za,Xl (by omega)];simp only[zX,zq,Nat.sub_zero,zR,X9];rw[ha] at fin
   rw[<- fin];simp
theorem zpP (n : Nat) {c : List Int} (hc : ∀ x ∈ c, 0 <= x /\ x < 256) {cb : Bool} {nn w k bo : Nat} {ord : List Nat} (O : OrdOk nn ord) (hk : k < w) (hw : w <= nn) (hnn : nn <= 9) {l : List Int} (hl : l.length = 3 + 5 * nn) {s0 s1 : List (List V)} {b4 : V} {h : ze} {z : Bool} (hb : h[bo]? = some (.row 3 1 (nlN ord) z)) (next : List V -> ze -> Option (Res × ze)) :
    KE n (c.map (Qs .u8)) cb (.row bo 1 0 w) [.sl 1 s0 false,.sl 1 s1 false,.sl 1 (l.map cel) false,.int .i64 (k:Int),b4] h next=next [.sl 1 s0 false,.sl 1 s1 false,.sl 1 ((ciS c ord k l).map cel) false,.int .i64 ((k+1:Nat):Int),.bool false] h:=by
 have hlim:1000 < lim:=by decide
 have hol:=O.len;obtain⟨jk,hjk,ek⟩:=O.at (show k < nn by omega);have ix:∀ i,i < w->Jz 1 i (V.row bo 1 0 w)=some (.rptr bo 1 i 0):=fun i hi=>by rw[Z3 (by omega),zq]
 have cx:∀ i,i < w->Zv h (V.rptr bo 1 i 0)=some (cel ((ord.getD i 0:Nat):Int),1,0):=fun i hi=>ZJ hb (by decide) (zu4 (by omega));have cg:∀ x:Int,(cel x)[0]?=some (V.int .i64 x):=fun _=>rfl;have a1:IntKind.i64.wrap (((ord.getD k 0:Nat):Int)+1)=((ord.getD k 0+1:Nat):Int):=by rw[w64 (by omega) (by omega)];omega
 have a2:IntKind.i64.wrap (((ord.getD k 0:Nat):Int)+2)=((ord.getD k 0+2:Nat):Int):=by rw[w64 (by omega) (by omega)];omega
 have hbl:(List.take w (nlN ord)).length=w:=by rw[z5,W6];omega
 unfold KE Yl Yi Yx Ya Yg Yr;simp only[gv,zg,zi,lsl];rw[Qm hb (z2 _) (by rw[W6];omega),za];simp only[zR,hbl];rw[zy,za,zm,if_pos (by simp;omega),ZT,za,zm];by_cases h0:k=0
 . subst h0;have hs:∀ x y:Int,ciS c ord 0 l=(match c[0]? with|some x=>((l.set 1 ((ord.getD 0 0:Nat):Int)).set (ord.getD 0 0+1) 1).set (ord.getD 0 0+2) (x.tmod 60)|none=>((l.set 1 ((ord.getD 0 0:Nat):Int)).set (ord.getD 0 0+1) 1)):=fun _ _=>rfl;rw[if_pos (by rfl),ix 0 hk,za,cx 0 hk,zo,if_pos (by decide),cg,za,if_pos ⟨by first|trivial|rfl,by rw[zp];omega,by decide⟩,if_pos (by rfl),if_pos ⟨by first|trivial|rfl,by decide,by exact zn 1⟩,zcR (by omega),za,z3,zB,ix 0 hk,za,cx 0 hk,zo,if_pos (by decide),cg,za,zA,za,a1,z3,zB,ci,qk,if_pos ⟨by first|trivial|rfl,by rw[zp,zw];omega,by decide⟩,zcR (by rw[zw];omega),za,qk,zy,za,zm,zp];cases hx:c[0]? with
   | some x =>
     have hkl:=(zj.1 hx).1;have hx2:=hc x (zM hx);have hm:(x.tmod 60)=x % 60:=ZV hx2.1;rw[if_pos (by simp;omega),zB,ix 0 hk,za,cx 0 hk,zo,if_pos (by decide),cg,za,zA,za,a2,zB,XJ (zbl hx),za,Zq,zo,if_pos (by decide)];simp only[zb,za];rw[zgW,za,zgV,za,w64 (by omega) (by omega),z3,zB,if_pos ⟨by first|trivial|rfl,by simp only[zp,zw];omega,by decide⟩,if_pos (by rfl),if_pos ⟨by first|trivial|rfl,by decide,by exact zn 1⟩,zcR (by simp only[zw];omega),za,zA,za,Xl (by omega),ci,qk,hs 0 0,hx]
   | none =>
     have hkl:c.length<=0:=XS.1 hx;rw[if_neg (by rw[show c=[] from z7.1 (by omega)];decide),zA,za,Xl (by omega),hs 0 0,hx]
 . have hs:ciS c ord k l=(match c[k]? with|some x=>((l.set (ord.getD (k - 1) 0+3) ((ord.getD k 0:Nat):Int)).set (ord.getD k 0+1) 1).set (ord.getD k 0+2) (x.tmod 60)|none=>((l.set (ord.getD (k - 1) 0+3) ((ord.getD k 0:Nat):Int)).set (ord.getD k 0+1) 1)):=by
     unfold ciS;rw[if_neg h0] <;> (cases c[k]? <;> rfl)
   obtain⟨jp,hjp,ep⟩:=O.at (show k - 1 < nn by omega);have a3:IntKind.i64.wrap (((ord.getD (k - 1) 0:Nat):Int)+3)=((ord.getD (k - 1) 0+3:Nat):Int):=by rw[w64 (by omega) (by omega)];omega
   have a0:IntKind.i64.wrap ((k:Int) - 1)=((k - 1:Nat):Int):=by rw[w64 (by omega) (by omega)];omega
   rw[if_neg (by simpa using h0),ZF,za,a0,z3,zB,ix (k - 1) (by omega),za,cx (k - 1) (by omega),zo,if_pos (by decide),cg,za,zA,za,a3,z3,zB,ix k hk,za,cx k hk,zo,if_pos (by decide),cg,za,z3,zB,if_pos ⟨by first|trivial|rfl,by rw[zp];omega,by decide⟩,if_pos (by rfl),if_pos ⟨by first|trivial|rfl,by decide,by exact zn 1⟩,zcR (by omega),za,zB,ix k hk,za,cx k hk,zo,if_pos (by decide),cg,za,zA,za,a1,z3,zB,ci,qk,if_pos ⟨by first|trivial|rfl,by rw[zp,zw];omega,by decide⟩,zcR (by rw[zw];omega),za,qk,zy,za,zm,zp];cases hx:c[k]? with
   | some x =>
     have hkl:=(zj.1 hx).1;have hx2:=hc x (zM hx);have hm:(x.tmod 60)=x % 60:=ZV hx2.1;rw[if_pos (by simp;omega),zB,ix k hk,za,cx k hk,zo,if_pos (by decide),cg,za,zA,za,a2,zB,XJ (zbl hx),za,Zq,zo,if_pos (by decide)];simp only[zb,za];rw[zgW,za,zgV,za,w64 (by omega) (by omega),z3,zB,if_pos ⟨by first|trivial|rfl,by simp only[zp,zw];omega,by decide⟩,if_pos (by rfl),if_pos ⟨by first|trivial|rfl,by decide,by exact zn 1⟩,zcR (by simp only[zw];omega),za,zA,za,Xl (by omega),ci,qk,hs,hx]
   | none =>
     have hkl:c.length<=k:=XS.1 hx;rw[if_neg (by simp;omega),zA,za,Xl (by omega),hs,hx]
end Go.Proofs.Tryz
namespace Go.Proofs.Tryz
open Go.L
set_option maxRecDepth 100000
theorem zgX(n:Nat)(h:ze):call (n+100) 35 [] h=some (.ret [.bool true],h):=by kernel_rfl
end Go.Proofs.Tryz
namespace Go.Proofs.Tryz
open Go.L Go.Rp Go.Sk Go.Cm
set_option maxRecDepth 100000
theorem zn9(T:Th)(bv:V):((T.v bv).drop 0 |>.take 13)=T.v bv:=rfl
theorem zsR(T:Th)(bv:V)(l:List V)(hl:l.length=13):setR l 0 (T.v bv)=T.v bv:=by
 match l,hl with
 | [_,_,_,_,_,_,_,_,_,_,_,_,_],_=>rfl
theorem zch(T:Th)(bv:V):(T.v bv).length=13:=rfl
end Go.Proofs.Tryz
namespace Go.Proofs.Tryz
open Go.L Go.Rp Go.Sk Go.Cm
set_option maxRecDepth 100000
theorem zkU(n:Nat){c:List Int}(hc:∀ x∈c,0<=x/\x < 256){cb:Bool}{m:Int}{nn:Nat}(hnn:nn<=9){s0 s1:List (List V)}:∀ (d k M:Nat) (h:ze),k+d=nn->∃ h',Fr h h' [] ∧
    zV (M+d) (Wg n (c.map (Qs .u8)) cb m (.int .i64 (nn:Int))) [.sl 1 s0 false,.sl 1 s1 false,.sl 1 (nlN (J0 c k)) false,.int .i64 (k:Int)] h=zV M (Wg n (c.map (Qs .u8)) cb m (.int .i64 (nn:Int))) [.sl 1 s0 false,.sl 1 s1 false,.sl 1 (nlN (J0 c nn)) false,.int .i64 (nn:Int)] h'
 | 0,k,M,h,hk=>by
   obtain rfl:k=nn:=by omega
   exact⟨h,.refl _ _,rfl⟩
 | d+1,k,M,h,hk=>by
   obtain⟨h',F,e⟩:=zkU n hc (cb:=cb) (m:=m) hnn (s0:=s0) (s1:=s1) d (k+1) M (h++[.row 3 1 (nlN (J0 c k)) true]) (by omega);refine⟨h',(Fr.app _ _).trans F,?_⟩;rw[show M+(d+1)=(M+d)+1 from rfl,zK,zpO n hc (by omega) hnn,e]
theorem zkV(n:Nat){c:List Int}(hc:∀ x∈c,0<=x/\x < 256){cb:Bool}{nn w bo:Nat}{ord:List Nat}(O:OrdOk nn ord)(hw:w<=nn)(hnn:nn<=9){s0 s1:List (List V)}{h:ze}{z:Bool}(hb:h[bo]?=some (.row 3 1 (nlN ord) z)):∀ (d k M:Nat) (l:List Int) (b4:V),k+d=w->d < M->CI nn ord k l->∃ l',CI nn ord w l' ∧
    zV M (KE n (c.map (Qs .u8)) cb (.row bo 1 0 w)) [.sl 1 s0 false,.sl 1 s1 false,.sl 1 (l.map cel) false,.int .i64 (k:Int),b4] h=some (.ret [.row h.length 1 0 l'.length,.row bo 1 0 w],h++[.row 2 1 (l'.map cel) true])
 | 0,k,M+1,l,b4=>by
   intro hk hM A;obtain rfl:k=w:=by omega
   refine⟨l,A,?_⟩;have hol:=O.len;have hbl:(List.take k (nlN ord)).length=k:=by rw[z5,W6];omega
   rw[zK];unfold KE Yl Yi Yx Ya Yg Yr;simp only[gv,zg,zi,lsl];rw[Qm hb (z2 _) (by rw[W6];omega),za];simp only[zR,hbl];rw[zy,za,zm,if_neg (by simp),zp]
 | d+1,k,M+1,l,b4=>by
   intro hk hM A;obtain⟨l',A',e⟩:=zkV n hc (cb:=cb) O hw hnn (s0:=s0) (s1:=s1) hb d (k+1) M (ciS c ord k l) (.bool false) (by omega) (by omega) (A.step O (by omega));refine⟨l',A',?_⟩;rw[zK,zpP n hc O (by omega) hw hnn A.len hb,e]
 | d,k,0,l,b4=>by intro _ h;omega
theorem CI.zero{nn:Nat}{ord:List Nat}(O:OrdOk nn ord)(hnn:1<=nn):CI nn ord 0 ((List.replicate (3+5 * nn) 0).set 2 50):=by
 have g:∀ b:Int,0<=b->b < 3+5 * (nn:Int)->b≠2->XZ ((List.replicate (3+5 * nn) (0:Int)).set 2 50) b=some 0:=by
  intro b h1 h2 h3;unfold XZ;rw[if_neg (by omega),zd (by omega),Zw,if_pos (by omega)]
 refine⟨by simp,?_,fun j hj=>jb (g _ (by omega) (by omega) (by omega)),?_,fun i hi=>?_,fun i hi=>?_⟩
 . refine jb ?_;unfold XZ;rw[if_neg (by decide),show (2:Int).toNat=2 from rfl,Zf (by simp;omega)]
 . rw[if_pos rfl];exact jb (g 1 (by decide) (by omega) (by decide))
 . obtain⟨j,h1,h2⟩:=O.at hi;rw[if_neg (by omega)];exact jb (g _ (by omega) (by omega) (by omega))
 . obtain⟨j,h1,h2⟩:=O.at hi;rw[if_neg (by omega)];exact g _ (by omega) (by omega) (by omega)
theorem zwB{c:List Int}{x:Int}(h:c[0]?=some x)(hx:0<=x):((nC c:Nat):Int)=1+x.tmod 9:=by
 cases c with
 | nil=>cases h
 | cons y c =>
   obtain rfl:y=x:=by simpa using h
   rw[ZV hx];show ((1+y.toNat % 9:Nat):Int)=_;omega
theorem zmD (n : Nat) {c : List Int} (hc : ∀ x ∈ c, 0 <= x /\ x < 256) (cb : Bool) (m : Nat) (hm : m <= 100) (hn : 30 <= n) (h : ze) :
    ∃ h' bl bo l w,call (n+1) 31 [.sl 1 (c.map (Qs .u8)) cb,.int .i64 (m:Int)] h=some (.ret [.row bl 1 0 l.length,.row bo 1 0 w],h')/\w=min m (nC c)/\ChL (nC c) (J0 c (nC c)) w l ∧
     h'[bl]?=some (.row 2 1 (l.map cel) true)/\h'[bo]?=some (.row 3 1 (nlN (J0 c (nC c))) true)/\bl≠bo/\h.length<=bl/\h.length<=bo/\Fr h h' []:=by
 have hlim:1000 < lim:=by decide
 have hnn:=zwA c;have O:OrdOk (nC c) (J0 c (nC c)):=⟨zcf c _,fun x=>zfo c _,zn6 c _⟩;obtain⟨M,hM⟩:∃ M,n=M+1+nC c:=⟨n - 1 - nC c,by omega⟩;obtain⟨h1,F1,e1⟩:=zkU n hc (cb:=cb) (m:=(m:Int)) hnn.2 (s0:=[]) (s1:=[]) (nC c) 0 (M+1) h (by omega);have hb:(h1++[HB.row 3 1 (nlN (J0 c (nC c))) true])[h1.length]?=some (.row 3 1 (nlN (J0 c (nC c))) true):=zx;have hw:min m (nC c)<=nC c:=Nat.min_le_right ..;obtain⟨l,A,e2⟩:=zkV n hc (cb:=cb) O hw hnn.2 (s0:=[]) (s1:=[]) hb (min m (nC c)) 0 n ((List.replicate (3+5 * nC c) 0).set 2 50) (.bool false) (by omega) (by omega) (CI.zero O hnn.1);have key:zV n (Wg n (c.map (Qs .u8)) cb (m:Int) (.int .i64 ((nC c:Nat):Int))) [.sl 1 [] false,.sl 1 [] false,.sl 1 [] false,.int .i64 0] h=some (.ret [.row (h1.length+1) 1 0 l.length,.row h1.length 1 0 (min m (nC c))],(h1++[HB.row 3 1 (nlN (J0 c (nC c))) true])++[.row 2 1 (l.map cel) true]):=by
  rw[<- hM] at e1;refine e1.trans ?_;rw[zK];generalize (zV M (Wg n (c.map (Qs .u8)) cb (m:Int) (.int .i64 ((nC c:Nat):Int))))=nx;unfold Wg Yl Yi Yx Ya Yg;simp only[gv,zg,zi,lsl];have hol:(nlN (J0 c (nC c))).length=nC c:=by rw[W6,zcf]
  have e3:IntKind.i64.wrap (3+IntKind.i64.wrap (5 * ((nC c:Nat):Int)))=((3+5 * nC c:Nat):Int):=by
   rw[w64 (n:=5 * ((nC c:Nat):Int)) (by omega) (by omega),w64 (by omega) (by omega)];omega
  have e4:mm false [V.int .i64 (m:Int),V.int .i64 ((nC c:Nat):Int)]=some (V.int .i64 ((min m (nC c):Nat):Int)):=by
   rw[zrZ];by_cases h0:((nC c:Nat):Int) < (m:Int)
   . rw[if_pos h0];congr 2;omega
   . rw[if_neg h0];congr 2;omega
  rw[zy,za,zm,if_neg (by simp),show WI [some (V.int .i64 (m:Int)),Wp h1 (V.int .i64 ((nC c:Nat):Int))]=some [V.int .i64 (m:Int),V.int .i64 ((nC c:Nat):Int)] from rfl,za,e4,za,za,z3,zB,Q2 (z2 _) (by omega),za,zig,za,zA,za,e3,z3,zB,zB,if_pos ⟨zn _,by omega,by first|trivial|rfl⟩,if_pos ⟨by first|trivial|rfl,by simp;omega,by decide⟩];rw[show (List.replicate (3+5 * nC c) [V.int .i64 0])[2]?=some (cel 0) from by rw[Zw,if_pos (by omega)];rfl,za];have e5:(List.replicate (3+5 * nC c) [V.int .i64 0]).set 2 (setR (cel 0) 0 [V.int .i64 50])=((List.replicate (3+5 * nC c) (0:Int)).set 2 50).map cel:=by
   rw[Qo,List.map_replicate];rfl
  rw[e5,zq,zq];refine e2.trans ?_;simp
 refine⟨(h1++[HB.row 3 1 (nlN (J0 c (nC c))) true])++[.row 2 1 (l.map cel) true],h1.length+1,h1.length,l,min m (nC c),?_,rfl,A.fin O hw hnn,?_,?_,by omega,by have:=F1.len;omega,F1.len,F1.trans ((Fr.app _ _).trans (Fr.app _ _))⟩
 . rw[zoT];unfold zqQ Yl;cases hx:c[0]? with
   | some x =>
     have hkl:=(zj.1 hx).1;have hx2:=hc x (zM hx);have hm:(x.tmod 9)=x % 9:=ZV hx2.1;rw[if_pos (by simp;omega),XJ (zbl hx),za,Zq,zo,if_pos (by decide)];simp only[zb,za];rw[zsQ,za,zn8,za,w64 (by omega) (by omega),zA,za,w64 (by omega) (by omega),<- zwB hx hx2.1];exact key
   | none =>
     have hkl:c=[]:=z7.1 (by have:=XS.1 hx;omega);subst hkl;rw[if_neg (by decide)];exact key
 . rw[zJ (by simp)];simp
 . rw[zk (by simp),zx]
end Go.Proofs.Tryz
namespace Go.Proofs.Tryz
open Go.L Go.Rp Go.Sk Go.Cm
set_option maxRecDepth 100000
def z13:List V:=[(V.int .i64 0),(V.int .i64 0),(V.int .i64 0),(V.int .i64 0),(V.int .i64 0),(V.int .i64 0),(V.int .i64 0),(V.int .i64 0),(V.int .i64 0),(V.int .i64 0),(V.int .i64 0),(V.int .i64 0),(V.sl 0 [] true)]
theorem zvS(T:Th)(bv:V):setR [(V.int .i64 0),(V.int .i64 0),(V.int .i64 0),(V.int .i64 0),(V.int .i64 0),(V.int .i64 0),(V.int .i64 0),(V.int .i64 0),(V.int .i64 0),(V.int .i64 0),(V.int .i64 0),(V.int .i64 0),(V.sl 0 [] true)] 0 (T.v bv)=T.v bv:=rfl
end Go.Proofs.Tryz
namespace Go.Cm
open Go.L Go.Rp Go.Sk
end Go.Cm
namespace Go.Proofs.Tryz
open Go.L Go.Rp Go.Sk Go.Cm
set_option maxRecDepth 100000
theorem zoa : ∀ l : List Nat, V.free.freeLL (nlN l) = true
 | []=>rfl
 | x :: l=>zoa l
theorem zbm (n : Nat) (h : ze) (l : List Nat) (b : Bool) (hn : l.length < n) (hlim : l.length < 1000) (x : Nat) :
    ∃ r,call (n+1) 45 [.sl 1 (nlN l) b,.int .i64 (x:Int)] h=some (.ret [.int .i64 r],h)/\(r < 0 ↔ x ∉ l):=by
 have hlim2:1000 < lim:=by decide
 have loop:∀ (d k M:Nat) (v0:V),k+d=l.length->d < M->(∀ i,i < k->l.getD i 0≠x)->∃ r,zV M (J5 n (.sl 1 (nlN l) b) (x:Int)) [v0,.int .i64 (k:Int)] []=some (.ret [.int .i64 r],[])/\(r < 0 ↔ x ∉ l):=by
  intro d
  induction d with
  | zero =>
    intro k M v0 hk hM hi;obtain⟨M,rfl⟩:∃ M',M=M'+1:=⟨M - 1,by omega⟩;refine⟨-1,?_,⟨fun _ hx=>?_,fun _=>by decide⟩⟩
    . rw[zK];unfold J5 Yl Yi Yx Ya Yr;simp only[gv,zg,zi,ZI,za,W6];rw[zy,za,zm,if_neg (by simp;omega)]
    . obtain⟨i,hi',e⟩:=Wr hx;refine hi i (by omega) ?_;rw[zO,zf hi'];exact e
  | succ d ih =>
    intro k M v0 hk hM hi;obtain⟨M,rfl⟩:∃ M',M=M'+1:=⟨M - 1,by omega⟩;have hx:(nlN l)[k]?=some (cel ((l.getD k 0:Nat):Int)):=zu4 (by omega);by_cases e:l.getD k 0=x
    . refine⟨k,?_,⟨fun h=>absurd h (by omega),fun h=>absurd ?_ h⟩⟩
      . rw[zK];unfold J5 Yl Yi Yx Ya Yr;simp only[gv,zg,zi,ZI,za,W6];rw[zy,za,zm,if_pos (by simp;omega),z3,zB,XJ hx,za,Zq,zo,if_pos (by decide),zcd,za,ZT,za,zm,if_pos (by rw[e];simp)]
      . rw[<- e,zO,zf (by omega)];exact ZN _
    . obtain⟨r,e1,e2⟩:=ih (k+1) M v0 (by omega) (by omega) (fun i h=>by
        by_cases e':i=k
        . subst e';exact e
        . exact hi i (by omega))
      refine⟨r,?_,e2⟩;rw[zK,<- e1];generalize zV M (J5 n (.sl 1 (nlN l) b) (x:Int))=nx;unfold J5 Yl Yi Yx Ya Yr;simp only[gv,zg,zi,ZI,za,W6];rw[zy,za,zm,if_pos (by simp;omega),z3,zB,XJ hx,za,Zq,zo,if_pos (by decide),zcd,za,ZT,za,zm,if_neg (by simpa using fun h:((l.getD k 0:Nat):Int)=(x:Int)=>e (by omega)),zA,za,Xl (by omega)]
 obtain⟨r,e1,e2⟩:=loop l.length 0 n (.int .i64 0) (by omega) hn (fun i h=>by omega);refine⟨r,(zje n _ _ h).trans ?_,e2⟩;unfold zjd;rw[show zV n (J5 n (.sl 1 (nlN l) b) (x:Int)) [V.int .i64 0,V.int .i64 0] []=_ from e1];exact Y0 (by simp[zoa]) (by rfl)
theorem zih(l:List Nat)(x:Nat):nlN l++[cel (x:Int)]=nlN (l++[x]):=by unfold nlN;simp
end Go.Proofs.Tryz
namespace Go.Proofs.Tryz
open Go.L Go.Rp Go.Sk Go.Cm
set_option maxRecDepth 100000
theorem zuf(n:Nat)(c v:Int)(h:ze):call (n+1) 46 [.agg [.int .u8 c,.int .i32 v]] h=some (.ret [.int .i64 (pkW c v)],h):=by
 rw[zqN];unfold zuK pkW Zp Yr;rw[Int.mul_comm 256];exact Y0 (by rfl) (by rfl)
theorem zsS(n:Nat)(w:Int)(h:ze):call (n+1) 44 [.int .i64 w] h=some (.ret [.agg [.int .u8 (ofK w),.int .i32 (ofV w)],.bool (okW w)],h):=by
 rw[zoS];unfold zqO ofK ofV okW Yr;by_cases h1:w < 1
 . rw[if_pos (by simpa using h1)];simp only[h1];exact Y0 (by rfl) (by rfl)
 . rw[if_neg (by simpa using h1)];by_cases h2:w > 1099511627776
   . rw[if_pos (by simpa using h2)];simp only[h1,h2];exact Y0 (by rfl) (by rfl)
   . rw[if_neg (by simpa using h2)];simp only[h1,h2];exact Y0 (by rfl) (by rfl)
section
variable {h:ze} {b:Nat} {r:List V} {sz:Int} {l:List Int} {st:Int} {nn:Nat}
theorem zwC(n:Nat)(A:RefAt h b r sz l st)(a:Int):call (n+2) 86 [.agg r,.int .i64 a] h=some (.ret [.int .i64 (ldV l a)],h):=by
 have e1:=zsK n A a;obtain⟨rfl,z,h2⟩:=A;rw[show n+2=(n+1)+1 from rfl,ztl];unfold zwl ldV Yl Yi Yx Yr Yp;rw[e1,zH,zC,Yu,za,zm];cases hg:XZ l a with
 | none=>rw[if_pos (by rfl)];rfl
 | some x =>
   obtain⟨q1,q2,q3⟩:=jv hg 0;have hlt:=(zj.1 q3).1;rw[if_neg (by simp),Go.L.nv_int q2,zB,Z3 (by omega),za,zq,ZJ h2 (by decide) (zaw hg),zo,if_pos (by decide),zcd,za];rfl
theorem zsT(n:Nat)(A:RefAt h b r sz l st)(hl:l.length=3+5 * nn)(hnn:nn<=1000):call (n+1) 124 [.agg r] h=some (.ret [.int .i64 (nn:Int)],h):=by
 obtain⟨rfl,z,h2⟩:=A;have hll:(l.map cel).length=l.length:=zp ..;have es:=Jh h2;rw[hll] at es;rw[zlD];unfold zm9 Yr;rw[es,za];simp only[hll,hl];rw[w64 (n:=((3+5 * nn:Nat):Int) - 3) (by omega) (by omega),show ((3+5 * nn:Nat):Int) - 3=5 * (nn:Int) by omega];have e:(if 0 < 5 * (nn:Int) then 5 * (nn:Int) else 0)=5 * (nn:Int):=by split <;> omega
 rw[e,Wa (by omega),show 5 * (nn:Int) / 5=(nn:Int) by omega,w64 (by omega) (by omega)]
theorem zmE(n:Nat)(k:Nat)(hk:k<=1000)(h:ze):call (n+1) 126 [.int .i64 (k:Int)] h=some (.ret [.int .i64 ((3+5 * k:Nat):Int)],h):=by
 rw[zlE];unfold zna Yr;rw[if_neg (by simp),if_neg (by simp;omega),w64 (n:=5 * (k:Int)) (by omega) (by omega),w64 (by omega) (by omega)];rfl
theorem zwD(n:Nat)(A:RefAt h b r sz l st)(hl:l.length=3+5 * nn)(hnn:nn<=100)(hn:200<=n){j:Nat}(hj:j < nn):call (n+2) 128 [.agg r,.int .i64 ((3+5 * j:Nat):Int)] h=some (.ret [.int .i64 (j:Int),.bool true],h):=by
 have hlim:1000 < lim:=by decide
 have e1:=zsT n A hl (by omega);obtain⟨cv,hr⟩:∃ cv,r=[.int .i64 sz,cv,.int .i64 st]:=⟨_,A.1⟩;have loop:∀ (d k M:Nat) (v1 v2:V),k+d=j->d < M->zV M (ju (n+1) ((3+5 * j:Nat):Int)) [.agg r,v1,v2,.int .i64 (k:Int)] h=some (.ret [.int .i64 (j:Int),.bool true],h):=by
  intro d
  induction d with
  | zero =>
    intro k M v1 v2 hk hM;obtain⟨M,rfl⟩:∃ M',M=M'+1:=⟨M - 1,by omega⟩;obtain rfl:k=j:=by omega
    rw[zK];subst hr;unfold ju Yi Ya Yr Yp;simp only[gv,zg,zi,XT];rw[zaK,e1,zH,zC,zy,za,zm,if_pos (by simp;omega),zmE n k (by omega),zH,zC,ZT,za,zm,if_pos (by simp)]
  | succ d ih =>
    intro k M v1 v2 hk hM;obtain⟨M,rfl⟩:∃ M',M=M'+1:=⟨M - 1,by omega⟩;rw[zK,<- ih (k+1) M v1 v2 (by omega) (by omega)];generalize zV M (ju (n+1) ((3+5 * j:Nat):Int))=nx;subst hr;unfold ju Yi Ya Yr Yp;simp only[gv,zg,zi,XT];rw[zaK,e1,zH,zC,zy,za,zm,if_pos (by simp;omega),zmE n k (by omega),zH,zC,ZT,za,zm,if_neg (by simp;omega),zA,za,Xl (by omega)]
 subst hr;refine(zoQ (n+1) _ _ _ _ h).trans ?_;exact loop j 0 (n+1) _ _ (by omega) (by omega)
def zkW(l:List Int)(j:Nat):List V:=[.int .i64 (ldV l (3+5 * (j:Int))),.int .i64 (ldV l (3+5 * (j:Int)+1)),.int .i64 (ldV l (3+5 * (j:Int)+2)),.int .i64 (ldV l (3+5 * (j:Int)+3)),.int .i64 (ldV l (3+5 * (j:Int)+4))]
theorem zug(a b c d e:Int):Wz prog 163 [(0,.int .i64 a),(1,.int .i64 b),(2,.int .i64 c),(3,.int .i64 d),(4,.int .i64 e)]=some [.int .i64 a,.int .i64 b,.int .i64 c,.int .i64 d,.int .i64 e]:=by kernel_rfl
theorem zu5(n:Nat)(A:RefAt h b r sz l st)(hl:l.length=3+5 * nn)(hnn:nn<=100)(hn:200<=n){j:Nat}(hj:j < nn):call (n+3) 87 [.agg r,.int .i64 ((3+5 * j:Nat):Int)] h=some (.ret [.agg (zkW l j),.bool true],h):=by
 have e1:=zwD n A hl hnn hn hj;have e2:=fun a=>zwC n A a;obtain⟨cv,hr⟩:∃ cv,r=[.int .i64 sz,cv,.int .i64 st]:=⟨_,A.1⟩;subst hr;rw[show n+3=(n+2)+1 from rfl,zoR];unfold zqM Yi Yg Yr Yq5 Yp;rw[e1,zH];simp only[zb,zh,za];rw[Yu,za,zm,if_neg (by decide),e2,Q5,zC,e2,Q5,zC,e2,Q5,zC,e2,Q5,zC,e2,Q5,zC,zug,za,if_pos (by rfl),if_pos (by exact zn 5),w64 (by omega) (by omega),w64 (by omega) (by omega),w64 (by omega) (by omega),w64 (by omega) (by omega)];rw[show ((3+5 * j:Nat):Int)=3+5 * (j:Int) by omega];rfl
theorem zvT(l:List Int)(j:Nat):setR [(V.int .i64 0),(V.int .i64 0),(V.int .i64 0),(V.int .i64 0),(V.int .i64 0)] 0 (zkW l j)=zkW l j:=rfl
theorem zpQ(l:List Int)(j:Nat):(zkW l j).length=5:=rfl
theorem zob (n : Nat) (A : RefAt h b r sz l st) (hl : l.length = 3 + 5 * nn) (hnn : nn <= 100) (hn : 500 <= n) {x : List Nat} (hx : ∀ a ∈ x, ∃ j : Nat, j < nn /\ a = 3 + 5 * j) (hnd : x.Nodup) (hxl : x.length <= 100) (hc : Ch l (ldV l 1) x) :
    call (n+4) 47 [.agg r] h=some (.ret [.sl 1 (nlN x) false,.bool true],h):=by
 have hlim:1000 < lim:=by decide
 have e1:=zwC (n+1) A 1;obtain⟨cv,hr⟩:∃ cv,r=[.int .i64 sz,cv,.int .i64 st]:=⟨_,A.1⟩;have loop:∀ (rest pre:List Nat) (M:Nat) (s1:List (List V)) (v2:V) (v:Int),x=pre++rest->Ch l v rest->rest.length < M->zV M (YD (n+3)) [.agg r,.sl 1 s1 false,v2,.sl 1 (nlN pre) false,.int .i64 v] h=some (.ret [.sl 1 (nlN x) false,.bool true],h):=by
  intro rest
  induction rest with
  | nil =>
    intro pre M s1 v2 v hp hv hM;obtain⟨M,rfl⟩:∃ M',M=M'+1:=⟨M - 1,by simp at hM;omega⟩;obtain rfl:v=0:=hv;rw[z6] at hp;subst hp;rw[zK];unfold YD Yc Yi Yr Yq5 Yp;simp only[gv,zg,zi,XT,lsl];rw[QV,za,zm,if_neg (by decide)]
  | cons a rest ih =>
    intro pre M s1 v2 v hp hv hM;simp only[zD] at hM;obtain⟨M,rfl⟩:∃ M',M=M'+1:=⟨M - 1,by omega⟩;obtain⟨hv1,hv2,hv3,hv4⟩:=hv;obtain⟨j,hj,ha⟩:=hx a (by rw[hp];simp);have hpl:pre.length+rest.length+1<=100:=by rw[hp] at hxl;simp at hxl;omega
    have hna:a ∉ pre:=by
     rw[hp,Qi] at hnd;exact fun h=>hnd.2.2 a h a (by simp) rfl
    have e2:=zu5 n A hl hnn (by omega) hj;obtain⟨p,e3,hp3⟩:=zbm (n+2) h pre false (by omega) (by omega) a;have hp4:p < 0:=hp3.2 hna;have e4:=ih (pre++[a]) M s1 v2 (ldV l ((a:Int)+3)) (by rw[hp];simp) hv4 (by omega);rw[zK,<- e4];generalize zV M (YD (n+3))=nx;subst hr;unfold YD Yc Yi Yr Yq5 Yp;simp only[gv,zg,zi,XT,lsl];subst hv1;have ev:WI [(some (V.sl 1 (nlN pre) false)),(Wp h (V.int .i64 (a:Int)))]=some [V.sl 1 (nlN pre) false,V.int .i64 (a:Int)]:=rfl;rw[QV,za,zm,if_pos (by simp;omega),show bop prog .lss 2 (.int .i64 (a:Int)) (.int .i64 0)=some (.bool (decide ((a:Int) < 0))) by kernel_rfl,za,zm,if_neg (by simp),show bop prog .gtr 2 (.int .i64 (a:Int)) (.int .i64 1000)=some (.bool (decide ((a:Int) > 1000))) by kernel_rfl,za,zm,if_neg (by simp;omega),zaK];rw[show (V.int .i64 (a:Int))=V.int .i64 ((3+5 * j:Nat):Int) by rw[ha],e2,zH];simp only[zb,zh,za];rw[ca,if_pos (zpQ l j),if_pos (Js (zpQ l j)),Yu,za,zm,if_neg (by decide),<- ha,ev,za,z6,e3,zH,if_pos (by rfl),zC,Z7,za,zm,if_neg (by simp;omega),zcg,za,W7 (by simp[W6];omega),za,zvT,show (zkW l j)[3]?=some (V.int .i64 (ldV l (3+5 * (j:Int)+3))) from rfl,za,zih];rw[show (a:Int)+3=3+5 * (j:Int)+3 by omega]
 subst hr;rw[show n+4=(n+3)+1 from rfl,zja];unfold zi9 Yp;rw[e1,zH,zC];exact loop x [] (n+3) [] _ _ rfl hc (by omega)
def K5(nn:Nat):List Nat:=(List.range nn).map fun k=>3+5 * k
theorem zmF(k:Nat):K5 (k+1)=K5 k++[3+5 * k]:=by unfold K5;rw[List.range_succ,Zo];rfl
theorem zkX{nn j:Nat}(hj:j < nn):(nlN (K5 nn))[j]?=some (cel ((3+5 * j:Nat):Int)):=by
 unfold nlN K5;rw[zF,zF,Qe hj];rfl
theorem zgY(nn:Nat):(nlN (K5 nn)).length=nn:=by unfold nlN K5;simp
theorem zvU(n:Nat)(A:RefAt h b r sz l st)(hl:l.length=3+5 * nn)(hnn:nn<=100)(hn:200<=n):call (n+2) 88 [.agg r] h=some (.ret [.sl 1 (nlN (K5 nn)) false],h):=by
 have hlim:1000 < lim:=by decide
 have e1:=zsT n A hl (by omega);obtain⟨cv,hr⟩:∃ cv,r=[.int .i64 sz,cv,.int .i64 st]:=⟨_,A.1⟩;have loop:∀ (d k M:Nat) (s1:List (List V)),k+d=nn->d < M->zV M (KC (n+1)) [.agg r,.sl 1 s1 false,.sl 1 (nlN (K5 k)) false,.int .i64 (k:Int)] h=some (.ret [.sl 1 (nlN (K5 nn)) false],h):=by
  intro d
  induction d with
  | zero =>
    intro k M s1 hk hM;obtain⟨M,rfl⟩:∃ M',M=M'+1:=⟨M - 1,by omega⟩;obtain rfl:k=nn:=by omega
    rw[zK];subst hr;unfold KC Yi Ya Yr Yp;simp only[gv,zg,zi,XT,lsl];rw[zaK,e1,zH,zC,zy,za,zm,if_neg (by simp)]
  | succ d ih =>
    intro k M s1 hk hM;obtain⟨M,rfl⟩:∃ M',M=M'+1:=⟨M - 1,by omega⟩;have hrl:=zgY k;rw[zK,<- ih (k+1) M s1 (by omega) (by omega)];generalize zV M (KC (n+1))=nx;subst hr;unfold KC Yi Ya Yr Yp;simp only[gv,zg,zi,XT,lsl];rw[zaK,e1,zH,zC,zy,za,zm,if_pos (by simp;omega),zmE n k (by omega),zH,zC,zcg,za,W7 (by simp;omega),za,zA,za,Xl (by omega),zih,<- zmF]
 subst hr;refine(zlF (n+1) _ _ _ h).trans ?_;exact loop nn 0 (n+1) [] (by omega) (by omega)
theorem zuh (n : Nat) (A : RefAt h b r sz l st) (hl : l.length = 3 + 5 * nn) (hnn : nn <= 100) (hn : 500 <= n) {x : List Nat} (hx : ∀ a ∈ x, ∃ j : Nat, j < nn /\ a = 3 + 5 * j) (hnd : x.Nodup) (hxl : x.length <= 100) (hc : Ch l (ldV l 1) x)
    (hs:∀ j:Nat,j < nn->(ldV l (3+5 * (j:Int)+1)=1/\3+5 * j∈x)\/(ldV l (3+5 * (j:Int)+1)=0/\3+5 * j ∉ x)) :
    call (n+5) 48 [.agg r] h=some (.ret [.int .i64 0],h):=by
 have hlim:1000 < lim:=by decide
 have e1:=zob n A hl hnn hn hx hnd hxl hc;have e2:=zvU (n+2) A hl hnn (by omega);have e3:=fun {j:Nat} (hj:j < nn)=>zu5 (n+1) A hl hnn (by omega) hj;obtain⟨cv,hr⟩:∃ cv,r=[.int .i64 sz,cv,.int .i64 st]:=⟨_,A.1⟩;have hrl:=zgY nn;have e4:=fun(j:Nat)=>zbm (n+3) h x false (by omega) (by omega) (3+5 * j);have ev:∀ j:Nat,WI [(Wp h (V.sl 1 (nlN x) false)),(Wp h (V.int .i64 ((3+5 * j:Nat):Int)))]=some [V.sl 1 (nlN x) false,V.int .i64 ((3+5 * j:Nat):Int)]:=fun _=>rfl;have loop2:∀ (d k M:Nat) (v1:V),k+d=nn->d < M->zV M (W0 (n+4) (.sl 1 (nlN x) false) (.sl 1 (nlN (K5 nn)) false)) [.agg r,v1,.int .i64 (k:Int)] h=some (.ret [.int .i64 0],h):=by
  intro d
  induction d with
  | zero =>
    intro k M v1 hk hM;obtain⟨M,rfl⟩:∃ M',M=M'+1:=⟨M - 1,by omega⟩;rw[zK];unfold W0 Yc Yl Yi Yx Ya Yr Yq5;simp only[gv,zg,zi,XT,ZI,za,hrl];rw[zy,za,zm,if_neg (by simp;omega)]
  | succ d ih =>
    intro k M v1 hk hM;obtain⟨M,rfl⟩:∃ M',M=M'+1:=⟨M - 1,by omega⟩;have hkn:k < nn:=by omega
    have hat:=zkX hkn;rw[zK,<- ih (k+1) M v1 (by omega) (by omega)];generalize zV M (W0 (n+4) (.sl 1 (nlN x) false) (.sl 1 (nlN (K5 nn)) false))=nx;subst hr;unfold W0 Yc Yl Yi Yx Ya Yr Yq5;simp only[gv,zg,zi,XT,ZI,za,hrl];rw[zy,za,zm,if_pos (by simp;omega),z3,zB,XJ hat,za,qj,Zq,zo,if_pos (by decide),zcd,za,zaK,e3 hkn,Q5];simp only[zb,zh,za];rw[ca,if_pos (zpQ l k),if_pos (Js (zpQ l k)),zvT,show (zkW l k)[1]?=some (V.int .i64 (ldV l (3+5 * (k:Int)+1))) from rfl,za,KW,za,zm];rcases hs k hkn with ⟨s1,s2⟩|⟨s1,s2⟩
    . rw[if_pos (by simp[s1]),show (zkW l k)[0]?=some (V.int .i64 (ldV l (3+5 * (k:Int)))) from rfl,za,QV,za,zm];by_cases h9:ldV l (3+5 * (k:Int))=-1
      . rw[if_neg (by simp[h9]),zA,za,Xl (by omega)]
      . obtain⟨p,e5,hp⟩:=e4 k;have hp2:¬ p < 0:=fun h=>hp.1 h s2;rw[if_pos (by simpa using h9),zB,XJ hat,za,Zq,zo,if_pos (by decide),zcd,za,ev,za,z6,e5,zH,if_pos (by rfl),zC,zy,za,zm,if_neg (by simpa using hp2),zA,za,Xl (by omega)]
    . rw[if_neg (by simp[s1]),zA,za,Xl (by omega)]
 have loop1:∀ (d k M:Nat) (v1:V),k+d=nn->d < M->zV M (W1 (n+4) (.sl 1 (nlN x) false) (.sl 1 (nlN (K5 nn)) false)) [.agg r,v1,.int .i64 (k:Int)] h=some (.ret [.int .i64 0],h):=by
  intro d
  induction d with
  | zero =>
    intro k M v1 hk hM;obtain⟨M,rfl⟩:∃ M',M=M'+1:=⟨M - 1,by omega⟩;rw[zK];unfold W1 Yc Yl Yi Yx Ya Yr Yq5;simp only[gv,zg,zi,XT,ZI,za,hrl];rw[zy,za,zm,if_neg (by simp;omega)];exact loop2 nn 0 (n+4) v1 (by omega) (by omega)
  | succ d ih =>
    intro k M v1 hk hM;obtain⟨M,rfl⟩:∃ M',M=M'+1:=⟨M - 1,by omega⟩;have hkn:k < nn:=by omega
    have hat:=zkX hkn;rw[zK,<- ih (k+1) M v1 (by omega) (by omega)];generalize zV M (W1 (n+4) (.sl 1 (nlN x) false) (.sl 1 (nlN (K5 nn)) false))=nx;subst hr;unfold W1 Yc Yl Yi Yx Ya Yr Yq5;simp only[gv,zg,zi,XT,ZI,za,hrl];rw[zy,za,zm,if_pos (by simp;omega),z3,zB,XJ hat,za,qj,Zq,zo,if_pos (by decide),zcd,za,zaK,e3 hkn,Q5];simp only[zb,zh,za];rw[ca,if_pos (zpQ l k),if_pos (Js (zpQ l k)),zvT,show (zkW l k)[1]?=some (V.int .i64 (ldV l (3+5 * (k:Int)+1))) from rfl,za,KW,za,zm];rcases hs k hkn with ⟨s1,s2⟩|⟨s1,s2⟩
    . rw[if_neg (by simp[s1]),zA,za,Xl (by omega)]
    . obtain⟨p,e5,hp⟩:=e4 k;have hp2:p < 0:=hp.2 s2;rw[if_pos (by simp[s1]),zB,XJ hat,za,Zq,zo,if_pos (by decide),zcd,za,ev,za,z6,e5,zH,if_pos (by rfl),zC,Z7,za,zm,if_neg (by simp;omega),zA,za,Xl (by omega)]
 subst hr;rw[show n+5=(n+4)+1 from rfl,zjc];unfold zjb Yi Yr Yp;rw[e1,zH];simp only[zb,zh,za];rw[Yu,za,zm,if_neg (by decide),e2,zH,zC];exact loop1 nn 0 (n+4) _ (by omega) (by omega)
end
end Go.Proofs.Tryz
namespace Go.Cm
open Go.L Go.Rp Go.Sk
def nxG{σ:Type}(run:List O->σ->List R×σ)(pp:Int)(x:Ps×σ):Ps×σ :=
 if x.1.T.pc=36 then(pDo x.1 (run (x.1.xs.map opO) x.2).1,(run (x.1.xs.map opO) x.2).2) else(QY pp x.1,x.2)
def dnG{σ:Type}(run:List O->σ->List R×σ)(x:Ps×σ):List It:=if x.1.T.pc=36 then Qa x.1.xs (run (x.1.xs.map opO) x.2).1 x.1.xs.length else[]
def svG{σ:Type}(run:List O->σ->List R×σ)(pp:Int)(x:(Ps×σ)×List It):(Ps×σ)×List It:=(nxG run pp x.1,x.2++dnG run x.1)
inductive Gg {σ : Type} (I : Ps × σ -> Prop) (N : (Ps × σ) × List It -> (Ps × σ) × List It) : Nat -> (Ps × σ) × List It -> (Ps × σ) × List It -> Prop
 | nil (x):Gg I N 0 x x
 | cons {j x y}:(20<=x.1.1.T.pc/\x.1.1.T.pc<=39)->I x.1->Gg I N j (N x) y->Gg I N (j+1) x y
theorem Gg.trans{σ:Type}{I:Ps×σ->Prop}{N:(Ps×σ)×List It->(Ps×σ)×List It}{i j:Nat}{x y z:(Ps×σ)×List It}(a:Gg I N i x y)(b:Gg I N j y z):Gg I N (i+j) x z:=by
 induction a with
 | nil=>rwa[zq]
 | cons h1 h2 _ ih=>rw[Nat.add_right_comm];exact .cons h1 h2 (ih b)
end Go.Cm
namespace Go.Proofs.Tryz
open Go.L Go.Rp Go.Sk Go.Cm
set_option maxRecDepth 100000
section
variable {σ:Type} {o:Nat} (C:ObjC σ o)
structure SgR(h:ze)(m rb:Nat)(sz:Int)(x:Ps×σ)(bat:V)(X:List Nat):Prop where
 mem:MemAt h m rb sz x.1.l x.1.st
 bt:BtR h m rb bat x.1.xs
 obj:C.P h X x.2
 nm:m ∉ X
 nr:rb ∉ X
def zui(x:Ps×σ):V:=if x.1.T.pc=36 then .sl 3 ((dnG C.run x).map It.c) false else .sl 0 [] true
theorem zuj (n : Nat) {h : ze} {m rb : Nat} {sz pp : Int} {x : Ps × σ} {bat : V} {X : List Nat} (A : SgR C h m rb sz x bat X) (hS : 20 <= x.1.T.pc /\ x.1.T.pc <= 39) (hx : x.1.xs.length <= 200) (hl : x.1.l.length < lim) (hn : 400 + C.K <= n) :
    ∃ h' bat' X',call (n+10) 38 [.ptr m 0,.ptr o 0,.int .i64 pp,.agg (x.1.T.v bat)] h=some (.ret [.agg ((nxG C.run pp x).1.T.v bat'),zui C x],h')/\SgR C h' m rb sz (nxG C.run pp x) bat' X'/\h.length<=h'.length/\(∀ i,i < h.length->i≠m->i≠rb->i ∉ X->h'[i]?=h[i]?)/\∀ i∈X',i∈X\/h.length<=i:=by
 obtain⟨⟨T,xs,l,st⟩,q⟩:=x;obtain⟨M,B,O,nm,nr⟩:=A;simp only at hS hx hl M B O;have hml:=M.lt;have hlim:1000 < lim:=by decide
 unfold zui dnG nxG;simp only;by_cases h36:T.pc=36
 . obtain⟨h',bat',X',c1,R,O',hX⟩:=zuc n (pp:=pp) h36 B (by omega) C (so:=q) O nm nr M (by omega);simp only[if_pos h36];refine⟨h',bat',X',c1,⟨R.mem,R.bt,O',fun e=>?_,fun e=>?_⟩,R.fr.len,fun i h1 h2 h3 h4=>R.fr.old i h1 (by simp[h2,h3,h4]),hX⟩
   . rcases hX _ e with e1|e1
     . exact nm e1
     . omega
   . rcases hX _ e with e1|e1
     . exact nr e1
     . omega
 . obtain⟨h',bat',c1,R⟩:=zsF (n+4) (o:=o) (pp:=pp) hS h36 B (by omega) hl M;simp only[if_neg h36];refine⟨h',bat',X,c1,⟨R.mem,R.bt,C.keep O fun x hx=>R.fr.old x (C.lt O x hx) ?_,nm,nr⟩,R.fr.len,fun i h1 h2 h3 _=>R.fr.old i h1 (by simp[h2,h3]),fun i hi=>.inl hi⟩;simp only[zN,List.not_mem_nil,or_false];rintro (rfl|rfl)
   . exact nm hx
   . exact nr hx
theorem zuk(x:Ps×σ):(dnG C.run x).length<=x.1.xs.length:=by
 unfold dnG;split
 . have h:=C.rl (x.1.xs.map opO) x.2;rw[zp] at h;rw[Yo h];exact zn _
 . exact z2 _
theorem zsU(h:ze)(x:Ps×σ):∃ z,ZI h (zui C x)=some (z,(dnG C.run x).map It.c)/\(z=3\/((dnG C.run x).map It.c).isEmpty=true):=by
 unfold zui;by_cases h36:x.1.T.pc=36
 . rw[if_pos h36];exact⟨3,rfl,.inl rfl⟩
 . rw[if_neg h36];refine⟨0,?_,.inr ?_⟩ <;>
   . unfold dnG;rw[if_neg h36];rfl
end
end Go.Proofs.Tryz
namespace Go.Cm
open Go.L Go.Rp Go.Sk
section
variable {pp lk cu pv nt mn ps p st:Int} {xs:List It} {l:List Int}
theorem zxc(ha:ldV l 1=0):∃ st',QY pp ⟨agT 26 lk cu pv nt mn ps p,xs,l,st⟩=⟨agT 27 0 cu pv nt mn ps p,xs,l,st'⟩:=by
 refine⟨ldS l 1 st,?_⟩;show (if (ldV l 1 != 0)=true then _ else(⟨⟨0,27,0,0,0,ldV l 1,cu,pv,nt,mn,ps,p⟩,xs,l,ldS l 1 st⟩:Ps))=_;rw[if_neg (by simpa using ha),ha];rfl
theorem p27(h:0<=cu/\cu < 100000):∃ st',QY pp ⟨agT 27 lk cu pv nt mn ps p,xs,l,st⟩=⟨agT 28 lk cu pv nt mn ps p,xs,stL l (cu+3) 0,st'⟩:=by
 have e:Zp (cu+3)=cu+3:=Jq (by omega) (by omega);refine⟨ldS l (cu+3) st,?_⟩;show (⟨⟨0,28,0,0,0,lk,cu,pv,nt,mn,ps,p⟩,xs,stL l (Zp (cu+3)) 0,ldS l (Zp (cu+3)) st⟩:Ps)=_;rw[e];rfl
theorem p28(ha:XZ l 1=some 0):∃ st',QY pp ⟨agT 28 lk cu pv nt mn ps p,xs,l,st⟩=⟨agT 32 lk cu pv nt mn ps p,xs,stL l 1 cu,st'⟩:=by
 refine⟨ldS l 1 st,?_⟩;show (⟨⟨0,if (XZ l 1 == some 0)=true then 32 else 26,0,0,0,lk,cu,pv,nt,mn,ps,p⟩,xs,if (XZ l 1 == some 0)=true then stL l 1 cu else l,ldS l 1 st⟩:Ps)=_;rw[ha];rfl
end
def zwE:List Nat->Nat->List Nat
 | [],c=>[c]
 | h :: t,c=>h :: c :: t
theorem zcS(l:List Nat)(c:Nat):(zwE l c).Perm (c :: l):=by
 cases l with
 | nil=>exact .refl _
 | cons h t=>exact .swap c h t
def JH(on:List Nat)(q:Nat->Int):Nat->List Nat
 | 0=>on
 | k+1=>if 3+5 * k ∉ on/\0 < q k then zwE (JH on q k) (3+5 * k) else JH on q k
theorem YK {on : List Nat} {q : Nat -> Int} : ∀ (k : Nat) {x : Nat}, x ∈ JH on q k ↔ x ∈ on \/ ∃ j, j < k /\ x = 3 + 5 * j /\ x ∉ on /\ 0 < q j
 | 0,x=>by simp[JH]
 | k+1,x=>by
   unfold JH;split
   . rename_i hc;rw[(zcS _ _).mem_iff,zN,YK k];constructor
     . rintro (rfl|h|⟨j,h1,h2⟩)
       . exact .inr ⟨k,by omega,rfl,hc⟩
       . exact .inl h
       . exact .inr ⟨j,by omega,h2⟩
     . rintro (h|⟨j,h1,h2,h3⟩)
       . exact .inr (.inl h)
       . by_cases e:j=k
         . subst e;exact .inl h2
         . exact .inr (.inr ⟨j,by omega,h2,h3⟩)
   . rename_i hc;rw[YK k];constructor
     . rintro (h|⟨j,h1,h2⟩)
       . exact .inl h
       . exact .inr ⟨j,by omega,h2⟩
     . rintro (h|⟨j,h1,h2,h3,h4⟩)
       . exact .inl h
       . by_cases e:j=k
         . subst e;subst h2;exact absurd ⟨h3,h4⟩ hc
         . exact .inr ⟨j,by omega,h2,h3,h4⟩
theorem zaE {on : List Nat} {q : Nat -> Int} (h : on.Nodup) : ∀ k, (JH on q k).Nodup
 | 0=>h
 | k+1=>by
   unfold JH;split
   . rename_i hc;rw[(zcS _ _).nodup_iff,Zt];refine⟨fun hm=>?_,zaE h k⟩;rcases(YK k).1 hm with h1|⟨j,h1,h2,_⟩
     . exact hc.1 h1
     . omega
   . exact zaE h k
theorem zfp {on : List Nat} {q : Nat -> Int} : ∀ k, on.length <= (JH on q k).length /\ (JH on q k).length <= on.length + k
 | 0=>⟨zn _,zn _⟩
 | k+1=>by
   have:=@zfp on q k;unfold JH;split
   . rw[(zcS _ _).length_eq,zD];omega
   . omega
structure GI(nn:Nat)(on:List Nat)(q:Nat->Int)(k:Nat)(l:List Int):Prop where
 len:l.length=3+5 * nn
 pass:ldV l 2=51
 ch:Ch l (ldV l 1) (JH on q k)
 act:∀ j:Nat,j < nn->XZ l (3+5 * (j:Int)+1)=some (if 3+5 * j∈JH on q k then 1 else 0)
 req:∀ j:Nat,j < nn->ldV l (3+5 * (j:Int))=q j
theorem GI.same{nn k:Nat}{on:List Nat}{q:Nat->Int}{l:List Int}(A:GI nn on q k l)(h:¬ (3+5 * k ∉ on/\0 < q k)):GI nn on q (k+1) l:=by
 have e:JH on q (k+1)=JH on q k:=by
  show (if _ then _ else _)=_;rw[if_neg h]
 exact⟨A.len,A.pass,by rw[e];exact A.ch,by rw[e];exact A.act,A.req⟩
theorem KN{l l':List Int}{b:Int}(h:XZ l b=XZ l' b):ldV l b=ldV l' b:=by unfold ldV;rw[h]
theorem zkY{l:List Int}{b:Int}(h:0<=b/\b < l.length):XZ l b=some (ldV l b):=by
 unfold ldV XZ;rw[if_neg (by omega),zf (by omega)];rfl
theorem GI.help1 {nn k h0 : Nat} {t on : List Nat} {q : Nat -> Int} {l : List Int} (A : GI nn on q k l) (hk : k < nn) (hoff : 3 + 5 * k ∉ on) (hq : 0 < q k) (hcur : JH on q k = h0 :: t) (hnd : (JH on q k).Nodup) (hmem : ∀ x ∈ JH on q k, ∃ j : Nat, j < nn /\ x = 3 + 5 * j) (hnc : 3 + 5 * k ∉ JH on q k) (hnn : nn <= 100) :
    GI nn on q (k+1) (stL (stL (stL (stL l (3+5 * (k:Int)+1) 2) (3+5 * (k:Int)+3) (ldV l ((h0:Int)+3))) ((h0:Int)+3) (3+5 * (k:Int))) (3+5 * (k:Int)+1) 1):=by
 have e:JH on q (k+1)=h0 :: (3+5 * k) :: t:=by
  show (if _ then _ else _)=_;rw[if_pos ⟨hoff,hq⟩,hcur];rfl
 rw[hcur] at hnd hmem hnc;obtain⟨jh,hj1,hj2⟩:=hmem h0 (by simp);have hne:jh≠k:=by rintro rfl;exact hnc (by rw[hj2];simp)
 have hlen:=A.len;have e2:∀ b:Int,0<=b->b≠3+5 * (k:Int)+1->b≠3+5 * (k:Int)+3->b≠(h0:Int)+3->XZ (stL (stL (stL (stL l (3+5 * (k:Int)+1) 2) (3+5 * (k:Int)+3) (ldV l ((h0:Int)+3))) ((h0:Int)+3) (3+5 * (k:Int))) (3+5 * (k:Int)+1) 1) b=XZ l b:=by
  intro b h1 h2 h3 h4;rw[XE (by omega) (by omega) h1,XE (by omega) (by omega) h1,XE (by omega) (by omega) h1,XE (by omega) (by omega) h1]
 have e1:∀ b:Int,0<=b->b≠3+5 * (k:Int)+1->b≠3+5 * (k:Int)+3->b≠(h0:Int)+3->ldV (stL (stL (stL (stL l (3+5 * (k:Int)+1) 2) (3+5 * (k:Int)+3) (ldV l ((h0:Int)+3))) ((h0:Int)+3) (3+5 * (k:Int))) (3+5 * (k:Int)+1) 1) b=ldV l b:=fun b h1 h2 h3 h4=>KN (e2 b h1 h2 h3 h4);have hmt:∀ x∈t,∃ j:Nat,j < nn/\j≠k/\j≠jh/\x=3+5 * j:=by
  intro x hx;obtain⟨j,h1,h2⟩:=hmem x (zu _ hx);refine⟨j,h1,?_,?_,h2⟩
  . rintro rfl;exact hnc (by rw[<- h2];exact zu _ hx)
  . rintro rfl;rw[Zt] at hnd;exact hnd.1 (by rw[hj2,<- h2];exact hx)
 have hch:=A.ch;rw[hcur] at hch;obtain⟨c0,c1,c2,c3⟩:=hch;refine⟨by simp only[XK];exact hlen,?_,?_,fun j h1=>?_,fun j h1=>?_⟩
 . rw[e1 2 (by decide) (by omega) (by omega) (by omega),A.pass]
 . rw[e,e1 1 (by decide) (by omega) (by omega) (by omega)];refine⟨c0,c1,c2,?_,by omega,by omega,?_⟩
   . rw[Qt (by omega) (by omega) (by omega),JP (by simp only[XK];omega)];omega
   . have e3:ldV (stL (stL (stL (stL l (3+5 * (k:Int)+1) 2) (3+5 * (k:Int)+3) (ldV l ((h0:Int)+3))) ((h0:Int)+3) (3+5 * (k:Int))) (3+5 * (k:Int)+1) 1) (((3+5 * k:Nat):Int)+3)=ldV l ((h0:Int)+3):=by
       rw[show (((3+5 * k:Nat):Int)+3)=3+5 * (k:Int)+3 by omega,Qt (by omega) (by omega) (by omega),Qt (by omega) (by omega) (by omega),JP (by simp only[XK];omega)]
     rw[e3];refine Ch.keep (Ch.keep (Ch.keep (Ch.keep c3 ?_ (by omega)) ?_ (by omega)) ?_ (by omega)) ?_ (by omega) <;>
     . intro x hx;obtain⟨j,h1,h2,h3,h4⟩:=hmt x hx;omega
 . rw[e];by_cases ej:j=k
   . subst ej;rw[K4 (by simp only[XK];omega),if_pos (by simp)]
   . rw[e2 _ (by omega) (by omega) (by omega) (by omega),A.act j h1,hcur];have:(3+5 * j∈h0 :: (3+5 * k) :: t) ↔ (3+5 * j∈h0 :: t):=by
      simp only[zN];constructor
      . rintro (h|h|h)
        . exact .inl h
        . omega
        . exact .inr h
      . rintro (h|h)
        . exact .inl h
        . exact .inr (.inr h)
     simp only[this]
 . rw[e1 _ (by omega) (by omega) (by omega) (by omega)];exact A.req j h1
theorem GI.help0 {nn k : Nat} {on : List Nat} {q : Nat -> Int} {l : List Int} (A : GI nn on q k l) (hk : k < nn) (hoff : 3 + 5 * k ∉ on) (hq : 0 < q k) (hcur : JH on q k = []) (hnn : nn <= 100) :
    GI nn on q (k+1) (stL (stL (stL (stL l (3+5 * (k:Int)+1) 2) (3+5 * (k:Int)+3) 0) 1 (3+5 * (k:Int))) (3+5 * (k:Int)+1) 1):=by
 have e:JH on q (k+1)=[3+5 * k]:=by
  show (if _ then _ else _)=_;rw[if_pos ⟨hoff,hq⟩,hcur];rfl
 have hlen:=A.len;have e2:∀ b:Int,0<=b->b≠3+5 * (k:Int)+1->b≠3+5 * (k:Int)+3->b≠1->XZ (stL (stL (stL (stL l (3+5 * (k:Int)+1) 2) (3+5 * (k:Int)+3) 0) 1 (3+5 * (k:Int))) (3+5 * (k:Int)+1) 1) b=XZ l b:=by
  intro b h1 h2 h3 h4;rw[XE (by omega) (by omega) h1,XE (by omega) (by omega) h1,XE (by omega) (by omega) h1,XE (by omega) (by omega) h1]
 have e1:∀ b:Int,0<=b->b≠3+5 * (k:Int)+1->b≠3+5 * (k:Int)+3->b≠1->ldV (stL (stL (stL (stL l (3+5 * (k:Int)+1) 2) (3+5 * (k:Int)+3) 0) 1 (3+5 * (k:Int))) (3+5 * (k:Int)+1) 1) b=ldV l b:=fun b h1 h2 h3 h4=>KN (e2 b h1 h2 h3 h4);refine⟨by simp only[XK];exact hlen,?_,?_,fun j h1=>?_,fun j h1=>?_⟩
 . rw[e1 2 (by decide) (by omega) (by omega) (by decide),A.pass]
 . rw[e,Qt (by omega) (by omega) (by decide),JP (by simp only[XK];omega)];refine⟨by omega,by omega,by omega,?_⟩;show ldV _ _=0;rw[show (((3+5 * k:Nat):Int)+3)=3+5 * (k:Int)+3 by omega,Qt (by omega) (by omega) (by omega),Qt (by omega) (by omega) (by omega),JP (by simp only[XK];omega)]
 . rw[e];by_cases ej:j=k
   . subst ej;rw[K4 (by simp only[XK];omega),if_pos (by simp)]
   . rw[e2 _ (by omega) (by omega) (by omega) (by omega),A.act j h1,hcur,if_neg (by simp),if_neg (by simp;omega)]
 . rw[e1 _ (by omega) (by omega) (by omega) (by omega)];exact A.req j h1
theorem Gg.one{σ:Type}{I:Ps×σ->Prop}{run:List O->σ->List R×σ}{pp:Int}{s s':Ps}{q:σ}{a:List It}{j:Nat}{y:(Ps×σ)×List It}(h:20<=s.T.pc/\s.T.pc<=39)(hI:I (s,q))(h36:s.T.pc≠36)(e:QY pp s=s')(g:Gg I (svG run pp) j ((s',q),a) y):Gg I (svG run pp) (j+1) ((s,q),a) y:=by
 refine .cons h hI ?_;have e2:svG run pp ((s,q),a)=((s',q),a):=by
  unfold svG nxG dnG;simp only;rw[if_neg h36,if_neg h36,z6,e]
 rw[e2];exact g
def gI{σ:Type}(k L:Nat)(x:Ps×σ):Prop:=x.1.xs.length<=k/\x.1.l.length=L
section
variable {σ:Type} {run:List O->σ->List R×σ} {pp:Int} {so:σ} {a:List It}
theorem zkZ{nn k0:Nat}{on:List Nat}{q:Nat->Int}(hnn:nn<=100)(hnd:on.Nodup)(hon:∀ x∈on,∃ j:Nat,j < nn/\x=3+5 * j){ps p:Int}:∀ (d k:Nat),k+d=nn->0 < d->∀ (lk cu pv st:Int) (l:List Int),GI nn on q k l →
    ∃ j lk' cu' pv' st' l',j<=8 * d/\GI nn on q nn l'/\Gg (gI k0 (3+5 * nn)) (svG run pp) j ((⟨agT 23 lk cu pv k nn ps p,[],l,st⟩,so),a) ((⟨agT 33 lk' cu' pv' nn nn ps p,[],l',st'⟩,so),a)
 | 0,_,_,h=>absurd h (by decide)
 | d+1,k,hk,_=>by
   intro lk cu pv st l A;have hI:∀ {T:Th} {l:List Int} {st:Int},l.length=3+5 * nn->gI k0 (3+5 * nn) ((⟨T,[],l,st⟩,so):Ps×σ):=fun h=>⟨z2 _,h⟩;have nxt:∀ (lk cu pv st:Int) (l:List Int),GI nn on q (k+1) l->∃ j lk' cu' pv' st' l',j<=8 * d/\GI nn on q nn l'/\Gg (gI k0 (3+5 * nn)) (svG run pp) j ((⟨agT (if (k:Int)+1 < (nn:Int) then 23 else 33) lk cu pv ((k:Int)+1) nn ps p,[],l,st⟩,so),a) ((⟨agT 33 lk' cu' pv' nn nn ps p,[],l',st'⟩,so),a):=by
    intro lk cu pv st l B;cases d with
    | zero =>
      obtain rfl:nn=k+1:=by omega
      rw[if_neg (by omega),show (k:Int)+1=((k+1:Nat):Int) by omega];exact⟨0,lk,cu,pv,st,l,by omega,B,.nil _⟩
    | succ d =>
      rw[if_pos (by omega)];exact zkZ hnn hnd hon (d+1) (k+1) (by omega) (by omega) lk cu pv st l B
   have hlen:=A.len;have hmem:∀ x∈JH on q k,∃ j:Nat,j < nn/\x=3+5 * j:=fun x hx=>by
    rcases(YK k).1 hx with h|⟨j,h1,h2,_⟩
    . exact hon x h
    . exact⟨j,by omega,h2⟩
   have hck:3+5 * k∈JH on q k ↔ 3+5 * k∈on:=by
    rw[YK];constructor
    . rintro (h|⟨j,h1,h2,_⟩)
      . exact h
      . omega
    . exact .inl
   have hact:=A.act k (by omega);by_cases hin:3+5 * k∈on
   . rw[if_pos (hck.2 hin)] at hact;have hact2:=jb hact;obtain⟨s1,e1⟩:=zw1 (pp:=pp) (lk:=lk) (cu:=cu) (pv:=pv) (nt:=(k:Int)) (mn:=(nn:Int)) (ps:=ps) (p:=p) (xs:=[]) (l:=l) (st:=st) (by omega) (by omega);obtain⟨j,lk',cu',pv',st',l',hj,B,g⟩:=nxt (ldV l (3+5 * (k:Int)+1)) (3+5 * (k:Int)) pv s1 l (A.same fun h=>h.1 hin);exact⟨j+1,lk',cu',pv',st',l',by omega,B,.one (by simp[agT]) (hI A.len) (by simp[agT]) e1 g⟩
   . have hnc:3+5 * k ∉ JH on q k:=fun h=>hin (hck.1 h);rw[if_neg hnc] at hact;obtain⟨s1,e1⟩:=zw2 (pp:=pp) (lk:=lk) (cu:=cu) (pv:=pv) (nt:=(k:Int)) (mn:=(nn:Int)) (ps:=ps) (p:=p) (xs:=[]) (l:=l) (st:=st) (by omega) (jb hact);have hreq:=A.req k (by omega);by_cases hq:0 < q k
     . obtain⟨s2,e2⟩:=zw4 (pp:=pp) (lk:=0) (cu:=3+5 * (k:Int)) (pv:=pv) (nt:=(k:Int)) (mn:=(nn:Int)) (ps:=ps) (p:=p) (xs:=[]) (l:=l) (st:=s1) (by omega) (by rw[hreq];exact hq);obtain⟨s3,e3⟩:=p25 (pp:=pp) (lk:=ldV l (3+5 * (k:Int))) (cu:=3+5 * (k:Int)) (pv:=pv) (nt:=(k:Int)) (mn:=(nn:Int)) (ps:=ps) (p:=p) (xs:=[]) (l:=l) (st:=s2) (by omega) hact;have hd1:ldV (stL l (3+5 * (k:Int)+1) 2) 1=ldV l 1:=Qt (by omega) (by omega) (by decide);cases hcur:JH on q k with
       | nil =>
         have B:=A.help0 (by omega) hin hq hcur hnn;have hch:=A.ch;rw[hcur] at hch;have hch:ldV l 1=0:=hch;obtain⟨s4,e4⟩:=zxc (pp:=pp) (lk:=ldV l (3+5 * (k:Int))) (cu:=3+5 * (k:Int)) (pv:=pv) (nt:=(k:Int)) (mn:=(nn:Int)) (ps:=ps) (p:=p) (xs:=[]) (l:=stL l (3+5 * (k:Int)+1) 2) (st:=s3) (by rw[hd1,hch]);obtain⟨s5,e5⟩:=p27 (pp:=pp) (lk:=0) (cu:=3+5 * (k:Int)) (pv:=pv) (nt:=(k:Int)) (mn:=(nn:Int)) (ps:=ps) (p:=p) (xs:=[]) (l:=stL l (3+5 * (k:Int)+1) 2) (st:=s4) (by omega);obtain⟨s6,e6⟩:=p28 (pp:=pp) (lk:=0) (cu:=3+5 * (k:Int)) (pv:=pv) (nt:=(k:Int)) (mn:=(nn:Int)) (ps:=ps) (p:=p) (xs:=[]) (l:=stL (stL l (3+5 * (k:Int)+1) 2) (3+5 * (k:Int)+3) 0) (st:=s5) (by rw[XE (by omega) (by omega) (by decide),XE (by omega) (by omega) (by decide),zkY (by omega),hch]);obtain⟨s7,e7⟩:=p32 (pp:=pp) (lk:=0) (cu:=3+5 * (k:Int)) (pv:=pv) (nt:=(k:Int)) (mn:=(nn:Int)) (ps:=ps) (p:=p) (xs:=[]) (l:=stL (stL (stL l (3+5 * (k:Int)+1) 2) (3+5 * (k:Int)+3) 0) 1 (3+5 * (k:Int))) (st:=s6) (by omega) (by omega);obtain⟨j,lk',cu',pv',st',l',hj,B',g⟩:=nxt 0 (3+5 * (k:Int)) pv s7 _ B;refine⟨j+1+1+1+1+1+1+1,lk',cu',pv',st',l',by omega,B',?_⟩;refine .one (by simp[agT]) (hI hlen) (by simp[agT]) e1 ?_;refine .one (by simp[agT]) (hI hlen) (by simp[agT]) e2 ?_;refine .one (by simp[agT]) (hI hlen) (by simp[agT]) e3 ?_;refine .one (by simp[agT]) (hI (by simp only[XK];exact hlen)) (by simp[agT]) e4 ?_;refine .one (by simp[agT]) (hI (by simp only[XK];exact hlen)) (by simp[agT]) e5 ?_;refine .one (by simp[agT]) (hI (by simp only[XK];exact hlen)) (by simp[agT]) e6 ?_;exact .one (by simp[agT]) (hI (by simp only[XK];exact hlen)) (by simp[agT]) e7 g
       | cons h0 t =>
         obtain⟨jh,hj1,hj2⟩:=hmem h0 (by rw[hcur];simp);have B:=A.help1 (by omega) hin hq hcur (zaE hnd k) hmem hnc hnn;have hch:=A.ch;rw[hcur] at hch;have hch:=hch.1;rw[hch] at hd1;obtain⟨s4,e4⟩:=p26 (pp:=pp) (lk:=ldV l (3+5 * (k:Int))) (cu:=3+5 * (k:Int)) (pv:=pv) (nt:=(k:Int)) (mn:=(nn:Int)) (ps:=ps) (p:=p) (xs:=[]) (l:=stL l (3+5 * (k:Int)+1) 2) (st:=s3) (by rw[hd1];omega);rw[hd1] at e4;obtain⟨s5,e5⟩:=p29 (pp:=pp) (lk:=(h0:Int)) (cu:=3+5 * (k:Int)) (pv:=(h0:Int)) (nt:=(k:Int)) (mn:=(nn:Int)) (ps:=ps) (p:=p) (xs:=[]) (l:=stL l (3+5 * (k:Int)+1) 2) (st:=s4) (by omega);rw[Qt (by omega) (by omega) (by omega)] at e5;obtain⟨s6,e6⟩:=p30 (pp:=pp) (lk:=ldV l ((h0:Int)+3)) (cu:=3+5 * (k:Int)) (pv:=(h0:Int)) (nt:=(k:Int)) (mn:=(nn:Int)) (ps:=ps) (p:=p) (xs:=[]) (l:=stL l (3+5 * (k:Int)+1) 2) (st:=s5) (by omega);obtain⟨s7,e7⟩:=p31 (pp:=pp) (lk:=ldV l ((h0:Int)+3)) (cu:=3+5 * (k:Int)) (pv:=(h0:Int)) (nt:=(k:Int)) (mn:=(nn:Int)) (ps:=ps) (p:=p) (xs:=[]) (l:=stL (stL l (3+5 * (k:Int)+1) 2) (3+5 * (k:Int)+3) (ldV l ((h0:Int)+3))) (st:=s6) (by omega);obtain⟨s8,e8⟩:=p32 (pp:=pp) (lk:=ldV l ((h0:Int)+3)) (cu:=3+5 * (k:Int)) (pv:=(h0:Int)) (nt:=(k:Int)) (mn:=(nn:Int)) (ps:=ps) (p:=p) (xs:=[]) (l:=stL (stL (stL l (3+5 * (k:Int)+1) 2) (3+5 * (k:Int)+3) (ldV l ((h0:Int)+3))) ((h0:Int)+3) (3+5 * (k:Int))) (st:=s7) (by omega) (by omega);obtain⟨j,lk',cu',pv',st',l',hj,B',g⟩:=nxt (ldV l ((h0:Int)+3)) (3+5 * (k:Int)) (h0:Int) s8 _ B;refine⟨j+1+1+1+1+1+1+1+1,lk',cu',pv',st',l',by omega,B',?_⟩;refine .one (by simp[agT]) (hI hlen) (by simp[agT]) e1 ?_;refine .one (by simp[agT]) (hI hlen) (by simp[agT]) e2 ?_;refine .one (by simp[agT]) (hI hlen) (by simp[agT]) e3 ?_;refine .one (by simp[agT]) (hI (by simp only[XK];exact hlen)) (by simp[agT]) e4 ?_;refine .one (by simp[agT]) (hI (by simp only[XK];exact hlen)) (by simp[agT]) e5 ?_;refine .one (by simp[agT]) (hI (by simp only[XK];exact hlen)) (by simp[agT]) e6 ?_;refine .one (by simp[agT]) (hI (by simp only[XK];exact hlen)) (by simp[agT]) e7 ?_;exact .one (by simp[agT]) (hI (by simp only[XK];exact hlen)) (by simp[agT]) e8 g
     . obtain⟨s2,e2⟩:=zw3 (pp:=pp) (lk:=0) (cu:=3+5 * (k:Int)) (pv:=pv) (nt:=(k:Int)) (mn:=(nn:Int)) (ps:=ps) (p:=p) (xs:=[]) (l:=l) (st:=s1) (by omega) (by omega) (by rw[hreq];exact hq);obtain⟨j,lk',cu',pv',st',l',hj,B,g⟩:=nxt (ldV l (3+5 * (k:Int))) (3+5 * (k:Int)) pv s2 l (A.same fun h=>hq h.2);exact⟨j+1+1,lk',cu',pv',st',l',by omega,B,.one (by simp[agT]) (hI A.len) (by simp[agT]) e1 (.one (by simp[agT]) (hI A.len) (by simp[agT]) e2 g)⟩
end
end Go.Cm
namespace Go.Cm
open Go.L Go.Rp Go.Sk
def itQ(q:Nat->Int)(a:Nat):It:=⟨(a:Int),q ((a - 3) / 5),0⟩
def wtQ(q:Nat->Int)(a:Nat):Bool:=decide (0 < q ((a - 3) / 5))
section
variable {σ:Type} {run:List O->σ->List R×σ} {pp:Int} {so:σ} {a:List It}
theorem zk0{l:List Int}{k0:Nat}{q:Nat->Int}{pv nt mn ps p:Int}:∀ (r:List Nat) (v:Nat),Ch l v (v :: r)->(∀ x∈v :: r,ldV l (x:Int)=q ((x - 3) / 5))->∀ (xs:List It) (lk st:Int),xs.length+r.length+1<=k0 →
    ∃ cu' st',Gg (gI k0 l.length) (svG run pp) (2 * (r.length+1)) ((⟨agT 34 lk v pv nt mn ps p,xs,l,st⟩,so),a) ((⟨agT (if xs++((v :: r).filter (wtQ q)).map (itQ q)=[] then 40 else 36) 0 cu' pv nt mn ps p,xs++((v :: r).filter (wtQ q)).map (itQ q),l,st'⟩,so),a)
 | r,v,hc,hq=>by
   intro xs lk st hk;have hI:∀ {T:Th} {st:Int} {xs:List It},xs.length<=k0->gI k0 l.length ((⟨T,xs,l,st⟩,so):Ps×σ):=fun h=>⟨h,rfl⟩;obtain⟨_,h1,h2,h3⟩:=hc;have hw:=hq v (by simp);have hstep:∃ s1 xs1,QY pp ⟨agT 34 lk v pv nt mn ps p,xs,l,st⟩=⟨agT 35 (ldV l (v:Int)) v pv nt mn ps p,xs1,l,s1⟩/\xs1=xs++([v].filter (wtQ q)).map (itQ q)/\xs1.length<=xs.length+1:=by
    by_cases ha:0 < ldV l (v:Int)
    . obtain⟨s1,e1⟩:=zw8 (pp:=pp) (lk:=lk) (cu:=(v:Int)) (pv:=pv) (nt:=nt) (mn:=mn) (ps:=ps) (p:=p) (xs:=xs) (l:=l) (st:=st) (by omega) ha;refine⟨s1,_,e1,?_,by simp⟩;rw[hw] at ha ⊢;simp[wtQ,ha,itQ]
    . obtain⟨s1,e1⟩:=zw7 (pp:=pp) (lk:=lk) (cu:=(v:Int)) (pv:=pv) (nt:=nt) (mn:=mn) (ps:=ps) (p:=p) (xs:=xs) (l:=l) (st:=st) (by omega) ha;refine⟨s1,_,e1,?_,by simp⟩;rw[hw] at ha;simp[wtQ,ha]
   obtain⟨s1,xs1,e1,ex,hx1⟩:=hstep
   match r with
   | [] =>
     have h3:ldV l ((v:Int)+3)=0:=h3;rw[<- ex];by_cases hz:xs1=[]
     . obtain⟨s2,e2⟩:=zxa (pp:=pp) (lk:=ldV l (v:Int)) (cu:=(v:Int)) (pv:=pv) (nt:=nt) (mn:=mn) (ps:=ps) (p:=p) (xs:=xs1) (l:=l) (st:=s1) (by omega) h3 hz;rw[if_pos hz];rw[hz] at e1 e2 ⊢;exact⟨_,_,.one (by simp[agT]) (hI (by omega)) (by simp[agT]) e1 (.one (by simp[agT]) (hI (by simp)) (by simp[agT]) e2 (.nil _))⟩
     . obtain⟨s2,e2⟩:=zxb (pp:=pp) (lk:=ldV l (v:Int)) (cu:=(v:Int)) (pv:=pv) (nt:=nt) (mn:=mn) (ps:=ps) (p:=p) (xs:=xs1) (l:=l) (st:=s1) (by omega) h3 hz;rw[if_neg hz];exact⟨_,_,.one (by simp[agT]) (hI (by omega)) (by simp[agT]) e1 (.one (by simp[agT]) (hI (by omega)) (by simp[agT]) e2 (.nil _))⟩
   | w :: r =>
     have h4:=h3.1;simp only[zD] at hk;obtain⟨s2,e2⟩:=zw9 (pp:=pp) (lk:=ldV l (v:Int)) (cu:=(v:Int)) (pv:=pv) (nt:=nt) (mn:=mn) (ps:=ps) (p:=p) (xs:=xs1) (l:=l) (st:=s1) (by omega) (by have:=h3.2.1;omega);rw[h4] at e2 h3;obtain⟨cu',st',g⟩:=zk0 (k0:=k0) (q:=q) (pv:=pv) (nt:=nt) (mn:=mn) (ps:=ps) (p:=p) r w h3 (fun x hx=>hq x (zu _ hx)) xs1 (w:Int) s2 (by omega);have e3:xs1++((w :: r).filter (wtQ q)).map (itQ q)=xs++((v :: w :: r).filter (wtQ q)).map (itQ q):=by
      rw[ex,List.append_assoc,<- Zo,<- JQ];rfl
     rw[e3] at g;exact⟨cu',st',.one (by simp[agT]) (hI (by omega)) (by simp[agT]) e1 (.one (by simp[agT]) (hI (by omega)) (by simp[agT]) e2 g)⟩
structure TI(xs:List It)(l0:List Int)(i:Nat)(l:List Int):Prop where
 len:l.length=l0.length
 old:∀ b:Int,0<=b->(∀ x∈xs.take i,b≠x.r/\b≠x.r+2/\b≠x.r+4)->XZ l b=XZ l0 b
 new:∀ x∈xs.take i,ldV l x.r=0/\ldV l (x.r+2)=51/\ldV l (x.r+4)=x.s
theorem TI.step {xs : List It} {l0 l : List Int} {i nn : Nat} (A : TI xs l0 i l) (hi : i < xs.length) (hl : l0.length = 3 + 5 * nn) (hr : ∀ x ∈ xs, ∃ j : Nat, j < nn /\ x.r = 3 + 5 * (j : Int)) (hnd : (xs.map It.r).Nodup) :
    TI xs l0 (i+1) (stL (stL (stL l ((xs[i]'hi).r+4) (xs[i]'hi).s) ((xs[i]'hi).r+2) 51) (xs[i]'hi).r 0):=by
 obtain⟨jx,hj1,hj2⟩:=hr _ (ZN hi);have hlen:=A.len;have htk:xs.take (i+1)=xs.take i++[xs[i]'hi]:=by rw[JZ,zf hi];rfl
 have hne:∀ y∈xs.take i,y.r≠(xs[i]'hi).r:=by
  intro y hy e;obtain⟨i',hi',ey⟩:=Wr hy;simp only[z5] at hi';rw[JY] at ey;have h1:(xs.map It.r)[i']'(by simp;omega)=(xs.map It.r)[i]'(by simp;omega):=by simp[ey,e]
  have:=(List.getElem_inj hnd).1 h1;omega
 generalize hx:xs[i]'hi=x at *;have g:∀ b:Int,0<=b->b≠x.r->b≠x.r+2->b≠x.r+4->XZ (stL (stL (stL l (x.r+4) x.s) (x.r+2) 51) x.r 0) b=XZ l b:=by
  intro b h1 h2 h3 h4;rw[XE (by omega) (by omega) h1,XE (by omega) (by omega) h1,XE (by omega) (by omega) h1]
 refine⟨by simp only[XK];exact hlen,fun b hb h=>?_,fun y hy=>?_⟩
 . rw[htk] at h;obtain⟨h1,h2,h3⟩:=h x (by simp);rw[g b hb h1 h2 h3];exact A.old b hb fun y hy=>h y (by simp[hy])
 . rw[htk] at hy;rcases Zn.1 hy with hy|hy
   . obtain⟨jy,k1,k2⟩:=hr y (Zs hy);have hn:=hne y hy;obtain⟨q1,q2,q3⟩:=A.new y hy;refine⟨?_,?_,?_⟩
     . rw[KN (g y.r (by omega) (by omega) (by omega) (by omega)),q1]
     . rw[KN (g (y.r+2) (by omega) (by omega) (by omega) (by omega)),q2]
     . rw[KN (g (y.r+4) (by omega) (by omega) (by omega) (by omega)),q3]
   . simp only[ZE] at hy;subst hy;refine⟨?_,?_,?_⟩
     . rw[JP (by simp only[XK];omega)]
     . rw[Qt (by omega) (by omega) (by omega),JP (by simp only[XK];omega)]
     . rw[Qt (by omega) (by omega) (by omega),Qt (by omega) (by omega) (by omega),JP (by omega)]
theorem zk1{k0 nn:Nat}{xs:List It}{l0:List Int}{lk cu pv mn p:Int}(hxs:xs.length<=k0)(hx1:xs.length<=900)(hnn:nn<=100)(hl:l0.length=3+5 * nn)(hr:∀ x∈xs,∃ j:Nat,j < nn/\x.r=3+5 * (j:Int))(hnd:(xs.map It.r).Nodup)(hp:¬ p < pp):∀ (d i:Nat),i+d=xs.length->0 < d->∀ (l:List Int) (st:Int),TI xs l0 i l →
    ∃ nt l' st',TI xs l0 xs.length l'/\Gg (gI k0 (3+5 * nn)) (svG run pp) (3 * d) ((⟨agT 37 lk cu pv i mn 51 p,xs,l,st⟩,so),a) ((⟨agT 40 lk cu pv nt mn 51 p,xs,l',st'⟩,so),a)
 | 0,_,_,h=>absurd h (by decide)
 | d+1,i,hi,_=>by
   intro l st A;have hI:∀ {T:Th} {l:List Int} {st:Int},l.length=l0.length->gI k0 (3+5 * nn) ((⟨T,xs,l,st⟩,so):Ps×σ):=fun h=>⟨hxs,h.trans hl⟩;have hil:i < xs.length:=by omega
   have hx:xs[((i:Nat):Int).toNat]?=some (xs[i]'hil):=by rw[XR];exact zf hil
   obtain⟨jx,hj1,hj2⟩:=hr _ (ZN hil);have hr1:0<=(xs[i]'hil).r/\(xs[i]'hil).r < 100000:=by omega
   obtain⟨s1,e1⟩:=p37 (pp:=pp) (lk:=lk) (cu:=cu) (pv:=pv) (nt:=(i:Int)) (mn:=mn) (ps:=51) (p:=p) (xs:=xs) (l:=l) (st:=st) (by omega) hx hr1;obtain⟨s2,e2⟩:=p38 (pp:=pp) (lk:=lk) (cu:=cu) (pv:=pv) (nt:=(i:Int)) (mn:=mn) (ps:=51) (p:=p) (xs:=xs) (l:=stL l ((xs[i]'hil).r+4) (xs[i]'hil).s) (st:=s1) (by omega) hx hr1;obtain⟨s3,e3⟩:=p39 (pp:=pp) (lk:=lk) (cu:=cu) (pv:=pv) (nt:=(i:Int)) (mn:=mn) (ps:=51) (p:=p) (xs:=xs) (l:=stL (stL l ((xs[i]'hil).r+4) (xs[i]'hil).s) ((xs[i]'hil).r+2) 51) (st:=s2) (by omega) hx hr1;have B:=A.step hil hl hr hnd;have hlen:=A.len;cases d with
   | zero =>
     rw[if_neg (by omega),if_neg hp] at e3;rw[show i+1=xs.length by omega] at B;exact⟨_,_,_,B,.one (by simp[agT]) (hI hlen) (by simp[agT]) e1 (.one (by simp[agT]) (hI (by simp only[XK];exact hlen)) (by simp[agT]) e2 (.one (by simp[agT]) (hI (by simp only[XK];exact hlen)) (by simp[agT]) e3 (.nil _)))⟩
   | succ d =>
     rw[if_pos (by omega)] at e3;obtain⟨nt,l',st',B',g⟩:=zk1 (lk:=lk) (cu:=cu) (pv:=pv) (mn:=mn) hxs hx1 hnn hl hr hnd hp (d+1) (i+1) (by omega) (by omega) _ s3 B;exact⟨nt,l',st',B',.one (by simp[agT]) (hI hlen) (by simp[agT]) e1 (.one (by simp[agT]) (hI (by simp only[XK];exact hlen)) (by simp[agT]) e2 (.one (by simp[agT]) (hI (by simp only[XK];exact hlen)) (by simp[agT]) e3 g))⟩
structure SvD(nn:Nat)(cur:List Nat)(items:List It)(l:List Int):Prop where
 len:l.length=3+5 * nn
 pass:ldV l 2=51
 ch:Ch l (ldV l 1) cur
 act:∀ j:Nat,j < nn->ldV l (3+5 * (j:Int)+1)=if 3+5 * j∈cur then 1 else 0
 told:∀ x∈items,ldV l x.r=0/\ldV l (x.r+2)=51/\ldV l (x.r+4)=x.s
theorem zul {nn : Nat} {on : List Nat} {q : Nat -> Int} {l0 : List Int} (hrl : ∀ os s, (run os s).1.length = os.length) (hr0 : run [] so = ([], so)) (hnn : 1 <= nn /\ nn <= 9) (hnd : on.Nodup) (hon : ∀ x ∈ on, ∃ j : Nat, j < nn /\ x = 3 + 5 * j) (hol : on.length <= nn) (hl : l0.length = 3 + 5 * nn) (hp : ldV l0 2 = 50) (hc : Ch l0 (ldV l0 1) on)
    (hact:∀ j:Nat,j < nn->XZ l0 (3+5 * (j:Int)+1)=some (if 3+5 * j∈on then 1 else 0)) (hreq:∀ j:Nat,j < nn->ldV l0 (3+5 * (j:Int))=q j) {st:Int} :
    ∃ j s,j<=300/\s.T.pc=40 ∧
     Gg (gI 20 (3+5 * nn)) (svG run 1) j ((⟨agT 20 0 0 0 0 0 0 0,[],l0,st⟩,so),[]) ((s,(run ((((JH on q nn).filter (wtQ q)).map (itQ q)).map opO) so).2),Qa (((JH on q nn).filter (wtQ q)).map (itQ q)) (run ((((JH on q nn).filter (wtQ q)).map (itQ q)).map opO) so).1 (((JH on q nn).filter (wtQ q)).map (itQ q)).length) ∧
     SvD nn (JH on q nn) (Qa (((JH on q nn).filter (wtQ q)).map (itQ q)) (run ((((JH on q nn).filter (wtQ q)).map (itQ q)).map opO) so).1 (((JH on q nn).filter (wtQ q)).map (itQ q)).length) s.l:=by
 have hI:∀ {T:Th} {st:Int} {l:List Int},l.length=3+5 * nn->gI 20 (3+5 * nn) ((⟨T,[],l,st⟩,so):Ps×σ):=fun h=>⟨z2 _,h⟩;obtain⟨s1,e1⟩:=p20 (pp:=1) (lk:=0) (cu:=0) (pv:=0) (nt:=0) (mn:=0) (ps:=0) (p:=0) (xs:=[]) (l:=l0) (st:=st);obtain⟨s2,e2⟩:=p21 (pp:=1) (lk:=50) (cu:=0) (pv:=0) (nt:=0) (mn:=0) (ps:=0) (p:=0) (xs:=[]) (l:=l0) (st:=s1);obtain⟨s3,e3⟩:=p22 (pp:=1) (lk:=50) (cu:=0) (pv:=0) (nt:=0) (mn:=0) (ps:=51) (p:=1) (xs:=[]) (l:=stL l0 2 51) (st:=s2);have hmn:mnN (stL l0 2 51)=(nn:Int):=by unfold mnN;rw[XK,hl];congr 1;omega
 rw[hp] at e1;rw[show Zp (50+1)=51 from rfl,show Zp (0+1)=1 from rfl] at e2;rw[hmn,if_pos (by omega)] at e3;have A2:GI nn on q 0 (stL l0 2 51):=by
  refine⟨by rw[XK,hl],JP (by omega),?_,fun j h1=>?_,fun j h1=>?_⟩
  . rw[Qt (by decide) (by decide) (by decide)];exact hc.keep (fun x hx=>by omega) (by decide)
  . rw[XE (by omega) (by decide) (by omega)];exact hact j h1
  . rw[Qt (by omega) (by decide) (by omega)];exact hreq j h1
 obtain⟨j,lk',cu',pv',st',l',hj,B,g⟩:=zkZ (run:=run) (pp:=1) (so:=so) (a:=[]) (k0:=20) (by omega) hnd hon (ps:=51) (p:=1) nn 0 (by omega) (by omega) 50 0 0 s3 (stL l0 2 51) A2;have hlen2:=B.len;have hcl:=@zfp on q nn;have hcn:=zaE (q:=q) hnd nn;have hch:=B.ch;have hact2:=B.act;have hreq2:=B.req;have hpass2:=B.pass;have hall:∀ x∈JH on q nn,∃ j:Nat,j < nn/\x=3+5 * j:=fun x hx=>by
  rcases(YK nn).1 hx with h|⟨j,h1,h2,_⟩
  . exact hon x h
  . exact⟨j,h1,h2⟩
 generalize JH on q nn=cur at hcl hcn hch hact2 hall ⊢;have beg:∀ {j2:Nat} {y:(Ps×σ)×List It},Gg (gI 20 (3+5 * nn)) (svG run 1) j2 ((⟨agT 33 lk' cu' pv' nn nn 51 1,[],l',st'⟩,so),[]) y->Gg (gI 20 (3+5 * nn)) (svG run 1) (j+j2+1+1+1) ((⟨agT 20 0 0 0 0 0 0 0,[],l0,st⟩,so),[]) y:=fun g2 =>
  .one (by simp[agT]) (hI hl) (by simp[agT]) e1 (.one (by simp[agT]) (hI hl) (by simp[agT]) e2 (.one (by simp[agT]) (hI (by rw[XK,hl])) (by simp[agT]) e3 (g.trans g2)))
 have fin0:∀ {x:List It},x=[]->SvD nn cur x l':=fun hx=>by
  subst hx;exact⟨hlen2,hpass2,hch,fun j hj=>jb (hact2 j hj),fun x hx=>by cases hx⟩
 have emp:cur.filter (wtQ q)=[]->Qa ((cur.filter (wtQ q)).map (itQ q)) (run (((cur.filter (wtQ q)).map (itQ q)).map opO) so).1 ((cur.filter (wtQ q)).map (itQ q)).length=[]/\(run (((cur.filter (wtQ q)).map (itQ q)).map opO) so).2=so:=fun h=>by
  rw[h];simp only[Q8,hr0];refine⟨?_,?_⟩ <;> first|rfl|trivial
 cases hcc:cur with
 | nil =>
   have hz:ldV l' 1=0:=by rw[hcc] at hch;exact hch
   obtain⟨s4,e4⟩:=zw5 (pp:=1) (lk:=lk') (cu:=cu') (pv:=pv') (nt:=(nn:Int)) (mn:=(nn:Int)) (ps:=51) (p:=1) (xs:=[]) (l:=l') (st:=st') hz;obtain⟨q1,q2⟩:=emp (by rw[hcc];rfl);rw[hcc] at q1 q2;rw[q1,q2];refine⟨_,⟨agT 40 0 cu' pv' nn nn 51 1,[],l',s4⟩,?_,rfl,beg (.one (by simp[agT]) (hI hlen2) (by simp[agT]) e4 (.nil _)),?_⟩
   . omega
   . rw[<- hcc];exact fin0 rfl
 | cons v r =>
   rw[<- hcc];have hch1:=hch;rw[hcc] at hch1;have hv:=hch1.1;have hv3:=hch1.2.1;rw[hv] at hch1;obtain⟨s4,e4⟩:=zw6 (pp:=1) (lk:=lk') (cu:=cu') (pv:=pv') (nt:=(nn:Int)) (mn:=(nn:Int)) (ps:=51) (p:=1) (xs:=[]) (l:=l') (st:=st') (by rw[hv];omega);rw[hv] at e4;have hcl2:r.length+1=cur.length:=by rw[hcc];simp
   obtain⟨cu2,st2,g2⟩:=zk0 (run:=run) (pp:=1) (so:=so) (a:=[]) (k0:=20) (q:=q) (pv:=pv') (nt:=(nn:Int)) (mn:=(nn:Int)) (ps:=51) (p:=1) r v hch1 (fun x hx=>by
    obtain⟨k,hk,rfl⟩:=hall x (by rw[hcc];exact hx);have:=hreq2 k hk;rw[show (3+5 * k - 3) / 5=k by omega,<- this];rw[show ((3+5 * k:Nat):Int)=3+5 * (k:Int) by omega]) [] (v:Int) s4 (by simp only[zP];omega)
   rw[hlen2,zX,<- hcc] at g2;by_cases hw:cur.filter (wtQ q)=[]
   . obtain⟨q1,q2⟩:=emp hw;rw[q1,q2];rw[hw,Q8,if_pos rfl] at g2;refine⟨_,⟨agT 40 0 cu2 pv' nn nn 51 1,[],l',st2⟩,?_,rfl,beg (.one (by simp[agT]) (hI hlen2) (by simp[agT]) e4 g2),fin0 rfl⟩;omega
   . rw[if_neg (by simpa using hw)] at g2;have hfl:(cur.filter (wtQ q)).length<=cur.length:=List.length_filter_le ..;have hf0:0 < (cur.filter (wtQ q)).length:=Zy.2 hw;generalize hxs:(cur.filter (wtQ q)).map (itQ q)=xs at *;have hxl:xs.length=(cur.filter (wtQ q)).length:=by rw[<- hxs,zp]
     have hrs:=hrl (xs.map opO) so;rw[zp] at hrs;have htl:=Yo hrs xs.length;have hrr:=zn5 hrs;have hmr:xs.map It.r=(cur.filter (wtQ q)).map (Nat.cast:Nat->Int):=by rw[<- hxs,List.map_map];rfl
     have e5:svG run 1 ((⟨agT 36 0 cu2 pv' nn nn 51 1,xs,l',st2⟩,so),[])=((⟨agT 37 0 cu2 pv' 0 nn 51 1,Qa xs (run (xs.map opO) so).1 xs.length,l',st2⟩,(run (xs.map opO) so).2),Qa xs (run (xs.map opO) so).1 xs.length):=rfl;generalize (run (xs.map opO) so).2=so' at e5 ⊢;generalize Qa xs (run (xs.map opO) so).1 xs.length=ys at e5 htl hrr ⊢;have hyr:∀ x∈ys,∃ j:Nat,j < nn/\x.r=3+5 * (j:Int):=by
      intro x hx;have h1:x.r∈ys.map It.r:=Zg hx;rw[hrr,hmr] at h1;obtain⟨y,hy,e⟩:=ZL.1 h1;obtain⟨k,hk,rfl⟩:=hall y (Zj.1 hy).1;exact⟨k,hk,by rw[<- e];show ((3+5 * k:Nat):Int)=_;omega⟩
     have hynd:(ys.map It.r).Nodup:=by
      rw[hrr,hmr];exact List.Pairwise.map _ (fun a b (h:a≠b) (e:(a:Int)=(b:Int))=>h (by omega)) (List.Sublist.nodup Jw hcn)
     obtain⟨nt,l2,st3,C,g3⟩:=zk1 (run:=run) (pp:=1) (so:=so') (a:=ys) (k0:=20) (nn:=nn) (xs:=ys) (l0:=l') (lk:=0) (cu:=cu2) (pv:=pv') (mn:=nn) (p:=1) (by omega) (by omega) (by omega) hlen2 hyr hynd (by decide) ys.length 0 (by omega) (by omega) l' st2 ⟨rfl,fun _ _ _=>rfl,fun x hx=>by simp at hx⟩;have hcl3:=C.len;have ho:∀ b:Int,0<=b->(∀ j:Nat,b≠3+5 * (j:Int)/\b≠3+5 * (j:Int)+2/\b≠3+5 * (j:Int)+4)->XZ l2 b=XZ l' b:=fun b hb h=>C.old b hb fun x hx=>by
      rw[X9] at hx;obtain⟨j,_,hj⟩:=hyr x hx;have:=h j;rw[hj];exact this
     refine⟨_,⟨agT 40 0 cu2 pv' nt nn 51 1,ys,l2,st3⟩,?_,rfl,beg (.one (by simp[agT]) (hI hlen2) (by simp[agT]) e4 (g2.trans (.cons (by simp[agT]) ⟨(show xs.length<=20 by omega),hlen2⟩ (by rw[e5];exact g3)))),⟨hcl3.trans hlen2,?_,?_,fun j hj=>?_,fun x hx=>?_⟩⟩
     . omega
     . rw[KN (ho 2 (by decide) (fun j=>by omega)),hpass2]
     . have keepCh:∀ (rr:List Nat) (w:Int),(∀ x∈rr,∃ k:Nat,x=3+5 * k)->Ch l' w rr->Ch l2 w rr:=by
         intro rr
         induction rr with
         | nil=>intro w _ h;exact h
         | cons y rr ih =>
           intro w hy h;obtain⟨k,hk⟩:=hy y (by simp);refine⟨h.1,h.2.1,h.2.2.1,?_⟩;rw[KN (ho ((y:Int)+3) (by omega) (fun j=>by omega))];exact ih _ (fun x hx=>hy x (zu _ hx)) h.2.2.2
       rw[KN (ho 1 (by decide) (fun j=>by omega))];exact keepCh cur _ (fun x hx=>by obtain⟨k,_,h⟩:=hall x hx;exact⟨k,h⟩) hch
     . rw[KN (ho _ (by omega) (fun i=>by omega))];exact jb (hact2 j hj)
     . exact C.new x (by rw[X9];exact hx)
end
end Go.Cm
namespace Go.Sk
open Go.L Go.Rp
end Go.Sk
namespace Go.Proofs.Tryz
open Go.L Go.Rp Go.Sk
set_option maxRecDepth 100000
theorem zk2(k m:Nat)(os:List O)(st:St):(zaj k m os st).2.length=os.length:=by
 unfold zaj;split
 . exact ze3 ..
 split
 . exact ze4 ..
 . unfold zag;rw[zkC];simp
end Go.Proofs.Tryz
namespace Go.Proofs.Tryz
open Go.L Go.Rp Go.Sk Go.Cm
set_option maxRecDepth 100000
theorem zsV(g:ze){k:Nat}(hk:k=1\/k=2\/k=3):za3 prog g .eql 106 true (V.fn (zmu k) []) (V.val .nilFunc)=some (.bool false):=by
 rcases hk with rfl|rfl|rfl <;> kernel_rfl
theorem zoc{k:Nat}(hk:k=1\/k=2\/k=3):okV prog 108 (zmu k)=true/\QI (zmu k)=true:=by
 rcases hk with rfl|rfl|rfl <;> exact⟨by kernel_rfl,by kernel_rfl⟩
theorem zpR{k:Nat}(hk:k=1\/k=2\/k=3):∃ i,Qp [0] (V.int .u8 (k:Int)) ztP 0=some (some i)/\J1 ztP (V.val .nilFunc) (some i)=some (.fn (zmu k) []):=by
 rcases hk with rfl|rfl|rfl
 . exact⟨0,rfl,rfl⟩
 . exact⟨1,rfl,rfl⟩
 . exact⟨2,rfl,rfl⟩
theorem zgZ(n:Nat){k:Nat}(hk:k=1\/k=2\/k=3)(m:Int)(pl:Bool)(h:ze):∃ h' o s c Y,call (n+3) 15 [.int .u8 (k:Int),.int .i64 m,.bool pl] h=some (.ret [.ptr o 0],h')/\ObAt k h' o s c none Y (JO m) pl ([],[])/\h.length<=h'.length/\(∀ i,i < h.length->h'[i]?=h[i]?)/\∀ x∈obB o c none Y,h.length<=x:=by
 obtain⟨h',o,s,c,Y,e,A,L,F,X⟩:=ztR n hk m pl (h++[.map ztP]);obtain⟨i,f1,f2⟩:=zpR hk;refine⟨h',o,s,c,Y,?_,A,by simp at L;omega,fun i hi=>(F i (by simp;omega)).trans (zk hi),fun x hx=>by have:=X x hx;simp at this;omega⟩;rw[show n+3=(n+2)+1 from rfl,zoP];unfold zqL Yi Yr Yn Yp;rw[zvB,Kf,show kds prog 12 5=some [0] from ztS];simp only[za];rw[show Qp [0] (V.int .u8 1) [] 0=some none from rfl,za,if_pos (by refine⟨?_,?_⟩ <;> first|trivial|rfl)];rw[zvA];rw[zvB,Kf,show Qp [0] (V.int .u8 2) (upd [] (V.int .u8 1) (V.fn 56 []) none) 0=some none from rfl,za,if_pos (by refine⟨?_,?_⟩ <;> first|trivial|rfl)];rw[zvA];rw[zvB,Kf,show Qp [0] (V.int .u8 3) (upd (upd [] (V.int .u8 1) (V.fn 56 []) none) (V.int .u8 2) (V.fn 58 []) none) 0=some none from rfl,za,if_pos (by refine⟨?_,?_⟩ <;> first|trivial|rfl)];rw[zvA];rw[show (upd (upd (upd [] (V.int .u8 1) (V.fn 56 []) none) (V.int .u8 2) (V.fn 58 []) none) (V.int .u8 3) (V.fn 60 []) none)=ztP from rfl];rw[znl,zB,f1,zB,f2,za,if_pos (by refine⟨?_,?_,?_⟩ <;> first|trivial|rfl),zsV _ hk,za,zm,if_neg (by decide)];rw[show ∀ (a:Nat->Option (Res×ze)) b,ydK (V.fn (zmu k) []) a b=b from fun _ _=>rfl,zly,if_pos (zoc hk).1,if_pos (zoc hk).2];exact e
def obC(k o s c m:Nat)(pl:Bool):ObjC St o where
 P h X st:=∃ cb Y,X=obB o c cb Y/\ObAt k h o s c cb Y m pl st
 run os st:=((zaj k m os st).2,(zaj k m os st).1)
 K:=m+100
 rl os st:=zk2 k m os st
 lt:=by rintro h X st ⟨cb,Y,rfl,A⟩;exact A.lt
 keep:=by rintro h h' X st ⟨cb,Y,rfl,A⟩ hk;exact⟨cb,Y,rfl,A.keep hk⟩
 dof:=by
  rintro n h X st os ⟨cb,Y,rfl,A⟩ hk hos hn;obtain⟨h',Y',T,c1,R,A',t1,t2,F⟩:=zms n A os false hk hos (by omega);exact⟨h',_,T,c1,R,⟨cb,Y',rfl,A'⟩,t1,t2,F⟩
section
variable {σ:Type} {o:Nat} (C:ObjC σ o)
theorem zsW (n : Nat) {pp : Int} {h : ze} {m rb : Nat} {sz : Int} {x : Ps × σ} {a : List It} {bat : V} {i0 : List (List V)} {X : List Nat} {k : Nat} (A : SgR C h m rb sz x bat X) (hS : 20 <= x.1.T.pc /\ x.1.T.pc <= 39) (hx : x.1.xs.length <= 100) (hl : x.1.l.length < lim) (ha : a.length <= 100 * k) (hk : k < 400) (hn : 400 + C.K <= n) :
    ∃ h' bat' X',SgR C h' m rb sz (svG C.run pp (x,a)).1 bat' X'/\(svG C.run pp (x,a)).2.length<=100 * (k+1)/\h.length<=h'.length/\(∀ i,i < h.length->i≠m->i≠rb->i ∉ X->h'[i]?=h[i]?)/\(∀ i∈X',i∈X\/h.length<=i) ∧
     ∀ next,Yk (n+10) m o pp 400 [.agg z13,.sl 3 i0 false,.agg (x.1.T.v bat),.sl 3 (a.map It.c) false,.int .i64 (k:Int)] h next=next [.agg z13,.sl 3 i0 false,.agg ((svG C.run pp (x,a)).1.1.T.v bat'),.sl 3 ((svG C.run pp (x,a)).2.map It.c) false,.int .i64 ((k+1:Nat):Int)] h':=by
 have hlim:100000 < lim:=by decide
 obtain⟨h1,bat1,X1,c1,A1,L1,F1,N1⟩:=zuj C n (pp:=pp) A hS (by omega) hl hn;obtain⟨z,e1,e2⟩:=zsU C h1 x;have e4:=zuk C x;have cs:=zal (n+9) x.1.T bat h;rw[show decide (20<=x.1.T.pc/\x.1.T.pc<=39)=true from decide_eq_true hS] at cs;have e5:(svG C.run pp (x,a)).1=nxG C.run pp x:=rfl;have e6:(svG C.run pp (x,a)).2=a++dnG C.run x:=rfl;refine⟨h1,bat1,X1,A1,by rw[e6,zL];omega,L1,F1,N1,fun next=>?_⟩;rw[e5,e6,Zo];unfold Yk Yc Yi Ya Yg Yr zbd Yp;simp only[gv,zg,zi,XT,lsl];rw[zy,za,zm,if_pos (by simp;omega),zn9,cs,zH,zC,zm,if_pos rfl,c1,zH];simp only[zb,zh,za];rw[ca,zsR _ _ _ (by rfl),zn9,zsR _ _ _ (zch _ _),if_pos (zch _ _),if_pos (Js (zch _ _)),if_pos (zch _ _),if_pos (Js (zch _ _)),e1,zB,if_pos ⟨by first|trivial|rfl,e2⟩,W7 (by simp only[zp];omega),za,zA,za,Xl (by omega)]
theorem zum (n : Nat) {pp : Int} {m rb : Nat} {sz : Int} {i0 : List (List V)} (hn : 400 + C.K <= n) {I : Ps × σ -> Prop} (hI : ∀ x, I x -> x.1.xs.length <= 100 /\ x.1.l.length < lim) {j : Nat} {x y : (Ps × σ) × List It} (g : Gg I (svG C.run pp) j x y) :
    ∀ (M k:Nat) (h:ze) (bat:V) (X:List Nat),x.2.length<=100 * k->k+j<=400->SgR C h m rb sz x.1 bat X →
     ∃ h' bat' X',SgR C h' m rb sz y.1 bat' X'/\h.length<=h'.length/\(∀ i,i < h.length->i≠m->i≠rb->i ∉ X->h'[i]?=h[i]?)/\(∀ i∈X',i∈X\/h.length<=i) ∧
      zV (M+j) (Yk (n+10) m o pp 400) [.agg z13,.sl 3 i0 false,.agg (x.1.1.T.v bat),.sl 3 (x.2.map It.c) false,.int .i64 (k:Int)] h=zV M (Yk (n+10) m o pp 400) [.agg z13,.sl 3 i0 false,.agg (y.1.1.T.v bat'),.sl 3 (y.2.map It.c) false,.int .i64 ((k+j:Nat):Int)] h':=by
 induction g with
 | nil x=>intro M k h bat X _ _ A;exact⟨h,bat,X,A,zn _,fun _ _ _ _ _=>rfl,fun _ hi=>.inl hi,rfl⟩
 | @cons j x y hS hi _ ih =>
   intro M k h bat X ha hk A;obtain⟨x,a⟩:=x;obtain⟨q1,q2⟩:=hI _ hi;obtain⟨h1,bat1,X1,A1,ha1,L1,F1,N1,c1⟩:=zsW C n (pp:=pp) (i0:=i0) (a:=a) A hS q1 q2 (k:=k) ha (by omega) hn;obtain⟨h',bat',X',A',L',F',N',e⟩:=ih M (k+1) h1 bat1 X1 ha1 (by omega) A1;refine⟨h',bat',X',A',by omega,fun i h1 h2 h3 h4=>(F' i (by omega) h2 h3 fun e=>?_).trans (F1 i h1 h2 h3 h4),fun i hi=>?_,?_⟩
   . rcases N1 i e with e1|e1
     . exact h4 e1
     . omega
   . rcases N' i hi with e1|e1
     . exact N1 i e1
     . exact .inr (by omega)
   . rw[show M+(j+1)=(M+j)+1 from rfl,zK,c1,e,show k+1+j=k+(j+1) by omega]
theorem zsX (n : Nat) {pp : Int} {m rb : Nat} {sz : Int} (hn : 500 + C.K <= n) {I : Ps × σ -> Prop} (hI : ∀ x, I x -> x.1.xs.length <= 100 /\ x.1.l.length < lim) {j : Nat} {l : List Int} {st : Int} {q : σ} {y : (Ps × σ) × List It} (g : Gg I (svG C.run pp) j ((⟨agT 20 0 0 0 0 0 0 0, [], l, st⟩, q), []) y) (hj : j < 400) (hy : y.1.1.T.pc = 40) {h : ze} {X : List Nat} (A : SgR C h m rb sz (⟨agT 20 0 0 0 0 0 0 0, [], l, st⟩, q) (.sl 0 [] true) X) :
    ∃ h' bat' X',call (n+11) 33 [.ptr m 0,.ptr o 0,.int .i64 pp,.int .i64 400] h=some (.ret [.agg (y.1.1.T.v bat'),.sl 3 (y.2.map It.c) false],h')/\SgR C h' m rb sz y.1 bat' X'/\h.length<=h'.length/\(∀ i,i < h.length->i≠m->i≠rb->i ∉ X->h'[i]?=h[i]?)/\∀ i∈X',i∈X\/h.length<=i:=by
 obtain⟨h',bat',X',A',L',F',N',e⟩:=zum C n (i0:=[]) (by omega) hI g (n+10 - j - 1+1) 0 h (.sl 0 [] true) X (by simp) (by omega) A;refine⟨h',bat',X',?_,A',L',F',N'⟩;rw[show n+11=(n+10)+1 from rfl,zoU];unfold zqR zbd;rw[show n+10 - j - 1+1+j=n+10 by omega] at e;refine e.trans ?_;rw[zK];generalize (zV (n+10 - j - 1) (Yk (n+10) m o pp 400))=nx;have cs:=zal (n+9) y.1.1.T bat' h';rw[show decide (20<=y.1.1.T.pc/\y.1.1.T.pc<=39)=false from decide_eq_false (by omega)] at cs;unfold Yk Yc Yi Ya Yg Yr zbd Yp;simp only[gv,zg,zi,XT,lsl];rw[zy,za,zm,if_pos (by simp;omega),zn9,cs,zH,zC,zm,if_neg (by decide),if_pos (zch _ _),if_pos (Js (zch _ _)),zsR _ _ _ (by rfl),zn9]
end
end Go.Proofs.Tryz
namespace Go.Cm
open Go.L Go.Rp Go.Sk
def wd2(k v:Int):Int:=256 * (v+2147483648)+k+1
def qD(d:List Int)(j:Nat):Int:=match d[j]? with|some x=>if 0 < x % 3 then wd2 (1+x % 4) x else 0|none=>0
theorem zsY{d:List Int}(hd:∀ x∈d,0<=x/\x < 256){j:Nat}{x:Int}(h:d[j]?=some x):0 < qD d j ↔ 0 < x % 3:=by
 have h1:=hd x (zM h);unfold qD;rw[h];simp only;by_cases h2:0 < x % 3
 . rw[if_pos h2];unfold wd2;omega
 . rw[if_neg h2];omega
def lQ (d : List Int) : Nat -> List Int -> List Int
 | 0,l=>l
 | i+1,l=>if 0 < qD d i then stL (lQ d i l) (3+5 * (i:Int)) (qD d i) else lQ d i l
def wsN(d:List Int):Nat->List Nat
 | 0=>[]
 | i+1=>if 0 < qD d i then wsN d i++[3+5 * i] else wsN d i
theorem zbn (d l : List Int) : ∀ i, (lQ d i l).length = l.length
 | 0=>rfl
 | i+1=>by
   unfold lQ;split
   . rw[XK,zbn d l i]
   . exact zbn d l i
theorem zci (d l : List Int) {b : Int} (h0 : 0 <= b) : ∀ i : Nat, (∀ j : Nat, j < i -> b ≠ 3 + 5 * (j : Int)) -> XZ (lQ d i l) b = XZ l b
 | 0,_=>rfl
 | i+1,h=>by
   unfold lQ;split
   . rw[XE (Ne.symm (h i (by omega))) (by omega) h0,zci d l h0 i fun j hj=>h j (by omega)]
   . exact zci d l h0 i fun j hj=>h j (by omega)
theorem zwF{d:List Int}(hd:∀ x∈d,0<=x/\x < 256)(j:Nat):0<=qD d j:=by
 unfold qD;split
 . rename_i x h;have:=hd x (zM h);split
   . unfold wd2;omega
   . omega
 . omega
theorem zsZ {d l : List Int} (hd : ∀ x ∈ d, 0 <= x /\ x < 256) {nn : Nat} (hl : l.length = 3 + 5 * nn) (hz : ∀ j : Nat, j < nn -> ldV l (3 + 5 * (j : Int)) = 0) : ∀ (i j : Nat), j < nn -> i <= nn -> ldV (lQ d i l) (3 + 5 * (j : Int)) = if j < i then qD d j else 0
 | 0,j,h,_=>by rw[if_neg (by omega)];exact hz j h
 | i+1,j,h,hi=>by
   have ih:=zsZ hd hl hz i j h (by omega);have hq:=zwF hd i;unfold lQ;split
   . by_cases e:j=i
     . subst e;rw[JP (by rw[zbn];omega),if_pos (by omega)]
     . rw[Qt (by omega) (by omega) (by omega),ih];by_cases h2:j < i
       . rw[if_pos h2,if_pos (by omega)]
       . rw[if_neg h2,if_neg (by omega)]
   . rw[ih];by_cases e:j=i
     . subst e;rw[if_neg (by omega),if_pos (by omega)];omega
     . by_cases h2:j < i
       . rw[if_pos h2,if_pos (by omega)]
       . rw[if_neg h2,if_neg (by omega)]
theorem zs0 {d l : List Int} {v : Int} {r : List Nat} (hr : ∀ x ∈ r, ∃ j : Nat, x = 3 + 5 * j) (hc : Ch l v r) : ∀ i : Nat, Ch (lQ d i l) v r
 | 0=>hc
 | i+1=>by
   unfold lQ;split
   . exact(zs0 hr hc i).keep (fun x hx=>by obtain⟨j,rfl⟩:=hr x hx;omega) (by omega)
   . exact zs0 hr hc i
theorem zdX {d : List Int} : ∀ (i : Nat) {x : Nat}, x ∈ wsN d i ↔ ∃ j, j < i /\ x = 3 + 5 * j /\ 0 < qD d j
 | 0,x=>by simp[wsN]
 | i+1,x=>by
   unfold wsN;split
   . rename_i hc;rw[Zn,zdX i,ZE];constructor
     . rintro (⟨j,h1,h2⟩|rfl)
       . exact⟨j,by omega,h2⟩
       . exact⟨i,by omega,rfl,hc⟩
     . rintro ⟨j,h1,h2,h3⟩;by_cases e:j=i
       . subst e;exact .inr h2
       . exact .inl ⟨j,by omega,h2,h3⟩
   . rename_i hc;rw[zdX i];constructor
     . rintro ⟨j,h1,h2⟩;exact⟨j,by omega,h2⟩
     . rintro ⟨j,h1,h2,h3⟩;by_cases e:j=i
       . subst e;exact absurd h3 hc
       . exact⟨j,by omega,h2,h3⟩
theorem zmG (d : List Int) : ∀ i, (wsN d i).Nodup
 | 0=>List.nodup_nil
 | i+1=>by
   unfold wsN;split
   . rw[Qi];refine⟨zmG d i,by simp,fun a ha b hb e=>?_⟩;simp only[ZE] at hb;obtain⟨j,h1,h2,_⟩:=(zdX i).1 ha;omega
   . exact zmG d i
theorem zii (d : List Int) : ∀ i, (wsN d i).length <= i
 | 0=>zn _
 | i+1=>by
   have:=zii d i;unfold wsN;split <;> simp <;> omega
theorem zun{d:List Int}{nn:Nat}{on:List Nat}(hnd:on.Nodup)(hon:∀ x∈on,∃ j:Nat,j < nn/\x=3+5 * j):((JH on (qD d) nn).filter (wtQ (qD d))).Perm (wsN d nn):=by
 rw[List.perm_ext_iff_of_nodup (List.Sublist.nodup Jw (zaE hnd nn)) (zmG d nn)];intro x;rw[Zj,YK,zdX];unfold wtQ;constructor
 . rintro ⟨h|⟨j,h1,h2,h3,h4⟩,hq⟩
   . obtain⟨j,h1,rfl⟩:=hon x h;rw[show (3+5 * j - 3) / 5=j by omega] at hq;exact⟨j,h1,rfl,by simpa using hq⟩
   . exact⟨j,h1,h2,h4⟩
 . rintro ⟨j,h1,rfl,h3⟩;refine⟨?_,by rw[show (3+5 * j - 3) / 5=j by omega];simpa using h3⟩;by_cases hin:3+5 * j∈on
   . exact .inl hin
   . exact .inr ⟨j,h1,rfl,hin,h3⟩
end Go.Cm
namespace Go.Proofs.Tryz
open Go.L Go.Rp Go.Sk Go.Cm
set_option maxRecDepth 100000
theorem zuo(n:Nat)(k v:Int)(h0:0<=k/\k < 256)(h1:-2147483648<=v/\v < 2147483648)(h:ze):call (n+1) 37 [.agg [.int .u8 k,.int .i32 v]] h=some (.ret [.int .i64 (wd2 k v)],h):=by
 rw[ztk];unfold zwk Yr;rw[w64 (n:=v) (by omega) (by omega),w64 (n:=v+2147483648) (by omega) (by omega),w64 (n:=256 * (v+2147483648)) (by omega) (by omega),w64 (n:=k) (by omega) (by omega),w64 (n:=256 * (v+2147483648)+k) (by omega) (by omega),w64 (n:=256 * (v+2147483648)+k+1) (by omega) (by omega)];exact Y0 (by rfl) (by rfl)
theorem zup(a:Int):bop prog .rem 5 (.int .u8 a) (.int .u8 3)=some (.int .u8 (a.tmod 3)):=by kernel_rfl
theorem zuq(a:Int):bop prog .rem 5 (.int .u8 a) (.int .u8 4)=some (.int .u8 (a.tmod 4)):=by kernel_rfl
theorem zvV(a b:Int):bop prog .gtr 5 (.int .u8 a) (.int .u8 b)=some (.bool (decide (a > b))):=by kernel_rfl
theorem zvW(a b:Int):bop prog .add 5 (.int .u8 a) (.int .u8 b)=some (.int .u8 (IntKind.u8.wrap (a+b))):=by kernel_rfl
theorem zvX(a:Int):cvt prog 5 21 (.int .u8 a)=some (.int .i32 (IntKind.i32.wrap a)):=by kernel_rfl
theorem zvY(k v:Int):Wz prog 33 [(0,.int .u8 k),(1,.int .i32 v)]=some [.int .u8 k,.int .i32 v]:=by kernel_rfl
theorem zvZ(x:O):K6 prog 23 1 [(0,.agg (O.w x))]=some (2,[O.w x]):=by kernel_rfl
theorem zfq(n:Nat){x2 x3:Int}{d:List Int}(hd:∀ x∈d,0<=x/\x < 256){db:Bool}{l:List Int}{nn bl:Nat}{v8:V}(hlen:l.length=3+5 * nn)(hnn:nn<=9):∀ (e i M:Nat) (h:ze) (z:Bool),i+e=nn->h[bl]?=some (.row 2 1 ((lQ d i l).map cel) z) →
    ∃ h',h'[bl]?=some (.row 2 1 ((lQ d nn l).map cel) z)/\h'.length=h.length/\(∀ k,k≠bl->h'[k]?=h[k]?)/\zV (M+e) (KD (n+1) x2 x3 (d.map (Qs .u8)) db (.row bl 1 0 l.length) v8) [.sl 1 (nlN (wsN d i)) false,.int .i64 ((3+5 * i:Nat):Int)] h=zV M (KD (n+1) x2 x3 (d.map (Qs .u8)) db (.row bl 1 0 l.length) v8) [.sl 1 (nlN (wsN d nn)) false,.int .i64 ((3+5 * nn:Nat):Int)] h'
 | 0,i,M,h,z,hi,b1=>by
   obtain rfl:i=nn:=by omega
   exact⟨h,b1,rfl,fun _ _=>rfl,rfl⟩
 | e+1,i,M,h,z,hi,b1=>by
   have hlim:1000 < lim:=by decide
   have hll:((lQ d i l).map cel).length=l.length:=by rw[zp,zbn]
   have es:ZI h (.row bl 1 0 l.length)=some (1,(lQ d i l).map cel):=by have:=Jh b1;rwa[hll] at this
   have e5:IntKind.i64.wrap (((3+5 * i:Nat):Int)+5)=((3+5 * (i+1):Nat):Int):=by rw[w64 (by omega) (by omega)];omega
   have e6:IntKind.i64.wrap (((3+5 * i:Nat):Int) - 3)=5 * (i:Int):=by rw[w64 (by omega) (by omega)];omega
   have e7:IntKind.i64.wrap ((5 * (i:Int)).tdiv 5)=(i:Int):=by rw[Wa (by omega),show 5 * (i:Int) / 5=(i:Int) by omega,w64 (by omega) (by omega)]
   have hwl:=zii d i;have head:∀ next,KD (n+1) x2 x3 (d.map (Qs .u8)) db (.row bl 1 0 l.length) v8 [.sl 1 (nlN (wsN d i)) false,.int .i64 ((3+5 * i:Nat):Int)] h next=(match d[i]? with|none=>next [.sl 1 (nlN (wsN d i)) false,.int .i64 ((3+5 * (i+1):Nat):Int)] h|some x=>if 0 < x % 3 then next [.sl 1 (nlN (wsN d i++[3+5 * i])) false,.int .i64 ((3+5 * (i+1):Nat):Int)] (h.set bl (.row 2 1 ((stL (lQ d i l) (3+5 * (i:Int)) (wd2 (1+x % 4) x)).map cel) z)) else next [.sl 1 (nlN (wsN d i)) false,.int .i64 ((3+5 * (i+1):Nat):Int)] h):=by
    intro next
    unfold KD Yc Yl Yi Yw Yx Yr Yn Yq3 zbd Yp;simp only[gv,zg,zi,lsl];rw[es,za];simp only[hll];rw[zy,za,zm,if_pos (by simp;omega),ZF,za,e6,zb7,za,e7,zy,za,zm,zp];cases hx:d[i]? with
    | none =>
      have hkl:d.length<=i:=XS.1 hx;rw[if_neg (by simp;omega),zA,za,e5]
    | some x =>
      have hkl:=(zj.1 hx).1;have hx2:=hd x (zM hx);have hm3:x.tmod 3=x % 3:=ZV hx2.1;have hm4:x.tmod 4=x % 4:=ZV hx2.1;rw[if_pos (by simp;omega),z3,zB,XJ (zbl hx),za,Zq,zo,if_pos (by decide)];simp only[zb,za];rw[zup,za,zvV,za,zm,hm3];by_cases h3:0 < x % 3
      . have e8:IntKind.u8.wrap (1+x % 4)=1+x % 4:=by rw[IntKind.wrap_u8];omega
        have e9:IntKind.i32.wrap x=x:=by rw[IntKind.wrap_i32];omega
        have hcx:((lQ d i l).map cel)[3+5 * i]?=some (cel ((lQ d i l)[3+5 * i]'(by rw[zbn];omega))):=by rw[zF,zf (by rw[zbn];omega)];rfl
        have c1:=zuo n (1+x % 4) x (by omega) (by omega) h;rw[if_pos (by simpa using h3),if_pos h3,zB,XJ (zbl hx),za,Zq,zo,if_pos (by decide)];simp only[zb,za];rw[zuq,za,zvW,za,hm4,e8,zB,XJ (zbl hx),za,Zq,zo,if_pos (by decide)];simp only[zb,za];rw[zvX,za,e9,zvY,za,c1,zH,zC,z3,zB,Z3 (by omega),za,zq,ci,if_pos (by rfl),QU b1 (by decide) (by simp) hcx,zZ,qk,zcg,za,W7 (by simp[W6];omega),za,zih,zA,za,e5,<- zn7,show ((3+5 * i:Nat):Int)=3+5 * (i:Int) by omega]
      . rw[if_neg (by simpa using h3),if_neg h3,zA,za,e5]
   by_cases hq:0 < qD d i
   . cases hx:d[i]? with
     | none=>unfold qD at hq;rw[hx] at hq;exact absurd hq (by decide)
     | some x =>
       have h3:=(zsY hd hx).1 hq;have hqe:qD d i=wd2 (1+x % 4) x:=by unfold qD;rw[hx];simp only;rw[if_pos h3]
       have hl1:lQ d (i+1) l=stL (lQ d i l) (3+5 * (i:Int)) (wd2 (1+x % 4) x):=by
        show (if _ then _ else _)=_;rw[if_pos hq,hqe]
       have hw1:wsN d (i+1)=wsN d i++[3+5 * i]:=by
        show (if _ then _ else _)=_;rw[if_pos hq]
       have k1:(h.set bl (.row 2 1 ((lQ d (i+1) l).map cel) z))[bl]?=some (.row 2 1 ((lQ d (i+1) l).map cel) z):=ZU (zQ b1) _;obtain⟨h',q1,q2,q3,ee⟩:=zfq n hd (x2:=x2) (x3:=x3) (db:=db) (v8:=v8) hlen hnn e (i+1) M (h.set bl (.row 2 1 ((lQ d (i+1) l).map cel) z)) z (by omega) k1;refine⟨h',q1,by rw[q2];simp,fun k hk=>(q3 k hk).trans (zd (Ne.symm hk)),?_⟩;rw[show M+(e+1)=(M+e)+1 from rfl,zK,head,hx];simp only;rw[if_pos h3,<- ee,hl1,hw1]
   . have hl1:lQ d (i+1) l=lQ d i l:=by
       show (if _ then _ else _)=_;rw[if_neg hq]
     have hw1:wsN d (i+1)=wsN d i:=by
      show (if _ then _ else _)=_;rw[if_neg hq]
     obtain⟨h',q1,q2,q3,ee⟩:=zfq n hd (x2:=x2) (x3:=x3) (db:=db) (v8:=v8) hlen hnn e (i+1) M h z (by omega) (by rw[hl1];exact b1);refine⟨h',q1,q2,q3,?_⟩;rw[show M+(e+1)=(M+e)+1 from rfl,zK,head,<- ee,hw1];cases hx:d[i]? with
     | none=>rfl
     | some x =>
       simp only;rw[if_neg fun h3=>hq ((zsY hd hx).2 h3)]
theorem zs1 (n : Nat) {v8 v61 v66 v70 : V} {items : List It} {h : ze} {s0 : List (List V)} {r tv : List V} {out : Option (Res × ze)} (hil : items.length <= 100) (hend : ∀ nx, Kg (n + 1) v8 v61 v66 v70 (.sl 3 (items.map It.c) false) [.sl 1 s0 false, .agg r, .agg tv, .sl 2 ((items.map opO).map O.w) false, .int .i64 (items.length : Int)] h nx = out) :
    ∀ (d k M:Nat),k+d=items.length->d < M->zV M (Kg (n+1) v8 v61 v66 v70 (.sl 3 (items.map It.c) false)) [.sl 1 s0 false,.agg r,.agg tv,.sl 2 (((items.take k).map opO).map O.w) false,.int .i64 (k:Int)] h=out:=by
 have hlim:1000 < lim:=by decide
 intro d
 induction d with
 | zero =>
   intro k M hk hM;obtain⟨M,rfl⟩:∃ M',M=M'+1:=⟨M - 1,by omega⟩;obtain rfl:k=items.length:=by omega
   rw[zK,X9];exact hend _
 | succ d ih =>
   intro k M hk hM;obtain⟨M,rfl⟩:∃ M',M=M'+1:=⟨M - 1,by omega⟩;have hkl:k < items.length:=by omega
   rw[zK,<- ih (k+1) M (by omega) (by omega)];generalize zV M (Kg (n+1) v8 v61 v66 v70 (.sl 3 (items.map It.c) false))=nx;have hx:(items.map It.c)[k]?=some (It.c (items[k]'hkl)):=by rw[zF,zf hkl];rfl
   have htk:((items.take (k+1)).map opO).map O.w=((items.take k).map opO).map O.w++[O.w (opO (items[k]'hkl))]:=by
    rw[JZ,zf hkl,Zo,Zo];rfl
   have hll:(items.map It.c).length=items.length:=zp ..;have c1:=zsS n (items[k]'hkl).w h;unfold Kg Yc Yl Yi Yx Ya Yr Yp;simp only[gv,zg,zi,XT,lsl];rw[show ZI h (V.sl 3 (items.map It.c) false)=some (3,items.map It.c) from rfl,za];simp only[hll];rw[zy,za,zm,if_pos (by simp;omega),z3,zB,XJ hx,za,show ZD 1 (V.iptr 3 (It.c (items[k]'hkl)) 0)=some (V.iptr 3 (It.c (items[k]'hkl)) 1) from rfl,za,Zq,zo,if_pos (by decide),show (It.c (items[k]'hkl))[1]?=some (V.int .i64 (items[k]'hkl).w) from rfl,za,c1,zH];simp only[zb,zh,za];rw[ca,if_pos (by rfl),if_pos (by exact zn 2),show (((setR [(V.int .u8 0),(V.int .i32 0)] 0 [V.int .u8 (ofK (items[k]'hkl).w),V.int .i32 (ofV (items[k]'hkl).w)])).drop 0 |>.take 2)=O.w (opO (items[k]'hkl)) from rfl,zvZ,za,W7 (by simp;omega),za,zA,za,Xl (by omega),htk]
end Go.Proofs.Tryz
namespace Go.Cm
open Go.L Go.Rp Go.Sk
theorem zg0{xs:List It}{rs:List R}(h:rs.length=xs.length):Qa xs rs xs.length=List.zipWith told1 xs rs:=by
 unfold Qa;rw[Wl,z6,X9,zU (by omega)]
theorem zk3 : ∀ {xs : List It} {rs : List R}, rs.length = xs.length -> (List.zipWith told1 xs rs).map opO = xs.map opO
 | [],_,_=>rfl
 | x :: xs,[],h=>by simp at h
 | x :: xs,r :: rs,h=>by
   rw[List.zipWith_cons_cons,zW,zW,zk3 (by simpa using h)];rfl
theorem zur{xs:List It}{rs:List R}{i:Nat}{x:It}{r:R}(hx:(List.zipWith told1 xs rs)[i]?=some x)(hr:rs[i]?=some r):x.s=pkW r.c r.v:=by
 rw[List.getElem?_zipWith,hr] at hx;cases hxi:xs[i]? with
 | none=>rw[hxi] at hx;cases hx
 | some y =>
   rw[hxi] at hx;cases hx;rfl
end Go.Cm
namespace Go.Proofs.Tryz
open Go.L Go.Rp Go.Sk Go.Cm
set_option maxRecDepth 100000
theorem zus(n:Nat)(h:ze)(l:List Nat)(b:Bool)(hn:l.length < n)(hlim:l.length < 1000){x:Nat}(hx:x∈l):∃ r,call (n+1) 45 [.sl 1 (nlN l) b,.int .i64 (x:Int)] h=some (.ret [.int .i64 r],h)/\¬ r < 0:=by
 obtain⟨r,e,hr⟩:=zbm n h l b hn hlim x;exact⟨r,e,fun h=>hr.1 h hx⟩
theorem zs2 (n : Nat) {v8 v66 v70 : V} {items : List It} {ws : List Nat} {rs : List R} {now : List Int} {T nn : Nat} {h : ze} {s2 s3 : List V} {v0 : V} {out : Option (Res × ze)} (hil : items.length <= 100) (hwl : ws.length <= 100) (hn : 200 <= n) (hnn : nn <= 100) (hlen : now.length = 3 + 5 * nn) (hT : RowR h T rs) (hrl : rs.length = items.length)
    (hit:∀ k (hk:k < items.length),∃ j:Nat,j < nn/\(items[k]'hk).r=((3+5 * j:Nat):Int)/\3+5 * j∈ws/\ldV now (3+5 * (j:Int))=0/\ldV now (3+5 * (j:Int)+1)=1/\ldV now (3+5 * (j:Int)+2)=51/\ldV now (3+5 * (j:Int)+4)=pkW (rs[k]'(by omega)).c (rs[k]'(by omega)).v)
    (hend:∀ v0 nx,Yj (n+1) v8 v66 v70 (.sl 3 (items.map It.c) false) (.row T 2 0 items.length) (.sl 1 (now.map cel) false) [v0,.sl 1 (nlN ws) false,.agg s2,.agg s3,.int .i64 (items.length:Int)] h nx=out) :
    ∀ (d k M:Nat) (v0:V),k+d=items.length->d < M->zV M (Yj (n+1) v8 v66 v70 (.sl 3 (items.map It.c) false) (.row T 2 0 items.length) (.sl 1 (now.map cel) false)) [v0,.sl 1 (nlN ws) false,.agg s2,.agg s3,.int .i64 (k:Int)] h=out:=by
 have hlim:1000 < lim:=by decide
 obtain⟨zT,hR⟩:=hT;intro d
 induction d with
 | zero =>
   intro k M v0 hk hM;obtain⟨M,rfl⟩:∃ M',M=M'+1:=⟨M - 1,by omega⟩;obtain rfl:k=items.length:=by omega
   rw[zK];exact hend v0 _
 | succ d ih =>
   intro k M v0 hk hM;obtain⟨M,rfl⟩:∃ M',M=M'+1:=⟨M - 1,by omega⟩;have hkl:k < items.length:=by omega
   rw[zK,<- ih (k+1) M v0 (by omega) (by omega)];generalize zV M (Yj (n+1) v8 v66 v70 (.sl 3 (items.map It.c) false) (.row T 2 0 items.length) (.sl 1 (now.map cel) false))=nx;obtain⟨j,hj,hr,hws,w0,w1,w2,w4⟩:=hit k hkl;obtain⟨pr,e3,hp⟩:=zus n [] ws false (by omega) (by omega) hws;have hx:(items.map It.c)[k]?=some (It.c (items[k]'hkl)):=by rw[zF,zf hkl];rfl
   have hll:(items.map It.c).length=items.length:=zp ..;have hnl:(now.map cel).length=now.length:=zp ..;have cn:∀ b:Nat,b < now.length->(now.map cel)[b]?=some (cel (ldV now (b:Int))):=fun b hb=>by
    rw[zF,zf hb];unfold ldV XZ;rw[if_neg (by omega),XR,zf hb];rfl
   have hrk:(rs.map R.w)[k]?=some (R.w (rs[k]'(by omega))):=by rw[zF,zf (by omega)];rfl
   have c4:=zuf n (rs[k]'(by omega)).c (rs[k]'(by omega)).v [];have a1:IntKind.i64.wrap (((3+5 * j:Nat):Int)+1)=((3+5 * j+1:Nat):Int):=by rw[w64 (by omega) (by omega)];omega
   have a2:IntKind.i64.wrap (((3+5 * j:Nat):Int)+2)=((3+5 * j+2:Nat):Int):=by rw[w64 (by omega) (by omega)];omega
   have a4:IntKind.i64.wrap (((3+5 * j:Nat):Int)+4)=((3+5 * j+4:Nat):Int):=by rw[w64 (by omega) (by omega)];omega
   have ev:WI [(some (V.sl 1 (nlN ws) false)),(Wp h (V.int .i64 ((3+5 * j:Nat):Int)))]=some [V.sl 1 (nlN ws) false,V.int .i64 ((3+5 * j:Nat):Int)]:=rfl;unfold Yj Yc Yl Yi Yx Ya Yr Yq3 Yp;simp only[gv,zg,zi,XT,lsl];rw[show ZI h (V.sl 3 (items.map It.c) false)=some (3,items.map It.c) from rfl,za];simp only[hll];rw[zy,za,zm,if_pos (by simp;omega),z3,zB,XJ hx,za,show ZD 0 (V.iptr 3 (It.c (items[k]'hkl)) 0)=some (V.iptr 3 (It.c (items[k]'hkl)) 0) from rfl,za,Zq,zo,if_pos (by decide),show (It.c (items[k]'hkl))[0]?=some (V.int .i64 (items[k]'hkl).r) from rfl,za,hr,ev,za,z6,e3,j8,if_pos (by rfl),zC,zy,za,zm,if_neg (by simpa using hp),zA,za,a4];rw[show ZI h (V.sl 1 (now.map cel) false)=some (1,now.map cel) from rfl,za];simp only[hnl];rw[Z7,za,zm,if_neg (by simp;omega),z3,zB,XJ (cn (3+5 * j) (by omega)),za,qj,Zq,zo,if_pos (by decide),zcd,za,QV,za,zm,if_neg (by rw[show ((3+5 * j:Nat):Int)=3+5 * (j:Int) by omega,w0];decide)];rw[zA,za,a1,z3,zB,XJ (cn (3+5 * j+1) (by omega)),za,qj,Zq,zo,if_pos (by decide),zcd,za,QV,za,zm,if_neg (by rw[show ((3+5 * j+1:Nat):Int)=3+5 * (j:Int)+1 by omega,w1];decide)];rw[zA,za,a2,z3,zB,XJ (cn (3+5 * j+2) (by omega)),za,qj,Zq,zo,if_pos (by decide),zcd,za,QV,za,zm,if_neg (by rw[show ((3+5 * j+2:Nat):Int)=3+5 * (j:Int)+2 by omega,w2];decide)];rw[zA,za,z3,zB,XJ (cn (3+5 * j+4) (by omega)),za,qj,Zq,zo,if_pos (by decide),zcd,za,zB,Z3 (by omega),za,zq,show jd (V.row T 2 0 items.length) (V.rptr T 2 k 0)=V.rptr T 2 k 0 from rfl,ZJ hR (by decide) hrk,zo,if_pos (by decide),show ((R.w (rs[k]'(by omega))).drop 0 |>.take 2)=[V.int .u8 (rs[k]'(by omega)).c,V.int .i32 (rs[k]'(by omega)).v] from rfl,c4,j8,zC,QV,za,zm,if_neg (by rw[show ((3+5 * j+4:Nat):Int)=3+5 * (j:Int)+4 by omega,w4];simp),za,Xl (by omega)]
theorem zij (c : List Int) (cb : Bool) (hc : ∀ x ∈ c, 0 <= x /\ x < 256) (x1 x2 x3 : Int) (h1 : 0 <= x1 /\ x1 < 256) (h2 : 0 <= x2 /\ x2 < 256) (h3 : 0 <= x3 /\ x3 < 256) (d : List Int) (db : Bool) (hd : ∀ x ∈ d, 0 <= x /\ x < 256) :
    call 1001 10 [.sl 1 (c.map (Qs .u8)) cb,.int .u8 x1,.int .u8 x2,.int .u8 x3,.sl 1 (d.map (Qs .u8)) db] []=some (.ret [.bool true],[]):=by
 refine(zqP 1000 (c.map (Qs .u8)) cb x1 x2 x3 (d.map (Qs .u8)) db []).trans ?_;have key:∃ H,znb 1000 (c.map (Qs .u8)) cb x1 x2 x3 (d.map (Qs .u8)) db=some (.ret [.bool true],H):=by
  have hlim:1000 < lim:=by decide
  by_cases hbig:60 < d.length
  . refine⟨[],?_⟩;unfold znb Yr Yp;rw[if_pos (by simp;omega),zgX 900,zH,zC]
  obtain⟨m0,hm0⟩:∃ p:Nat,(p:Int)=x1 % 10:=⟨(x1 % 10).toNat,by omega⟩;have hmm:IntKind.i64.wrap (Int.tmod x1 10)=(m0:Int):=by
   rw[ZV h1.1,w64 (by omega) (by omega),hm0]
  obtain⟨k,hk0⟩:∃ k:Nat,(k:Int)=1+x2 % 3:=⟨(1+x2 % 3).toNat,by omega⟩;have hk:k=1\/k=2\/k=3:=by omega
  have hkw:IntKind.u8.wrap (1+Int.tmod x2 3)=(k:Int):=by rw[ZV h2.1,w8,hk0] <;> omega
  have hmo:IntKind.i64.wrap (1+(IntKind.i64.wrap (Int.tmod x3 9)))=1+x3 % 9:=by
   rw[ZV h3.1,w64 (n:=x3 % 9) (by omega) (by omega),w64 (by omega) (by omega)]
  generalize hmoe:1+x3 % 9=mo at hmo;have hcap:JO mo<=10:=by
   unfold JO
   (repeat' split) <;> omega
  obtain⟨g1,bl,bo,l,w,c1,hw,C,b1,b2,hne,hb1,hb2,F1⟩:=zmD 999 hc cb m0 (by omega) (by omega) [];have hnn:=C.lo;have hlen:=C.len;have hol:=C.ok.len;have hwl:=C.wle;generalize hon:(J0 c (nC c)).take w=on;have honl:on.length=w:=by rw[<- hon,z5];omega
  have hond:on.Nodup:=by rw[<- hon];exact List.Sublist.nodup (JX w _) C.ok.nd
  have honm:∀ x∈on,∃ j:Nat,j < nC c/\x=3+5 * j:=fun x hx=>by rw[<- hon] at hx;exact(C.ok.mem x).1 (Zs hx)
  have hch:=C.ch;have hact:∀ j:Nat,j < nC c->XZ l (3+5 * (j:Int)+1)=some (if 3+5 * j∈on then 1 else 0):=fun j hj=>by
   by_cases h:3+5 * j∈on
   . rw[if_pos h];exact C.act1 j hj (by rw[hon];exact h)
   . rw[if_neg h];exact C.off j hj (by rw[hon];exact h)
  have hpass:=C.pass;have hreq:=C.req;rw[hon] at hch;generalize hnC:nC c=nn at *;generalize hoC:J0 c nn=ord at *;obtain⟨g2,q1,q2,q3,e2⟩:=zfq 999 hd (x2:=x2) (x3:=x3) (db:=db) (v8:=.row bo 1 0 w) hlen hnn.2 nn 0 (1000 - nn) g1 true (by omega) b1;rw[show 1000 - nn+nn=1000 by omega] at e2;have b2':=(q3 bo (Ne.symm hne)).trans b2;have hll:(lQ d nn l).length=l.length:=zbn ..;obtain⟨g3,m,rb,b,r,st,c3,M3,B3,F3,hm,hrb,hb⟩:=zpN 997 (by rw[hll];omega) (by rw[hll];omega) q1;rw[hll] at c3 M3 B3;have hml:=M3.lt;obtain⟨g4,o,s,cc,Y,c4,O4,L4,F4,X4⟩:=zgZ 997 hk mo false g3;obtain⟨g5,o2,s2,cc2,Y2,c5,O5,L5,F5,X5⟩:=zgZ 997 hk mo true g4;have kb3:=(F3.old _ (zQ b2') (by simp)).trans b2';have kb5:=(F5 _ (by have:=zQ kb3;omega)).trans ((F4 _ (zQ kb3)).trans kb3);have M5:MemAt g5 m rb l.length (lQ d nn l) st:=(M3.keep (F4 m hml.1) (F4 rb hml.2)).keep (F5 m (by omega)) (F5 rb (by omega));have O45:ObAt k g5 o s cc none Y (JO mo) false ([],[]):=O4.keep fun y hy=>F5 y (O4.lt y hy);have A0:SgR (obC k o s cc (JO mo) false) g5 m rb l.length (⟨agT 20 0 0 0 0 0 0 0,[],lQ d nn l,st⟩,([],[])) (.sl 0 [] true) (obB o cc none Y) :=
   ⟨M5,⟨none,rfl,rfl⟩,⟨none,Y,rfl,O45⟩,fun h=>by have:=X4 _ h;omega,fun h=>by have:=X4 _ h;omega⟩
  have hr0:(obC k o s cc (JO mo) false).run [] (([],[]):St)=([],([],[])):=by
   rcases hk with rfl|rfl|rfl <;> rfl
  obtain⟨j,sF,hj,hpc,g,D⟩:=zul (run:=(obC k o s cc (JO mo) false).run) (so:=(([],[]):St)) (q:=qD d) (l0:=lQ d nn l) (obC k o s cc (JO mo) false).rl hr0 hnn hond honm (by omega) (by rw[hll,hlen]) (by rw[KN (zci d l (by decide) nn (fun j _=>by omega)),hpass]) (by rw[KN (zci d l (by decide) nn (fun j _=>by omega))];exact zs0 (fun x hx=>by obtain⟨j,_,h⟩:=honm x hx;exact⟨j,h⟩) hch nn) (fun j hj=>by rw[zci d l (by omega) nn (fun i _=>by omega)];exact hact j hj) (fun j hj=>by rw[zsZ hd hlen hreq nn j hj (zn _),if_pos hj]) (st:=st);have hrun:∀ (os:List O) (so:St),(obC k o s cc (JO mo) false).run os so=((zaj k (JO mo) os so).2,(zaj k (JO mo) os so).1):=fun _ _=>rfl;obtain⟨g6,bat,X6,c6,A6,L6,F6,N6⟩:=zsX (obC k o s cc (JO mo) false) 989 (pp:=1) (by show 500+(JO mo+100)<=989;omega) (fun x hx=>⟨by have:=hx.1;omega,by have:=hx.2;omega⟩) g (by omega) hpc A0;have hcl:=@zfp on (qD d) nn;have hperm:=zun (d:=d) hond honm;have hfl:((JH on (qD d) nn).filter (wtQ (qD d))).length<=(JH on (qD d) nn).length:=List.length_filter_le ..;have hwsl:=zii d nn;have hcm:∀ x∈JH on (qD d) nn,∃ j:Nat,j < nn/\x=3+5 * j:=fun x hx=>by
   rcases(YK nn).1 hx with h|⟨j,h1,h2,_⟩
   . exact honm x h
   . exact⟨j,h1,h2⟩
  have hcn:=zaE (q:=qD d) hond nn;generalize hcur:JH on (qD d) nn=cur at *;generalize hxs:(cur.filter (wtQ (qD d))).map (itQ (qD d))=xs at *;have hxl:xs.length=(cur.filter (wtQ (qD d))).length:=by rw[<- hxs,zp]
  have hmr:xs.map It.r=(cur.filter (wtQ (qD d))).map (Nat.cast:Nat->Int):=by rw[<- hxs,List.map_map];rfl
  have hrs:(zaj k (JO mo) (xs.map opO) (([],[]):St)).2.length=xs.length:=by rw[zk2,zp]
  rw[hrun] at c6 A6 D;simp only at c6 A6 D;generalize hrr:zaj k (JO mo) (xs.map opO) (([],[]):St)=Q at *;have hrt:=zn5 hrs;have htl:=Yo hrs xs.length;have hopt:(Qa xs Q.2 xs.length).map opO=xs.map opO:=by rw[zg0 hrs];exact zk3 hrs
  have hsk:∀ (i:Nat) (x:It) (r:R),(Qa xs Q.2 xs.length)[i]?=some x->Q.2[i]?=some r->x.s=pkW r.c r.v:=fun i x r hx hr=>by
   rw[zg0 hrs] at hx;exact zur hx hr
  generalize Qa xs Q.2 xs.length=ys at D c6 A6 hrt htl hopt hsk;have hys:ys.length=(wsN d nn).length:=by rw[htl,hxl,hperm.length_eq]
  have hit:∀ i (hi:i < ys.length),∃ j:Nat,j < nn/\(ys[i]'hi).r=((3+5 * j:Nat):Int)/\3+5 * j∈wsN d nn/\ldV sF.l (3+5 * (j:Int))=0/\ldV sF.l (3+5 * (j:Int)+1)=1/\ldV sF.l (3+5 * (j:Int)+2)=51/\ldV sF.l (3+5 * (j:Int)+4)=pkW (Q.2[i]'(by omega)).c (Q.2[i]'(by omega)).v:=by
   intro i hi;have hm:(ys[i]'hi).r∈ys.map It.r:=Zg (ZN hi);rw[hrt,hmr] at hm;obtain⟨y,hy,ey⟩:=ZL.1 hm;obtain⟨jy,hj1,rfl⟩:=hcm y (Zj.1 hy).1;have ey:((3+5 * jy:Nat):Int)=(ys[i]'hi).r:=ey;obtain⟨t1,t2,t3⟩:=D.told _ (ZN hi);have t4:=hsk i _ _ (zf hi) (zf (by omega));have t5:=D.act jy hj1;rw[if_pos (Zj.1 hy).1] at t5;rw[<- ey,show ((3+5 * jy:Nat):Int)=3+5 * (jy:Int) by omega] at t1 t2 t3;exact⟨jy,hj1,ey.symm,hperm.mem_iff.1 hy,t1,t5,t2,t3.trans t4⟩
  have hmX:m ∉ obB o2 cc2 none Y2:=fun h=>by have:=X5 _ h;omega
  have hrX:rb ∉ obB o2 cc2 none Y2:=fun h=>by have:=X5 _ h;omega
  have hbX:bo ∉ obB o2 cc2 none Y2:=fun h=>by have:=X5 _ h;have:=zQ kb3;omega
  have O26:ObAt k g6 o2 s2 cc2 none Y2 (JO mo) true ([],[]):=O5.keep fun y hy=>F6 y (O5.lt y hy) (fun e=>hmX (e ▸ hy)) (fun e=>hrX (e ▸ hy)) (fun h=>by have:=O4.lt y h;have:=X5 y hy;omega);obtain⟨g7,X7,T,c7,R7,⟨cb7,Y7,_,O7⟩,t1,t2,F7⟩:=(obC k o2 s2 cc2 (JO mo) true).dof 992 (ys.map opO) ⟨none,Y2,rfl,O26⟩ (fun x hx=>by obtain⟨y,_,rfl⟩:=ZL.1 hx;exact zsD _) (by rw[zp];omega) (by show 2 * (ys.map opO).length+(JO mo+100)<=992;rw[zp];omega);have hQ2:(obC k o2 s2 cc2 (JO mo) true).run (ys.map opO) ([],[])=(Q.2,Q.1):=by
   rw[hopt,<- hrr];rfl
  rw[hQ2] at R7 O7;rw[zp] at c7;have hml6:=A6.mem.lt;have M7:MemAt g7 m rb l.length sF.l sF.st:=A6.mem.keep (F7.old m hml6.1 hmX) (F7.old rb hml6.2 hrX);have kb6:=(F6 bo (zQ kb5) (by have:=zQ b2';omega) (by have:=zQ b2';omega) (fun h=>by have:=X4 _ h;have:=zQ kb3;omega)).trans kb5;have kb7:=(F7.old bo (zQ kb6) hbX).trans kb6;have P7:=(obC k o s cc (JO mo) false).keep A6.obj (fun x hx=>F7.old x ((obC k o s cc (JO mo) false).lt A6.obj x hx) (fun h=>by
   have h5:=O5.lt x h;have h6:=X5 x h;rcases N6 x hx with e|e
   . have:=O4.lt x e;omega
   . omega))
  have c8:=zkN 999 M7 (by rw[D.len];omega);obtain⟨g9,m9,rb9,b9,r9,st9,c9,M9,B9,F9,_,_,_⟩:=zsN 997 sF.l false (by rw[D.len];omega) (by rw[D.len];omega) g7;have P9:=(obC k o s cc (JO mo) false).keep P7 (fun x hx=>F9.old x ((obC k o s cc (JO mo) false).lt P7 x hx) (by simp));have O9:ObAt k g9 o2 s2 cc2 cb7 Y7 (JO mo) true Q.1:=O7.keep fun y hy=>F9.old y (O7.lt y hy) (by simp);have kb9:=(F9.old bo (zQ kb7) (by simp)).trans kb7;have c10:=zob 996 B9 (by rw[D.len]) (by omega) (by omega) hcm hcn (by omega) D.ch;have c11:=zgX 900 g9;obtain⟨cb8,Y8,_,O8⟩:=P9;obtain⟨g10,r10,c12,R10,L10,F10⟩:=zaX 996 O8 (by omega);have O10:ObAt k g10 o2 s2 cc2 cb7 Y7 (JO mo) true Q.1:=O9.keep fun y hy=>F10 y (O9.lt y hy);obtain⟨g11,r11,c13,R11,L11,F11⟩:=zaX 996 O10 (by omega);have S10:zh9 g11 r10 (Q.1.1.map Prod.fst):=(R10.keep fun b h1 h2=>F11 b h2).sees;have hroom:=O10.room;have c14:=zmm 999 S10 R11.sees (by rw[zp];omega) (by rw[zp];omega);have B11:RefAt g11 b9 r9 sF.l.length sF.l st9:=(B9.keep (F10 b9 B9.lt)).keep (F11 b9 (by have:=B9.lt;omega));have c15:=zuh 995 B11 (by rw[D.len]) (by omega) (by omega) hcm hcn (by omega) D.ch (fun j hj=>by
   have:=D.act j hj;by_cases h:3+5 * j∈cur
   . rw[if_pos h] at this;exact .inl ⟨this,h⟩
   . rw[if_neg h] at this;exact .inr ⟨this,h⟩)
  refine⟨g11,?_⟩;obtain⟨u1,u2,u3,hr⟩:∃ a b c,r=[a,b,c]:=⟨_,_,_,B3.1⟩;subst hr;obtain⟨y1,y2,y3,hr9⟩:∃ a b c,r9=[a,b,c]:=⟨_,_,_,B9.1⟩;subst hr9;have es:ZI g2 (.row bl 1 0 l.length)=some (1,(lQ d nn l).map cel):=by have:=Jh q1;rwa[zp,hll] at this
  have esT:ZI g7 (.row T 2 0 ys.length)=some (2,Q.2.map R.w):=by
   obtain⟨z,hz⟩:=R7;have:=Jh hz;rwa[zp,hrs,<- htl] at this
  have hn2:(sF.l.map cel)[2]?=some (cel 51):=by
   have hp:=D.pass;have hl5:=D.len;unfold ldV XZ at hp;rw[if_neg (by decide),show (2:Int).toNat=2 from rfl,zf (by omega)] at hp;rw[zF,zf (by omega)];rw[show sF.l[2]'(by omega)=51 from hp];rfl
  unfold znb Yr Yp;rw[if_neg (by simp;omega),hmm,c1,zH];simp only[zb,zh,za];refine e2.trans ?_;rw[show 1000 - nn=(999 - nn)+1 by omega,zK];generalize zV (999 - nn) (KD (999+1) x2 x3 (d.map (Qs .u8)) db (.row bl 1 0 l.length) (.row bo 1 0 w))=nx;unfold KD Yc Yl Yi Yw Yx Yr Yn Yq3 zbd Yp;simp only[gv,zg,zi,lsl];rw[es,za];simp only[zp,hll];rw[zy,za,zm,if_neg (by simp;omega),c3,zH];simp only[zb,zh,za];rw[ca,zcc,if_pos (by rfl),if_pos (by exact zn 3),hkw,hmo,c4,zH,zC,c5,zH,zC,KV,za,zm,if_neg (by decide),K1,za,zm,if_neg (by decide),K1,za,zm,if_neg (by decide),c6,zH];simp only[zb,zh,za];rw[ca,if_pos (zch _ _),if_pos (Js (zch _ _)),zvS];refine zs1 999 (v8:=.row bo 1 0 w) (v61:=.ptr m 0) (v66:=.ptr o 0) (v70:=.ptr o2 0) (items:=ys) (h:=g6) (s0:=nlN (wsN d nn)) (r:=[u1,u2,u3]) (tv:=sF.T.v bat) (by omega) (fun nx=>?_) ys.length 0 1000 (by omega) (by omega);unfold Kg Yc Yl Yi Yx Ya Yr Yp;simp only[gv,zg,zi,XT,lsl];rw[show ZI g6 (V.sl 3 (ys.map It.c) false)=some (3,ys.map It.c) from rfl,za];simp only[zp];rw[zy,za,zm,if_neg (by simp),c7,zH,zC,show (sF.T.v bat)[1]?=some (.int .i64 sF.T.pc) from rfl,za,KU,za,zm,if_neg (by simp[hpc]),show ZI g7 (V.sl 3 (ys.map It.c) false)=some (3,ys.map It.c) from rfl,za];simp only[zp,W6];rw[if_neg (by simp[hys]),esT,za,za];simp only[zp];rw[if_neg (by rw[hrs,htl];simp),c8,zH,zC];refine zs2 999 (v8:=.row bo 1 0 w) (v66:=.ptr o 0) (v70:=.ptr o2 0) (items:=ys) (ws:=wsN d nn) (rs:=Q.2) (now:=sF.l) (T:=T) (nn:=nn) (h:=g7) (s2:=[u1,u2,u3]) (s3:=sF.T.v bat) (v0:=.bool false) (by omega) (by omega) (by omega) (by omega) D.len R7 (by omega) hit (fun v0 nx=>?_) ys.length 0 1000 (.bool false) (by omega) (by omega);unfold Yj Yc Yl Yi Yx Ya Yr Yq3 Yp;simp only[gv,zg,zi,XT,lsl];rw[show ZI g7 (V.sl 3 (ys.map It.c) false)=some (3,ys.map It.c) from rfl,za];simp only[zp];rw[zy,za,zm,if_neg (by simp),c9,zH];simp only[zb,zh,za];rw[ca,zcc,zaK,if_pos (by rfl),if_pos (by exact zn 3),c10,zH];simp only[zb,zh,za];rw[c11,zH,zC,zm,if_pos rfl,zm,if_pos rfl,show ZI g9 (V.sl 1 (nlN cur) false)=some (1,nlN cur) from rfl,za,Qm kb9 (z2 _) (by rw[W6];omega),za];simp only[W6,zR,z5];rw[if_pos (by simp;omega),XJ hn2,za,Zq,zo,if_pos (by decide),zcd,za,KW,za,zm,if_pos (by decide),c12,zH,zC,c13,zH,zC,c14,zH,zC,zm,if_pos rfl,c15,zH,zC,ZT,za];simp
 obtain⟨H,key⟩:=key;rw[key];exact Y0 (by simp[Qs]) (by simp)
end Go.Proofs.Tryz
