/- So1 Kp Kq Kr Kv Kx Lops Sops Kyw Ko Ro Rp Rq Rd Re Rf Pz Vf Pv Ps Ts: what the law needs of these -/import Derived.Test.YtclhmdhdpejhhaaGreatJdo13
set_option linter.unusedVariables false
set_option linter.unusedSimpArgs false
namespace Go.Proofs.Tryz
open Go.L Go.Rp
set_option maxRecDepth 100000
abbrev iL(l:List Int):List (List V):=l.map (Xc .i64)
theorem wN{e:Int}{n:Nat}(h:e=(n:Int))(hn:n < lim):IntKind.i64.wrap e=(n:Int):=by unfold lim at hn;subst h;rw[w64] <;> omega
theorem zhb(l:List Int)(i:Nat)(x:Int):(iL l).set i [V.int .i64 x]=iL (l.set i x):=by
 unfold iL;rw[Jt];rfl
theorem XN(l:List Int):(iL l).length=l.length:=by simp
theorem Jb{l:List Int}{i:Nat}{x:Int}(h:l[i]?=some x):(iL l)[i]?=some [V.int .i64 x]:=by
 unfold iL;rw[zG,h];rfl
theorem zc1(a b:V):setR [a] 0 [b]=[b]:=rfl
theorem jh{n m k:Nat}:(1=1/\n < m/\(some k:Option Nat)≠some 0) ↔ (n < m/\(k == 0)=false):=by simp
theorem zc2:(1=1/\0 < 1/\0+1<=1) ↔ True:=by decide
theorem Yp{α:Type}(P:List α)(x:α)(R:List α){i:Nat}(h:i=P.length):(P++x :: R)[i]?=some x:=by subst h;simp
theorem qv{α:Type}(P:List α)(x y:α)(R:List α){i:Nat}(h:i=P.length):(P++x :: R).set i y=P++y :: R:=by subst h;simp
theorem zuH (P A M B S : List Int) (x y : Int) {i j : Nat} (hi : i = P.length) (hj : j = P.length + 1 + A.length + M.length) :
    (P++(x :: A++(M++(y :: B++S))))[i]?=some x/\(P++(x :: A++(M++(y :: B++S))))[j]?=some y/\(P++(y :: A++(M++(y :: B++S))))[j]?=some y ∧
    (P++(x :: A++(M++(y :: B++S)))).set i y=P++(y :: A++(M++(y :: B++S)))/\(P++(y :: A++(M++(y :: B++S)))).set j x=(P++[y])++(A++((M++[x])++(B++S))):=by
 have e:∀ u:Int,P++(u :: A++(M++(y :: B++S)))=(P++u :: (A++M))++y :: (B++S):=fun u=>by simp
 have hl:∀ u:Int,j=(P++u :: (A++M)).length:=fun u=>by simp;omega
 refine⟨Yp P x _ hi,?_,?_,qv P x y _ hi,?_⟩
 . rw[e];exact Yp _ _ _ (hl x)
 . rw[e];exact Yp _ _ _ (hl y)
 . rw[e,qv _ _ _ _ (hl y)];simp
theorem zgd(n:Nat)(H:zd)(a b k:Nat)(S:List Int):∀ (A B P M:List Int) (i Mx:Nat),B.length=A.length->i+A.length=k->a+i=P.length->b+i=P.length+A.length+M.length->P.length+A.length+M.length+B.length < lim->A.length < Mx →
    zR Mx (zaU n a b k) [.sl 1 (iL (P++(A++(M++(B++S))))) false,.int .i64 (i:Int)] H=some (.ret [.sl 1 (iL (P++(B++(M++(A++S))))) false],H)
 | _,_,_,_,i,0,_,_,_,_,_,h=>by omega
 | [],B,P,M,i,Mx+1,hB,hk,ha,hb,hl,hm=>by
   obtain rfl:B=[]:=by cases B <;> simp_all
   have hik:¬ (i:Int) < (k:Int):=by simp at hk;omega
   rw[zA];simp only[zaU,gv,zh,zf,zr,za,zm,hik,decide_false,zp,if_false,lsl,zU]
 | x :: A,[],P,M,i,Mx+1,hB,hk,ha,hb,hl,hm=>by simp at hB
 | x :: A,y :: B,P,M,i,Mx+1,hB,hk,ha,hb,hl,hm=>by
   simp only[zD] at hB hk hb hl hm;have hik:(i:Int) < (k:Int):=by omega
   have e1:IntKind.i64.wrap ((a:Int)+(i:Int))=((a+i:Nat):Int):=wN (by omega) (by omega);have e2:IntKind.i64.wrap ((b:Int)+(i:Int))=((b+i:Nat):Int):=wN (by omega) (by omega);have e3:IntKind.i64.wrap ((i:Int)+1)=((i+1:Nat):Int):=wN (by omega) (by omega);obtain⟨s1,s2,s3,s4,s5⟩:=zuH P A M B S x y ha (show b+i=P.length+1+A.length+M.length by omega);have l1:a+i < (P++(x :: A++(M++(y :: B++S)))).length:=(zi.1 s1).1;have l2:b+i < (P++(x :: A++(M++(y :: B++S)))).length:=(zi.1 s2).1;have l3:b+i < (P++(y :: A++(M++(y :: B++S)))).length:=(zi.1 s3).1;have ih:=zgd n H a b k S A B (P++[y]) (M++[x]) (i+1) Mx (by omega) (by omega) (by simp;omega) (by simp;omega) (by simp;omega) (by omega);rw[zA];simp only[zaU,gv,zh,zf,zr,za,zm,hik,decide_true,if_true,zH,e1,e2,e3,Za,zy,lsl,XN,jh,Nat.reduceBEq,and_true,if_true,l1,l2,l3,Jb s1,Jb s2,zb,V.cells,zD,zP,zq,zc2,zc1,zhb,s4,
    Jb s3,s5,ih]
   simp
theorem zbO (n : Nat) (H : zd) (c : V) (a b k : Nat) (P A M B S : List Int) (hB : B.length = A.length) (hk : A.length = k) (ha : a = P.length) (hb : b = P.length + A.length + M.length) (hl : P.length + A.length + M.length + B.length < lim) (hn : k + 2 <= n) :
    call n 251 [.sl 1 (iL (P++(A++(M++(B++S))))) false,.int .i64 (a:Int),.int .i64 (b:Int),.int .i64 (k:Int),c] H=some (.ret [.sl 1 (iL (P++(B++(M++(A++S))))) false],H):=by
 obtain⟨N,rfl⟩:∃ N,n=N+1:=⟨n - 1,by omega⟩;rw[zqq];unfold zts;exact zgd N H a b k S A B P M 0 N hB (by omega) (by omega) (by omega) hl (by omega)
theorem zec(n:Nat)(H:zd)(c:V)(m:Nat):∀ (Mx:Nat) (A B P S:List Int),A≠[]->B≠[]->m=P.length+A.length->P.length+A.length+B.length < lim->A.length+B.length<=Mx->A.length+B.length+2<=n →
    zR Mx (zaV n m c) [.sl 1 (iL (P++(A++(B++S)))) false,.int .i64 (A.length:Int),.int .i64 (B.length:Int)] H=some (.ret [.sl 1 (iL (P++(B++(A++S)))) false],H)
 | 0,A,B,P,S,hA,hB,_,_,h,_=>by
   cases A with
   | nil=>exact absurd rfl hA
   | cons=>simp at h
 | Mx+1,A,B,P,S,hA,hB,hm,hl,hx,hn=>by
   have a0:0 < A.length:=ZS.2 hA;have b0:0 < B.length:=ZS.2 hB;have e1:IntKind.i64.wrap ((m:Int) - (A.length:Int))=((P.length:Nat):Int):=wN (by omega) (by omega);rw[zA];by_cases h1:A.length=B.length
   . have hne:((A.length:Int) != (B.length:Int))=false:=by simp[h1]
     have hs:=zbO n H c P.length m A.length P A [] B S h1.symm rfl rfl (by simpa using hm) (by simp;omega) (by omega);simp only[zU] at hs;simp only[zaV,gv,zh,zf,jN,za,zm,hne,zp,if_false,ZQ,e1,lsl];rw[hs,Wv]
   . have hne:((A.length:Int) != (B.length:Int))=true:=by simp;omega
     by_cases h2:B.length < A.length
     ·
      have hgt:(A.length:Int) > (B.length:Int):=by omega
      obtain⟨A1,A2,rfl,hA1⟩:∃ A1 A2,A=A1++A2/\A1.length=B.length:=⟨A.take B.length,A.drop B.length,(Zy _ _).symm,by rw[Zh];omega⟩;rw[zE] at *;have hs:=zbO n H c P.length m B.length P A1 A2 B S hA1.symm hA1 rfl (by omega) (by omega) (by omega);have e2:IntKind.i64.wrap (((A1.length+A2.length:Nat):Int) - (B.length:Int))=((A2.length:Nat):Int):=wN (by omega) (by omega);have ih:=zec n H c m Mx A2 A1 (P++B) S (by rintro rfl;simp at h2;omega) (by rintro rfl;simp at hA1;omega) (by simp;omega) (by simp;omega) (by omega) (by omega);simp only[List.append_assoc] at hs ih ⊢;rw[hA1] at ih;simp only[zaV,gv,zh,zf,jN,za,zm,hne,if_true,Xy,hgt,decide_true,ZQ,e1,lsl];rw[hs,Wv,e2,ih]
     . have hgt:¬ (A.length:Int) > (B.length:Int):=by omega
       obtain⟨B1,B2,rfl,hB2⟩:∃ B1 B2,B=B1++B2/\B2.length=A.length:=⟨B.take (B.length - A.length),B.drop (B.length - A.length),(Zy _ _).symm,by rw[Xs];omega⟩;rw[zE] at *;have hs:=zbO n H c P.length (P.length+A.length+B1.length) A.length P A B1 B2 S hB2 rfl rfl rfl (by omega) (by omega);have e2:IntKind.i64.wrap ((m:Int)+((B1.length+B2.length:Nat):Int))=((m+(B1.length+B2.length):Nat):Int):=wN (by omega) (by omega);have e3:IntKind.i64.wrap (((m+(B1.length+B2.length):Nat):Int) - (A.length:Int))=((P.length+A.length+B1.length:Nat):Int):=wN (by omega) (by omega);have e4:IntKind.i64.wrap (((B1.length+B2.length:Nat):Int) - (A.length:Int))=((B1.length:Nat):Int):=wN (by omega) (by omega);have ih:=zec n H c m Mx B2 B1 P (A++S) (by rintro rfl;simp at hB2;omega) (by rintro rfl;simp at h1;omega) (by omega) (by omega) (by omega) (by omega);simp only[List.append_assoc] at hs ih ⊢;rw[hB2] at ih;simp only[zaV,gv,zh,zf,jN,za,zm,hne,if_true,Xy,hgt,decide_false,zp,if_false,ZQ,zH,e1,e2,e3,lsl];rw[hs,Wv,e4,ih]
theorem zqt (n : Nat) (H : zd) (c : V) (a m b : Nat) (P A B S : List Int) (hA : A ≠ []) (hB : B ≠ []) (ha : a = P.length) (hm : m = P.length + A.length) (hb : b = P.length + A.length + B.length) (hl : P.length + A.length + B.length < lim) (hn : A.length + B.length + 3 <= n) :
    call n 250 [.sl 1 (iL (P++(A++(B++S)))) false,.int .i64 (a:Int),.int .i64 (m:Int),.int .i64 (b:Int),c] H=some (.ret [.sl 1 (iL (P++(B++(A++S)))) false],H):=by
 obtain⟨N,rfl⟩:∃ N,n=N+1:=⟨n - 1,by omega⟩;have e1:IntKind.i64.wrap ((m:Int) - (a:Int))=((A.length:Nat):Int):=wN (by omega) (by omega);have e2:IntKind.i64.wrap ((b:Int) - (m:Int))=((B.length:Nat):Int):=wN (by omega) (by omega);rw[zsw];unfold zuC;rw[e1,e2];exact zec N H c m N A B P S hA hB hm hl (by omega) (by omega)
end Go.Proofs.Tryz
namespace Go.Proofs.Tryz
open Go.L Go.Rp
set_option maxRecDepth 100000
structure CmpOk(n0:Nat)(c:V)(H:zd)(K:Int->Int)(D:Int->Prop):Prop where
 ex:∃ f caps,c=.fn f caps/\okV prog 3 f=true/\X0 f=true/\∀ n,n0<=n->∀ x y,D x->D y->∃ q,call n f ([.int .i64 x,.int .i64 y]++caps) H=some (.ret [.int .i64 q],H)/\(q < 0 ↔ K x < K y)
theorem adj (Q T : List Int) (y x : Int) {i j : Nat} (hi : i = Q.length) (hj : j = Q.length + 1) :
    (Q++y :: x :: T)[i]?=some y/\(Q++y :: x :: T)[j]?=some x/\(Q++y :: x :: T).set j y=Q++y :: y :: T/\(Q++y :: x :: T).set i x=Q++x :: x :: T ∧
    (Q++y :: y :: T)[i]?=some y/\(Q++x :: x :: T)[j]?=some x/\(Q++y :: y :: T).set i x=Q++x :: y :: T/\(Q++x :: x :: T).set j y=Q++x :: y :: T:=by
 have e:∀ u v:Int,Q++u :: v :: T=(Q++[u])++v :: T:=fun u v=>by simp
 have hl:∀ u:Int,j=(Q++[u]).length:=fun u=>by simp;omega
 refine⟨Yp _ _ _ hi,?_,?_,qv _ _ _ _ hi,Yp _ _ _ hi,?_,qv _ _ _ _ hi,?_⟩
 . rw[e];exact Yp _ _ _ (hl y)
 . rw[e,qv _ _ _ _ (hl y)];simp
 . rw[e];exact Yp _ _ _ (hl x)
 . rw[e,qv _ _ _ _ (hl x)];simp
section
variable {K:Int->Int} {D:Int->Prop} {H:zd} {c:V} {n0:Nat} {p:Nat->Int}
theorem zge(hc:CmpOk n0 c H K D)(n a i:Nat)(st1:List V)(next3:List V->zd->Option (Res×zd))(hst:gv st1 1=.int .i64 (i:Int))(hi:i+1 < lim)(hn:n0<=n)(R:List Int):∀ (r:List Int) (x:Int) (b P:List Int) (j Mx:Nat),
    a=P.length->j=P.length+r.length->j+b.length+R.length+1 < lim->(∀ y∈r,D y)->D x->r.length < Mx →
    zR Mx (zcZ n a c st1 next3) [.sl 1 (iL (P++(r.reverse++(x :: (b++R))))) false,.int .i64 (j:Int)] H=next3 [.sl 1 (iL (P++(qF K r x b++R))) false,.int .i64 ((i+1:Nat):Int)] H
 | _,_,_,_,_,0,_,_,_,_,_,h=>by omega
 | [],x,b,P,j,Mx+1,ha,hj,hl,hr,hx,hM=>by
   have hja:¬ (j:Int) > (a:Int):=by simp at hj;omega
   have e1:IntKind.i64.wrap ((i:Int)+1)=((i+1:Nat):Int):=wN (by omega) hi;rw[zA];simp only[zcZ,gv,zh,zf,Xy,za,zm,hja,decide_false,zp,if_false,lsl];simp only[gv] at hst;simp only[hst,zH,za,e1,qF,List.reverse_nil,zU,Z1]
 | y :: r,x,b,P,j,Mx+1,ha,hj,hl,hr,hx,hM=>by
   obtain⟨f,caps,hcf,hok,hk,hcmp⟩:=hc.ex;have hfn:∀ k:Nat->List V->Option (Res×zd),fnK c k=k f caps:=fun k=>by rw[hcf];rfl
   simp only[zD] at hj hM;have hja:(j:Int) > (a:Int):=by omega
   have hL:P++((y :: r).reverse++(x :: (b++R)))=(P++r.reverse)++y :: x :: (b++R):=by simp
   have e1:IntKind.i64.wrap ((i:Int)+1)=((i+1:Nat):Int):=wN (by omega) hi;have e2:IntKind.i64.wrap ((j:Int) - 1)=((j - 1:Nat):Int):=wN (by omega) (by omega);obtain⟨s1,s2,s3,s4,s5,s6,s7,s8⟩:=adj (P++r.reverse) (b++R) y x (i:=j - 1) (j:=j) (by simp;omega) (by simp;omega);have l1:=(zi.1 s1).1;have l2:=(zi.1 s2).1;have l5:=(zi.1 s5).1;obtain⟨q,hq,hqk⟩:=hcmp n hn x y hx (hr y (by simp));have ih:=zge hc n a i st1 next3 hst hi hn R r x (y :: b) P (j - 1) Mx ha (by omega) (by simp;omega) (fun z hz=>hr z (zw _ hz)) hx (by omega);rw[zA,hL];simp only[zcZ,gv,zh,zf,Xy,za,zm,hja,decide_true,if_true,Za,zy,lsl,XN,jh,Nat.reduceBEq,and_true,l1,l2,Jb s1,Jb s2,zb,ZQ,e2,hfn,hok,hk];rw[hq,zM];simp only[zx,zr,za,zm];by_cases hxy:K x < K y
   . have hq0:q < 0:=hqk.2 hxy;simp only[hq0,decide_true,if_true,Za,zy,za,Jb s1,Jb s2,zb,V.cells,zD,zP,zq,zc2,zc1,zhb,s3,XN,l1,l2,l5,Jb s5,s7,if_true];rw[qF,if_pos hxy];have hL2:(P++r.reverse)++x :: y :: (b++R)=P++(r.reverse++(x :: (y :: b++R))):=by simp
     rw[hL2];exact ih
   . have hq0:¬ q < 0:=fun h=>hxy (hqk.1 h);simp only[gv] at hst;simp only[hq0,decide_false,zp,if_false,hst,zH,za,e1];rw[qF,if_neg hxy];simp
theorem zjk(hc:CmpOk n0 c H K D)(n lo len:Nat)(hn:n0<=n)(hn2:len<=n)(hlim:lo+len+1 < lim)(P S:List Int)(hP:lo=P.length)(hD:∀ x∈rng p lo len,D x)(hS:lo+len+S.length < lim):∀ (d k Mx:Nat),1<=k->(k+d=len\/(len=0/\k=1/\d=0))->d < Mx →
    zR Mx (zaX n lo ((lo+len:Nat):Int) c) [.sl 1 (iL (P++(sR K p lo (min k len)++(rng p (lo+k) (len - k)++S)))) false,.int .i64 ((lo+k:Nat):Int)] H=some (.ret [.sl 1 (iL (P++(sR K p lo len++S))) false],H)
 | d,k,0,_,_,h=>by omega
 | 0,k,Mx+1,h1,hk,_=>by
   have hik:¬ ((lo+k:Nat):Int) < ((lo+len:Nat):Int):=by omega
   have hmin:min k len=len:=by omega
   have hz:len - k=0:=by omega
   rw[zA];simp only[zaX,gv,zh,zf,zr,za,zm,hik,decide_false,zp,if_false,lsl,hmin,hz];rfl
 | d+1,k,Mx+1,h1,hk,hM=>by
   have hkl:k+(d+1)=len:=by omega
   have hik:((lo+k:Nat):Int) < ((lo+len:Nat):Int):=by omega
   have hmin:min k len=k:=by omega
   have hr:rng p (lo+k) (len - k)=p (lo+k) :: rng p (lo+(k+1)) (len - (k+1)):=by
    rw[show len - k=(len - (k+1))+1 by omega,zjh,ZT]
   have ih:=zjk hc n lo len hn hn2 hlim P S hP hD hS d (k+1) Mx (by omega) (by omega) (by omega);have hm2:min (k+1) len=k+1:=by omega
   rw[hm2] at ih;have hDk:∀ y∈(sR K p lo k).reverse,D y:=fun y hy=>hD y (by
    obtain⟨i,h1,h2,h3⟩:=zbN.1 (List.mem_reverse.1 hy);exact jf.2 ⟨i,h1,by omega,h3⟩)
   have inner := zge hc n lo (lo + k) [.sl 1 (iL (P ++ (sR K p lo k ++ (rng p (lo + k) (len - k) ++ S)))) false, .int .i64 ((lo + k : Nat) : Int)] (zR Mx (zaX n lo ((lo + len : Nat) : Int) c)) rfl (by omega) hn (rng p (lo + (k + 1)) (len - (k + 1)) ++ S)
    (sR K p lo k).reverse (p (lo+k)) [] P (lo+k) n hP (by rw[JS,Ke];omega) (by rw[zE,zc0];simp;omega) hDk (hD _ (jf.2 ⟨_,by omega,by omega,rfl⟩)) (by rw[JS,Ke];omega)
   rw[QY,zU] at inner;rw[zA,hmin];simp only[zaX,gv,zh,zf,zr,za,zm,hik,decide_true,if_true,lsl];have hL:P++(sR K p lo k++(rng p (lo+k) (len - k)++S))=P++(sR K p lo k++(p (lo+k) :: (rng p (lo+(k+1)) (len - (k+1))++S))):=by rw[hr];rfl
   simp only[hL] at inner ⊢;rw[inner];exact ih
theorem zjl (hc : CmpOk n0 c H K D) (n lo len : Nat) (P S : List Int) (hP : lo = P.length) (hD : ∀ x ∈ rng p lo len, D x) (hS : lo + len + S.length + 1 < lim) (hn : n0 + 1 <= n) (hn2 : len + 2 <= n) :
    call n 248 [.sl 1 (iL (P++(rng p lo len++S))) false,.int .i64 (lo:Int),.int .i64 ((lo+len:Nat):Int),c] H=some (.ret [.sl 1 (iL (P++(sR K p lo len++S))) false],H):=by
 obtain⟨N,rfl⟩:∃ N,n=N+1:=⟨n - 1,by omega⟩;have e1:IntKind.i64.wrap ((lo:Int)+1)=((lo+1:Nat):Int):=wN (by omega) (by omega);rw[zsy];unfold zuE;rw[e1];have h1:rng p lo len=sR K p lo (min 1 len)++rng p (lo+1) (len - 1):=by
  cases len with
  | zero=>simp[rng,sR]
  | succ l =>
    have:min 1 (l+1)=1:=by omega
    rw[this,zjh];simp[sR,qF]
 rw[h1,List.append_assoc];exact zjk hc N lo len (by omega) (by omega) (by omega) P S hP hD (by omega) (len - 1) 1 N (by omega) (by omega) (by omega)
theorem zed {l : V} {body : List V -> zd -> (List V -> zd -> Option (Res × zd)) -> Option (Res × zd)} {fin : Nat -> Option (Res × zd)} {Q : Nat -> Prop} (lo hi : Nat)
    (step:∀ i j:Nat,lo<=i->i < j->j<=hi->∀ next,(Q ((i+j) / 2)/\body [l,.int .i64 (i:Int),.int .i64 (j:Int)] H next=next [l,.int .i64 (((i+j) / 2+1:Nat):Int),.int .i64 (j:Int)] H)\/(¬ Q ((i+j) / 2)/\body [l,.int .i64 (i:Int),.int .i64 (j:Int)] H next=next [l,.int .i64 (i:Int),.int .i64 (((i+j) / 2:Nat):Int)] H))
    (stop:∀ i:Nat,lo<=i->i<=hi->∀ next,body [l,.int .i64 (i:Int),.int .i64 (i:Int)] H next=fin i):∀ (M i j:Nat),j - i < M->lo<=i->i<=j->j<=hi->(i=lo\/Q (i - 1))->(j=hi\/¬ Q j) →
    ∃ r,lo<=r/\r<=hi/\(r=lo\/Q (r - 1))/\(r=hi\/¬ Q r)/\zR M body [l,.int .i64 (i:Int),.int .i64 (j:Int)] H=fin r
 | 0,i,j,h,_,_,_,_,_=>by omega
 | M+1,i,j,h,h1,h2,h3,h4,h5=>by
   by_cases hij:i=j
   . subst hij;exact⟨i,h1,h3,h4,h5,by rw[zA];exact stop i h1 h3 _⟩
   . rcases step i j h1 (by omega) h3 (zR M body) with ⟨q,e⟩|⟨q,e⟩
     . obtain⟨r,r1,r2,r3,r4,r5⟩:=zed lo hi step stop M ((i+j) / 2+1) j (by omega) (by omega) (by omega) h3 (.inr (by simpa using q)) h5;exact⟨r,r1,r2,r3,r4,by rw[zA,e];exact r5⟩
     . obtain⟨r,r1,r2,r3,r4,r5⟩:=zed lo hi step stop M i ((i+j) / 2) (by omega) h1 (by omega) (by omega) h4 (.inr q);exact⟨r,r1,r2,r3,r4,by rw[zA,e];exact r5⟩
end
theorem zlK(a:Int):cvt prog 3 204 (.int .i64 a)=some (.int .u64 (IntKind.u64.wrap a)):=by kernel_rfl
theorem zhc(a:Int):cvt prog 204 3 (.int .u64 a)=some (.int .i64 (IntKind.i64.wrap a)):=by kernel_rfl
theorem zm9(a:Int):bop prog .shr 204 (.int .u64 a) (.int .u64 1)=some (.int .u64 (a.fdiv (2 ^ (min (1:Int).toNat 64)))):=by kernel_rfl
theorem zc3{i j:Nat}(h:i+j < lim):IntKind.i64.wrap ((IntKind.u64.wrap (((i+j:Nat):Int))).fdiv (2 ^ (min (1:Int).toNat 64)))=(((i+j) / 2:Nat):Int):=by
 have e:IntKind.u64.wrap (((i+j:Nat):Int))=((i+j:Nat):Int):=by rw[IntKind.wrap_u64];unfold lim at h;omega
 rw[e];have e2:(2:Int) ^ (min (1:Int).toNat 64)=2:=by decide
 rw[e2,JE _ (by decide)];exact wN (by omega) (by omega)
end Go.Proofs.Tryz
namespace Go.Proofs.Tryz
open Go.L Go.Rp
set_option maxRecDepth 100000
noncomputable def zlL(n:Nat)(b:Int)(c:V)(v100 v138:V)(l:List (List V))(h:zd):Option (Res×zd) :=
 bd (bop prog .lss 3 v100 v138) fun v153 =>
 bv v153 fun b154=>if b154 then
  bd (bop prog .lss 3 v138 (V.int .i64 b)) fun v155 =>
  bv v155 fun b156=>if b156 then
   clm (call n 249 (V.sl 1 l false :: [v100,v138,(V.int .i64 b),c]) h) 1 fun l157 r158 h159=>some (Res.ret (V.sl 1 l157 false :: []),h159)
  else some (Res.ret (V.sl 1 l false :: []),h)
 else some (Res.ret (V.sl 1 l false :: []),h)
noncomputable def zoC(n:Nat)(a b:Int)(c:V)(v100 v138 v1:V)(l:List (List V))(h:zd):Option (Res×zd) :=
 bd (bop prog .lss 3 (V.int .i64 a) v1) fun v146 =>
 bv v146 fun b147=>if b147 then
  bd (bop prog .lss 3 v1 v100) fun v148 =>
  bv v148 fun b149=>if b149 then
   clm (call n 249 (V.sl 1 l false :: [(V.int .i64 a),v1,v100,c]) h) 1 fun l150 r151 h152=>zlL n b c v100 v138 l150 h152
  else zlL n b c v100 v138 l h
 else zlL n b c v100 v138 l h
noncomputable def zqu(n:Nat)(a m b:Int)(c:V)(v100 v101 v1:V)(l:List (List V))(hh:zd):Option (Res×zd) :=
 bd (bop prog .sub 3 v101 v1) fun v138 =>
 bd (bop prog .lss 3 v1 (V.int .i64 m)) fun v139 =>
 bv v139 fun b140=>if b140 then
  bd (bop prog .lss 3 (V.int .i64 m) v138) fun v141 =>
  bv v141 fun b142=>if b142 then
   clm (call n 250 (V.sl 1 l false :: [v1,(V.int .i64 m),v138,c]) hh) 1 fun l143 r144 h145=>zoC n a b c v100 v138 v1 l143 h145
  else zoC n a b c v100 v138 v1 l hh
 else zoC n a b c v100 v138 v1 l hh
def zna(c:V)(H:zd)(K:Int->Int)(D:Int->Prop)(n sz:Nat):Prop:=∀ (A B P S:List Int) (a m b:Nat),A≠[]->B≠[]->A.length+B.length<=sz->a=P.length->m=P.length+A.length->b=P.length+A.length+B.length->2 * b+1 < lim →
 Sd K A->Sd K B->(∀ x∈A,∀ y∈B,x < y)->(∀ x∈A,D x)->(∀ y∈B,D y)->∃ C,C.Perm (A++B)/\Sd K C ∧
  call n 249 [.sl 1 (iL (P++(A++(B++S)))) false,.int .i64 (a:Int),.int .i64 (m:Int),.int .i64 (b:Int),c] H=some (.ret [.sl 1 (iL (P++(C++S))) false],H)
section
variable {K:Int->Int} {D:Int->Prop} {H:zd} {c:V}
theorem zsA {n sz : Nat} (ih : zna c H K D n sz) (A B P S : List Int) (mid e b : Nat) (hsz : A.length + B.length <= sz) (hm : mid = P.length) (he : e = P.length + A.length) (hb : b = P.length + A.length + B.length) (hl : 2 * b + 1 < lim)
    (hA:Sd K A) (hB:Sd K B) (hlt:∀ x∈A,∀ y∈B,x < y) (dA:∀ x∈A,D x) (dB:∀ y∈B,D y):∃ C,C.Perm (A++B)/\Sd K C ∧
    zlL n b c (.int .i64 (mid:Int)) (.int .i64 (e:Int)) (iL (P++(A++(B++S)))) H=some (.ret [.sl 1 (iL (P++(C++S))) false],H):=by
 unfold zlL;by_cases h1:A=[]
 . subst h1;have hc:¬ (mid:Int) < (e:Int):=by simp at he;omega
   exact⟨B,.refl _,hB,by simp only[zr,za,zm,hc,decide_false,zp,if_false,zU]⟩
 . have hA0:0 < A.length:=ZS.2 h1;have hc:(mid:Int) < (e:Int):=by omega
   by_cases h2:B=[]
   . subst h2;have hc2:¬ (e:Int) < (b:Int):=by simp at hb;omega
     exact⟨A,by simp,hA,by simp only[zr,za,zm,hc,hc2,decide_true,decide_false,zp,if_false,if_true,zU]⟩
   . have hB0:0 < B.length:=ZS.2 h2;have hc2:(e:Int) < (b:Int):=by omega
     obtain⟨C,p,s,e1⟩:=ih A B P S mid e b h1 h2 hsz hm he hb hl hA hB hlt dA dB;refine⟨C,p,s,?_⟩;simp only[zr,za,zm,hc,hc2,decide_true,if_true];rw[e1,Wv]
theorem zsB {n sz : Nat} (ih : zna c H K D n sz) (A1 A2 B1 B2 P S : List Int) (a r mid e b : Nat) (h1z : A1.length + B1.length <= sz) (h2z : A2.length + B2.length <= sz) (ha : a = P.length) (hr : r = P.length + A1.length) (hm : mid = P.length + A1.length + B1.length) (he : e = mid + A2.length) (hb : b = e + B2.length) (hl : 2 * b + 1 < lim)
    (s1:Sd K A1) (t1:Sd K B1) (s2:Sd K A2) (t2:Sd K B2) (hlt:∀ x∈A1++A2,∀ y∈B1++B2,x < y) (dA:∀ x∈A1++A2,D x) (dB:∀ y∈B1++B2,D y):∃ C1 C2,C1.Perm (A1++B1)/\Sd K C1/\C2.Perm (A2++B2)/\Sd K C2 ∧
    zoC n a b c (.int .i64 (mid:Int)) (.int .i64 (e:Int)) (.int .i64 (r:Int)) (iL (P++(A1++(B1++(A2++(B2++S)))))) H=some (.ret [.sl 1 (iL (P++(C1++(C2++S)))) false],H):=by
 have hU:∀ C1:List Int,C1.length=A1.length+B1.length->∃ C2,C2.Perm (A2++B2)/\Sd K C2/\zlL n b c (.int .i64 (mid:Int)) (.int .i64 (e:Int)) (iL (P++(C1++(A2++(B2++S))))) H=some (.ret [.sl 1 (iL (P++(C1++(C2++S)))) false],H):=fun C1 hC=>by
  obtain⟨C2,p,s,e1⟩:=zsA ih A2 B2 (P++C1) S mid e b h2z (by simp;omega) (by simp;omega) (by simp;omega) hl s2 t2 (fun x hx y hy=>hlt x (Zs _ hx) y (Zs _ hy)) (fun x hx=>dA x (Zs _ hx)) (fun y hy=>dB y (Zs _ hy));exact⟨C2,p,s,by simpa only[List.append_assoc] using e1⟩
 unfold zoC;by_cases h1:A1=[]
 . subst h1;have hc:¬ (a:Int) < (r:Int):=by simp at hr;omega
   obtain⟨C2,p,s,e1⟩:=hU B1 (by simp);exact⟨B1,C2,.refl _,t1,p,s,by simp only[zr,za,zm,hc,decide_false,zp,if_false,zU];exact e1⟩
 . have hA0:0 < A1.length:=ZS.2 h1;have hc:(a:Int) < (r:Int):=by omega
   by_cases h2:B1=[]
   . subst h2;have hc2:¬ (r:Int) < (mid:Int):=by simp at hm;omega
     obtain⟨C2,p,s,e1⟩:=hU A1 (by simp);exact⟨A1,C2,by simp,s1,p,s,by simp only[zr,za,zm,hc,hc2,decide_true,decide_false,zp,if_false,if_true,zU];exact e1⟩
   . have hB0:0 < B1.length:=ZS.2 h2;have hc2:(r:Int) < (mid:Int):=by omega
     obtain⟨C1,p1,q1,e1⟩:=ih A1 B1 P (A2++(B2++S)) a r mid h1 h2 h1z ha hr hm (by omega) s1 t1 (fun x hx y hy=>hlt x (zY _ hx) y (zY _ hy)) (fun x hx=>dA x (zY _ hx)) (fun y hy=>dB y (zY _ hy));obtain⟨C2,p2,q2,e2⟩:=hU C1 (by rw[p1.length_eq];simp);refine⟨C1,C2,p1,q1,p2,q2,?_⟩;simp only[zr,za,zm,hc,hc2,decide_true,if_true];rw[e1,Wv,e2]
theorem zsC {n sz : Nat} (ih : zna c H K D n sz) (A1 A2 B1 B2 P S : List Int) (a r m mid nn b : Nat) (h1z : A1.length + B1.length <= sz) (h2z : A2.length + B2.length <= sz) (ha : a = P.length) (hr : r = P.length + A1.length) (hmm : m = r + A2.length) (hm : mid = P.length + A1.length + B1.length) (hnn : nn = mid + m) (hb : b = m + B1.length + B2.length) (hl : 2 * b + 1 < lim) (hn : A2.length + B1.length + 3 <= n)
    (s1:Sd K A1) (t1:Sd K B1) (s2:Sd K A2) (t2:Sd K B2) (hlt:∀ x∈A1++A2,∀ y∈B1++B2,x < y) (dA:∀ x∈A1++A2,D x) (dB:∀ y∈B1++B2,D y):∃ C1 C2,C1.Perm (A1++B1)/\Sd K C1/\C2.Perm (A2++B2)/\Sd K C2 ∧
    zqu n a m b c (.int .i64 (mid:Int)) (.int .i64 (nn:Int)) (.int .i64 (r:Int)) (iL (P++((A1++A2)++((B1++B2)++S)))) H=some (.ret [.sl 1 (iL (P++(C1++(C2++S)))) false],H):=by
 obtain⟨C1,C2,p1,q1,p2,q2,e1⟩:=zsB ih A1 A2 B1 B2 P S a r mid (m+B1.length) b h1z h2z ha hr hm (by omega) (by omega) hl s1 t1 s2 t2 hlt dA dB;refine⟨C1,C2,p1,q1,p2,q2,?_⟩;have e2:IntKind.i64.wrap ((nn:Int) - (r:Int))=((m+B1.length:Nat):Int):=wN (by omega) (by omega);unfold zqu;simp only[ZQ,za,e2,zr,zm];by_cases h1:A2=[]
 . subst h1;have hc:¬ (r:Int) < (m:Int):=by simp at hmm;omega
   simp only[hc,decide_false,zp,if_false];simpa only[Zq,zU,List.append_assoc] using e1
 . have hA0:0 < A2.length:=ZS.2 h1;have hc:(r:Int) < (m:Int):=by omega
   by_cases h2:B1=[]
   . subst h2;have hc2:¬ (m:Int) < ((m+([]:List Int).length:Nat):Int):=by simp
     simp only[hc,hc2,decide_true,decide_false,zp,if_false,if_true];simpa only[Zq,zU,List.append_assoc] using e1
   . have hB0:0 < B1.length:=ZS.2 h2;have hc2:(m:Int) < ((m+B1.length:Nat):Int):=by omega
     have hrot:=zqt n H c r m (m+B1.length) (P++A1) A2 B1 (B2++S) h1 h2 (by simp;omega) (by simp;omega) (by simp;omega) (by simp;omega) hn;simp only[hc,hc2,decide_true,if_true];simp only[List.append_assoc] at hrot e1 ⊢;rw[hrot,Wv,e1]
end
end Go.Proofs.Tryz
namespace Go.Proofs.Tryz
open Go.L Go.Rp
set_option maxRecDepth 100000
theorem za2{k:Nat}:((some k:Option Nat)≠some 0)=((k == 0)=false):=by simp
theorem zlo:(0:Nat) < 1:=by decide
theorem ole:(1:Nat)<=1:=by decide
theorem zc4(P A S:List Int){h:Nat}(h1:P.length<=h)(h2:h < P.length+A.length):(P++(A++S))[h]?=some (A.getD (h - P.length) 0):=by
 rw[zK h1,zk (by omega),zV,zg (by omega)];rfl
theorem za3{A:List Int}{k:Nat}(h:k < A.length):A.getD k 0∈A:=by
 rw[zV,zg h];exact Xd h
section
variable {K:Int->Int} {D:Int->Prop} {H:zd} {c:V} {n0:Nat} {p:Nat->Int}
theorem zjm(n i:Nat)(st1:List V)(hst:st1.getD 1 (.bool false)=.int .i64 (i:Int))(hi:i+1 < lim)(x:Int)(R:List Int):∀ (B P:List Int) (k Mx:Nat),k=P.length->i=k+1+B.length->B.length < Mx →
    zR Mx (jZ n st1) [.sl 1 (iL (P++(x :: (B++R)))) false,.int .i64 (k:Int)] H=some (.ret [.sl 1 (iL (P++(B++(x :: R)))) false],H)
 | _,_,_,0,_,_,h=>by omega
 | [],P,k,Mx+1,hk,hi',hM=>by
   have e1:IntKind.i64.wrap ((i:Int) - 1)=((i - 1:Nat):Int):=wN (by omega) (by omega);have hc:¬ (k:Int) < ((i - 1:Nat):Int):=by simp at hi';omega
   rw[zA];simp only[jZ,gv,zh,zf,hst,ZQ,za,e1,zr,zm,hc,decide_false,zp,if_false,lsl,zU]
 | y :: B,P,k,Mx+1,hk,hi',hM=>by
   simp only[zD] at hi' hM;have e1:IntKind.i64.wrap ((i:Int) - 1)=((i - 1:Nat):Int):=wN (by omega) (by omega);have e2:IntKind.i64.wrap ((k:Int)+1)=((k+1:Nat):Int):=wN (by omega) (by omega);have hc:(k:Int) < ((i - 1:Nat):Int):=by omega
   obtain⟨s1,s2,s3,s4,s5,s6,s7,s8⟩:=adj P (B++R) x y hk (show k+1=P.length+1 by omega);have l1:=(zi.1 s1).1;have l2:=(zi.1 s2).1;have l6:=(zi.1 s6).1;have ih:=zjm n i st1 hst hi x R B (P++[y]) (k+1) Mx (by simp;omega) (by omega) (by omega);rw[zA,Z1];simp only[jZ,gv,zh,zf,hst,ZQ,zH,za,e1,e2,zr,zm,hc,decide_true,if_true,Za,zy,lsl,XN,jh,za2,true_and,zlo,ole,Nat.reduceBEq,and_true,l1,l2,l6,Jb s1,Jb s2,zb,V.cells,zD,zP,zq,zc2,zc1,zhb,s4,Jb s6,s8];simpa only[List.append_assoc,Z1,zU] using ih
theorem zjn(n i:Nat)(st50:List V)(hst:st50.getD 1 (.bool false)=.int .i64 (i:Int))(x:Int):∀ (r R P:List Int) (k Mx:Nat),i=P.length->k=P.length+r.length->k+1 < lim->r.length < Mx →
    zR Mx (j0 n st50) [.sl 1 (iL (P++(r.reverse++(x :: R)))) false,.int .i64 (k:Int)] H=some (.ret [.sl 1 (iL (P++(x :: (r.reverse++R)))) false],H)
 | _,_,_,_,0,_,_,_,h=>by omega
 | [],R,P,k,Mx+1,hi,hk,hl,hM=>by
   have hc:¬ (k:Int) > (i:Int):=by simp at hk;omega
   rw[zA];simp only[j0,gv,zh,zf,hst,Xy,za,zm,hc,decide_false,zp,if_false,lsl,zU,List.reverse_nil]
 | y :: r,R,P,k,Mx+1,hi,hk,hl,hM=>by
   simp only[zD] at hk hM;have e1:IntKind.i64.wrap ((k:Int) - 1)=((k - 1:Nat):Int):=wN (by omega) (by omega);have hc:(k:Int) > (i:Int):=by omega
   have hL:P++((y :: r).reverse++(x :: R))=(P++r.reverse)++y :: x :: R:=by simp
   obtain⟨s1,s2,s3,s4,s5,s6,s7,s8⟩:=adj (P++r.reverse) R y x (i:=k - 1) (j:=k) (by simp;omega) (by simp;omega);have l1:=(zi.1 s1).1;have l2:=(zi.1 s2).1;have l5:=(zi.1 s5).1;have ih:=zjn n i st50 hst x r (y :: R) P (k - 1) Mx hi (by omega) (by omega) (by omega);rw[zA,hL];simp only[j0,gv,zh,zf,hst,ZQ,za,e1,Xy,zm,hc,decide_true,if_true,Za,zy,lsl,XN,jh,za2,true_and,zlo,ole,Nat.reduceBEq,and_true,l1,l2,l5,Jb s1,Jb s2,zb,V.cells,zD,zP,zq,zc2,zc1,zhb,s3,Jb s5,s7];simpa only[List.append_assoc,WE,Z1,zU] using ih
theorem zsD (hc : CmpOk n0 c H K D) (n : Nat) (x : Int) (B P S : List Int) (a m b : Nat) (ha : a = P.length) (hm : m = P.length + 1) (hb : b = P.length + 1 + B.length) (hl : 2 * b + 1 < lim) (hB : Sd K B) (hlt : ∀ y ∈ B, x < y) (dx : D x) (dB : ∀ y ∈ B, D y) (hn : n0 <= n) (hn2 : B.length + 2 <= n) :
    ∃ C,C.Perm (x :: B)/\Sd K C/\zR n (zaW n a c) [.sl 1 (iL (P++(x :: (B++S)))) false,.int .i64 (m:Int),.int .i64 (b:Int)] H=some (.ret [.sl 1 (iL (P++(C++S))) false],H):=by
 obtain⟨f,caps,hcf,hok,hk,hcmp⟩:=hc.ex;have hfn:∀ k:Nat->List V->Option (Res×zd),fnK c k=k f caps:=fun k=>by rw[hcf];rfl
 have gx:(P++(x :: (B++S)))[a]?=some x:=Yp _ _ _ ha;have gB:∀ h,m<=h->h < b->(P++(x :: (B++S)))[h]?=some (B.getD (h - m) 0):=fun h h1 h2=>by
  have:=zc4 (P++[x]) B S (h:=h) (by simp;omega) (by simp;omega);simp only[List.append_assoc,Z1,zU,zE,ZM] at this;rw[this,hm]
 obtain ⟨r, r1, r2, r3, r4, r5⟩ := zed (H := H) (l := .sl 1 (iL (P ++ (x :: (B ++ S)))) false) (body := zaW n a c) (fin := fun i => zR n (jZ n [.sl 1 (iL (P ++ (x :: (B ++ S)))) false, .int .i64 (i : Int), .int .i64 (i : Int)]) [.sl 1 (iL (P ++ (x :: (B ++ S)))) false, .int .i64 (a : Int)] H) (Q := fun h => K (B.getD (h - m) 0) < K x) m b
  (fun i j h1 h2 h3 next=>by
   have hij:(i:Int) < (j:Int):=by omega
   have e1:IntKind.i64.wrap ((i:Int)+(j:Int))=((i+j:Nat):Int):=wN (by omega) (by omega);have g1:=gB ((i+j) / 2) (by omega) (by omega);have l1:=(zi.1 g1).1;have l2:=(zi.1 gx).1;have e2:IntKind.i64.wrap ((((i+j) / 2:Nat):Int)+1)=(((i+j) / 2+1:Nat):Int):=wN (by omega) (by omega);obtain⟨q,hq,hqk⟩:=hcmp n hn (B.getD ((i+j) / 2 - m) 0) x (dB _ (za3 (by omega))) dx;simp only[zaW,gv,zh,zf,zr,za,zm,hij,decide_true,if_true,zH,e1,zlK,zm9,zhc,zc3 (show i+j < lim by omega),Za,zy,lsl,XN,jh,za2,true_and,zlo,ole,Nat.reduceBEq,and_true,l1,l2,Jb g1,Jb gx,zb,hfn,hok,hk];rw[hq,zM];simp only[zx,zr,za,zm,zH,e2];by_cases h:K (B.getD ((i+j) / 2 - m) 0) < K x
   . exact .inl ⟨h,by simp only[hqk.2 h,decide_true,if_true]⟩
   . exact .inr ⟨h,by simp only[show ¬ q < 0 from fun h'=>h (hqk.1 h'),decide_false,zp,if_false]⟩)
  (fun i h1 h2 next=>by
   have hii:¬ (i:Int) < (i:Int):=by omega
   simp only[zaW,gv,zh,zf,zr,za,zm,hii,decide_false,zp,if_false,lsl])
  n m b (by omega) (zl _) (by omega) (zl _) (.inl rfl) (.inl rfl)
 rw[r5];have hB2:B=B.take (r - m)++B.drop (r - m):=(Zy _ _).symm;refine⟨B.take (r - m)++x :: B.drop (r - m),?_,zoz hB (by omega) hlt ?_ ?_,?_⟩
 . refine List.perm_middle.trans ?_;rw[<- hB2]
 . rcases r3 with h|h
   . exact .inl (by omega)
   . exact .inr (by rw[show r - m - 1=r - 1 - m by omega];exact h)
 . rcases r4 with h|h
   . exact .inl (by omega)
   . exact .inr h
 . have:=zjm (H:=H) n r [.sl 1 (iL (P++(x :: (B++S)))) false,.int .i64 (r:Int),.int .i64 (r:Int)] rfl (by omega) x (B.drop (r - m)++S) (B.take (r - m)) P a n ha (by rw[Zh];omega) (by rw[Zh];omega);have e:B++S=B.take (r - m)++(B.drop (r - m)++S):=by rw[<- List.append_assoc,<- hB2]
   rw[e];rw[e] at this;rw[this];simp
theorem zqv (hc : CmpOk n0 c H K D) (n : Nat) (x : Int) (A P S : List Int) (a m : Nat) (ha : a = P.length) (hm : m = P.length + A.length) (hl : 2 * (m + 1) + 1 < lim) (hA : Sd K A) (hlt : ∀ y ∈ A, y < x) (dx : D x) (dA : ∀ y ∈ A, D y) (hn : n0 <= n) (hn2 : A.length + 2 <= n) :
    ∃ C,C.Perm (A++[x])/\Sd K C/\zR n (j6 n m c) [.sl 1 (iL (P++(A++(x :: S)))) false,.int .i64 (a:Int),.int .i64 (m:Int)] H=some (.ret [.sl 1 (iL (P++(C++S))) false],H):=by
 obtain⟨f,caps,hcf,hok,hk,hcmp⟩:=hc.ex;have hfn:∀ k:Nat->List V->Option (Res×zd),fnK c k=k f caps:=fun k=>by rw[hcf];rfl
 have gx:(P++(A++(x :: S)))[m]?=some x:=by rw[<- List.append_assoc];exact Yp _ _ _ (by simp;omega)
 have gA:∀ h,a<=h->h < m->(P++(A++(x :: S)))[h]?=some (A.getD (h - a) 0):=fun h h1 h2=>by
  rw[zc4 P A (x :: S) (h:=h) (by omega) (by omega),ha]
 obtain ⟨r, r1, r2, r3, r4, r5⟩ := zed (H := H) (l := .sl 1 (iL (P ++ (A ++ (x :: S)))) false) (body := j6 n m c) (fin := fun i => zR n (j0 n [.sl 1 (iL (P ++ (A ++ (x :: S)))) false, .int .i64 (i : Int), .int .i64 (i : Int)]) [.sl 1 (iL (P ++ (A ++ (x :: S)))) false, .int .i64 (m : Int)] H) (Q := fun h => ¬ K x < K (A.getD (h - a) 0)) a m
  (fun i j h1 h2 h3 next=>by
   have hij:(i:Int) < (j:Int):=by omega
   have e1:IntKind.i64.wrap ((i:Int)+(j:Int))=((i+j:Nat):Int):=wN (by omega) (by omega);have g1:=gA ((i+j) / 2) (by omega) (by omega);have l1:=(zi.1 g1).1;have l2:=(zi.1 gx).1;have e2:IntKind.i64.wrap ((((i+j) / 2:Nat):Int)+1)=(((i+j) / 2+1:Nat):Int):=wN (by omega) (by omega);obtain⟨q,hq,hqk⟩:=hcmp n hn x (A.getD ((i+j) / 2 - a) 0) dx (dA _ (za3 (by omega)));simp only[j6,gv,zh,zf,zr,za,zm,hij,decide_true,if_true,zH,e1,zlK,zm9,zhc,zc3 (show i+j < lim by omega),Za,zy,lsl,XN,jh,za2,true_and,zlo,ole,Nat.reduceBEq,and_true,l1,l2,Jb g1,Jb gx,zb,hfn,hok,hk];rw[hq,zM];simp only[zx,zr,za,QR,zm,zH,e2];by_cases h:K x < K (A.getD ((i+j) / 2 - a) 0)
   . exact .inr ⟨fun h'=>h' h,by simp only[hqk.2 h,decide_true,Q3,zp,if_false]⟩
   . exact .inl ⟨h,by simp only[show ¬ q < 0 from fun h'=>h (hqk.1 h'),decide_false,Bool.not_false,if_true]⟩)
  (fun i h1 h2 next=>by
   have hii:¬ (i:Int) < (i:Int):=by omega
   simp only[j6,gv,zh,zf,zr,za,zm,hii,decide_false,zp,if_false,lsl])
  n a m (by omega) (zl _) (by omega) (zl _) (.inl rfl) (.inl rfl)
 rw[r5];have hA2:A=A.take (r - a)++A.drop (r - a):=(Zy _ _).symm;refine⟨A.take (r - a)++x :: A.drop (r - a),?_,zlJ hA (by omega) hlt ?_ ?_,?_⟩
 . refine List.perm_middle.trans ?_;rw[<- hA2];exact(List.perm_append_singleton x A).symm
 . rcases r3 with h|h
   . exact .inl (by omega)
   . exact .inr (by rw[show r - a - 1=r - 1 - a by omega];exact h)
 . rcases r4 with h|h
   . exact .inl (by omega)
   . exact .inr (by simpa using h)
 . have:=zjn (H:=H) n r [.sl 1 (iL (P++(A++(x :: S)))) false,.int .i64 (r:Int),.int .i64 (r:Int)] rfl x (A.drop (r - a)).reverse S (P++A.take (r - a)) m n (by simp;omega) (by simp;omega) (by omega) (by simp;omega);rw[QY] at this;have e:P++(A++(x :: S))=(P++A.take (r - a))++(A.drop (r - a)++(x :: S)):=by
    conv=>lhs;rw[hA2]
    simp only[List.append_assoc]
   rw[e];rw[e] at this;rw[this];simp
end
end Go.Proofs.Tryz
namespace Go.Proofs.Tryz
open Go.L Go.Rp
set_option maxRecDepth 100000
section
variable {K:Int->Int} {D:Int->Prop} {H:zd} {c:V} {n0:Nat} {p:Nat->Int}
theorem zlM (hc : CmpOk n0 c H K D) (n : Nat) (A B P S : List Int) (a m b mid nn lo hi : Nat) (body : List V -> zd -> (List V -> zd -> Option (Res × zd)) -> Option (Res × zd))
    (hbody:∀ st hh next,body st hh next=KF n a m b c (.int .i64 (mid:Int)) (.int .i64 (nn:Int)) (.int .i64 ((nn - 1:Nat):Int)) st hh next)
    (ha:a=P.length) (hm:m=P.length+A.length) (hb:b=P.length+A.length+B.length) (hmid:mid=(a+b) / 2) (hnn:nn=mid+m) (hl:2 * b+1 < lim)
    (hlo:(m > mid/\lo=nn - b/\hi=mid)\/(m<=mid/\lo=a/\hi=m)) (hA0:0 < A.length) (hB0:0 < B.length)
    (dA:∀ x∈A,D x) (dB:∀ y∈B,D y) (hn:n0<=n) (hn2:hi < n+lo) :
    ∃ r,a<=r/\r<=m/\r<=mid/\mid<=r+B.length/\(r - a=0\/B.length<=mid - r\/¬ K (B.getD (mid - r) 0) < K (A.getD (r - a - 1) 0))/\(mid - r=0\/A.length<=r - a\/K (B.getD (mid - r - 1) 0) < K (A.getD (r - a) 0)) ∧
     zR n body [.sl 1 (iL (P++(A++(B++S)))) false,.int .i64 (lo:Int),.int .i64 (hi:Int)] H=zqu n a m b c (.int .i64 (mid:Int)) (.int .i64 (nn:Int)) (.int .i64 (r:Int)) (iL (P++(A++(B++S)))) H:=by
 obtain⟨f,caps,hcf,hok,hk,hcmp⟩:=hc.ex;have hfn:∀ k:Nat->List V->Option (Res×zd),fnK c k=k f caps:=fun k=>by rw[hcf];rfl
 have gA:∀ h,a<=h->h < m->(P++(A++(B++S)))[h]?=some (A.getD (h - a) 0):=fun h h1 h2=>by
  rw[zc4 P A (B++S) (h:=h) (by omega) (by omega),ha]
 have gB:∀ h,m<=h->h < b->(P++(A++(B++S)))[h]?=some (B.getD (h - m) 0):=fun h h1 h2=>by
  have:=zc4 (P++A) B S (h:=h) (by simp;omega) (by simp;omega);simp only[List.append_assoc,zE] at this;rw[this,hm]
 have hlom:a<=lo/\lo<=hi/\hi<=m/\hi<=mid/\mid<=lo+B.length:=by
  rcases hlo with ⟨h1,h2,h3⟩|⟨h1,h2,h3⟩ <;> omega
 obtain ⟨r, r1, r2, r3, r4, r5⟩ := zed (H := H) (l := .sl 1 (iL (P ++ (A ++ (B ++ S)))) false) (body := body) (fin := fun i => zqu n a m b c (.int .i64 (mid : Int)) (.int .i64 (nn : Int)) (.int .i64 (i : Int)) (iL (P ++ (A ++ (B ++ S)))) H) (Q := fun h => ¬ K (B.getD (mid - 1 - h) 0) < K (A.getD (h - a) 0)) lo hi
  (fun i j h1 h2 h3 next=>by
   rw[hbody];have hij:(i:Int) < (j:Int):=by omega
   have e1:IntKind.i64.wrap ((i:Int)+(j:Int))=((i+j:Nat):Int):=wN (by omega) (by omega);have g1:=gA ((i+j) / 2) (by omega) (by omega);have g2:=gB (nn - 1 - (i+j) / 2) (by omega) (by omega);have l1:=(zi.1 g1).1;have l2:=(zi.1 g2).1;have e2:IntKind.i64.wrap ((((i+j) / 2:Nat):Int)+1)=(((i+j) / 2+1:Nat):Int):=wN (by omega) (by omega);have e3:IntKind.i64.wrap (((nn - 1:Nat):Int) - (((i+j) / 2:Nat):Int))=((nn - 1 - (i+j) / 2:Nat):Int):=wN (by omega) (by omega);have e4:nn - 1 - (i+j) / 2 - m=mid - 1 - (i+j) / 2:=by omega
   rw[e4] at g2;obtain⟨q,hq,hqk⟩:=hcmp n hn (B.getD (mid - 1 - (i+j) / 2) 0) (A.getD ((i+j) / 2 - a) 0) (dB _ (za3 (by omega))) (dA _ (za3 (by omega)));simp only[KF,gv,zh,zf,zr,za,zm,hij,decide_true,if_true,zH,e1,zlK,zm9,zhc,zc3 (show i+j < lim by omega),ZQ,e3,Za,zy,lsl,XN,jh,za2,true_and,zlo,ole,Nat.reduceBEq,and_true,l1,l2,Jb g1,Jb g2,zb,hfn,hok,hk];rw[hq,zM];simp only[zx,zr,za,QR,zm,zH,e2];by_cases h:K (B.getD (mid - 1 - (i+j) / 2) 0) < K (A.getD ((i+j) / 2 - a) 0)
   . exact .inr ⟨fun h'=>h' h,by simp only[hqk.2 h,decide_true,Q3,zp,if_false]⟩
   . exact .inl ⟨h,by simp only[show ¬ q < 0 from fun h'=>h (hqk.1 h'),decide_false,Bool.not_false,if_true]⟩)
  (fun i h1 h2 next=>by
   have hii:¬ (i:Int) < (i:Int):=by omega
   rw[hbody];simp only[KF,gv,zh,zf,zr,za,zm,hii,decide_false,zp,if_false,lsl,zqu,zoC,zlL])
  n lo hi (by omega) (zl _) hlom.2.1 (zl _) (.inl rfl) (.inl rfl)
 refine⟨r,by omega,by omega,by omega,by omega,?_,?_,r5⟩
 . rcases r3 with h|h
   . rcases hlo with ⟨h1,h2,h3⟩|⟨h1,h2,h3⟩
     . exact .inr (.inl (by omega))
     . exact .inl (by omega)
   . by_cases h0:r - a=0
     . exact .inl h0
     . refine .inr (.inr ?_);rw[show mid - r=mid - 1 - (r - 1) by omega,show r - a - 1=r - 1 - a by omega];exact h
 . rcases r4 with h|h
   . rcases hlo with ⟨h1,h2,h3⟩|⟨h1,h2,h3⟩
     . exact .inl (by omega)
     . exact .inr (.inl (by omega))
   . refine .inr (.inr ?_);rw[show mid - r - 1=mid - 1 - r by omega];simpa using h
theorem zgf (hc : CmpOk n0 c H K D) : ∀ (sz n : Nat), n0 + 2 * sz + 8 <= n -> zna c H K D n sz
 | 0,n,_=>fun A B P S a m b hA hB hsz=>by
   have:=ZS.2 hA;omega
 | sz+1,n,hn=>fun A B P S a m b hA hB hsz ha hm hb hl sA sB hlt dA dB=>by
   obtain⟨N,rfl⟩:∃ N,n=N+1:=⟨n - 1,by omega⟩;have ih:=zgf hc sz N (by omega);have hA0:=ZS.2 hA;have hB0:=ZS.2 hB;have e1:IntKind.i64.wrap ((m:Int) - (a:Int))=((A.length:Nat):Int):=wN (by omega) (by omega);have e2:IntKind.i64.wrap ((b:Int) - (m:Int))=((B.length:Nat):Int):=wN (by omega) (by omega);have e3:IntKind.i64.wrap ((a:Int)+(b:Int))=((a+b:Nat):Int):=wN (by omega) (by omega);rw[zsx];unfold zuD;rw[e1,e2,e3];by_cases h1:A.length=1
   . obtain⟨x,rfl⟩:=ZY.1 h1;have hc1:((([x]:List Int).length:Int) == 1)=true:=by simp
     rw[if_pos hc1];obtain⟨C,p,s,e⟩:=zsD hc N x B P S a m b ha (by simpa using hm) (by simpa using hb) hl sB (fun y hy=>hlt x (by simp) y hy) (dA x (by simp)) dB (by omega) (by omega);exact⟨C,by simpa using p,s,by simpa using e⟩
   . have hc1:¬ (((A.length:Nat):Int) == 1)=true:=by simp;omega
     rw[if_neg hc1];by_cases h2:B.length=1
     . obtain⟨x,rfl⟩:=ZY.1 h2;have hc2:((([x]:List Int).length:Int) == 1)=true:=by simp
       rw[if_pos hc2];obtain⟨C,p,s,e⟩:=zqv hc N x A P S a m ha hm (by simp at hb;omega) sA (fun y hy=>hlt y hy x (by simp)) (dB x (by simp)) dA (by omega) (by simp at hsz;omega);exact⟨C,p,s,by simpa using e⟩
     . have hc2:¬ (((B.length:Nat):Int) == 1)=true:=by simp;omega
       rw[if_neg hc2];obtain⟨mid,hmid⟩:∃ mid,mid=(a+b) / 2:=⟨_,rfl⟩;obtain⟨nn,hnn⟩:∃ nn,nn=mid+m:=⟨_,rfl⟩;have e4:IntKind.i64.wrap ((mid:Int)+(m:Int))=((nn:Nat):Int):=wN (by omega) (by omega);have e5:IntKind.i64.wrap ((nn:Int) - 1)=((nn - 1:Nat):Int):=wN (by omega) (by omega);have e6:=zc3 (show a+b < lim by omega);rw[<- hmid] at e6;simp only[zm9,za,zhc,e6,zH,e4,Xy,zm];have key:∀ (lo hi:Nat) (body:List V->zd->(List V->zd->Option (Res×zd))->Option (Res×zd)),(∀ st hh next,body st hh next=KF N a m b c (.int .i64 (mid:Int)) (.int .i64 (nn:Int)) (.int .i64 ((nn - 1:Nat):Int)) st hh next) →
           ((m > mid/\lo=nn - b/\hi=mid)\/(m<=mid/\lo=a/\hi=m))->∃ C,C.Perm (A++B)/\Sd K C/\zR N body [.sl 1 (iL (P++(A++(B++S)))) false,.int .i64 (lo:Int),.int .i64 (hi:Int)] H=some (.ret [.sl 1 (iL (P++(C++S))) false],H):=fun lo hi body hbody hlo=>by
        obtain⟨r,r1,r2,r3,r4,r5,r6,r7⟩:=zlM hc N A B P S a m b mid nn lo hi body hbody ha hm hb hmid hnn hl hlo hA0 hB0 dA dB (by omega) (by omega);have hAt:A=A.take (r - a)++A.drop (r - a):=(Zy _ _).symm;have hBt:B=B.take (mid - r)++B.drop (mid - r):=(Zy _ _).symm;have hcr:=zuF sA sB (by omega) (by omega) hlt r5 r6;have tA:(A.take (r - a)).length=r - a:=by rw[Zh];omega
        have tB:(B.take (mid - r)).length=mid - r:=by rw[Zh];omega
        have dA':(A.drop (r - a)).length=A.length - (r - a):=Xs;have dB':(B.drop (mid - r)).length=B.length - (mid - r):=Xs
        obtain ⟨C1, C2, p1, q1, p2, q2, e⟩ := zsC ih (A.take (r - a)) (A.drop (r - a)) (B.take (mid - r)) (B.drop (mid - r)) P S a r m mid nn b (by omega) (by omega) ha (by omega) (by omega) (by omega) hnn (by omega) hl (by omega)
         (sA.sublist (WD _ _)) (sB.sublist (WD _ _)) (sA.sublist (Qu _ _)) (sB.sublist (Qu _ _)) (by rw[<- hAt,<- hBt];exact hlt) (by rw[<- hAt];exact dA) (by rw[<- hBt];exact dB)
        rw[<- hAt,<- hBt] at e;refine⟨C1++C2,?_,ZJ.2 ⟨q1,q2,fun u hu v hv=>hcr u (p1.mem_iff.1 hu) v (p2.mem_iff.1 hv)⟩,?_⟩
        . refine(p1.append p2).trans ?_
          conv=>rhs;rw[hAt,hBt]
          simp only[List.append_assoc];refine List.Perm.append_left _ ?_;rw[<- List.append_assoc,<- List.append_assoc];exact List.Perm.append_right _ List.perm_append_comm
        . rw[r7,e];simp only[List.append_assoc]
       by_cases hg:(m:Int) > (mid:Int)
       . have e7:IntKind.i64.wrap ((nn:Int) - (b:Int))=((nn - b:Nat):Int):=wN (by omega) (by omega);simp only[hg,decide_true,if_true,ZQ,za,e7,e5];exact key (nn - b) mid _ (fun _ _ _=>rfl) (.inl ⟨by omega,rfl,rfl⟩)
       . simp only[hg,decide_false,zp,if_false,ZQ,za,e5];exact key a m _ (fun _ _ _=>rfl) (.inr ⟨by omega,rfl,rfl⟩)
theorem zqw (hp : zg8 p) (hc : CmpOk n0 c H K D) (n lo i j : Nat) (P S : List Int) (hP : lo = P.length) (hi : 0 < i) (hj : 0 < j) (hl : 2 * (lo + i + j) + 1 < lim) (hD : ∀ x ∈ rng p lo (i + j), D x) (hn : n0 + 2 * (i + j) + 8 <= n) :
    call n 249 [.sl 1 (iL (P++(sR K p lo i++(sR K p (lo+i) j++S)))) false,.int .i64 (lo:Int),.int .i64 ((lo+i:Nat):Int),.int .i64 ((lo+i+j:Nat):Int),c] H=some (.ret [.sl 1 (iL (P++(sR K p lo (i+j)++S))) false],H):=by
 have hne:∀ l k,0 < k->sR K p l k≠[]:=fun l k hk h=>by have:=Ke (K:=K) (p:=p) l k;rw[h] at this;simp at this;omega
 obtain ⟨C, q, s, e⟩ := zgf hc (i + j) n hn (sR K p lo i) (sR K p (lo + i) j) P S lo (lo + i) (lo + i + j) (hne _ _ hi) (hne _ _ hj) (by rw [Ke, Ke]; omega) hP (by rw [Ke]; omega) (by rw [Ke, Ke]; omega) hl (zji hp _ _) (zji hp _ _)
  (fun x hx y hy=>zuG hp hx hy) (fun x hx=>hD x (qu (zl _) (by omega) (jf.2 (zbN.1 hx)))) (fun x hx=>hD x (qu (Nat.le_add_right _ _) (by omega) (jf.2 (zbN.1 hx))))
 rw[e,zsz hp q s]
end
end Go.Proofs.Tryz
namespace Go.Proofs.Tryz
open Go.L Go.Rp
set_option maxRecDepth 100000
@[simp] theorem YY(a b:Int):bop prog .mul 3 (.int .i64 a) (.int .i64 b)=some (.int .i64 (IntKind.i64.wrap (a * b))):=by kernel_rfl
section
variable {K:Int->Int} {D:Int->Prop} {H:zd} {c:V} {n0:Nat} {p:Nat->Int}
theorem KG{bs:Nat}(hb:0 < bs)(f lo len:Nat)(h:bs<=len)(hf:len<=f):Jn K p bs f lo len=sR K p lo bs++Jn K p bs f (lo+bs) (len - bs):=by
 rcases ZX bs len with h1|h1
 . exact zoB hb f lo len h1 hf
 . obtain rfl:len=bs:=by omega
   rw[Wd f lo len (zl _) (by omega),QX,Wd f _ 0 (by omega) (by omega)];simp[sR]
theorem zee(hc:CmpOk n0 c H K D)(n k f:Nat)(hD:∀ x∈rng p 0 k,D x)(hl:2 * k+100 < lim)(hn:n0+k+25<=n)(hf:k<=f)(hf0:0 < f):∀ (M len a:Nat) (P:List Int),a=P.length->a+len=k->len < M->∃ u v:Nat,
    zR M (zaY n k c) [.sl 1 (iL (P++rng p a len)) false,.int .i64 (a:Int),.int .i64 ((a+20:Nat):Int)] H=zR n (Yy n k c) [.sl 1 (iL (P++Jn K p 20 f a len)) false,.int .i64 20,.int .i64 (u:Int),.int .i64 (v:Int)] H
 | 0,_,_,_,_,_,h=>by omega
 | M+1,len,a,P,ha,hk,hM=>by
   rw[zA];by_cases h:20<=len
   . have h1:((a+20:Nat):Int)<=(k:Int):=by omega
     have e1:IntKind.i64.wrap (((a+20:Nat):Int)+20)=((a+20+20:Nat):Int):=wN (by omega) (by omega);have hr:rng p a len=rng p a 20++rng p (a+20) (len - 20):=by rw[<- zg9];congr 1;omega
     have hi:=zjl hc n a 20 P (rng p (a+20) (len - 20)) ha (fun x hx=>hD x (qu (by omega) (by omega) hx)) (by rw[zc0];omega) (by omega) (by omega);obtain⟨u,v,e⟩:=zee hc n k f hD hl hn hf hf0 M (len - 20) (a+20) (P++sR K p a 20) (by rw[zE,Ke];omega) (by omega) (by omega);refine⟨u,v,?_⟩;simp only[zaY,gv,zh,zf,QA,za,zm,h1,decide_true,if_true,lsl];rw[hr,hi,Wv];simp only[zH,za,e1];rw[KG (by omega) f a len h (by omega),<- List.append_assoc,<- List.append_assoc];exact e
   . have h1:¬ ((a+20:Nat):Int)<=(k:Int):=by omega
     have hi:=zjl hc n a len P [] ha (fun x hx=>hD x (qu (by omega) (by omega) hx)) (by simp;omega) (by omega) (by omega);rw[Zq,Zq,hk] at hi;refine⟨a,a+20,?_⟩;simp only[zaY,gv,zh,zf,QA,za,zm,h1,decide_false,zp,if_false,lsl];rw[hi,Wv,Wd f a len (by omega) hf0]
theorem zef(hp:zg8 p)(hc:CmpOk n0 c H K D)(n k f bs:Nat)(st14:List V)(next16:List V->zd->Option (Res×zd))(hst:st14.getD 1 (.bool false)=.int .i64 (bs:Int))(hb:0 < bs)(hbk:bs < k)(hD:∀ x∈rng p 0 k,D x)(hl:4 * k+100 < lim)(hn:n0+2 * k+8<=n)(hf:k<=f):∀ (M len a:Nat) (P:List Int),a=P.length->a+len=k->len < M->∃ u v:Nat,
    zR M (qt n k c st14 next16) [.sl 1 (iL (P++Jn K p bs f a len)) false,.int .i64 (a:Int),.int .i64 ((a+2 * bs:Nat):Int)] H=next16 [.sl 1 (iL (P++Jn K p (2 * bs) f a len)) false,.int .i64 ((2 * bs:Nat):Int),.int .i64 (u:Int),.int .i64 (v:Int)] H
 | 0,_,_,_,_,_,h=>by omega
 | M+1,len,a,P,ha,hk,hM=>by
   rw[zA];have e1:IntKind.i64.wrap ((a:Int)+(bs:Int))=((a+bs:Nat):Int):=wN (by omega) (by omega);have e2:IntKind.i64.wrap (2 * (bs:Int))=((2 * bs:Nat):Int):=wN (by omega) (by omega);have e3:IntKind.i64.wrap ((bs:Int) * 2)=((2 * bs:Nat):Int):=wN (by omega) (by omega);by_cases h:2 * bs<=len
   . have h1:((a+2 * bs:Nat):Int)<=(k:Int):=by omega
     have e4:IntKind.i64.wrap (((a+2 * bs:Nat):Int)+((2 * bs:Nat):Int))=((a+2 * bs+2 * bs:Nat):Int):=wN (by omega) (by omega);have hs:=zqw hp hc n a bs bs P (Jn K p bs f (a+bs+bs) (len - bs - bs)) ha hb hb (by omega) (fun x hx=>hD x (qu (by omega) (by omega) hx)) (by omega);obtain⟨u,v,e⟩:=zef hp hc n k f bs st14 next16 hst hb hbk hD hl hn hf M (len - 2 * bs) (a+2 * bs) (P++sR K p a (2 * bs)) (by rw[zE,Ke];omega) (by omega) (by omega);refine⟨u,v,?_⟩;rw[KG hb f a len (by omega) (by omega),KG hb f (a+bs) (len - bs) (by omega) (by omega),KG (bs:=2 * bs) (by omega) f a len h (by omega)];simp only[qt,gv,zh,zf,hst,QA,za,zm,h1,decide_true,if_true,zH,e1,lsl];rw[show ((a+bs+bs:Nat):Int)=((a+2 * bs:Nat):Int) by omega] at hs;rw[hs,Wv];simp only[YY,zH,za,e2,e4];rw[show bs+bs=2 * bs by omega,show a+bs+bs=a+2 * bs by omega,show len - bs - bs=len - 2 * bs by omega,<- List.append_assoc,<- List.append_assoc];exact e
   . have h1:¬ ((a+2 * bs:Nat):Int)<=(k:Int):=by omega
     refine⟨a,a+2 * bs,?_⟩;simp only[qt,gv,zh,zf,hst,QA,za,zm,h1,decide_false,zp,if_false,zH,e1,zr,lsl];by_cases h2:bs < len
     . have h3:((a+bs:Nat):Int) < (k:Int):=by omega
       have hs:=zqw hp hc n a bs (len - bs) P [] ha hb (by omega) (by omega) (fun x hx=>hD x (qu (by omega) (by omega) hx)) (by omega);rw[Zq,Zq,show a+bs+(len - bs)=k by omega,show bs+(len - bs)=len by omega] at hs;simp only[h3,decide_true,if_true];rw[KG hb f a len (by omega) (by omega),Wd f (a+bs) (len - bs) (by omega) (by omega),Wd (bs:=2 * bs) f a len (by omega) (by omega),hs,Wv];simp only[YY,za,e3]
     . have h3:¬ ((a+bs:Nat):Int) < (k:Int):=by omega
       simp only[h3,decide_false,zp,if_false,YY,za,e3];rw[Wd f a len (by omega) (by omega),Wd (bs:=2 * bs) f a len (by omega) (by omega)]
theorem zjo(hp:zg8 p)(hc:CmpOk n0 c H K D)(n k f:Nat)(hD:∀ x∈rng p 0 k,D x)(hl:4 * k+100 < lim)(hn:n0+2 * k+8<=n)(hf:k<=f)(hf0:0 < f):∀ (M bs u v:Nat),0 < bs->k < M+bs->0 < M →
    zR M (Yy n k c) [.sl 1 (iL (Jn K p bs f 0 k)) false,.int .i64 (bs:Int),.int .i64 (u:Int),.int .i64 (v:Int)] H=some (.ret [.sl 1 (iL (sR K p 0 k)) false],H)
 | 0,_,_,_,_,_,h=>by omega
 | M+1,bs,u,v,hb,hM,_=>by
   rw[zA];by_cases h:bs < k
   . have h1:(bs:Int) < (k:Int):=by omega
     have e2:IntKind.i64.wrap (2 * (bs:Int))=((2 * bs:Nat):Int):=wN (by omega) (by omega);obtain⟨u',v',e⟩:=zef hp hc n k f bs [.sl 1 (iL (Jn K p bs f 0 k)) false,.int .i64 (bs:Int),.int .i64 (u:Int),.int .i64 (v:Int)] (zR M (Yy n k c)) rfl hb h hD hl hn hf n k 0 [] rfl (by omega) (by omega);have ih:=zjo hp hc n k f hD hl hn hf hf0 M (2 * bs) u' v' (by omega) (by omega) (by omega);simp only[zU,zq] at e;simp only[Yy,gv,zh,zf,zr,za,zm,h1,decide_true,if_true,YY,e2,lsl];exact e.trans ih
   . have h1:¬ (bs:Int) < (k:Int):=by omega
     simp only[Yy,gv,zh,zf,zr,za,zm,h1,decide_false,zp,if_false,lsl];rw[Wd f 0 k (by omega) hf0]
theorem zoD (hp : zg8 p) (hc : CmpOk n0 c H K D) (n k : Nat) (hD : ∀ x ∈ rng p 0 k, D x) (hl : 4 * k + 100 < lim) (hn : n0 + 2 * k + 40 <= n) :
    call n 240 [.sl 1 (iL (rng p 0 k)) false,c] H=some (.ret [.sl 1 (iL (sR K p 0 k)) false],H):=by
 obtain⟨N,rfl⟩:∃ N,n=N+2:=⟨n - 2,by omega⟩;obtain⟨u,v,e⟩:=zee hc N k (k+1) hD (by omega) (by omega) (by omega) (by omega) N k 0 [] rfl (by omega) (by omega);have e2:=zjo hp hc N k (k+1) hD hl (by omega) (by omega) (by omega) N 20 u v (by omega) (by omega) (by omega);rw[zqs];unfold ztu;rw[zqr];unfold ztt;simp only[zU] at e;rw[show ((20:Nat):Int)=(20:Int) from rfl] at e2;have e3:(((iL (rng p 0 k)).length:Nat):Int)=(k:Int):=by rw[XN,zc0]
 rw[e3];have e4:=e.trans e2;rw[show (((0:Nat)+20:Nat):Int)=(20:Int) from rfl,show (((0:Nat)):Int)=(0:Int) from rfl] at e4;rw[e4,Wv]
end
end Go.Proofs.Tryz
namespace Go.Proofs.Tryz
open Go.L Go.Rp Go.Sk
set_option maxRecDepth 100000
def oAt(os:List O)(x:Int):O:=os.getD x.toNat ⟨0,0⟩
theorem Ju{os:List O}{k:Nat}{x:O}(h:os[k]?=some x):oAt os (k:Int)=x:=by
 unfold oAt;rw[Xu,zV,h];rfl
def Kf(os:List O)(x:Int):Int:=(oAt os x).v
theorem zjp(n:Nat)(o:O)(h:zd):call (n+1) 235 [.agg (O.w o)] h=some (.ret [.int .i32 o.v],h):=by
 refine(zom n o.k o.v h).trans ?_;exact YV (by simp) (by simp)
theorem zeg(x:O):List.take 2 (List.drop 0 (O.w x))=O.w x:=rfl
theorem zt1(os:List O)(lb:Bool)(H:zd):CmpOk 4 (.fn 241 [.iptr 1 [.fn 235 []] 0,.iptr 1 [.sl 2 (os.map O.w) lb] 0]) H (Kf os) (fun x=>0<=x/\x < (os.length:Int)) where
 ex:=by
  refine⟨_,_,rfl,by kernel_rfl,by kernel_rfl,fun n hn x y hx hy=>?_⟩;obtain⟨m,rfl⟩:∃ m,n=(m+3)+1:=⟨n - 4,by omega⟩;obtain⟨i,rfl⟩:∃ i:Nat,x=(i:Int):=⟨x.toNat,(ZH hx.1).symm⟩;obtain⟨j,rfl⟩:∃ j:Nat,y=(j:Int):=⟨y.toNat,(ZH hy.1).symm⟩;obtain⟨a,ha⟩:∃ a,os[i]?=some a:=⟨_,zg (by omega)⟩;obtain⟨b,hb⟩:∃ b,os[j]?=some b:=⟨_,zg (by omega)⟩;have hav:(os.map O.w)[i]?=some (O.w a):=by rw[Y9,ha];rfl
  have hbv:(os.map O.w)[j]?=some (O.w b):=by rw[Y9,hb];rfl
  refine⟨zqm (Kf os (i:Int)) (Kf os (j:Int)),?_,?_⟩
  . refine(zp3 (m+3) (i:Int) (j:Int) (os.map O.w) lb H).trans ?_;unfold ztp;have e1:∀ (u:O) (h:zd),call (m+3) 235 [.agg (O.w u)] h=some (.ret [.int .i32 u.v],h):=fun u h=>zjp (m+2) u h;have e2:∀ (u v:Int) (h:zd),call (m+3) 242 [.int .i32 u,.int .i32 v] h=some (.ret [.int .i64 (zqm u v)],h):=fun u v h=>zg5 (m+1) u v h;have fi:nv (V.int .i64 (i:Int))=some i:=Za _ _;have fj:nv (V.int .i64 (j:Int))=some j:=Za _ _;rw[fi,zy,Xb hav,za]
    first
     | rw [Zl, zn, if_pos (by decide), zeg, e1, zaO, zx, fj, zy, Xb hbv, za, Zl, zn, if_pos (by decide), zeg, e1, zaO, zx, e2, clH_ret, zx]
       rw[show Kf os (i:Int)=a.v from by unfold Kf;rw[Ju ha],show Kf os (j:Int)=b.v from by unfold Kf;rw[Ju hb]]
     | (simp only [esP, zeg]
        rw[e1,zaO,zx,fj,zy,Xb hbv,za];simp only[esP,zeg];rw[e1,zaO,zx,e2,clH_ret,zx];rw[show Kf os (i:Int)=a.v from by unfold Kf;rw[Ju ha],show Kf os (j:Int)=b.v from by unfold Kf;rw[Ju hb]])
  . unfold zqm;split
    . rename_i h;exact⟨fun _=>h,fun _=>by omega⟩
    . rename_i h;split <;> exact⟨fun e=>by omega,fun e=>absurd e h⟩
def Q1 (os : List O) : Nat -> List Int
 | 0=>[]
 | k+1=>if (oAt os (k:Int)).k=1 then Q1 os k++[(k:Int)] else Q1 os k
def QK (os : List O) : Nat -> List Int
 | 0=>[]
 | k+1=>if (oAt os (k:Int)).k=1 then QK os k else QK os k++[(k:Int)]
theorem JC (os : List O) : ∀ (n : Nat) (x : Int), x ∈ Q1 os n -> 0 <= x /\ x < (n : Int) /\ (oAt os x).k = 1
 | 0,x,h=>by cases h
 | n+1,x,h=>by
   simp only[Q1] at h;split at h
   . rename_i hk;rcases Zi.1 h with h|h
     . have:=JC os n x h;omega
     . rw[Zx] at h;subst h;exact⟨by omega,by omega,hk⟩
   . have:=JC os n x h;omega
theorem Qw (os : List O) : ∀ (n : Nat) (x : Int), x ∈ QK os n -> 0 <= x /\ x < (n : Int) /\ (oAt os x).k ≠ 1
 | 0,x,h=>by cases h
 | n+1,x,h=>by
   simp only[QK] at h;split at h
   . have:=Qw os n x h;omega
   . rename_i hk;rcases Zi.1 h with h|h
     . have:=Qw os n x h;omega
     . rw[Zx] at h;subst h;exact⟨by omega,by omega,hk⟩
theorem KH (os : List O) : ∀ n : Nat, (Q1 os n).Pairwise (· < ·)
 | 0=>.nil
 | n+1=>by
   simp only[Q1];split
   . refine ZJ.2 ⟨KH os n,Wj ..,fun a ha b hb=>?_⟩;rw[Zx] at hb;subst hb;exact(JC os n a ha).2.1
   . exact KH os n
theorem KI (os : List O) : ∀ n : Nat, (Q1 os n).length + (QK os n).length = n
 | 0=>rfl
 | n+1=>by
   have:=KI os n;simp only[Q1,QK];split
   . rw[zE,zD,zP];omega
   . rw[zE,zD,zP];omega
def Yd(os:List O):List Int:=Q1 os os.length
def Xo(os:List O):List Int:=QK os os.length
def Z9(os:List O):List Int:=sR (Kf os) (atP (Yd os) (os.length:Int)) 0 (Yd os).length
theorem YJ(os:List O):(Z9 os).Perm (Yd os):=by
 have:=jg (K:=Kf os) (p:=atP (Yd os) (os.length:Int)) 0 (Yd os).length;rwa[zha] at this
theorem qw(os:List O):(Z9 os).length=(Yd os).length:=(YJ os).length_eq
theorem zjq(os:List O):Sd (Kf os) (Z9 os):=zji (zjj (KH os _) fun x hx=>(JC os _ x hx).2.1) 0 _
theorem zsE (n : Nat) {h : zd} {b : Nat} (os : List O) (lb : Bool) (hb : h[b]? = some (.row 3 1 (iL (Yd os)) true)) (hl : 4 * os.length + 100 < lim) (hn : 2 * os.length + 50 <= n) :
    call (n+1) 234 [.sl 2 (os.map O.w) lb,.row b 1 0 (Yd os).length,.fn 235 []] h=some (.ret [.row b 1 0 (Yd os).length],(h.set b .dead).set b (.row 3 1 (iL (Z9 os)) true)):=by
 have hlen:=KI os os.length;have hpl:(Yd os).length<=os.length:=by unfold Yd;omega
 have hs:=zoD (p:=atP (Yd os) (os.length:Int)) (H:=h.set b .dead) (zjj (KH os _) fun x hx=>(JC os _ x hx).2.1) (zt1 os lb (h.set b .dead)) n (Yd os).length (fun x hx=>by
  rw[zha] at hx;have:=JC os _ x hx;exact⟨this.1,this.2.1⟩) (by omega) (by omega)
 rw[zha] at hs;refine(zp4 n (os.map O.w) lb b (Yd os).length h).trans ?_;unfold ztq;rw[hb];simp only[rwT];rw[if_pos (by rw[XN];refine⟨⟨?_,?_,?_⟩,?_,?_⟩ <;> first|trivial|rfl),hs];simp only[clr];rw[if_pos (And.intro (by first|trivial|rfl) (by rw[XN,XN];exact qw os))];rfl
theorem znb(x:Int):JY prog 55 1 [(0,.int .i64 x)]=some (1,[[.int .i64 x]]):=by kernel_rfl
theorem zhd(l:List Int)(x:Int)(h:l.length+1 < lim):app 3 1 (S.own 3 1 (iL l)) [[.int .i64 x]]=some (iL (l++[x])):=by
 simp only[app];rw[if_pos (by refine⟨?_,?_,by simpa using h⟩ <;> first|trivial|rfl)];simp[iL,Xc]
theorem zu6(x:O):(setR [V.int .u8 0,V.int .i32 0] 0 (O.w x))[0]?=some (.int .u8 x.k):=rfl
theorem zco(a b:Int):bop prog .eql 5 (.int .u8 a) (.int .u8 b)=some (.bool (a == b)):=by kernel_rfl
def We(h:zd)(os:List O):zd:=h++[.row 3 1 (iL (Z9 os)) true,.row 3 1 (iL (Xo os)) true]
theorem zjr(n:Nat)(h:zd)(os:List O)(lb:Bool)(hl:4 * os.length+100 < lim)(hn:2 * os.length+50<=n):∀ (d k M:Nat),k+d=os.length->d < M →
    zR M (KE (n+1) (os.map O.w) lb) [.sl 1 (iL (Q1 os k)) false,.sl 1 (iL (QK os k)) false,.int .i64 (k:Int)] h=some (.ret [.row h.length 1 0 (Yd os).length,.row (h.length+1) 1 0 (Xo os).length],We h os):=by
 intro d
 induction d with
 | zero =>
   intro k M h1 h2;obtain⟨M,rfl⟩:∃ M',M=M'+1:=⟨M - 1,by omega⟩;obtain rfl:k=os.length:=by omega
   have hb:=zsE n (h:=h++[.row 3 1 (iL (Yd os)) true]) (b:=h.length) os lb zI hl hn;have hset:((h++[HB.row 3 1 (iL (Yd os)) true]).set h.length .dead).set h.length (.row 3 1 (iL (Z9 os)) true)=h++[.row 3 1 (iL (Z9 os)) true]:=by
    rw[List.set_set,ZC _ _ (zl _),QX];rfl
   rw[hset] at hb;rw[zA];unfold KE;simp only[gv,zf,zh,zo,zr,za,zm];rw[if_neg (by simp)];rw[show lsl (V.sl 1 (iL (Q1 os os.length)) false)=iL (Yd os) from rfl,show lsl (V.sl 1 (iL (QK os os.length)) false)=iL (Xo os) from rfl,XN,XN,hb,zM,zx];simp[We]
 | succ d ih =>
   intro k M h1 h2;obtain⟨M,rfl⟩:∃ M',M=M'+1:=⟨M - 1,by omega⟩;obtain⟨x,hx⟩:∃ x,os[k]?=some x:=⟨_,zg (by omega)⟩;have hxv:(os.map O.w)[k]?=some (O.w x):=by rw[Y9,hx];rfl
   have hlt:decide ((k:Int) < (os.length:Int))=true:=by simp;omega
   have hpl:=KI os k;have hox:=Ju hx;have IH:=ih (k+1) M (by omega) (by omega);rw[zA];have key:∀ next,KE (n+1) (os.map O.w) lb [.sl 1 (iL (Q1 os k)) false,.sl 1 (iL (QK os k)) false,.int .i64 (k:Int)] h next=next [.sl 1 (iL (Q1 os (k+1))) false,.sl 1 (iL (QK os (k+1))) false,.int .i64 ((k+1:Nat):Int)] h:=by
    intro next
    unfold KE;simp only[gv,zf,zh,zo,zr,za,zm,hlt,if_true,Za,zy,Xb hxv,Zl,zn,zq,zl,Nat.reduceLT,and_self,zeg,show (O.w x).length=2 from rfl,zu6,zco,znb,zH,Xa (show k < lim by omega)];rw[show lsl (V.sl 1 (iL (Q1 os k)) false)=iL (Q1 os k) from rfl,show lsl (V.sl 1 (iL (QK os k)) false)=iL (QK os k) from rfl];by_cases hk:x.k=1
    . rw[if_pos (by simp[hk]),zhd _ _ (by omega),za];simp only[Q1,QK,hox,hk,if_true]
    . rw[if_neg (by simp[hk]),zhd _ _ (by omega),za];simp only[Q1,QK,hox,hk,if_false]
   rw[key];exact IH
theorem zcp (n : Nat) (h : zd) (os : List O) (lb : Bool) (hl : 4 * os.length + 100 < lim) (hn : 2 * os.length + 50 <= n) :
    call (n+2) 225 [.sl 2 (os.map O.w) lb] h=some (.ret [.row h.length 1 0 (Yd os).length,.row (h.length+1) 1 0 (Xo os).length],We h os):=by
 refine(zon (n+1) (os.map O.w) lb h).trans ?_;unfold zp5;exact zjr n h os lb hl hn os.length 0 (n+1) (by omega) (by omega)
end Go.Proofs.Tryz
namespace Go.Proofs.Tryz
open Go.L Go.Rp Go.Sk
set_option maxRecDepth 100000
abbrev St:=List (Int×Nat)×List Bool
def stp(most:Int)(st:St)(o:O):St×R :=
 if o.k=1 then(if most<=(st.1.length:Int) then(st,⟨3,0⟩) else((je st.1 o.v (hgt 1 st.2).1,(hgt 1 st.2).2),⟨1,0⟩))
 else if o.k=2 then(match st.1 with|[]=>(st,⟨4,0⟩)|p :: r=>((r,st.2),⟨2,p.1⟩))
 else(st,⟨5,0⟩)
def J3 (os : List O) (most : Int) : List Int -> St -> List R -> St × List R
 | [],st,told=>(st,told)
 | k :: r,st,told=>J3 os most r (stp most st (oAt os k)).1 (told.set k.toNat (stp most st (oAt os k)).2)
theorem YZ (os : List O) (most : Int) : ∀ (l m : List Int) (st : St) (told : List R), J3 os most (l ++ m) st told = J3 os most m (J3 os most l st told).1 (J3 os most l st told).2
 | [],m,st,told=>rfl
 | k :: l,m,st,told=>YZ os most l m _ _
theorem zjs (os : List O) (most : Int) : ∀ (l : List Int) (st : St) (told : List R), (J3 os most l st told).2.length = told.length
 | [],_,_=>rfl
 | k :: l,st,told=>by
   show (J3 os most l _ _).2.length=_;rw[zjs os most l,zt]
structure Frm(h h':zd)(X:List Nat):Prop where
 len:h.length<=h'.length
 old:∀ i,i < h.length->i ∉ X->h'[i]?=h[i]?
theorem Frm.refl(h:zd)(X:List Nat):Frm h h X:=⟨zl _,fun _ _ _=>rfl⟩
theorem Frm.trans{h h1 h2:zd}{X Y:List Nat}(a:Frm h h1 X)(b:Frm h1 h2 Y)(hY:∀ y∈Y,y∈X\/h.length<=y):Frm h h2 X :=
 ⟨Z2 a.len b.len,fun i h1' h2'=>(b.old i (by have:=a.len;omega) fun hm=>by rcases hY i hm with h|h;exact h2' h;omega).trans (a.old i h1' h2')⟩
theorem Grew.frm{h h':zd}{s:Nat}{ts ts':List Tw}{most:Int}(g:Grew h h' s ts ts' most):Frm h h' (skB s ts):=⟨g.len,g.old⟩
theorem Frm.push(h:zd)(l:List HB)(X:List Nat):Frm h (h++l) X:=⟨by simp,fun i hi _=>zk hi⟩
def RowR(h:zd)(b:Nat)(l:List R):Prop:=∃ z,h[b]?=some (.row 35 2 (l.map R.w) z)
theorem RowR.keep{h h':zd}{b:Nat}{l:List R}(r:RowR h b l)(hk:h'[b]?=h[b]?):RowR h' b l:=by obtain⟨z,hz⟩:=r;exact⟨z,hk.trans hz⟩
theorem RowR.code {h : zd} {b : Nat} {l : List R} (r : RowR h b l) {i : Nat} {x : R} (hx : l[i]? = some x) (c : Int) :
    ∃ B,Zt h [.int .u8 c] (.rptr b 2 i 0)=some (b,B)/\RowR (h.set b B) b (l.set i ⟨c,x.v⟩):=by
 obtain⟨z,hz⟩:=r;refine⟨_,Wc hz (by decide) (by simp) (by rw[K9,hx];rfl),z,?_⟩;rw[Xr (zT hz),Jt];rfl
theorem RowR.all {h : zd} {b : Nat} {l : List R} (r : RowR h b l) {i : Nat} {x : R} (hx : l[i]? = some x) (c v : Int) :
    ∃ B,Zt h [.int .u8 c,.int .i32 v] (.rptr b 2 i 0)=some (b,B)/\RowR (h.set b B) b (l.set i ⟨c,v⟩):=by
 obtain⟨z,hz⟩:=r;refine⟨_,Wc hz (by decide) (by simp) (by rw[K9,hx];rfl),z,?_⟩;rw[Xr (zT hz),Jt];rfl
theorem zjt{b n i:Nat}(h:i < n):ZE 2 i (.row b 2 0 n)=some (.rptr b 2 i 0):=by simpa using XR (b:=b) (sz:=2) (lo:=0) (hi:=n) (show i < n - 0 by omega)
theorem za4(v:Int):Qo prog 35 [(0,.int .u8 2),(1,.int .i32 v)]=some [.int .u8 2,.int .i32 v]:=by kernel_rfl
theorem znc(x:O):(O.w x)[0]?=some (.int .u8 x.k):=rfl
theorem zhe(x:O):(O.w x)[1]?=some (.int .i32 x.v):=rfl
theorem KJ(k n:Nat)(cs:List V)(o:Nat):ZL k (.iptr n cs o)=some (.iptr n cs (o+k)):=rfl
theorem zju(a b:Int):bop prog .neq 5 (.int .u8 a) (.int .u8 b)=some (.bool (a != b)):=by kernel_rfl
theorem zoE(n:Nat){s:Nat}{most:Int}(os:List O)(lb:Bool)(L:List Int)(hL:∀ x∈L,0<=x/\x < (os.length:Int)/\(oAt os x).k≠1)(hnd:L.Nodup)(tb pb:Nat)(hlim:L.length < lim)(hn:8 < n)(bits:List Bool):∀ (d i M:Nat) (h:zd) (ts:List Tw) (told:List R) (v0:V),i+d=L.length->d < M →
    (∃ N,SkAt h s ts most N)->ts.length < lim->RowR h tb told->RowI h pb .i64 3 L->told.length=os.length->tb ∉ skB s ts->pb ∉ skB s ts->pb≠tb->(∀ x∈L.drop i,told[x.toNat]?=some ⟨0,0⟩) →
    ∃ h' ts' told',zR M (YG (n+2) s (os.map O.w) lb (.row pb 1 0 L.length) (.row tb 2 0 os.length) (1,iL L)) [v0,.int .i64 (i:Int)] h=some (.ret [.row tb 2 0 os.length],h') ∧
     (∃ N,SkAt h' s ts' most N)/\(∀ b∈skB s ts',b∈skB s ts)/\Frm h h' (tb :: skB s ts)/\h'.length=h.length/\RowR h' tb told'/\J3 os most (L.drop i) (itT ts,bits) told=((itT ts',bits),told'):=by
 intro d
 induction d with
 | zero =>
   intro i M h ts told v0 h1 h2 S hts rt rp hlt nt np hpt h0;obtain⟨M,rfl⟩:∃ M',M=M'+1:=⟨M - 1,by omega⟩;obtain rfl:i=L.length:=by omega
   refine⟨h,ts,told,?_,S,fun b hb=>hb,.refl _ _,rfl,rt,by rw[Jh];rfl⟩;rw[zA];unfold YG;simp only[gv,zf,zh,XN,zr,za,zm];rw[if_neg (by simp)]
 | succ d ih =>
   intro i M h ts told v0 h1 h2 S hts rt rp hlt nt np hpt h0;obtain⟨M,rfl⟩:∃ M',M=M'+1:=⟨M - 1,by omega⟩;obtain⟨x,hx⟩:∃ x,L[i]?=some x:=⟨_,zg (by omega)⟩;have hdr:L.drop i=x :: L.drop (i+1):=by
    rw[zQ (by omega)];rw[zg (by omega)] at hx;rw[Option.some.inj hx]
   obtain⟨x0,x1,xk⟩:=hL x (zJ hx);obtain⟨k,rfl⟩:∃ k:Nat,x=(k:Int):=⟨x.toNat,(ZH x0).symm⟩;have hk:k < os.length:=by omega
   obtain⟨o,ho⟩:∃ o,os[k]?=some o:=⟨_,zg hk⟩;have hov:(os.map O.w)[k]?=some (O.w o):=by rw[Y9,ho];rfl
   have hoo:=Ju ho;have ht0:told[k]?=some ⟨0,0⟩:=by
    have:=h0 (k:Int) (by rw[hdr];exact zF ..);simpa using this
   obtain⟨B1,w1,r1⟩:=rt.code ht0 5;have hl1:decide ((i:Int) < (L.length:Int))=true:=by simp;omega
   obtain⟨g1,g2⟩:=rp.get hx;have htk:k < told.length:=by omega
   have hkeep1:∀ b,b≠tb->(h.set tb B1)[b]?=h[b]?:=fun b hb=>ze (Ne.symm hb);have hrest:∀ (told2:List R) (r:R),told2=told.set k r->∀ y∈L.drop (i+1),told2[y.toNat]?=some ⟨0,0⟩:=fun told2 r e y hy=>by
    rw[e,ze]
    . exact h0 y (by rw[hdr];exact zw _ hy)
    . intro e2;have hy0:=hL y (Zj hy);have hyk:y=(k:Int):=by omega
      have hnd2:(L.drop i).Nodup:=hnd.sublist (Qu _ _);rw[hdr] at hnd2;exact(ZP.1 hnd2).1 (hyk ▸ hy)
   rw[hoo] at xk;have hw1:Zt h [.int .u8 5] (.rptr tb 2 k 0)=some (tb,B1):=w1;have S1:∃ N,SkAt (h.set tb B1) s ts most N:=by obtain⟨N,S⟩:=S;exact⟨N,S.keep fun b hb=>hkeep1 b fun e=>nt (e ▸ hb)⟩
   have fk:nv (V.int .i64 (k:Int))=some k:=Za _ _;have rp1:RowI (h.set tb B1) pb .i64 3 L:=rp.keep (hkeep1 pb hpt);have base:∀ next,YG (n+2) s (os.map O.w) lb (.row pb 1 0 L.length) (.row tb 2 0 os.length) (1,iL L) [v0,.int .i64 (i:Int)] h next =
       (if (o.k != 2)=true then next [.sl 2 (lsl v0) false,.int .i64 ((i+1:Nat):Int)] (h.set tb B1) else
        (bd2 (Zt (h.set tb B1) [.int .u8 4] (.rptr tb 2 k 0)) fun b31 x32 =>
        (cl (call (n+2) 239 [.ptr s 0] (((h.set tb B1)).set b31 x32)) (fun r33 h34 =>
        (bd (r33)[0]? fun v36 =>
        (bd (r33)[1]? fun v37 =>
        (bv v37 fun b38=>if b38 then
        (bd (Qo prog 35 [(0,(V.int .u8 2)),(1,v36)]) fun cs39 =>
        (if (cs39).length=2 then
        (bd2 (Zt h34 cs39 (.rptr tb 2 k 0)) fun b42 x43 =>
        (next [(V.sl 2 (lsl v0) false),.int .i64 ((i+1:Nat):Int)] ((h34).set b42 x43))) else none))
        else
        (next [(V.sl 2 (lsl v0) false),.int .i64 ((i+1:Nat):Int)] h34))))) (fun z35 h34=>some (Res.pan z35,h34))))):=by
    intro next
    unfold YG;simp only[gv,zf,zh,XN,zr,za,zm,hl1,if_true,Za,zy,g1,g2,zn,zq,zl,Nat.reduceLT,and_self,zb,zjt hk,zoq,zW,hw1,Zf,Xb hov,KJ,Zl,Nat.reduceAdd,Nat.reduceLeDiff,znc,zju,zH,Xa (show i < lim by omega)]
   obtain⟨N,hS⟩:=S;rw[zA,base];have hst5:stp most (itT ts,bits) o=if o.k=2 then(match itT ts with|[]=>((itT ts,bits),⟨4,0⟩)|p :: r=>((r,bits),⟨2,p.1⟩)) else((itT ts,bits),⟨5,0⟩):=by
    unfold stp;rw[if_neg xk]
   have hrun:J3 os most (L.drop i) (itT ts,bits) told=J3 os most (L.drop (i+1)) (stp most (itT ts,bits) o).1 (told.set k (stp most (itT ts,bits) o).2):=by
    rw[hdr];show J3 os most _ (stp most (itT ts,bits) (oAt os (k:Int))).1 (told.set (k:Int).toNat (stp most (itT ts,bits) (oAt os (k:Int))).2)=_;rw[hoo,Xu]
   by_cases hk2:o.k=2
   . rw[if_neg (by simp[hk2])];have ht5:(told.set k ⟨5,0⟩)[k]?=some ⟨5,0⟩:=Zz htk;obtain⟨B2,w2,r2⟩:=r1.code ht5 4;have e2:(told.set k ⟨5,0⟩).set k ⟨4,0⟩=told.set k ⟨4,0⟩:=List.set_set ..
     replace r2:RowR ((h.set tb B1).set tb B2) tb (told.set k ⟨4,0⟩):=by rw[<- e2];exact r2
     rw[w2,Zf];have hkeep2:∀ b,b≠tb->((h.set tb B1).set tb B2)[b]?=h[b]?:=fun b hb=>by rw[ze (Ne.symm hb)];exact hkeep1 b hb
     have S2:SkAt ((h.set tb B1).set tb B2) s ts most N:=hS.keep fun b hb=>hkeep2 b fun e=>nt (e ▸ hb);cases ts with
     | nil =>
       rw[zql n S2,zM];simp only[zb,zj,za,zm];rw[if_neg (by decide)];obtain⟨h',ts',told',e,b1,b2,b3,b4,b5,b6⟩:=ih (i+1) M ((h.set tb B1).set tb B2) [] (told.set k ⟨4,0⟩) (.sl 2 (lsl v0) false) (by omega) (by omega) ⟨N,S2⟩ hts r2 (rp.keep (hkeep2 pb hpt)) (by rw[zt];exact hlt) nt np hpt (hrest _ ⟨4,0⟩ rfl);refine⟨h',ts',told',e,b1,b2,?_,by rw[b4,zt,zt],b5,?_⟩
       . exact Frm.trans ⟨by simp,fun j _ hj=>hkeep2 j fun e=>hj (e ▸ zF ..)⟩ b3 fun y hy=>.inl hy
       . rw[hrun,hst5,if_pos hk2];exact b6
     | cons t ts =>
       obtain⟨h3,e3,T⟩:=zqk n S2 hn (by simp at hts;omega);rw[e3,zM];simp only[zb,zj,za,zm];rw[if_pos (by first|trivial|rfl),za4,za,if_pos (by first|trivial|rfl)];have hts3:tb≠s:=fun e=>nt (e ▸ zF ..);have hps3:pb≠s:=fun e=>np (e ▸ zF ..);have r3:RowR h3 tb (told.set k ⟨4,0⟩):=r2.keep (T.old tb hts3);obtain⟨B3,w3,r4⟩:=r3.all (show (told.set k ⟨4,0⟩)[k]?=some ⟨4,0⟩ from Zz htk) 2 t.v;have e4:(told.set k ⟨4,0⟩).set k ⟨2,t.v⟩=told.set k ⟨2,t.v⟩:=List.set_set ..
       replace r4:RowR (h3.set tb B3) tb (told.set k ⟨2,t.v⟩):=by rw[<- e4];exact r4
       rw[w3,Zf];have hkeep4:∀ b,b≠tb->(h3.set tb B3)[b]?=h3[b]?:=fun b hb=>ze (Ne.symm hb);have nt':tb ∉ skB s ts:=fun hm=>nt (by
        rcases zL.1 hm with e|hm
        . exact e ▸ zF ..
        . exact zw _ (zw _ hm))
       have hsub:∀ b∈skB s ts,b∈skB s (t :: ts):=fun b hb=>by
        rcases zL.1 hb with e|hm
        . exact e ▸ zF ..
        . exact zw _ (zw _ hm)
       have S4:∃ N,SkAt (h3.set tb B3) s ts most N:=by obtain⟨N',S'⟩:=T.sk;exact⟨N',S'.keep fun b hb=>hkeep4 b fun e=>nt' (e ▸ hb)⟩
       obtain⟨h',ts',told',e,b1,b2,b3,b4,b5,b6⟩:=ih (i+1) M (h3.set tb B3) ts (told.set k ⟨2,t.v⟩) (.sl 2 (lsl v0) false) (by omega) (by omega) S4 (by simp at hts;omega) r4 (rp.keep (by rw[hkeep4 pb hpt,T.old pb hps3,hkeep2 pb hpt])) (by rw[zt];exact hlt) nt' (fun hm=>np (hsub pb hm)) hpt (hrest _ ⟨2,t.v⟩ rfl);refine⟨h',ts',told',e,b1,fun b hb=>hsub b (b2 b hb),?_,by rw[b4,zt,T.len,zt,zt],b5,?_⟩
       . refine Frm.trans (h1:=h3.set tb B3) ⟨by rw[zt,T.len,zt,zt];exact zl _,fun j _ hj=>?_⟩ b3 fun y hy=>.inl ?_
         . have hj1:j≠tb:=fun e=>hj (e ▸ zF ..);have hj2:j≠s:=fun e=>hj (e ▸ zw _ (zF ..));rw[hkeep4 j hj1,T.old j hj2,hkeep2 j hj1]
         . rcases zL.1 hy with e|hy
           . exact e ▸ zF ..
           . exact zw _ (hsub y hy)
       . rw[hrun,hst5,if_pos hk2];exact b6
   . rw[if_pos (by simp[hk2])];obtain⟨h',ts',told',e,b1,b2,b3,b4,b5,b6⟩:=ih (i+1) M (h.set tb B1) ts (told.set k ⟨5,0⟩) (.sl 2 (lsl v0) false) (by omega) (by omega) S1 hts r1 rp1 (by rw[zt];exact hlt) nt np hpt (hrest _ ⟨5,0⟩ rfl);refine⟨h',ts',told',e,b1,b2,?_,by rw[b4,zt],b5,?_⟩
     . exact Frm.trans ⟨by simp,fun j _ hj=>hkeep1 j fun e=>hj (e ▸ zF ..)⟩ b3 fun y hy=>.inl hy
     . rw[hrun,hst5,if_neg hk2];exact b6
theorem zoF (n : Nat) {h : zd} {s : Nat} {ts : List Tw} {most : Int} (os : List O) (lb : Bool) (told : List R) (tb pb : Nat) (bits : List Bool) (S : ∃ N, SkAt h s ts most N) (hts : ts.length < lim) (rt : RowR h tb told) (rp : RowI h pb .i64 3 (Xo os)) (hlt : told.length = os.length) (nt : tb ∉ skB s ts) (np : pb ∉ skB s ts) (hpt : pb ≠ tb) (h0 : ∀ x ∈ Xo os, told[x.toNat]? = some ⟨0, 0⟩) (hlim : os.length < lim) (hn : os.length + 8 < n) :
    ∃ h' ts' told',call (n+3) 229 [.ptr s 0,.sl 2 (os.map O.w) lb,.row pb 1 0 (Xo os).length,.row tb 2 0 os.length] h=some (.ret [.row tb 2 0 os.length],h') ∧
     (∃ N,SkAt h' s ts' most N)/\(∀ b∈skB s ts',b∈skB s ts)/\Frm h h' (tb :: skB s ts)/\h'.length=h.length/\RowR h' tb told'/\J3 os most (Xo os) (itT ts,bits) told=((itT ts',bits),told'):=by
 have hl:=KI os os.length;have hol:(Xo os).length<=os.length:=by unfold Xo;omega
 have hnd:(Xo os).Nodup:=by
  have:∀ n:Nat,(QK os n).Pairwise (· < ·):=fun n=>by
   induction n with
   | zero=>exact .nil
   | succ n ih =>
     simp only[QK];split
     . exact ih
     . refine ZJ.2 ⟨ih,Wj ..,fun a ha b hb=>?_⟩;rw[Zx] at hb;subst hb;exact(Qw os n a ha).2.1
  exact(this os.length).imp fun h=>by omega
 obtain⟨h',ts',told',e,r⟩:=zoE n os lb (Xo os) (Qw os os.length) hnd tb pb (by omega) (by omega) bits (Xo os).length 0 (n+2) h ts told (.sl 2 [] false) (by omega) (by omega) S hts rt rp hlt nt np hpt (by rw[zO];exact h0);refine⟨h',ts',told',?_,by rw[zO] at r;exact r⟩;refine(zls (n+2) s (os.map O.w) lb _ _ h).trans ?_;unfold zm0;rw[rp.slc,za];exact e
end Go.Proofs.Tryz
namespace Go.Proofs.Tryz
open Go.L Go.Rp Go.Sk
set_option maxRecDepth 100000
structure Env(h:zd)(s:Nat)(ts:List Tw)(most:Int)(c:Nat)(cb:Option Nat)(bits:List Bool)(p1:Nat)(P:List Int)(p2:Nat)(Q:List Int):Prop where
 sk:∃ N,SkAt h s ts most N
 bt:BitsAt h c cb bits
 r1:RowI h p1 .i64 3 P
 r2:RowI h p2 .i64 3 Q
 nc:c ∉ skB s ts
 ncb:∀ b,cb=some b->b ∉ skB s ts
 n1:p1 ∉ skB s ts/\p1≠c
 n2:p2 ∉ skB s ts/\p2≠c
theorem BitsAt.lt{h:zd}{c:Nat}{cb:Option Nat}{bits:List Bool}(hb:BitsAt h c cb bits):c < h.length/\∀ b,cb=some b->b < h.length:=by
 cases cb with
 | none=>exact⟨zT hb.2,fun b e=>by cases e⟩
 | some b =>
   obtain⟨_,lo,l,z,h2,h3,_⟩:=hb;exact⟨zT h2,fun b' e=>by cases e;exact zT h3⟩
theorem Env.coin{h h':zd}{s:Nat}{ts:List Tw}{most:Int}{c:Nat}{cb:Option Nat}{bits bits':List Bool}{p1 p2:Nat}{P Q:List Int}(E:Env h s ts most c cb bits p1 P p2 Q)(hb:BitsAt h' c cb bits')(hk:∀ i,i≠c->h'[i]?=h[i]?):Env h' s ts most c cb bits' p1 P p2 Q :=
 ⟨by obtain⟨N,S⟩:=E.sk;exact⟨N,S.keep fun b hb=>hk b fun e=>E.nc (e ▸ hb)⟩,hb,E.r1.keep (hk _ E.n1.2),E.r2.keep (hk _ E.n2.2),E.nc,E.ncb,E.n1,E.n2⟩
theorem RowI.lt{h:zd}{b:Nat}{k:IntKind}{e:Nat}{l:List Int}(r:RowI h b k e l):b < h.length:=by obtain⟨z,hz⟩:=r;exact zT hz
theorem Env.grew{h h':zd}{s:Nat}{ts ts':List Tw}{most:Int}{c:Nat}{cb:Option Nat}{bits:List Bool}{p1 p2:Nat}{P Q:List Int}(E:Env h s ts most c cb bits p1 P p2 Q)(G:Grew h h' s ts ts' most):Env h' s ts' most c cb bits p1 P p2 Q:=by
 have l:=E.bt.lt;have hn:∀ b,b < h.length->b ∉ skB s ts->b ∉ skB s ts':=fun b h1 h2 hm=>by rcases G.new b hm with h|h;exact h2 h;omega
 exact⟨G.sk,E.bt.keep (G.old c l.1 E.nc) fun b hb=>G.old b (l.2 b hb) (E.ncb b hb),E.r1.keep (G.old _ E.r1.lt E.n1.1),E.r2.keep (G.old _ E.r2.lt E.n2.1),hn c l.1 E.nc,fun b hb=>hn b (l.2 b hb) (E.ncb b hb),⟨hn _ E.r1.lt E.n1.1,E.n1.2⟩,⟨hn _ E.r2.lt E.n2.1,E.n2.2⟩⟩
theorem Env.push{h:zd}{s:Nat}{ts:List Tw}{most:Int}{c:Nat}{cb:Option Nat}{bits:List Bool}{p1 p2:Nat}{P Q:List Int}(E:Env h s ts most c cb bits p1 P p2 Q)(l:List HB):Env (h++l) s ts most c cb bits p1 P p2 Q:=by
 have hk:∀ b,b < h.length->(h++l)[b]?=h[b]?:=fun b hb=>zk hb;have lt:=E.bt.lt;obtain⟨N,S⟩:=E.sk;exact⟨⟨N,S.keep fun b hb=>hk b (S.lt b hb)⟩,E.bt.keep (hk c lt.1) fun b hb=>hk b (lt.2 b hb),E.r1.keep (hk _ E.r1.lt),E.r2.keep (hk _ E.r2.lt),E.nc,E.ncb,E.n1,E.n2⟩
structure Did(h h':zd)(s:Nat)(ts ts':List Tw)(most:Int)(c:Nat)(cb:Option Nat)(bits':List Bool)(tb:Nat)(told:List R):Prop where
 sk:∃ N,SkAt h' s ts' most N
 bt:BitsAt h' c cb bits'
 tl:RowR h' tb told
 tb:h.length<=tb
 frm:Frm h h' (c :: skB s ts)
 new:∀ b∈skB s ts',b∈skB s ts\/h.length<=b
 room:(ts'.length:Int)<=most
theorem zhf(bits:List Bool):hOf ((hgt 1 bits).1:Int)=(hgt 1 bits).1:=by
 have:=zm6 bits 1 (zl _) (by omega);unfold hOf;omega
theorem za5(l:List (Int×Nat))(v:Int)(T:Nat):(je l v T).length=l.length+1:=by
 unfold je;rw[zE,zD];have:=congrArg List.length (List.takeWhile_append_dropWhile (p:=fun p:Int×Nat=>decide (p.1<=v)) (l:=l));rw[zE] at this;omega
theorem Q6(ts:List Tw):(itT ts).length=ts.length:=by simp[itT]
theorem zqx{most:Int}{st:St}{o:O}(h:(st.1.length:Int)<=most):((stp most st o).1.1.length:Int)<=most:=by
 unfold stp;split
 . split
   . exact h
   . simp only[za5];omega
 . split
   . split
     . exact h
     . rename_i p r e;rw[e] at h;simp at h;simp only;omega
   . exact h
theorem zbP {os : List O} {most : Int} : ∀ (l : List Int) {st : St} {told : List R}, (st.1.length : Int) <= most -> ((J3 os most l st told).1.1.length : Int) <= most
 | [],st,told,h=>h
 | k :: l,st,told,h=>zbP l (zqx h)
theorem zbQ(l:List R):lsl (V.sl 2 (l.map R.w) false)=l.map R.w:=rfl
theorem zhg(x:R)(c:Int):setR (R.w x) 0 [.int .u8 c]=R.w ⟨c,x.v⟩:=rfl
theorem zlN(n:Nat){s c:Nat}{cb:Option Nat}{most:Int}(os:List O)(lb:Bool)(P:List Int)(hP:∀ x∈P,0<=x/\x < (os.length:Int)/\(oAt os x).k=1)(hnd:P.Nodup)(p1 p2:Nat)(Q0:List Int)(v6:V)(hlim:P.length < lim):∀ (d i M:Nat) (h:zd) (ts:List Tw) (bits:List Bool) (told:List R) (v0 v2:V),i+d=P.length->d < M →
    Env h s ts most c cb bits p1 P p2 Q0->ts.length+d < lim->ts.length+d+10 < n->told.length=os.length->(∀ x∈P.drop i,told[x.toNat]?=some ⟨0,0⟩) →
    ∃ h' ts' bits' told' v0' v2' M',zR M (QT (n+3) s c (os.map O.w) lb (.row p1 1 0 P.length) v6 (1,iL P)) [v0,.sl 2 (told.map R.w) false,v2,.int .i64 (i:Int)] h=QT (n+3) s c (os.map O.w) lb (.row p1 1 0 P.length) v6 (1,iL P) [v0',.sl 2 (told'.map R.w) false,v2',.int .i64 (P.length:Int)] h' (zR M' (QT (n+3) s c (os.map O.w) lb (.row p1 1 0 P.length) v6 (1,iL P))) ∧
     Env h' s ts' most c cb bits' p1 P p2 Q0/\Frm h h' (c :: skB s ts)/\(∀ b∈skB s ts',b∈skB s ts\/h.length<=b)/\told'.length=os.length/\ts'.length<=ts.length+d/\J3 os most (P.drop i) (itT ts,bits) told=((itT ts',bits'),told')/\(∀ y:Nat,(∀ x∈P.drop i,x≠(y:Int))->told'[y]?=told[y]?):=by
 intro d
 induction d with
 | zero =>
   intro i M h ts bits told v0 v2 h1 h2 E hts hn hlt h0;obtain⟨M,rfl⟩:∃ M',M=M'+1:=⟨M - 1,by omega⟩;obtain rfl:i=P.length:=by omega
   exact⟨h,ts,bits,told,v0,v2,M,zA ..,E,.refl _ _,fun b hb=>.inl hb,hlt,zl _,by rw[Jh];rfl,fun _ _=>rfl⟩
 | succ d ih =>
   intro i M h ts bits told v0 v2 h1 h2 E hts hn hlt h0;obtain⟨M,rfl⟩:∃ M',M=M'+1:=⟨M - 1,by omega⟩;obtain⟨x,hx⟩:∃ x,P[i]?=some x:=⟨_,zg (by omega)⟩;have hdr:P.drop i=x :: P.drop (i+1):=by
    rw[zQ (by omega)];rw[zg (by omega)] at hx;rw[Option.some.inj hx]
   obtain⟨x0,x1,xk⟩:=hP x (zJ hx);obtain⟨k,rfl⟩:∃ k:Nat,x=(k:Int):=⟨x.toNat,(ZH x0).symm⟩;have hk:k < os.length:=by omega
   obtain⟨o,ho⟩:∃ o,os[k]?=some o:=⟨_,zg hk⟩;have hov:(os.map O.w)[k]?=some (O.w o):=by rw[Y9,ho];rfl
   have hoo:=Ju ho;rw[hoo] at xk;have ht0:told[k]?=some ⟨0,0⟩:=by
    have:=h0 (k:Int) (by rw[hdr];exact zF ..);simpa using this
   have htk:k < told.length:=by omega
   have htv:(told.map R.w)[k]?=some (R.w ⟨0,0⟩):=by rw[K9,ht0];rfl
   have hl1:decide ((i:Int) < (P.length:Int))=true:=by simp;omega
   obtain⟨g1,g2⟩:=E.r1.get hx;have hnd2:(P.drop i).Nodup:=hnd.sublist (Qu _ _);rw[hdr] at hnd2;have hrest:∀ (told2:List R) (r:R),told2=told.set k r->∀ y∈P.drop (i+1),told2[y.toNat]?=some ⟨0,0⟩:=fun told2 r e y hy=>by
    rw[e,ze]
    . exact h0 y (by rw[hdr];exact zw _ hy)
    . intro e2;have hy0:=hP y (Zj hy);have hyk:y=(k:Int):=by omega
      exact(ZP.1 hnd2).1 (hyk ▸ hy)
   have hrun:J3 os most (P.drop i) (itT ts,bits) told=J3 os most (P.drop (i+1)) (stp most (itT ts,bits) o).1 (told.set k (stp most (itT ts,bits) o).2):=by
    rw[hdr];show J3 os most _ (stp most (itT ts,bits) (oAt os (k:Int))).1 (told.set (k:Int).toNat (stp most (itT ts,bits) (oAt os (k:Int))).2)=_;rw[hoo,Xu]
   have hoth:∀ (r:R) (told':List R),(∀ y:Nat,(∀ x∈P.drop (i+1),x≠(y:Int))->told'[y]?=(told.set k r)[y]?)->∀ y:Nat,(∀ x∈P.drop i,x≠(y:Int))->told'[y]?=told[y]?:=fun r told' hh y hy=>by
    rw[hdr] at hy;rw[hh y fun x hx=>hy x (zw _ hx),ze];intro e;exact hy (k:Int) (zF ..) (by omega)
   obtain⟨N,hS⟩:=E.sk;have hlenC:=jX (n+2) hS;have hmostC:=zbH (n+2) hS;have hset3:(told.map R.w).set k (setR (R.w ⟨0,0⟩) 0 [.int .u8 3])=(told.set k ⟨3,0⟩).map R.w:=by rw[zhg,Jt]
   have c1:(2=2/\k < (told.map R.w).length/\(some 28:Option Nat)≠some 7):=⟨rfl,by rw[zo];exact htk,by decide⟩;by_cases hfull:(ts.length:Int) < most
   ·
    obtain⟨h2',e2,B2,l2,f2⟩:=zcl n E.bt (by omega);have E2:=E.coin B2 f2;obtain⟨N2,hS2⟩:=E2.sk;obtain⟨h3,ts3,e3,P3⟩:=zjc n hS2 o.v ((hgt 1 bits).1:Int) (by omega) (by omega) hfull;have E3:=E2.grew P3.grew;have hset1:((told.set k ⟨3,0⟩).map R.w).set k (setR (R.w ⟨3,0⟩) 0 [.int .u8 1])=(told.set k ⟨1,0⟩).map R.w:=by rw[zhg,<- Jt,List.set_set]
    have htv3:((told.set k ⟨3,0⟩).map R.w)[k]?=some (R.w ⟨3,0⟩):=by rw[K9,Zz htk];rfl
    have key:∀ next,QT (n+3) s c (os.map O.w) lb (.row p1 1 0 P.length) v6 (1,iL P) [v0,.sl 2 (told.map R.w) false,v2,.int .i64 (i:Int)] h next=next [.sl 2 (lsl v0) false,.sl 2 ((told.set k ⟨1,0⟩).map R.w) false,.bool false,.int .i64 ((i+1:Nat):Int)] h3:=by
     intro next
     unfold QT;simp only[gv,zf,zh,XN,zr,za,zm,hl1,if_true,Za,zy,g1,g2,zn,zq,zl,Nat.reduceLT,and_self,zb,zbQ];rw[if_pos (by exact⟨trivial,c1.2.1,by decide⟩),htv,za,hlenC,zM,zx,hmostC,zM,zx,zr,za,zm,if_pos (by exact decide_eq_true hfull)];rw[Xb hov,za];simp only[esP,zhe,za];rw[e2,clH_ret,zx,e3,clH_ret,zx,hset3];rw[if_pos (by exact⟨trivial,by rw[zo,zt];exact htk,by decide⟩),htv3,za,zH,za,hset1,Xa (show i < lim by omega)]
    have hlen3:ts3.length=ts.length+1:=by
     have:=congrArg List.length P3.items;rwa[Q6,za5,Q6] at this
    obtain⟨h',ts',bits',told',v0',v2',M',e,b1,b2,b3,b4,b5,b6,b7⟩:=ih (i+1) M h3 ts3 (hgt 1 bits).2 (told.set k ⟨1,0⟩) (.sl 2 (lsl v0) false) (.bool false) (by omega) (by omega) E3 (by omega) (by omega) (by rw[zt];exact hlt) (hrest _ ⟨1,0⟩ rfl);refine⟨h',ts',bits',told',v0',v2',M',by rw[zA,key];exact e,b1,?_,fun b hb=>?_,b4,by omega,?_,hoth ⟨1,0⟩ told' b7⟩
    . have f3:Frm h h3 (c :: skB s ts):=Frm.trans (h1:=h2') ⟨Nat.le_of_eq l2.symm,fun j _ hj=>f2 j fun e=>hj (e ▸ zF ..)⟩ P3.grew.frm fun y hy=>.inl (zw _ hy);refine f3.trans b2 fun y hy=>?_;rcases zL.1 hy with e|hy
      . exact .inl (e ▸ zF ..)
      . rcases P3.grew.new y hy with h|h
        . exact .inl (zw _ h)
        . exact .inr (by omega)
    . have hl3:=P3.len;rcases b3 b hb with h|h
      . rcases P3.grew.new b h with h|h
        . exact .inl h
        . exact .inr (by omega)
      . exact .inr (by omega)
    . rw[hrun];have hst:stp most (itT ts,bits) o=((je (itT ts) o.v (hgt 1 bits).1,(hgt 1 bits).2),⟨1,0⟩):=by
       unfold stp;rw[if_pos xk,if_neg (by simp only[Q6];omega)]
      rw[hst,<- zhf bits,<- P3.items];exact b6
   . have key:∀ next,QT (n+3) s c (os.map O.w) lb (.row p1 1 0 P.length) v6 (1,iL P) [v0,.sl 2 (told.map R.w) false,v2,.int .i64 (i:Int)] h next=next [.sl 2 (lsl v0) false,.sl 2 ((told.set k ⟨3,0⟩).map R.w) false,.bool false,.int .i64 ((i+1:Nat):Int)] h:=by
       intro next
       unfold QT;simp only[gv,zf,zh,XN,zr,za,zm,hl1,if_true,Za,zy,g1,g2,zn,zq,zl,Nat.reduceLT,and_self,zb,zbQ];rw[if_pos (by exact⟨trivial,c1.2.1,by decide⟩),htv,za,hlenC,zM,zx,hmostC,zM,zx,zr,za,zm,if_neg (by intro e;exact hfull (of_decide_eq_true e)),zH,za,hset3,Xa (show i < lim by omega)]
     obtain⟨h',ts',bits',told',v0',v2',M',e,b1,b2,b3,b4,b5,b6,b7⟩:=ih (i+1) M h ts bits (told.set k ⟨3,0⟩) (.sl 2 (lsl v0) false) (.bool false) (by omega) (by omega) E (by omega) (by omega) (by rw[zt];exact hlt) (hrest _ ⟨3,0⟩ rfl);refine⟨h',ts',bits',told',v0',v2',M',by rw[zA,key];exact e,b1,b2,b3,b4,by omega,?_,hoth ⟨3,0⟩ told' b7⟩;rw[hrun];have hst:stp most (itT ts,bits) o=((itT ts,bits),⟨3,0⟩):=by
      unfold stp;rw[if_pos xk,if_pos (by simp only[Q6];omega)]
     rw[hst];exact b6
theorem zlO(n:Nat):List.replicate n [V.int .u8 0,V.int .i32 0]=(List.replicate n (⟨0,0⟩:R)).map R.w:=by rw[List.map_replicate];rfl
def YK(os:List O)(most:Int)(st:St):St×List R:=J3 os most (Z9 os++Xo os) st (List.replicate os.length ⟨0,0⟩)
theorem zcq(os:List O):∀ x∈Xo os,∀ y∈Z9 os,y≠x:=fun x hx y hy e=>by
 have h1:=Qw os _ x hx;have h2:=JC os _ y ((YJ os).mem_iff.1 hy);rw[e] at h2;exact h1.2.2 h2.2.2
theorem j7(os:List O):(Z9 os).Nodup:=(YJ os).nodup_iff.2 ((KH os os.length).imp fun h=>by omega)
theorem X1(os:List O):∀ x∈Z9 os,0<=x/\x < (os.length:Int)/\(oAt os x).k=1:=fun x hx=>JC os _ x ((YJ os).mem_iff.1 hx)
theorem zjv {h : zd} {s : Nat} {ts : List Tw} {most : Int} {c : Nat} {cb : Option Nat} {bits : List Bool} (os : List O) (S : ∃ N, SkAt h s ts most N) (B : BitsAt h c cb bits) (nc : c ∉ skB s ts) (ncb : ∀ b, cb = some b -> b ∉ skB s ts) :
    Env (We h os) s ts most c cb bits h.length (Z9 os) (h.length+1) (Xo os):=by
 obtain⟨N,S⟩:=S;have l:=B.lt;have hk:∀ b,b < h.length->(We h os)[b]?=h[b]?:=fun b hb=>zk hb;have h0:(We h os)[h.length]?=some (.row 3 1 (iL (Z9 os)) true):=by unfold We;rw[zK (zl _),QX];rfl
 have h1:(We h os)[h.length+1]?=some (.row 3 1 (iL (Xo os)) true):=by unfold We;rw[zK (by omega),Xt];rfl
 exact⟨⟨N,S.keep fun b hb=>hk b (S.lt b hb)⟩,B.keep (hk c l.1) fun b hb=>hk b (l.2 b hb),⟨_,h0⟩,⟨_,h1⟩,nc,ncb,⟨fun hm=>by have:=S.lt _ hm;omega,by omega⟩,⟨fun hm=>by have:=S.lt _ hm;omega,by omega⟩⟩
theorem zjw (n : Nat) {h hh : zd} {s : Nat} {ts ts1 : List Tw} {most : Int} {c : Nat} {cb : Option Nat} {bits : List Bool} {p1 p2 : Nat} (os : List O) (lb : Bool) (told : List R) (E : Env hh s ts1 most c cb bits p1 (Z9 os) p2 (Xo os)) (hp2 : h.length <= p2) (hlt : told.length = os.length) (h0 : ∀ x ∈ Xo os, told[x.toNat]? = some ⟨0, 0⟩) (hts : ts1.length < lim) (hlim : os.length < lim) (hn : os.length + 8 < n) (hF : Frm h hh (c :: skB s ts)) (hN : ∀ b ∈ skB s ts1, b ∈ skB s ts \/ h.length <= b) (hroom : (ts1.length : Int) <= most) :
    ∃ h' ts' told',call (n+3) 229 [.ptr s 0,.sl 2 (os.map O.w) lb,.row p2 1 0 (Xo os).length,.row hh.length 2 0 os.length] (hh++[.row 35 2 (told.map R.w) true])=some (.ret [.row hh.length 2 0 os.length],h') ∧
     Did h h' s ts ts' most c cb bits hh.length told'/\J3 os most (Xo os) (itT ts1,bits) told=((itT ts',bits),told'):=by
 have E1:=E.push [.row 35 2 (told.map R.w) true];have rt:RowR (hh++[.row 35 2 (told.map R.w) true]) hh.length told:=⟨true,zI⟩;obtain⟨N,S⟩:=E.sk;have nt:hh.length ∉ skB s ts1:=fun hm=>by have:=S.lt _ hm;omega
 have hpl:=E.r2.lt;obtain⟨h',ts',told',e,a1,a2,a3,a4,a5,a6⟩:=zoF n os lb told hh.length p2 bits E1.sk hts rt E1.r2 hlt nt E.n2.1 (by omega) h0 hlim hn;have hl:=E.bt.lt;refine⟨h',ts',told',e,⟨a1,?_,a5,hF.len,?_,fun b hb=>?_,?_⟩,a6⟩
 . have hk:∀ i,i < hh.length->i ∉ skB s ts1->h'[i]?=hh[i]?:=fun i h1 h2=>by
     rw[a3.old i (by rw[zE];omega) (fun hm=>by rcases zL.1 hm with e|hm;omega;exact h2 hm),zk h1]
   exact E.bt.keep (hk c hl.1 E.nc) fun b hb=>hk b (hl.2 b hb) (E.ncb b hb)
 . refine(hF.trans (Frm.push hh _ []) (fun y hy=>by cases hy)).trans a3 fun y hy=>?_;rcases zL.1 hy with e|hy
   . exact .inr (by have:=hF.len;omega)
   . rcases hN y hy with h|h
     . exact .inl (zw _ h)
     . exact .inr h
 . exact hN b (a2 b hb)
 . have h1:=congrArg (fun p=>(p.1.1.length:Int)) a6;simp only[Q6] at h1;rw[<- h1];exact zbP _ (by simp only[Q6];exact hroom)
theorem zlP (n : Nat) {h : zd} {s : Nat} {ts : List Tw} {most : Int} {c : Nat} {cb : Option Nat} {bits : List Bool} (os : List O) (lb : Bool) (S : ∃ N, SkAt h s ts most N) (B : BitsAt h c cb bits) (nc : c ∉ skB s ts) (ncb : ∀ b, cb = some b -> b ∉ skB s ts) (hroom : (ts.length : Int) <= most) (hl : ts.length + 4 * os.length + 100 < lim) (hn : ts.length + 2 * os.length + 50 <= n) :
    ∃ h' ts' bits' tb told',call (n+4) 224 [.ptr s 0,.ptr c 0,.sl 2 (os.map O.w) lb] h=some (.ret [.row tb 2 0 os.length],h')/\Did h h' s ts ts' most c cb bits' tb told'/\YK os most (itT ts,bits)=((itT ts',bits'),told'):=by
 have hpl:=KI os os.length;have hsl:=qw os;have hpo:(Yd os).length<=os.length:=by unfold Yd;omega
 have E0:=zjv os S B nc ncb;have hlf:(We h os).length=h.length+2:=by simp[We]
 obtain⟨h1,ts1,bits1,told1,v0',v2',M',e,b1,b2,b3,b4,b5,b6,b7⟩:=zlN n os lb (Z9 os) (X1 os) (j7 os) h.length (h.length+1) (Xo os) (.row (h.length+1) 1 0 (Xo os).length) (by omega) (Z9 os).length 0 (n+3) (We h os) ts bits (List.replicate os.length ⟨0,0⟩) (.sl 2 [] false) (.bool false) (by omega) (by omega) E0 (by omega) (by omega) (by simp) (fun x hx=>by
  have:=X1 os x (Zj hx);rw[Z3,if_pos (by omega)])
 rw[zO] at b6 b7;have hF:Frm h h1 (c :: skB s ts):=Frm.trans (Frm.push h _ (c :: skB s ts)) b2 fun y hy=>.inl hy;have hN:∀ b∈skB s ts1,b∈skB s ts\/h.length<=b:=fun b hb=>(b3 b hb).imp id fun h=>by omega
 have hr1:(ts1.length:Int)<=most:=by
  have h1:=congrArg (fun p=>(p.1.1.length:Int)) b6;simp only[Q6] at h1;rw[<- h1];exact zbP _ (by simp only[Q6];exact hroom)
 obtain⟨h',ts',told',e2,D,r⟩:=zjw (ts:=ts) n os lb told1 b1 (by omega) b4 (fun x hx=>by
  have hm:=Qw os _ x hx;rw[b7 x.toNat fun y hy=>fun e=>zcq os x hx y hy (by omega),Z3,if_pos (by omega)]) (by omega) (by omega) (by omega) hF hN hr1
 refine⟨h',ts',bits1,h1.length,told',?_,D,?_⟩
 . refine(ziV (n+3) s c (os.map O.w) lb h).trans ?_;unfold ziU;have fN:nv (V.int .i64 (os.length:Int))=some os.length:=Za _ _;have hpc:call (n+3) 225 [.sl 2 (os.map O.w) lb] h=some (.ret [.row h.length 1 0 (Yd os).length,.row (h.length+1) 1 0 (Xo os).length],We h os):=zcp (n+1) h os lb (by omega) (by omega);simp only[zo];rw[fN,zy,zy,if_pos (by first|exact⟨zl _,by omega,rfl⟩|exact⟨trivial,by omega,trivial⟩|exact⟨zl _,by omega,trivial⟩),hpc,zM];simp only[zb,zj,za];rw[<- hsl,E0.r1.slc,za,zlO];refine e.trans ?_;unfold QT;simp only[gv,zf,zh,XN,zr,za,zm];rw[if_neg (by simp),zbQ,zo,b4,e2,zM,zx]
 . unfold YK;rw[YZ,b6];exact r
end Go.Proofs.Tryz
namespace Go.Proofs.Tryz
open Go.L Go.Rp Go.Sk
set_option maxRecDepth 100000
def zao : Nat -> List Bool -> List Int × List Bool
 | 0,bits=>([],bits)
 | k+1,bits=>(((hgt 1 bits).1:Int) :: (zao k (hgt 1 bits).2).1,(zao k (hgt 1 bits).2).2)
theorem zjx : ∀ (k : Nat) (bits : List Bool), (zao k bits).1.length = k
 | 0,_=>rfl
 | k+1,bits=>by simp[zao,zjx k]
def Jo (r : R) : List Int -> List R -> List R
 | [],told=>told
 | k :: l,told=>Jo r l (told.set k.toNat r)
theorem zap (r : R) : ∀ (l : List Int) (told : List R), (Jo r l told).length = told.length
 | [],_=>rfl
 | k :: l,told=>by show (Jo r l _).length=_;rw[zap r l,zt]
theorem qy (r : R) : ∀ (l : List Int) (told : List R) (y : Nat), (∀ x ∈ l, x.toNat ≠ y) -> (Jo r l told)[y]? = told[y]?
 | [],_,_,_=>rfl
 | k :: l,told,y,h=>by
   show (Jo r l _)[y]?=_;rw[qy r l _ y fun x hx=>h x (zw _ hx),ze (h k (zF ..))]
theorem znd(os:List O)(most:Int):∀ (P:List Int) (st:St) (told:List R),(∀ x∈P,(oAt os x).k=1)->(st.1.length:Int)+P.length<=most →
    J3 os most P st told=((zan st.1 ((P.map (Kf os)).zip (zao P.length st.2).1),(zao P.length st.2).2),Jo ⟨1,0⟩ P told)
 | [],st,told,_,_=>rfl
 | k :: P,st,told,hk,hm=>by
   have hst:stp most st (oAt os k)=((je st.1 (oAt os k).v (hgt 1 st.2).1,(hgt 1 st.2).2),⟨1,0⟩):=by
    unfold stp;rw[if_pos (hk k (zF ..)),if_neg (by simp at hm;omega)]
   show J3 os most P (stp most st (oAt os k)).1 (told.set k.toNat (stp most st (oAt os k)).2)=_;rw[hst,znd os most P _ _ (fun x hx=>hk x (zw _ hx)) (by rw[za5];simp at hm ⊢;omega)];simp only[zS,zD,zao,XW,zan,Jo,zhf];rfl
theorem zjy (os : List O) (most : Int) : ∀ (P : List Int) (st : St) (told : List R), (∀ x ∈ P, (oAt os x).k = 1) -> most <= (st.1.length : Int) -> J3 os most P st told = (st, Jo ⟨3, 0⟩ P told)
 | [],st,told,_,_=>rfl
 | k :: P,st,told,hk,hm=>by
   have hst:stp most st (oAt os k)=(st,⟨3,0⟩):=by
    unfold stp;rw[if_pos (hk k (zF ..)),if_pos hm]
   show J3 os most P (stp most st (oAt os k)).1 (told.set k.toNat (stp most st (oAt os k)).2)=_;rw[hst];exact zjy os most P st _ (fun x hx=>hk x (zw _ hx)) hm
theorem RowI.getP{h:zd}{b:Nat}{k:IntKind}{e:Nat}{l:List Int}(r:RowI h b k e l){lo hi i:Nat}{x:Int}(hi':lo+i < hi)(hx:l[lo+i]?=some x):ZE 1 i (.row b 1 lo hi)=some (.rptr b 1 (lo+i) 0)/\zu h (.rptr b 1 (lo+i) 0)=some ([.int k x],1,0):=by
 obtain⟨z,hz⟩:=r;refine⟨XR (by omega),XD hz (by decide) ?_⟩;rw[zG,hx];rfl
theorem RowI.slcP{h:zd}{b:Nat}{k:IntKind}{e:Nat}{l:List Int}(r:RowI h b k e l){lo hi:Nat}(h1:lo<=hi)(h2:hi<=l.length):ZR h (.row b 1 lo hi)=some (1,((l.take hi).drop lo).map (Xc k)):=by
 obtain⟨z,hz⟩:=r;rw[Qx hz h1 (by rw[zo];exact h2),WU,WV]
theorem zsF(l:List Int)(x:Int)(h:l.length+1 < lim):app 21 1 (S.own 21 1 (l.map (Xc .i32))) [[.int .i32 x]]=some ((l++[x]).map (Xc .i32)):=by
 simp only[app];rw[if_pos (by refine⟨?_,?_,by simpa using h⟩ <;> first|trivial|rfl)];simp[Xc]
theorem zne(l:List Int):lsl (V.sl 1 (l.map (Xc .i32)) false)=l.map (Xc .i32):=rfl
theorem zqy(l:List Int):lsl (V.sl 1 (iL l) false)=iL l:=rfl
theorem zoG(n:Nat){s c:Nat}{cb:Option Nat}{most:Int}{ts:List Tw}(os:List O)(lb:Bool)(P0:List Int)(hP:∀ x∈P0,0<=x/\x < (os.length:Int))(hnd:P0.Nodup)(p1 p2:Nat)(Q0:List Int)(v5 v6 v18:V)(r:Nat)(hr:r<=P0.length)(hlim:P0.length < lim)(hn:8<=n):∀ (d i M:Nat) (h:zd) (bits:List Bool) (told:List R) (vs hs:List Int) (v0 v4:V),i+d=r->d < M →
    Env h s ts most c cb bits p1 P0 p2 Q0->told.length=os.length->vs.length=i->hs.length=i->(∀ x∈P0.drop i,told[x.toNat]?=some ⟨0,0⟩) →
    ∃ h' v0' v4' M',zR M (Jl (n+3) s c (os.map O.w) lb v5 v6 v18 (.row p1 1 0 r) (1,iL (P0.take r))) [v0,.sl 2 (told.map R.w) false,.sl 1 (vs.map (Xc .i32)) false,.sl 1 (iL hs) false,v4,.int .i64 (i:Int)] h =
     Jl (n+3) s c (os.map O.w) lb v5 v6 v18 (.row p1 1 0 r) (1,iL (P0.take r)) [v0',.sl 2 ((Jo ⟨1,0⟩ ((P0.take r).drop i) told).map R.w) false,.sl 1 ((vs++((P0.take r).drop i).map (Kf os)).map (Xc .i32)) false,.sl 1 (iL (hs++(zao d bits).1)) false,v4',.int .i64 (r:Int)] h' (zR M' (Jl (n+3) s c (os.map O.w) lb v5 v6 v18 (.row p1 1 0 r) (1,iL (P0.take r)))) ∧
     Env h' s ts most c cb (zao d bits).2 p1 P0 p2 Q0/\h'.length=h.length/\∀ i,i≠c->h'[i]?=h[i]?:=by
 intro d
 induction d with
 | zero =>
   intro i M h bits told vs hs v0 v4 h1 h2 E hlt hvl hhl h0;obtain⟨M,rfl⟩:∃ M',M=M'+1:=⟨M - 1,by omega⟩;obtain rfl:i=r:=by omega
   have hd:(P0.take i).drop i=[]:=Zo (by rw[Zh];omega);refine⟨h,v0,v4,M,?_,E,rfl,fun _ _=>rfl⟩;rw[hd];simp only[Jo,Qz,Zq,zao];exact zA ..
 | succ d ih =>
   intro i M h bits told vs hs v0 v4 h1 h2 E hlt hvl hhl h0;obtain⟨M,rfl⟩:∃ M',M=M'+1:=⟨M - 1,by omega⟩;have hiP:i < P0.length:=by omega
   obtain⟨x,hx⟩:∃ x,P0[i]?=some x:=⟨_,zg hiP⟩;have hdr:P0.drop i=x :: P0.drop (i+1):=by
    rw[zQ hiP];rw[zg hiP] at hx;rw[Option.some.inj hx]
   have hdt:(P0.take r).drop i=x :: (P0.take r).drop (i+1):=by
    have hil:i < (P0.take r).length:=by rw[Zh];omega
    rw[zQ hil];rw[zg hiP] at hx;rw[<- Option.some.inj hx,List.getElem_take]
   obtain⟨x0,x1⟩:=hP x (zJ hx);obtain⟨k,rfl⟩:∃ k:Nat,x=(k:Int):=⟨x.toNat,(ZH x0).symm⟩;have hk:k < os.length:=by omega
   obtain⟨o,ho⟩:∃ o,os[k]?=some o:=⟨_,zg hk⟩;have hov:(os.map O.w)[k]?=some (O.w o):=by rw[Y9,ho];rfl
   have hoo:=Ju ho;have hkv:Kf os (k:Int)=o.v:=by unfold Kf;rw[hoo]
   have ht0:told[k]?=some ⟨0,0⟩:=by
    have:=h0 (k:Int) (by rw[hdr];exact zF ..);simpa using this
   have htk:k < told.length:=by omega
   have htv:(told.map R.w)[k]?=some (R.w ⟨0,0⟩):=by rw[K9,ht0];rfl
   have hl1:decide ((i:Int) < ((P0.take r).length:Int))=true:=by rw[Zh];simp;omega
   obtain⟨g1,g2⟩:=E.r1.getP (lo:=0) (hi:=r) (i:=i) (by omega) (by rw[zq];exact hx);rw[zq] at g1 g2;have hnd2:(P0.drop i).Nodup:=hnd.sublist (Qu _ _);rw[hdr] at hnd2;obtain⟨h2',e2,B2,l2,f2⟩:=zcl n E.bt hn;have E2:=E.coin B2 f2;have hset1:(told.map R.w).set k (setR (R.w ⟨0,0⟩) 0 [.int .u8 1])=(told.set k ⟨1,0⟩).map R.w:=by rw[zhg,Jt]
   have key:∀ next,Jl (n+3) s c (os.map O.w) lb v5 v6 v18 (.row p1 1 0 r) (1,iL (P0.take r)) [v0,.sl 2 (told.map R.w) false,.sl 1 (vs.map (Xc .i32)) false,.sl 1 (iL hs) false,v4,.int .i64 (i:Int)] h next=next [.sl 2 (lsl v0) false,.sl 2 ((told.set k ⟨1,0⟩).map R.w) false,.sl 1 ((vs++[o.v]).map (Xc .i32)) false,.sl 1 (iL (hs++[((hgt 1 bits).1:Int)])) false,.bool false,.int .i64 ((i+1:Nat):Int)] h2':=by
    intro next
    unfold Jl;simp only[gv,zf,zh,XN,zr,za,zm,hl1,if_true,Za,zy,g1,g2,zn,zq,zl,Nat.reduceLT,and_self,zb,Xb hov,KJ,Zl,Nat.reduceAdd,Nat.reduceLeDiff,zhe,zcY,zne,zqy,zbQ];rw[zsF _ _ (by omega),za,e2,zM,zx,znb,za,zhd _ _ (by omega),za];rw[if_pos (by exact⟨trivial,by rw[zo];exact htk,by decide⟩),htv,za,zH,za,hset1,Xa (show i < lim by omega)]
   obtain⟨h',v0',v4',M',e,b1,b2,b3⟩:=ih (i+1) M h2' (hgt 1 bits).2 (told.set k ⟨1,0⟩) (vs++[o.v]) (hs++[((hgt 1 bits).1:Int)]) (.sl 2 (lsl v0) false) (.bool false) (by omega) (by omega) E2 (by rw[zt];exact hlt) (by simp;omega) (by simp;omega) (fun y hy=>by
    rw[ze]
    . exact h0 y (by rw[hdr];exact zw _ hy)
    . intro e2;have hy0:=hP y (Zj hy);have hyk:y=(k:Int):=by omega
      exact(ZP.1 hnd2).1 (hyk ▸ hy))
   refine⟨h',v0',v4',M',?_,b1,by rw[b2,l2],fun j hj=>by rw[b3 j hj,f2 j hj]⟩;rw[zA,key,e,hdt];simp only[Jo,Xu,zS,hkv,zao,List.append_assoc,Z1,zU]
theorem zoH(n:Nat){s c:Nat}{cb:Option Nat}{most:Int}{ts:List Tw}{bits:List Bool}{h:zd}(os:List O)(lb:Bool)(P0:List Int)(hP:∀ x∈P0,0<=x/\x < (os.length:Int))(hnd:P0.Nodup)(p1 p2:Nat)(Q0:List Int)(v6:V)(r:Nat)(hr:r<=P0.length)(hlim:P0.length < lim)(E:Env h s ts most c cb bits p1 P0 p2 Q0):∀ (d i M:Nat) (told:List R) (v0 v2:V),r+i+d=P0.length->d < M →
    told.length=os.length->(∀ x∈P0.drop (r+i),told[x.toNat]?=some ⟨0,0⟩) →
    ∃ v0' v2' M',zR M (Jk (n+3) s (os.map O.w) lb v6 (.row p1 1 r P0.length) (1,iL (P0.drop r))) [v0,.sl 2 (told.map R.w) false,v2,.int .i64 (i:Int)] h =
     Jk (n+3) s (os.map O.w) lb v6 (.row p1 1 r P0.length) (1,iL (P0.drop r)) [v0',.sl 2 ((Jo ⟨3,0⟩ (P0.drop (r+i)) told).map R.w) false,v2',.int .i64 ((P0.drop r).length:Int)] h (zR M' (Jk (n+3) s (os.map O.w) lb v6 (.row p1 1 r P0.length) (1,iL (P0.drop r)))):=by
 intro d
 induction d with
 | zero =>
   intro i M told v0 v2 h1 h2 hlt h0;obtain⟨M,rfl⟩:∃ M',M=M'+1:=⟨M - 1,by omega⟩;have hi:i=(P0.drop r).length:=by rw[Xs];omega
   refine⟨v0,v2,M,?_⟩;rw[Zo (i:=r+i) (by omega),<- hi];exact zA ..
 | succ d ih =>
   intro i M told v0 v2 h1 h2 hlt h0;obtain⟨M,rfl⟩:∃ M',M=M'+1:=⟨M - 1,by omega⟩;obtain⟨x,hx⟩:∃ x,P0[r+i]?=some x:=⟨_,zg (by omega)⟩;have hdr:P0.drop (r+i)=x :: P0.drop (r+(i+1)):=by
    rw[zQ (show r+i < P0.length by omega)];rw[zg (by omega)] at hx;rw[Option.some.inj hx,ZT]
   obtain⟨x0,x1⟩:=hP x (zJ hx);obtain⟨k,rfl⟩:∃ k:Nat,x=(k:Int):=⟨x.toNat,(ZH x0).symm⟩;have ht0:told[k]?=some ⟨0,0⟩:=by
    have:=h0 (k:Int) (by rw[hdr];exact zF ..);simpa using this
   have htk:k < told.length:=by omega
   have htv:(told.map R.w)[k]?=some (R.w ⟨0,0⟩):=by rw[K9,ht0];rfl
   have hl1:decide ((i:Int) < ((P0.drop r).length:Int))=true:=by rw[Xs];simp;omega
   obtain⟨g1,g2⟩:=E.r1.getP (lo:=r) (hi:=P0.length) (i:=i) (by omega) hx;have hnd2:(P0.drop (r+i)).Nodup:=hnd.sublist (Qu _ _);rw[hdr] at hnd2;have hset1:(told.map R.w).set k (setR (R.w ⟨0,0⟩) 0 [.int .u8 3])=(told.set k ⟨3,0⟩).map R.w:=by rw[zhg,Jt]
   have key:∀ next,Jk (n+3) s (os.map O.w) lb v6 (.row p1 1 r P0.length) (1,iL (P0.drop r)) [v0,.sl 2 (told.map R.w) false,v2,.int .i64 (i:Int)] h next=next [.sl 2 (lsl v0) false,.sl 2 ((told.set k ⟨3,0⟩).map R.w) false,.bool false,.int .i64 ((i+1:Nat):Int)] h:=by
    intro next
    unfold Jk;simp only[gv,zf,zh,XN,zr,za,zm,hl1,if_true,Za,zy,g1,g2,zn,zq,zl,Nat.reduceLT,and_self,zb,zbQ];rw[if_pos (by exact⟨trivial,by rw[zo];exact htk,by decide⟩),htv,za,zH,za,hset1,Xa (show i < lim by omega)]
   obtain⟨v0',v2',M',e⟩:=ih (i+1) M (told.set k ⟨3,0⟩) (.sl 2 (lsl v0) false) (.bool false) (by omega) (by omega) (by rw[zt];exact hlt) (fun y hy=>by
    rw[ze]
    . exact h0 y (by rw[hdr];exact zw _ hy)
    . intro e2;have hy0:=hP y (Zj hy);have hyk:y=(k:Int):=by omega
      exact(ZP.1 hnd2).1 (hyk ▸ hy))
   refine⟨v0',v2',M',?_⟩;rw[zA,key,e,hdr];simp only[Jo,Xu]
theorem zt2(a b:Int):mm false [.int .i64 a,.int .i64 b]=some (.int .i64 (if b < a then b else a)):=rfl
theorem zlQ(os:List O)(r:Nat):(((Z9 os).take r).map (Kf os)).Pairwise (·<=·):=by
 rw[List.pairwise_map];exact((zjq os).sublist (WD _ _)).imp fun h=>h.of
theorem zfe (n : Nat) {h : zd} {s : Nat} {ts : List Tw} {most : Int} {c : Nat} {cb : Option Nat} {bits : List Bool} (os : List O) (lb : Bool) (S : ∃ N, SkAt h s ts most N) (B : BitsAt h c cb bits) (nc : c ∉ skB s ts) (ncb : ∀ b, cb = some b -> b ∉ skB s ts) (hroom : (ts.length : Int) <= most) (hmost : most <= 1000) (hl : ts.length + 4 * os.length + 100 < lim) (hn : ts.length + 2 * os.length + 50 <= n) :
    ∃ h' ts' bits' tb told',call (n+4) 222 [.ptr s 0,.ptr c 0,.sl 2 (os.map O.w) lb] h=some (.ret [.row tb 2 0 os.length],h')/\Did h h' s ts ts' most c cb bits' tb told'/\YK os most (itT ts,bits)=((itT ts',bits'),told'):=by
 have hpl:=KI os os.length;have hsl:=qw os;have hpo:(Yd os).length<=os.length:=by unfold Yd;omega
 have E0:=zjv os S B nc ncb;have hlf:(We h os).length=h.length+2:=by simp[We]
 have hkp:=fun x hx=>(X1 os x hx).2.2;obtain⟨r,hr⟩:∃ r:Nat,(r:Int)=if most - (ts.length:Int) < ((Z9 os).length:Int) then most - (ts.length:Int) else((Z9 os).length:Int):=⟨(if most - (ts.length:Int) < ((Z9 os).length:Int) then most - (ts.length:Int) else((Z9 os).length:Int)).toNat,ZH (by split <;> omega)⟩;have hr1:r<=(Z9 os).length:=by split at hr <;> omega
 have hr2:(ts.length:Int)+r<=most:=by split at hr <;> omega
 have hr3:r=(Z9 os).length\/most<=(ts.length:Int)+r:=by split at hr <;> omega
 have hlt1:((Z9 os).take r).length=r:=by rw[Zh];omega
 obtain⟨h1,v0',v4',M',e1,E1,l1,f1⟩:=zoG n os lb (Z9 os) (fun x hx=>⟨(X1 os x hx).1,(X1 os x hx).2.1⟩) (j7 os) h.length (h.length+1) (Xo os) (.row h.length 1 0 (Z9 os).length) (.row (h.length+1) 1 0 (Xo os).length) (.int .i64 (r:Int)) r hr1 (by omega) (by omega) r 0 (n+3) (We h os) bits (List.replicate os.length ⟨0,0⟩) [] [] (.sl 2 [] false) (.bool false) (by omega) (by omega) E0 (by simp) rfl rfl (fun x hx=>by
  have:=X1 os x (Zj hx);rw[Z3,if_pos (by omega)])
 rw[zO,zU,zU] at e1;obtain⟨vs,hvs⟩:∃ vs,vs=((Z9 os).take r).map (Kf os):=⟨_,rfl⟩;obtain⟨hs,hhs⟩:∃ hs,hs=(zao r bits).1:=⟨_,rfl⟩;have hvl:vs.length=r:=by rw[hvs,zo,hlt1]
 have hhl:hs.length=r:=by rw[hhs,zjx]
 rw[<- hvs,<- hhs] at e1;have E2:=E1.push [.row 21 1 (vs.map (Xc .i32)) true,.row 3 1 (iL hs) true];have hrow1:RowI (h1++[HB.row 21 1 (vs.map (Xc .i32)) true,HB.row 3 1 (iL hs) true]) h1.length .i32 21 vs:=⟨true,by rw[zK (zl _),QX];rfl⟩;have hrow2:RowI (h1++[HB.row 21 1 (vs.map (Xc .i32)) true,HB.row 3 1 (iL hs) true]) (h1.length+1) .i64 3 hs:=⟨true,by rw[zK (by omega),Xt];rfl⟩;obtain⟨N1,S1⟩:=E1.sk;obtain⟨h2,ts2,tb2,e2,G2,I2⟩:=zlG n E2.sk h1.length (h1.length+1) vs hs (by omega) (hvs ▸ zlQ os r) hrow1 hrow2 (fun hm=>by have:=S1.lt _ hm;omega) (fun hm=>by have:=S1.lt _ hm;omega) (by rw[hvl];exact hr2) (by rw[hvl];omega) (by rw[hvl];omega);have E3:=E2.grew G2;have told1:=zap ⟨1,0⟩ ((Z9 os).take r) (List.replicate os.length (⟨0,0⟩:R));rw[QO] at told1;have hnd:=j7 os;have hdis:∀ x∈(Z9 os).drop r,∀ y∈(Z9 os).take r,y.toNat≠x.toNat:=fun x hx y hy e=>by
  have a:=X1 os x (Zj hx);have b:=X1 os y (Zw hy);have hxy:x=y:=by omega
  have hnd':((Z9 os).take r++(Z9 os).drop r).Nodup:=by rw[Zy];exact hnd
  exact(QW.1 hnd').2.2 y hy x hx hxy.symm
 obtain⟨v0'',v2'',M'',e3⟩:=zoH n os lb (Z9 os) (fun x hx=>⟨(X1 os x hx).1,(X1 os x hx).2.1⟩) hnd h.length (h.length+1) (Xo os) (.row (h.length+1) 1 0 (Xo os).length) r hr1 (by omega) E3 ((Z9 os).length - r) 0 (n+3) (Jo ⟨1,0⟩ ((Z9 os).take r) (List.replicate os.length ⟨0,0⟩)) (.sl 2 (lsl v0') false) (.bool false) (by omega) (by omega) told1 (fun x hx=>by
  rw[zW] at hx;rw[qy _ _ _ _ (hdis x hx)];have:=X1 os x (Zj hx);rw[Z3,if_pos (by omega)])
 simp only[zW] at e3;obtain⟨told2,htold2⟩:∃ told2,told2=Jo (⟨3,0⟩:R) ((Z9 os).drop r) (Jo ⟨1,0⟩ ((Z9 os).take r) (List.replicate os.length ⟨0,0⟩)):=⟨_,rfl⟩;rw[<- htold2] at e3;have told2l:told2.length=os.length:=by rw[htold2,zap,told1]
 have hlen2:ts2.length=ts.length+r:=by
  have hz:∀ (q:List (Int×Int)) (l:List (Int×Nat)),(zan l q).length=l.length+q.length:=fun q=>by
   induction q with
   | nil=>intro l;rfl
   | cons p q ih=>intro l;show (zan (je l p.1 (hOf p.2)) q).length=_;rw[ih,za5,zD];omega
  have:=congrArg List.length I2;rw[hz,Q6,Q6,List.length_zip,hvl,hhl,Nat.min_self] at this;exact this
 have hF:Frm h h2 (c :: skB s ts):=by
  have a:Frm h (We h os) (c :: skB s ts):=Frm.push h _ _;have b:Frm (We h os) h1 [c]:=⟨Nat.le_of_eq l1.symm,fun j _ hj=>f1 j fun e=>hj (e ▸ zF ..)⟩;have c':Frm h1 (h1++[HB.row 21 1 (vs.map (Xc .i32)) true,HB.row 3 1 (iL hs) true]) []:=Frm.push h1 _ _;exact(((a.trans b fun y hy=>.inl (by rw[Zx] at hy;exact hy ▸ zF ..)).trans c' fun y hy=>by cases hy).trans G2.frm fun y hy=>.inl (zw _ hy))
 have hN:∀ b∈skB s ts2,b∈skB s ts\/h.length<=b:=fun b hb=>(G2.new b hb).imp id fun hh=>by rw[zE,l1,hlf] at hh;omega
 have h0:∀ x∈Xo os,told2[x.toNat]?=some ⟨0,0⟩:=fun x hx=>by
  have hm:=Qw os _ x hx;have hne:∀ y∈Z9 os,y.toNat≠x.toNat:=fun y hy e=>zcq os x hx y hy (by have:=X1 os y hy;omega);rw[htold2,qy _ _ _ _ fun y hy=>hne y (Zj hy),qy _ _ _ _ fun y hy=>hne y (Zw hy),Z3,if_pos (by omega)]
 obtain⟨h',ts',told',e4,D,rr⟩:=zjw (ts:=ts) n os lb told2 E3 (by omega) told2l h0 (by omega) (by omega) (by omega) hF hN (by omega);refine⟨h',ts',(zao r bits).2,h2.length,told',?_,D,?_⟩
 . refine(ziT (n+3) s c (os.map O.w) lb h).trans ?_;unfold ziS;have fN:nv (V.int .i64 (os.length:Int))=some os.length:=Za _ _;have fr:nv (V.int .i64 (r:Int))=some r:=Za _ _;have hpc:call (n+3) 225 [.sl 2 (os.map O.w) lb] h=some (.ret [.row h.length 1 0 (Yd os).length,.row (h.length+1) 1 0 (Xo os).length],We h os):=zcp (n+1) h os lb (by omega) (by omega);obtain⟨N0,S0⟩:=E0.sk;have hm1:=zbH (n+2) S0;have hl1:=jX (n+2) S0;have hsub:IntKind.i64.wrap (most - (ts.length:Int))=most - (ts.length:Int):=by rw[w64] <;> omega
   have hs1:Z4 1 0 r none true (.row h.length 1 0 (Z9 os).length)=some (.row h.length 1 0 r):=by simpa using J0 (r:=h.length) (sz:=1) (u:=0) (v:=(Z9 os).length) (Ze r) (by omega) true
   have hs2:Z4 1 r (Z9 os).length none true (.row h.length 1 0 (Z9 os).length)=some (.row h.length 1 r (Z9 os).length):=by simpa using J0 (r:=h.length) (sz:=1) (u:=0) (v:=(Z9 os).length) hr1 (by omega) true
   have hc1:ZR (We h os) (.row h.length 1 0 r)=some (1,iL ((Z9 os).take r)):=by have:=E0.r1.slcP (lo:=0) (hi:=r) (Ze _) hr1;rwa[zO] at this
   have hc2:ZR h2 (.row h.length 1 r (Z9 os).length)=some (1,iL ((Z9 os).drop r)):=by have:=E3.r1.slcP (lo:=r) (hi:=(Z9 os).length) hr1 (zl _);rwa[XJ] at this
   simp only[zo];rw[fN,zy,zy,if_pos (by first|exact⟨zl _,by omega,rfl⟩|exact⟨trivial,by omega,trivial⟩|exact⟨zl _,by omega,trivial⟩),hpc,zM];simp only[zb,zj,za];rw[<- hsl,E0.r1.slc,za,hm1,zM,zx,hl1,zM,zx,ZQ,za,hsub];simp only[zo,Kh,qO,za];rw[zt2,za,<- hr,YI,za,fr,zy,hs1,za,hc1,za,zlO];refine e1.trans ?_;unfold Jl;simp only[gv,zf,zh,XN,hlt1,zr,za,zm];rw[if_neg (by simp),zne,zqy,XN,zo,List.append_assoc];rw[show (h1++[HB.row 21 1 (vs.map (Xc .i32)) true]).length=h1.length+1 by simp];rw[show ([HB.row 21 1 (vs.map (Xc .i32)) true]++[HB.row 3 1 (iL hs) true])=[HB.row 21 1 (vs.map (Xc .i32)) true,HB.row 3 1 (iL hs) true] from rfl,e2,zM,zx,YI,za,fr,zy,Nat.sub_zero,hs2,za,hc2,za];rw[show lsl (V.sl 2 ((Jo (⟨1,0⟩:R) ((Z9 os).take r) (List.replicate os.length ⟨0,0⟩)).map R.w) false)=(Jo (⟨1,0⟩:R) ((Z9 os).take r) (List.replicate os.length ⟨0,0⟩)).map R.w from rfl];refine e3.trans ?_;unfold Jk;simp only[gv,zf,zh,XN,zr,za,zm];rw[if_neg (by simp),zbQ,zo,told2l,e4,zM,zx]
 . unfold YK;have hp:=znd os most ((Z9 os).take r) (itT ts,bits) (List.replicate os.length ⟨0,0⟩) (fun x hx=>hkp x (Zw hx)) (by simp only[Q6,hlt1];exact hr2);simp only[hlt1,<- hvs,<- hhs,<- I2] at hp;have hsplit:Z9 os++Xo os=(Z9 os).take r++((Z9 os).drop r++Xo os):=by rw[<- List.append_assoc,Zy]
   rw[hsplit,YZ,hp,YZ];have hfull:J3 os most ((Z9 os).drop r) (itT ts2,(zao r bits).2) (Jo ⟨1,0⟩ ((Z9 os).take r) (List.replicate os.length ⟨0,0⟩))=((itT ts2,(zao r bits).2),told2):=by
    rcases hr3 with h3|h3
    . rw[htold2,h3,Jh];rfl
    . rw[zjy os most _ _ _ (fun x hx=>hkp x (Zj hx)) (by simp only[Q6,hlen2];omega),htold2]
   rw[hfull];exact rr
end Go.Proofs.Tryz
namespace Go.Proofs.Tryz
open Go.L Go.Rp Go.Sk
set_option maxRecDepth 100000
end Go.Proofs.Tryz
namespace Go.Proofs.Tryz
open Go.L
set_option maxRecDepth 100000
noncomputable def za6(n:Nat)(c:V)(kinds:Int)(st1:List V)(hh2:zd)(next3:List V->zd->Option (Res×zd)):Option (Res×zd) :=
 (bd (ZR hh2 c) fun p4 =>
 (bd (bop prog .lss 3 (gv st1 2) (V.int .i64 ((p4.2).length:Int))) fun v5 =>
 (bv v5 fun b6=>if b6 then
 (bd (bop prog .lss 3 (gv st1 2) (V.int .i64 80)) fun v7 =>
 (bv v7 fun b8=>if b8 then
 (bdS (nv (gv st1 2)) fun n9 =>
 (bd (ZE 1 n9 c) fun p10 =>
 (bd3 (zu hh2 p10) fun cs12 m11 o13=>if (o13+1<=m11/\0 < 1) then
 (bd (cs12)[o13]? fun v14 =>
 (bd (bop prog .rem 5 v14 (V.int .u8 kinds)) fun v15 =>
 (bd (bop prog .add 5 (V.int .u8 1) v15) fun v16 =>
 (bdS (nv (gv st1 2)) fun n17 =>
 (bd (ZE 1 n17 c) fun p18 =>
 (bd3 (zu hh2 p18) fun cs20 m19 o21=>if (o21+1<=m19/\0 < 1) then
 (bd (cs20)[o21]? fun v22 =>
 (bd (bop prog .quo 5 v22 (V.int .u8 8)) fun v23 =>
 (bd (cvt prog 5 21 v23) fun v24 =>
 (bd (bop prog .sub 21 v24 (V.int .i32 9)) fun v25 =>
 (bd (Qo prog 33 [(0,v16),(1,v25)]) fun cs26 =>
 (bd (JY prog 23 1 [(0,(V.agg cs26))]) fun p27 =>
 (bd (app 33 2 (S.own 33 2 (lsl (gv st1 1))) p27.2) fun l28 =>
 (bd (bop prog .add 3 (gv st1 2) (V.int .i64 1)) fun v29 =>
 (next3 [(V.sl 2 (lsl (gv st1 0)) false),(V.sl 2 l28 false),v29] hh2))))))))) else none)))))) else none)))
 else
 some (Res.ret [(V.sl 2 (lsl (gv st1 1)) false)],hh2)))
 else
 some (Res.ret [(V.sl 2 (lsl (gv st1 1)) false)],hh2))))
noncomputable def zuI(n:Nat)(c:V)(kinds:Int)(h:zd):Option (Res×zd) :=
 (zR n (za6 n c kinds) [(V.sl 2 [] false),(V.sl 2 [] false),(V.int .i64 0)] h)
theorem zsG(n:Nat)(c:V)(kinds:Int)(h:zd):call (n+1) 14 [c,(V.int .u8 kinds)] h=zuI n c kinds h:=by kernel_rfl
end Go.Proofs.Tryz
namespace Go.Proofs.Tryz
open Go.L Go.Rp
set_option maxRecDepth 100000
theorem ji{a b:Int}(h:b≠0):bop prog .rem 5 (.int .u8 a) (.int .u8 b)=some (.int .u8 (a.tmod b)):=by
 have:bop prog .rem 5 (.int .u8 a) (.int .u8 b)=if b=0 then none else some (.int .u8 (a.tmod b)):=by kernel_rfl
 rw[this,if_neg h]
theorem zjz(a:Int):bop prog .quo 5 (.int .u8 a) (.int .u8 8)=some (.int .u8 (IntKind.u8.wrap (a.tdiv 8))):=by kernel_rfl
theorem zsH(a:Int):cvt prog 5 21 (.int .u8 a)=some (.int .i32 (IntKind.i32.wrap a)):=by kernel_rfl
theorem zuJ(k v:Int):Qo prog 33 [(0,.int .u8 k),(1,.int .i32 v)]=some (O.w ⟨k,v⟩):=by kernel_rfl
theorem w32{n:Int}(h1:-2147483648<=n)(h2:n < 2147483648):IntKind.i32.wrap n=n:=by rw[IntKind.wrap_i32];omega
theorem zjA(c:List Int)(z:Nat)(b:Bool)(kinds:Int)(H:zd)(N:Nat)(hz:z=1\/c=[])(hc:Q5 c=true)(hk1:1<=kinds)(hk2:kinds<=100):∀ (d k M:Nat),k+d=min c.length 80->d < M →
    zR M (za6 N (.sl z (c.map (Xc .u8)) b) kinds) [.sl 2 [] false,.sl 2 (((c.take k).map (opOf kinds)).map O.w) false,.int .i64 (k:Int)] H=some (.ret [.sl 2 ((ops c kinds).map O.w) false],H)
 | d,k,0,_,h=>by omega
 | 0,k,M+1,hk,_=>by
   have he:(c.take k).map (opOf kinds)=ops c kinds:=by
    unfold ops;rcases ZX 80 c.length with h|h
    . rw[show k=80 by omega]
    . rw[zN (by omega),zN (by omega)]
   rw[zA,he];by_cases hl:(k:Int) < (c.length:Int)
   . have h80:¬ (k:Int) < 80:=by omega
     simp only[za6,gv,zh,zf,ZW,za,zo,zr,zm,hl,decide_true,if_true,h80,decide_false,zp,if_false,lsl]
   . simp only[za6,gv,zh,zf,ZW,za,zo,zr,zm,hl,decide_false,zp,if_false,lsl]
 | d+1,k,M+1,hk,hM=>by
   have hl:(k:Int) < (c.length:Int):=by omega
   have h80:(k:Int) < 80:=by omega
   obtain⟨x,hx⟩:∃ x,c[k]?=some x:=⟨_,zg (by omega)⟩;obtain rfl:z=1:=hz.resolve_right (by rintro rfl;simp at hx);have hxv:(c.map (Xc .u8))[k]?=some [.int .u8 x]:=by rw[zdT,hx];rfl
   have hxs:=zbA hc x (zJ hx);have hk0:kinds≠0:=by omega
   have e1:Int.tmod x kinds=x % kinds:=X4 hxs.1;have h1:=Int.emod_nonneg x hk0;have h2:=Int.emod_lt_of_pos x (show 0 < kinds by omega);have e2:Int.tdiv x 8=x / 8:=Int.tdiv_eq_ediv_of_nonneg hxs.1;have w1:IntKind.u8.wrap (1+x % kinds)=1+x % kinds:=w8 (by omega) (by omega);have w2:IntKind.u8.wrap (x / 8)=x / 8:=w8 (by omega) (by omega);have w3:IntKind.i32.wrap (x / 8)=x / 8:=w32 (by omega) (by omega);have w4:IntKind.i32.wrap (x / 8 - 9)=x / 8 - 9:=w32 (by omega) (by omega);have hop:(⟨1+x % kinds,x / 8 - 9⟩:O)=opOf kinds x:=rfl;have Wr:=ztX 33 ((c.take k).map (opOf kinds)) (opOf kinds x) (by rw[zo,Zh];unfold lim;omega);have htk:(c.take k).map (opOf kinds)++[opOf kinds x]=(c.take (k+1)).map (opOf kinds):=by
    rw[Jx,hx,Zu];rfl
   rw[htk] at Wr;rw[zA];simp only[za6,gv,zh,zf,ZW,Xb hxv,Zl,zn,zq,zl,Nat.reduceLT,and_self,za,zo,zr,zm,hl,h80,decide_true,if_true,Za,zy,zdT,hx,Z7,Xc,zb,ji hk0,e1,zlq,w1,zjz,e2,w2,zsH,w3,ziN,w4,zuJ,hop,zux,lsl,Wr,zH,Xa (show k < lim by unfold lim;omega)];exact zjA c 1 b kinds H N (.inl rfl) hc hk1 hk2 d (k+1) M (by omega) (by omega)
theorem zqz (n : Nat) (c : List Int) (z : Nat) (b : Bool) (kinds : Int) (H : zd) (hz : z = 1 \/ c = []) (hc : Q5 c = true) (hk1 : 1 <= kinds) (hk2 : kinds <= 100) (hn : 90 <= n) :
    call n 14 [.sl z (c.map (Xc .u8)) b,.int .u8 kinds] H=some (.ret [.sl 2 ((ops c kinds).map O.w) false],H):=by
 obtain⟨N,rfl⟩:∃ N,n=N+1:=⟨n - 1,by omega⟩;rw[zsG];unfold zuI;exact zjA c z b kinds H N hz hc hk1 hk2 (min c.length 80) 0 N (by omega) (by omega)
theorem zsI(c:List Int)(kinds:Int):(ops c kinds).length<=80:=by unfold ops;simp;omega
end Go.Proofs.Tryz
namespace Go.Proofs.Tryz
open Go.L Go.Rp Go.Sk
set_option maxRecDepth 100000
theorem RowR.get{h:zd}{b:Nat}{l:List R}(r:RowR h b l){i:Nat}{x:R}(hx:l[i]?=some x)(o:Nat):ZE 2 i (.row b 2 0 l.length)=some (.rptr b 2 i 0)/\zu h (.rptr b 2 i o)=some (R.w x,2,o):=by
 obtain⟨z,hz⟩:=r;have hi:=(zi.1 hx).1;exact⟨zjt hi,XD hz (by decide) (by rw[K9,hx];rfl)⟩
theorem RowR.slc{h:zd}{b:Nat}{l:List R}(r:RowR h b l):ZR h (.row b 2 0 l.length)=some (2,l.map R.w):=by
 obtain⟨z,hz⟩:=r;have:=jS hz;rwa[zo] at this
theorem zuK{c:List Int}{kinds:Int}(hc:Q5 c=true):∀ o∈ops c kinds,-2147483648<=o.v/\o.v < 2147483648:=by
 intro o ho;unfold ops at ho;obtain⟨x,hx,rfl⟩:=Zv.1 ho;unfold Q5 at hc;have:=Zn.1 hc x (Zw hx);simp at this;unfold Go.Rp.opOf;simp only;omega
end Go.Proofs.Tryz
namespace Go.Proofs.Tryz
open Go.L Go.Rp Go.Sk
set_option maxRecDepth 100000
def zhh(h:zd)(r:V)(l:List Int):Prop:=(∃ sz,ZR h r=some (sz,l.map (Xc .i32)))/\∀ (i:Nat) (x:Int),l[i]?=some x->∃ p,ZE 1 i r=some p/\zu h p=some ([.int .i32 x],1,0)
theorem RowI.sees{h:zd}{b:Nat}{L:List Int}(r:RowI h b .i32 21 L){lo hi:Nat}(h1:lo<=hi)(h2:hi<=L.length):zhh h (.row b 1 lo hi) ((L.take hi).drop lo):=by
 refine⟨⟨1,r.slcP h1 h2⟩,fun i x hx=>?_⟩;rw[Zm] at hx;have hi':lo+i < hi:=by
  have:=(zi.1 hx).1;rw[Zh] at this;omega
 rw[List.getElem?_take_of_lt hi'] at hx;obtain⟨a,c⟩:=r.getP hi' hx;exact⟨_,a,c⟩
theorem zqA(h:zd):zhh h (.sl 0 [] true) []:=⟨⟨0,rfl⟩,fun i x hx=>by simp at hx⟩
theorem SlI.sees{h:zd}{lo:Nat}{r:V}{l:List Int}(s:SlI h lo r l):zhh h r l:=by
 rcases s with ⟨rfl,rfl⟩|⟨b,z,_,rfl,hz⟩
 . exact zqA h
 . have:=RowI.sees (L:=l) ⟨z,hz⟩ (Ze l.length) (zl _);rwa[XJ,zO] at this
theorem zlR(n:Nat){h:zd}{a b:V}{l:List Int}(ha:zhh h a l)(hb:zhh h b l)(hl:l.length < lim):∀ (d i M:Nat) (v0:V),i+d=l.length->d < M->zR M (jP n a b) [v0,.int .i64 (i:Int)] h=some (.ret [.bool true],h):=by
 obtain⟨⟨sa,hsa⟩,ga⟩:=ha;intro d
 induction d with
 | zero =>
   intro i M v0 h1 h2;obtain⟨M,rfl⟩:∃ M',M=M'+1:=⟨M - 1,by omega⟩;obtain rfl:i=l.length:=by omega
   rw[zA];unfold jP;rw[hsa,za];simp only[gv,zf,zh,zo,zr,za,zm];rw[if_neg (by simp)]
 | succ d ih =>
   intro i M v0 h1 h2;obtain⟨M,rfl⟩:∃ M',M=M'+1:=⟨M - 1,by omega⟩;obtain⟨x,hx⟩:∃ x,l[i]?=some x:=⟨_,zg (by omega)⟩;obtain⟨p,p1,p2⟩:=ga i x hx;obtain⟨q,q1,q2⟩:=hb.2 i x hx;have hlt:decide ((i:Int) < (l.length:Int))=true:=by simp;omega
   have key:∀ next,jP n a b [v0,.int .i64 (i:Int)] h next=next [v0,.int .i64 ((i+1:Nat):Int)] h:=by
    intro next
    unfold jP;rw[hsa,za];simp only[gv,zf,zh,zo,zr,za,zm,hlt,if_true,Za,zy,p1,p2,q1,q2,zn,zq,zl,Nat.reduceLT,and_self,zb,ziM,zH,Xa (show i < lim by omega)];rw[if_neg (by simp)]
   rw[zA,key];exact ih (i+1) M v0 (by omega) (by omega)
theorem zeh(n:Nat){h:zd}{a b:V}{l:List Int}(ha:zhh h a l)(hb:zhh h b l)(hl:l.length < lim)(hn:l.length < n):call (n+1) 19 [a,b] h=some (.ret [.bool true],h):=by
 refine(zp0 n a b h).trans ?_;unfold ztn;obtain⟨sa,hsa⟩:=ha.1;obtain⟨sb,hsb⟩:=hb.1;rw[hsa,za,hsb,za,if_neg (by simp)];exact zlR n ha hb hl l.length 0 n (.bool false) (by omega) hn
theorem znf (os : List O) : ∀ (n k : Nat), k < n -> (k : Int) ∈ Q1 os n \/ (k : Int) ∈ QK os n
 | 0,k,h=>by omega
 | n+1,k,h=>by
   simp only[Q1,QK];by_cases e:k=n
   . subst e;by_cases h1:(oAt os (k:Int)).k=1
     . rw[if_pos h1];exact .inl (Zs _ (Zx.2 rfl))
     . rw[if_neg h1,if_neg h1];exact .inr (Zs _ (Zx.2 rfl))
   . rcases znf os n k (by omega) with h|h
     . left;split
       . exact zY _ h
       . exact h
     . right;split
       . exact h
       . exact zY _ h
theorem zoI(os:List O)(k:Nat)(hk:k < os.length):(k:Int)∈Z9 os++Xo os:=by
 rcases znf os os.length k hk with h|h
 . exact zY _ ((YJ os).mem_iff.2 h)
 . exact Zs _ h
theorem zgg(os:List O):∀ x∈Z9 os++Xo os,0<=x/\x < (os.length:Int):=fun x hx=>by
 rcases Zi.1 hx with h|h
 . exact⟨(X1 os x h).1,(X1 os x h).2.1⟩
 . have:=Qw os _ x h;exact⟨this.1,this.2.1⟩
end Go.Proofs.Tryz
namespace Go.Proofs.Tryz
open Go.L Go.Rp Go.Sk
set_option maxRecDepth 100000
def zng(a b:O):Bool:=if a.k=1/\b.k=1 then decide (a.v<=b.v) else decide (a.k=1\/b.k≠1)
def YL(os:List O)(x:Int):Int:=if (oAt os x).k=1 then(oAt os x).v else 2147483648
def qQ(os:List O):Prop:=∀ x∈os,-2147483648<=x.v/\x.v < 2147483648
theorem zlS(n:Nat)(a b:O)(h:zd):call (n+1) 95 [.agg [.int .u8 a.k,.int .i32 a.v],.agg [.int .u8 b.k,.int .i32 b.v]] h=some (.ret [.bool (zng a b)],h):=by
 rw[zpY];unfold ztm zng;by_cases h1:a.k=1 <;> by_cases h2:b.k=1 <;> simp[h1,h2]
theorem zqB{os:List O}{i j:Nat}{x y:O}(hs:qQ os)(hx:os[i]?=some x)(hy:os[j]?=some y):(!zng y x)=decide (YL os (i:Int) < YL os (j:Int)):=by
 have hxs:=hs x (zJ hx);have hys:=hs y (zJ hy);unfold YL zng;rw[Ju hx,Ju hy];by_cases h1:x.k=1 <;> by_cases h2:y.k=1
 . simp only[h1,h2,and_self,if_true];by_cases h3:y.v<=x.v <;> simp[h3] <;> omega
 . simp[h1,h2];omega
 . simp[h1,h2];omega
 . simp[h1,h2]
theorem zjB(a b:List Int)(h:a.length+b.length < lim):app 3 1 (.own 3 1 (iL a)) (iL b)=some (iL (a++b)):=by
 simp[app,h,iL]
theorem zoJ(b:List Int)(h:b.length < lim):app 3 1 (.own 3 1 []) (iL b)=some (iL b):=by
 simp[app,h,iL]
theorem zqC(x:Int):JY prog 55 1 [(0,.int .i64 x)]=some (1,iL [x]):=by kernel_rfl
theorem zuL{a b:Nat}{l:List (List V)}{sb:Bool}(h1:a<=b)(h2:b<=l.length):Z4 1 a b (none:Option Nat) true (.sl 1 l sb)=some (.sl 1 ((l.take b).drop a) false):=by
 simp[Z4,h1,h2]
theorem zsJ(l:List Int)(n:Nat):(iL l).take n=iL (l.take n):=by simp[iL,WV]
theorem zsK(l:List Int)(n:Nat):(iL l).drop n=iL (l.drop n):=by simp[iL,WU]
theorem zei {H : zd} {l : List Int} {a k : Nat} {N : List (List V) -> V -> Option (Res × zd)} {c1 c2 : Nat × List (List V) -> Prop} {d1 : ∀ p, Decidable (c1 p)} {d2 : ∀ p, Decidable (c2 p)} (h1 : ∀ p, p.1 = 1 -> c1 p) (h2 : ∀ p, p.1 = 1 -> c2 p) (ha : a <= l.length) (hl : l.length + 2 < lim) (hk : k + 1 < lim) :
    (bd (QZ (V.sl 1 (iL l) false)) fun n47 =>
     (bd (Z4 1 0 a (none:Option Nat) true (V.sl 1 (iL l) false)) fun v49 =>
     (bdS (ZR H v49) fun p50 =>
     (if c1 p50 then
     (bd (app 3 1 (S.own 3 1 []) p50.2) fun l51 =>
     (bd (JY prog 55 1 [(0,(V.int .i64 (k:Int)))]) fun p52 =>
     (bd (app 3 1 (S.own 3 1 l51) p52.2) fun l53 =>
     (bd (QZ (V.sl 1 (iL l) false)) fun n54 =>
     (bd (Z4 1 a n54 (none:Option Nat) true (V.sl 1 (iL l) false)) fun v56 =>
     (bdS (ZR H v56) fun p57 =>
     (if c2 p57 then
     (bd (app 3 1 (S.own 3 1 l53) p57.2) fun l58 =>
     (bd (bop prog .add 3 (V.int .i64 (k:Int)) (V.int .i64 1)) fun v59=>N l58 v59)) else none))))))) else none))))=N (iL (l.take a++(k:Int) :: l.drop a)) (.int .i64 ((k+1:Nat):Int)):=by
 have e1:IntKind.i64.wrap ((k:Int)+1)=((k+1:Nat):Int):=Xa (by omega);have t1:(l.take a).length<=l.length:=by rw[Zh];omega
 rw[YW,za,zuL (Ze _) (by rw[XN];exact ha),za,ZW,zy,if_pos (h1 _ rfl)];simp only[zO];rw[zsJ,zoJ _ (by omega),za,zqC,za];simp only;rw[zjB _ _ (by simp;omega),za,za,zuL (by rw[XN];exact ha) (zl _),za,ZW,zy,if_pos (h2 _ rfl)];simp only[XJ];rw[zsK,zjB _ _ (by simp;omega),za,zH,za,e1];simp
theorem zt3{a b:List Int}{x:Int}:(a++x :: b)[a.length]?=some x:=by
 rw[zK (zl _),QX];rfl
theorem zej(N:Nat)(os:List O)(b:Bool)(hs:qQ os)(H:zd)(k:Nat)(x:O)(hx:os[k]?=some x)(v0 v1:V)(next3:List V->zd->Option (Res×zd))(hl:os.length+2 < lim):∀ (r b':List Int) (M:Nat),r.length+b'.length<=os.length->(∀ y∈r,0<=y/\y < (os.length:Int))->r.length < M →
    zR M (KD (N+1) (.sl 2 (os.map O.w) b) [v0,v1,.int .i64 (k:Int)] next3) [.sl 1 [] false,.sl 1 (iL (r.reverse++b')) false,.int .i64 (r.length:Int)] H=next3 [.sl 1 [] false,.sl 1 (iL (qF (YL os) r (k:Int) b')) false,.int .i64 ((k+1:Nat):Int)] H
 | _,_,0,_,_,h=>by omega
 | [],b',M+1,hrl,hr,hM=>by
   have hkl:k < os.length:=(zi.1 hx).1;rw[zA];unfold KD;simp only[gv,zh,zf,Xy,za,zm,lsl,Za,zy];rw[if_neg (by simp)];simp only[List.reverse_nil,zU];refine(zei (H:=H) (l:=b') (a:=([]:List Int).length) (k:=k) (N:=fun l v=>next3 [.sl 1 [] false,.sl 1 l false,v] H) (fun p h=>by simp[h]) (fun p h=>by simp[h]) (by simp) (by simp at hrl;omega) (by omega)).trans ?_;simp[qF]
 | y :: r,b',M+1,hrl,hr,hM=>by
   have hkl:k < os.length:=(zi.1 hx).1;obtain⟨hy0,hy1⟩:=hr y (by simp);obtain⟨j,rfl⟩:=Int.eq_ofNat_of_zero_le hy0;obtain⟨v,hv⟩:∃ v,os[j]?=some v:=⟨_,zg (by omega)⟩;simp only[zD] at hrl hM;have e1:IntKind.i64.wrap (((((j:Nat):Int) :: r).length:Nat) - 1:Int)=((r.length:Nat):Int):=wN (by simp) (by omega);have hL:((j:Int) :: r).reverse++b'=r.reverse++((j:Int) :: b'):=by simp
   have s1:(r.reverse++(j:Int) :: b')[r.length]?=some (j:Int):=by
    have:=zt3 (a:=r.reverse) (b:=b') (x:=(j:Int));rwa[JS] at this
   have s2:(iL (r.reverse++(j:Int) :: b'))[r.length]?=some [.int .i64 (j:Int)]:=by unfold iL;rw[zG,s1];rfl
   have l1:=(zi.1 s1).1;have hxv:(os.map O.w)[k]?=some (O.w x):=by rw[Y9,hx];rfl
   have hvv:(os.map O.w)[j]?=some (O.w v):=by rw[Y9,hv];rfl
   have ih:=zej N os b hs H k x hx v0 v1 next3 hl r ((j:Int) :: b') M (by simp;omega) (fun u hu=>hr u (zw _ hu)) (by omega);rw[hL];have hou:∀ u:O,V.agg (List.take 2 (List.drop 0 (O.w u)))=.agg [.int .u8 u.k,.int .i32 u.v]:=fun _=>rfl;have key:∀ next,KD (N+1) (.sl 2 (os.map O.w) b) [v0,v1,.int .i64 (k:Int)] next3 [.sl 1 [] false,.sl 1 (iL (r.reverse++(j:Int) :: b')) false,.int .i64 (((j:Int) :: r).length:Int)] H next=if YL os (k:Int) < YL os (j:Int) then next [.sl 1 [] false,.sl 1 (iL (r.reverse++(j:Int) :: b')) false,.int .i64 (r.length:Int)] H else next3 [.sl 1 [] false,.sl 1 (iL (r.reverse++(j:Int) :: (k:Int) :: b')) false,.int .i64 ((k+1:Nat):Int)] H:=by
    intro next
    unfold KD;simp only[gv,zh,zf,Xy,za,zm,lsl,ZQ,e1,Za,zy,XN];rw[if_pos (by simp),if_pos (by first|exact⟨rfl,l1,by decide⟩|exact⟨trivial,l1,by decide⟩),s2,za];simp only[zb,za,Za,zy,Xb hvv,Xb hxv,Zl,zn,zq,zl,Nat.reduceLT,and_self,if_true,hou];rw[zlS,zM,zx,QR,za,zm,zqB hs hx hv];by_cases h:YL os (k:Int) < YL os (j:Int)
    . rw[if_pos (decide_eq_true h),if_pos h]
    . rw[if_neg (by simpa using h),if_neg h];refine(zei (H:=H) (l:=r.reverse++(j:Int) :: b') (a:=((j:Int) :: r).length) (k:=k) (N:=fun l v=>next3 [.sl 1 [] false,.sl 1 l false,v] H) (fun p h=>by simp[h]) (fun p h=>by simp[h]) (by simp) (by simp;omega) (by omega)).trans ?_;rw[<- hL,List.take_left' (by simp),List.drop_left' (by simp)];simp
   rw[zA,key];by_cases h:YL os (k:Int) < YL os (j:Int)
   . rw[if_pos h,qF,if_pos h];exact ih
   . rw[if_neg h,qF,if_neg h]
theorem zgh(N:Nat)(os:List O)(b:Bool)(hs:qQ os)(H:zd)(hl:os.length+2 < lim)(hN:os.length+2<=N):∀ (d k M:Nat),k+d=os.length->d < M →
    zR M (Yx (N+1) (.sl 2 (os.map O.w) b)) [.sl 1 [] false,.sl 1 (iL (qG (YL os) k)) false,.int .i64 (k:Int)] H=some (.ret [.sl 1 (iL (qG (YL os) os.length)) false],H)
 | d,k,0,_,h=>by omega
 | 0,k,M+1,hk,_=>by
   obtain rfl:k=os.length:=by omega
   rw[zA];unfold Yx;simp only[gv,zh,zf,ZW,zo,zr,za,zm];rw[if_neg (by simp)];rfl
 | d+1,k,M+1,hk,hM=>by
   have hlt:decide ((k:Int) < (os.length:Int))=true:=by simp;omega
   obtain⟨x,hx⟩:∃ x,os[k]?=some x:=⟨_,zg (by omega)⟩;have ih:=zgh N os b hs H hl hN d (k+1) M (by omega) (by omega);have inner:=fun next3=>zej N os b hs H k x hx (.sl 1 [] false) (.sl 1 (iL (qG (YL os) k)) false) next3 hl (qG (YL os) k).reverse [] (N+1) (by simp[zjg];omega) (fun y hy=>by
       have:=zaZ.1 (List.mem_reverse.1 hy);omega) (by simp[zjg];omega)
   have key:∀ next,Yx (N+1) (.sl 2 (os.map O.w) b) [.sl 1 [] false,.sl 1 (iL (qG (YL os) k)) false,.int .i64 (k:Int)] H next=next [.sl 1 [] false,.sl 1 (iL (qG (YL os) (k+1))) false,.int .i64 ((k+1:Nat):Int)] H:=by
    intro next
    have i:=inner next
    rw[QY,Zq,JS] at i;refine Eq.trans ?_ i;unfold Yx;simp only[gv,zh,zf,ZW,zo,zr,za,zm,hlt,if_true,lsl,XN]
   rw[zA,key];exact ih
theorem zqD(os:List O)(hs:qQ os):qG (YL os) os.length=Z9 os++Xo os:=by
 have hsd:Sd (YL os) (Z9 os++Xo os):=by
  refine ZJ.2 ⟨?_,?_,fun a ha b hb=>.inl ?_⟩
  . refine(List.Pairwise.and_mem.1 (zjq os)).imp fun⟨ha,hb,h⟩=>?_;have h1:=(X1 os _ ha).2.2;have h2:=(X1 os _ hb).2.2;unfold Ah Kf at h;unfold Ah YL;rw[if_pos h1,if_pos h2];exact h
  . have hp:∀ n:Nat,(QK os n).Pairwise (· < ·):=fun n=>by
      induction n with
      | zero=>exact .nil
      | succ n ih =>
        simp only[QK];split
        . exact ih
        . refine ZJ.2 ⟨ih,Wj ..,fun a ha b hb=>?_⟩;rw[Zx.1 hb];exact(Qw os _ a ha).2.1
    refine(List.Pairwise.and_mem.1 (hp os.length)).imp fun⟨ha,hb,h⟩=>.inr ⟨?_,h⟩;unfold YL;rw[if_neg (Qw os _ _ ha).2.2,if_neg (Qw os _ _ hb).2.2]
  . have h1:=X1 os a ha;have h2:=Qw os _ b hb;unfold YL;rw[if_pos h1.2.2,if_neg h2.2.2];obtain⟨k,rfl⟩:∃ k:Nat,a=(k:Int):=⟨a.toNat,(ZH h1.1).symm⟩;obtain⟨o,ho⟩:∃ o,os[k]?=some o:=⟨_,zg (by omega)⟩;rw[Ju ho];exact(hs o (zJ ho)).2
 refine zbK (K:=YL os) ?_ (zg7 _) hsd;have nd:(Z9 os++Xo os).Nodup:=hsd.imp fun h=>by rintro rfl;exact h.asymm h
 refine(List.perm_ext_iff_of_nodup (zlI _) nd).2 fun x=>⟨fun hx=>?_,fun hx=>?_⟩
 . obtain⟨h1,h2⟩:=zaZ.1 hx;have:=zoI os x.toNat (by omega);rwa[ZH h1] at this
 . exact zaZ.2 (zgg os x hx)
theorem zjC (n : Nat) (os : List O) (b : Bool) (h : zd) (hs : qQ os) (hl : os.length + 2 < lim) (hn : os.length + 4 <= n) :
    call n 64 [.int .u8 3,.sl 2 (os.map O.w) b] h=some (.ret [.sl 1 (iL (Z9 os++Xo os)) false],h):=by
 obtain⟨N,rfl⟩:∃ N,n=(N+1)+1:=⟨n - 2,by omega⟩;refine(zol (N+1) _ h).trans ?_;unfold zpZ;have e:=zgh N os b hs [] hl (by omega) os.length 0 (N+1) (by omega) (by omega);rw[zqD os hs] at e;rw[show qG (YL os) 0=[] from rfl] at e;have e':zR (N+1) (Yx (N+1) (.sl 2 (os.map O.w) b)) [.sl 1 [] false,.sl 1 [] false,.int .i64 0] []=some (.ret [.sl 1 (iL (Z9 os++Xo os)) false],[]):=e;rw[e'];generalize Z9 os++Xo os=L;exact YV (by simp[W2 O.w (fun _=>rfl)]) (by simp[Xc])
end Go.Proofs.Tryz
namespace Go.Proofs.Tryz
open Go.L Go.Rp Go.Sk
set_option maxRecDepth 100000
abbrev vL(l:List Int):List (List V):=l.map (Xc .i32)
def zqE(s:List Int)(v:Int):List Int:=s.takeWhile (·<=v)++v :: s.dropWhile (·<=v)
theorem zlT(l:List Int):(vL l).length=l.length:=zo ..
theorem znh(l:List Int)(n:Nat):(vL l).take n=vL (l.take n):=by simp[vL,WV]
theorem zsL(l:List Int)(n:Nat):(vL l).drop n=vL (l.drop n):=by simp[vL,WU]
theorem zek(a b:List Int)(h:a.length+b.length < lim):app 21 1 (.own 21 1 (vL a)) (vL b)=some (vL (a++b)):=by
 simp[app,h,vL]
theorem qz(b:List Int)(h:b.length < lim):app 21 1 (.own 21 1 []) (vL b)=some (vL b):=by
 simp[app,h,vL]
theorem zqF(x:Int):JY prog 27 1 [(0,.int .i32 x)]=some (1,vL [x]):=by kernel_rfl
theorem zjD{sz z a b:Nat}{l:List (List V)}{sb:Bool}(hz:z=sz\/l.isEmpty=true)(h1:a<=b)(h2:b<=l.length):Z4 sz a b (none:Option Nat) true (.sl z l sb)=some (.sl sz ((l.take b).drop a) false):=by
 have hc:a<=b/\b<=l.length/\(z=sz\/l.isEmpty=true)/\((none:Option Nat)=none\/(none:Option Nat)=some b)/\true=true:=⟨h1,h2,hz,.inl rfl,rfl⟩;show (if _ then _ else _)=_;rw[if_pos hc];rfl
def zsM(most:Int)(s:List Int)(o:O):List Int×R :=
 if o.k=1 then(if most<=(s.length:Int) then(s,⟨3,0⟩) else(zqE s o.v,⟨1,0⟩))
 else if o.k=2 then(match s with|[]=>(s,⟨4,0⟩)|x :: r=>(r,⟨2,x⟩))
 else(s,⟨5,0⟩)
theorem zjE(x:Int):(if 0 < (if 1000 < x then 1000 else x) then(if 1000 < x then 1000 else x) else(0:Int))=max 0 (min x 1000):=by
 split <;> split at * <;> omega
theorem zqG(s:List Int)(v:Int):(zqE s v).length=s.length+1:=by
 unfold zqE;rw[zE,zD];have:=congrArg List.length (List.takeWhile_append_dropWhile (p:=fun y:Int=>decide (y<=v)) (l:=s));rw[zE] at this;omega
theorem zqH(most:Int)(s:List Int)(o:O):(zsM most s o).1.length<=s.length+1:=by
 unfold zsM;split
 . split
   . simp
   . simp[zqG]
 . split
   . cases s <;> simp <;> omega
   . simp
theorem zoK(os:List O):(Z9 os++Xo os).length=os.length:=by
 have h:∀ n:Nat,(Q1 os n).length+(QK os n).length=n:=fun n=>by
  induction n with
  | zero=>rfl
  | succ n ih =>
    simp only[Q1,QK];split <;> simp <;> omega
 rw[zE,qw];exact h os.length
end Go.Proofs.Tryz
namespace Go.Proofs.Tryz
open Go.L Go.Rp Go.Sk
set_option maxRecDepth 100000
def zgi(h:zd)(r:V)(l:List R):Prop:=(∃ sz,ZR h r=some (sz,l.map R.w))/\∀ (i:Nat) (x:R),l[i]?=some x->∃ p,ZE 2 i r=some p/\zu h p=some (R.w x,2,0)
theorem RowR.sees{h:zd}{b:Nat}{l:List R}(r:RowR h b l):zgi h (.row b 2 0 l.length) l:=⟨⟨2,r.slc⟩,fun i x hx=>⟨_,r.get hx 0⟩⟩
theorem zjF(h:zd)(l:List R)(sb:Bool):zgi h (.sl 2 (l.map R.w) sb) l:=⟨⟨2,ZW ..⟩,fun i x hx=>⟨_,Xb (es:=R.w x) (by rw[K9,hx];rfl) sb,Zl ..⟩⟩
theorem zni(h:zd){z:Nat}{l:List Int}{sb:Bool}(hz:z=1\/l=[]):zhh h (.sl z (vL l) sb) l:=⟨⟨z,ZW ..⟩,fun i x hx=>by
 obtain rfl:z=1:=hz.resolve_right (by rintro rfl;simp at hx);exact⟨_,Xb (es:=Xc .i32 x) (by rw[zG,hx];rfl) sb,Zl ..⟩⟩
theorem zsN(a b c d:Int):bop prog .neq 35 (.agg [.int .u8 a,.int .i32 b]) (.agg [.int .u8 c,.int .i32 d])=some (.bool !(a == c && (b == d && true))):=by kernel_rfl
theorem zlU(n:Nat){h:zd}{a b:V}{l:List R}(ha:zgi h a l)(hb:zgi h b l)(hl:l.length < lim):∀ (d i M:Nat) (v0:V),i+d=l.length->d < M->zR M (jQ n a b) [v0,.int .i64 (i:Int)] h=some (.ret [.bool true],h):=by
 obtain⟨⟨sa,hsa⟩,ga⟩:=ha;intro d
 induction d with
 | zero =>
   intro i M v0 h1 h2;obtain⟨M,rfl⟩:∃ M',M=M'+1:=⟨M - 1,by omega⟩;obtain rfl:i=l.length:=by omega
   rw[zA];unfold jQ;rw[hsa,za];simp only[gv,zf,zh,zo,zr,za,zm];rw[if_neg (by simp)]
 | succ d ih =>
   intro i M v0 h1 h2;obtain⟨M,rfl⟩:∃ M',M=M'+1:=⟨M - 1,by omega⟩;obtain⟨x,hx⟩:∃ x,l[i]?=some x:=⟨_,zg (by omega)⟩;obtain⟨p,p1,p2⟩:=ga i x hx;obtain⟨q,q1,q2⟩:=hb.2 i x hx;have hlt:decide ((i:Int) < (l.length:Int))=true:=by simp;omega
   have hc:V.agg (List.take 2 (List.drop 0 (R.w x)))=.agg [.int .u8 x.c,.int .i32 x.v]:=rfl;have key:∀ next,jQ n a b [v0,.int .i64 (i:Int)] h next=next [v0,.int .i64 ((i+1:Nat):Int)] h:=by
    intro next
    unfold jQ;rw[hsa,za];simp only[gv,zf,zh,zo,zr,za,zm,hlt,if_true,Za,zy,p1,p2,q1,q2,zn,zq,zl,Nat.reduceLT,and_self,hc,zsN,zH,Xa (show i < lim by omega)];rw[if_neg (by simp)]
   rw[zA,key];exact ih (i+1) M v0 (by omega) (by omega)
theorem zel(n:Nat){h:zd}{a b:V}{l:List R}(ha:zgi h a l)(hb:zgi h b l)(hl:l.length < lim)(hn:l.length < n):call (n+1) 24 [a,b] h=some (.ret [.bool true],h):=by
 refine(zp1 n a b h).trans ?_;unfold zto;obtain⟨sa,hsa⟩:=ha.1;obtain⟨sb,hsb⟩:=hb.1;rw[hsa,za,hsb,za,if_neg (by simp)];exact zlU n ha hb hl l.length 0 n (.bool false) (by omega) hn
theorem zqI(I:List (Int×Nat))(v:Int)(T:Nat):(je I v T).map (·.1)=zqE (I.map (·.1)) v:=by
 unfold je zqE;rw[Zu,zS,List.takeWhile_map,List.dropWhile_map];rfl
theorem zqJ(most:Int)(st:St)(o:O):((stp most st o).1.1.map (·.1),(stp most st o).2)=zsM most (st.1.map (·.1)) o:=by
 unfold stp zsM;rw[zo];by_cases h1:o.k=1
 . rw[if_pos h1,if_pos h1];by_cases h2:most<=(st.1.length:Int)
   . rw[if_pos h2,if_pos h2]
   . rw[if_neg h2,if_neg h2];simp only[zqI]
 . rw[if_neg h1,if_neg h1];by_cases h2:o.k=2
   . rw[if_pos h2,if_pos h2];obtain⟨I,B⟩:=st;cases I <;> rfl
   . rw[if_neg h2,if_neg h2]
theorem zqK(most:Int)(st:St)(o:O):(stp most st o).1.1.length<=st.1.length+1:=by
 have:=zqH most (st.1.map (·.1)) o;rw[<- zqJ] at this;simpa using this
end Go.Proofs.Tryz
namespace Go.Proofs.Tryz
open Go.L
set_option maxRecDepth 100000
noncomputable def KK(n:Nat)(bits:V)(st3:List V)(next5:List V->zd->Option (Res×zd))(st10:List V)(hh11:zd)(next12:List V->zd->Option (Res×zd)):Option (Res×zd) :=
 (bd (bop prog .lss 3 (gv st10 2) (V.int .i64 8)) fun v13 =>
 (bv v13 fun b14=>if b14 then
 (if (decide ((((lsl (gv st10 1))).length:Int) < 20000)) then
 (bdS (nv (gv st3 2)) fun n15 =>
 (bd (ZE 1 n15 bits) fun p16 =>
 (bd3 (zu hh11 p16) fun cs18 m17 o19=>if (o19+1<=m17/\0 < 1) then
 (bd (cs18)[o19]? fun v20 =>
 (bd (cvt prog 3 204 (gv st10 2)) fun v21 =>
 (bd (bop prog .shr 5 v20 v21) fun v22 =>
 (bd (bop prog .rem 5 v22 (V.int .u8 2)) fun v23 =>
 (bd (bop prog .eql 5 v23 (V.int .u8 1)) fun v24 =>
 (bd (JY prog 73 1 [(0,v24)]) fun p25 =>
 (bd (app 4 1 (S.own 4 1 (lsl (gv st10 1))) p25.2) fun l26 =>
 (bd (bop prog .add 3 (gv st10 2) (V.int .i64 1)) fun v27 =>
 (next12 [(V.sl 1 (lsl (gv st10 0)) false),(V.sl 1 l26 false),v27,(V.bool false)] hh11))))))))) else none)))
 else
 (bd (bop prog .add 3 (gv st10 2) (V.int .i64 1)) fun v28 =>
 (next12 [(V.sl 1 (lsl (gv st10 0)) false),(V.sl 1 (lsl (gv st10 1)) false),v28,(V.bool false)] hh11)))
 else
 (bd (bop prog .add 3 (gv st3 2) (V.int .i64 1)) fun v29 =>
 (next5 [(V.sl 1 (lsl (gv st10 0)) false),(V.sl 1 (lsl (gv st10 1)) false),v29,(V.bool false)] hh11))))
noncomputable def KL(n:Nat)(bits:V)(st3:List V)(hh4:zd)(next5:List V->zd->Option (Res×zd)):Option (Res×zd) :=
 (bd (ZR hh4 bits) fun p6 =>
 (bd (bop prog .lss 3 (gv st3 2) (V.int .i64 ((p6.2).length:Int))) fun v7 =>
 (bv v7 fun b8=>if b8 then
 (zR n (KK n bits st3 next5) [(V.sl 1 (lsl (gv st3 0)) false),(V.sl 1 (lsl (gv st3 1)) false),(V.int .i64 0),(V.bool false)] hh4)
 else
 some (Res.ret [(V.sl 1 (lsl (gv st3 1)) false)],hh4))))
noncomputable def zqL(n:Nat)(l:V)(bits:V)(h:zd):Option (Res×zd) :=
 (bdS (ZR h l) fun p0 =>
 (if (73=73/\(p0.1=1\/(p0.2).isEmpty=true)) then
 (bd (app 4 1 (S.own 4 1 []) p0.2) fun l1 =>
 (zR n (KL n bits) [(V.sl 1 [] false),(V.sl 1 l1 false),(V.int .i64 0),(V.bool false)] h)) else none))
theorem zoL(n:Nat)(l:V)(bits:V)(h:zd):call (n+1) 96 [l,bits] h=zqL n l bits h:=by kernel_rfl
noncomputable def zqM(n:Nat)(l:V)(h:zd):Option (Res×zd) :=
 (bd (ZR h l) fun p0 =>
 (if (((p0.2).length:Int) == 0) then
 some (Res.ret [l,(V.bool false)],h)
 else
 (bd (QZ l) fun n1 =>
 (bd (Z4 1 1 n1 (none:Option Nat) true l) fun v2 =>
 (bd (ZE 1 0 l) fun p3 =>
 (bd3 (zu h p3) fun cs5 m4 o6=>if (o6+1<=m4/\0 < 1) then
 (bd (cs5)[o6]? fun v7 =>
 some (Res.ret [v2,v7],h)) else none))))))
theorem zoM(n:Nat)(l:V)(h:zd):call (n+1) 145 [l] h=zqM n l h:=by kernel_rfl
noncomputable def Y0(n:Nat)  (st1:List V) (hh2:zd) (next3:List V->zd->Option (Res×zd)):Option (Res×zd) :=
 (bd (bop prog .lss 3 (gv st1 3) (V.int .i64 8)) fun v4 =>
 (bv v4 fun b5=>if b5 then
 (cl (call n 145 [(gv st1 0)] hh2) (fun r6 h7 =>
 (bd (r6)[0]? fun v9 =>
 (bd (r6)[1]? fun v10 =>
 (bd (uop .not v10) fun v11 =>
 (bv v11 fun b12=>if b12 then
 some (Res.ret [v9,(gv st1 3)],h7)
 else
 (bd (bop prog .add 3 (gv st1 3) (V.int .i64 1)) fun v13 =>
 (next3 [v9,(gv st1 1),(gv st1 2),v13] h7))))))) (fun z8 h7=>some (Res.pan z8,h7)))
 else
 some (Res.ret [(gv st1 0),(gv st1 3)],hh2)))
noncomputable def zjG(n:Nat)(l:V)(h:zd):Option (Res×zd) :=
 (zR n (Y0 n ) [l,(V.sl 1 [] false),(V.int .i64 0),(V.int .i64 1)] h)
theorem zjH(n:Nat)(l:V)(h:zd):call (n+1) 130 [l] h=zjG n l h:=by kernel_rfl
noncomputable def Wf(n:Nat)(l:V)(v:Int)(k:Int)(st8:List V)(hh9:zd)(next10:List V->zd->Option (Res×zd)):Option (Res×zd) :=
 (bd (ZR hh9 l) fun p11 =>
 (bd (bop prog .lss 3 (gv st8 1) (V.int .i64 ((p11.2).length:Int))) fun v12 =>
 (bv v12 fun b13=>if b13 then
 (bdS (nv (gv st8 1)) fun n14 =>
 (bd (ZE 2 n14 l) fun p15 =>
 (bd (ZL 0 p15) fun p16 =>
 (bd3 (zu hh9 p16) fun cs18 m17 o19=>if (o19+1<=m17/\0 < 1) then
 (bd (cs18)[o19]? fun v20 =>
 (bd (bop prog .leq 21 v20 (V.int .i32 v)) fun v21 =>
 (bv v21 fun b22=>if b22 then
 (bd (bop prog .add 3 (gv st8 1) (V.int .i64 1)) fun v23 =>
 (next10 [(V.sl 2 (lsl (gv st8 0)) false),v23] hh9))
 else
 (bd (QZ l) fun n24 =>
 (bdS (nv (gv st8 1)) fun n25 =>
 (bd (Z4 2 0 n25 (none:Option Nat) true l) fun v26 =>
 (bdS (ZR hh9 v26) fun p27 =>
 (if (72=72/\(p27.1=2\/(p27.2).isEmpty=true)) then
 (bd (app 160 2 (S.own 160 2 []) p27.2) fun l28 =>
 (bd (app 160 2 (S.own 160 2 l28) [[(V.int .i32 v),(V.int .i64 (if 1 < (if 8 < k then 8 else k) then(if 8 < k then 8 else k) else 1))]]) fun l29 =>
 (bd (QZ l) fun n30 =>
 (bdS (nv (gv st8 1)) fun n31 =>
 (bd (Z4 2 n31 n30 (none:Option Nat) true l) fun v32 =>
 (bdS (ZR hh9 v32) fun p33 =>
 (if (72=72/\(p33.1=2\/(p33.2).isEmpty=true)) then
 (bd (app 160 2 (S.own 160 2 l29) p33.2) fun l34 =>
 some (Res.ret [(V.sl 2 l34 false),(V.bool true)],hh9)) else none))))))) else none)))))))) else none))))
 else
 (bd (QZ l) fun n35 =>
 (bdS (nv (gv st8 1)) fun n36 =>
 (bd (Z4 2 0 n36 (none:Option Nat) true l) fun v37 =>
 (bdS (ZR hh9 v37) fun p38 =>
 (if (72=72/\(p38.1=2\/(p38.2).isEmpty=true)) then
 (bd (app 160 2 (S.own 160 2 []) p38.2) fun l39 =>
 (bd (app 160 2 (S.own 160 2 l39) [[(V.int .i32 v),(V.int .i64 (if 1 < (if 8 < k then 8 else k) then(if 8 < k then 8 else k) else 1))]]) fun l40 =>
 (bd (QZ l) fun n41 =>
 (bdS (nv (gv st8 1)) fun n42 =>
 (bd (Z4 2 n42 n41 (none:Option Nat) true l) fun v43 =>
 (bdS (ZR hh9 v43) fun p44 =>
 (if (72=72/\(p44.1=2\/(p44.2).isEmpty=true)) then
 (bd (app 160 2 (S.own 160 2 l40) p44.2) fun l45 =>
 some (Res.ret [(V.sl 2 l45 false),(V.bool true)],hh9)) else none))))))) else none))))))))
noncomputable def zem(n:Nat)(m:Int)(l:V)(v:Int)(k:Int)(h:zd):Option (Res×zd) :=
 (bd (ZR h l) fun p0 =>
 (cl (call n 129 [(V.int .i64 m)] h) (fun r1 h2 =>
 (Zr r1 fun v4 =>
 (bd (bop prog .geq 3 (V.int .i64 ((p0.2).length:Int)) v4) fun v5 =>
 (bv v5 fun b6=>if b6 then
 some (Res.ret [l,(V.bool false)],h2)
 else
 (zR n (Wf n l v k) [(V.sl 2 [] false),(V.int .i64 0)] h2))))) (fun z3 h2=>some (Res.pan z3,h2))))
theorem zcr(n:Nat)(m:Int)(l:V)(v:Int)(k:Int)(h:zd):call (n+1) 131 [(V.int .i64 m),l,(V.int .i32 v),(V.int .i64 k)] h=zem n m l v k h:=by kernel_rfl
noncomputable def Jp(n:Nat)(l:V)(k:Int)(st1:List V)(hh2:zd)(next3:List V->zd->Option (Res×zd)):Option (Res×zd) :=
 (bd (ZR hh2 l) fun p4 =>
 (bd (bop prog .lss 3 (gv st1 2) (V.int .i64 ((p4.2).length:Int))) fun v5 =>
 (bv v5 fun b6=>if b6 then
 (if (decide (k ≥ 1)) then
 (bdS (nv (gv st1 2)) fun n7 =>
 (bd (ZE 2 n7 l) fun p8 =>
 (bd (ZL 1 p8) fun p9 =>
 (bd3 (zu hh2 p9) fun cs11 m10 o12=>if (o12+1<=m10/\0 < 1) then
 (bd (cs11)[o12]? fun v13 =>
 (bd (bop prog .geq 3 v13 (V.int .i64 k)) fun v14 =>
 (bv v14 fun b15=>if b15 then
 (bdS (nv (gv st1 2)) fun n16 =>
 (bd (ZE 2 n16 l) fun p17 =>
 (bd (ZL 0 p17) fun p18 =>
 (bd3 (zu hh2 p18) fun cs20 m19 o21=>if (o21+1<=m19/\0 < 1) then
 (bd (cs20)[o21]? fun v22 =>
 (bd (JY prog 27 1 [(0,v22)]) fun p23 =>
 (bd (app 21 1 (S.own 21 1 (lsl (gv st1 1))) p23.2) fun l24 =>
 (bd (bop prog .add 3 (gv st1 2) (V.int .i64 1)) fun v25 =>
 (next3 [(V.sl 1 (lsl (gv st1 0)) false),(V.sl 1 l24 false),v25] hh2))))) else none))))
 else
 (bd (bop prog .add 3 (gv st1 2) (V.int .i64 1)) fun v26 =>
 (next3 [(V.sl 1 (lsl (gv st1 0)) false),(V.sl 1 (lsl (gv st1 1)) false),v26] hh2))))) else none))))
 else
 (bd (bop prog .add 3 (gv st1 2) (V.int .i64 1)) fun v27 =>
 (next3 [(V.sl 1 (lsl (gv st1 0)) false),(V.sl 1 (lsl (gv st1 1)) false),v27] hh2)))
 else
 some (Res.ret [(V.sl 1 (lsl (gv st1 1)) false)],hh2))))
noncomputable def zhi(n:Nat)(l:V)(k:Int)(h:zd):Option (Res×zd) :=
 (zR n (Jp n l k) [(V.sl 1 [] false),(V.sl 1 [] false),(V.int .i64 0)] h)
theorem zen(n:Nat)(l:V)(k:Int)(h:zd):call (n+1) 98 [l,(V.int .i64 k)] h=zhi n l k h:=by kernel_rfl
noncomputable def Wg(n:Nat)(m:Int)(l:V)(v6:V)(st8:List V)(hh9:zd)(next10:List V->zd->Option (Res×zd)):Option (Res×zd) :=
 (bd (ZR hh9 v6) fun p11 =>
 (bd (bop prog .lss 3 (gv st8 6) (V.int .i64 ((p11.2).length:Int))) fun v12 =>
 (bv v12 fun b13=>if b13 then
 (bdS (nv (gv st8 6)) fun n14 =>
 (bd (ZE 1 n14 v6) fun p15 =>
 (bd3 (zu hh9 p15) fun cs17 m16 o18=>if (o18+1<=m16/\0 < 1) then
 (bd (cs17)[o18]? fun v19 =>
 (bdS (nv v19) fun n20 =>
 (bd (ZE 2 n20 l) fun p21 =>
 (bd3 (zu hh9 p21) fun cs23 m22 o24=>if (o24+2<=m22/\0 < 2) then
 (if (((cs23).drop o24 |>.take 2)).length=2 then
 (if ((((cs23).drop o24 |>.take 2)).length<=2) then
 (bd ((setR [(V.int .u8 0),(V.int .i32 0)] 0 ((cs23).drop o24 |>.take 2)))[0]? fun v25 =>
 (bd (bop prog .eql 5 v25 (V.int .u8 1)) fun v26 =>
 (bv v26 fun b27=>if b27 then
 (bd (ZR hh9 (gv st8 0)) fun p28 =>
 (cl (call n 129 [(V.int .i64 m)] hh9) (fun r29 h30 =>
 (Zr r29 fun v32 =>
 (bd (bop prog .geq 3 (V.int .i64 ((p28.2).length:Int)) v32) fun v33 =>
 (bv v33 fun b34=>if b34 then
 (bdS (nv (gv st8 6)) fun n35 =>
 (bd (ZE 1 n35 v6) fun p36 =>
 (bd3 (zu h30 p36) fun cs38 m37 o39=>if (o39+1<=m37/\0 < 1) then
 (bd (cs38)[o39]? fun v40 =>
 (bdS (nv v40) fun n41 =>
 (if (2=2/\n41 < ((lsl (gv st8 5))).length/\(some 99:Option Nat)≠some 11) then
 (bd ((lsl (gv st8 5)))[n41]? fun es42 =>
 (bd (bop prog .add 3 (gv st8 6) (V.int .i64 1)) fun v43 =>
 (next10 [(gv st8 0),(gv st8 1),(V.sl 2 (lsl (gv st8 2)) false),(V.sl 1 (lsl (gv st8 3)) false),(V.sl 2 (lsl (gv st8 4)) false),(V.sl 2 (((lsl (gv st8 5))).set n41 (setR es42 0 [(V.int .u8 3),(V.int .i32 0)])) false),v43,(V.bool false)] h30))) else none))) else none)))
 else
 (bd ((setR [(V.int .u8 0),(V.int .i32 0)] 0 ((cs23).drop o24 |>.take 2)))[0]? fun v44 =>
 (bd (bop prog .eql 5 v44 (V.int .u8 1)) fun v45 =>
 (bv v45 fun b46=>if b46 then
 (cl (call n 130 [(gv st8 1)] h30) (fun r47 h48 =>
 (bd (r47)[0]? fun v50 =>
 (bd (r47)[1]? fun v51 =>
 (bd ((setR [(V.int .u8 0),(V.int .i32 0)] 0 ((cs23).drop o24 |>.take 2)))[1]? fun v52 =>
 (cl (call n 131 [(V.int .i64 m),(gv st8 0),v52,v51] h48) (fun r53 h54 =>
 (bd (r53)[0]? fun v56 =>
 (bd (r53)[1]? fun v57 =>
 (bdS (nv (gv st8 6)) fun n58 =>
 (bd (ZE 1 n58 v6) fun p59 =>
 (bd3 (zu h54 p59) fun cs61 m60 o62=>if (o62+1<=m60/\0 < 1) then
 (bd (cs61)[o62]? fun v63 =>
 (bdS (nv v63) fun n64 =>
 (if (2=2/\n64 < ((lsl (gv st8 5))).length/\(some 99:Option Nat)≠some 11) then
 (bd ((lsl (gv st8 5)))[n64]? fun es65 =>
 (bd (bop prog .add 3 (gv st8 6) (V.int .i64 1)) fun v66 =>
 (next10 [v56,v50,(V.sl 2 (lsl (gv st8 2)) false),(V.sl 1 (lsl (gv st8 3)) false),(V.sl 2 (lsl (gv st8 4)) false),(V.sl 2 (((lsl (gv st8 5))).set n64 (setR es65 0 [(V.int .u8 1),(V.int .i32 0)])) false),v66,(V.bool false)] h54))) else none))) else none)))))) (fun z55 h54=>some (Res.pan z55,h54))))))) (fun z49 h48=>some (Res.pan z49,h48)))
 else
 (bd ((setR [(V.int .u8 0),(V.int .i32 0)] 0 ((cs23).drop o24 |>.take 2)))[0]? fun v67 =>
 (bd (bop prog .eql 5 v67 (V.int .u8 2)) fun v68 =>
 (bv v68 fun b69=>if b69 then
 (bd (ZR h30 (gv st8 0)) fun p70 =>
 (if (((p70.2).length:Int) == 0) then
 (bdS (nv (gv st8 6)) fun n71 =>
 (bd (ZE 1 n71 v6) fun p72 =>
 (bd3 (zu h30 p72) fun cs74 m73 o75=>if (o75+1<=m73/\0 < 1) then
 (bd (cs74)[o75]? fun v76 =>
 (bdS (nv v76) fun n77 =>
 (if (2=2/\n77 < ((lsl (gv st8 5))).length/\(some 99:Option Nat)≠some 11) then
 (bd ((lsl (gv st8 5)))[n77]? fun es78 =>
 (bd (bop prog .add 3 (gv st8 6) (V.int .i64 1)) fun v79 =>
 (next10 [(gv st8 0),(gv st8 1),(V.sl 2 (lsl (gv st8 2)) false),(V.sl 1 (lsl (gv st8 3)) false),(V.sl 2 (lsl (gv st8 4)) false),(V.sl 2 (((lsl (gv st8 5))).set n77 (setR es78 0 [(V.int .u8 4),(V.int .i32 0)])) false),v79,(V.bool false)] h30))) else none))) else none)))
 else
 (bd ((setR [(V.int .u8 0),(V.int .i32 0)] 0 ((cs23).drop o24 |>.take 2)))[0]? fun v80 =>
 (bd (bop prog .eql 5 v80 (V.int .u8 2)) fun v81 =>
 (bv v81 fun b82=>if b82 then
 (bd (ZE 2 0 (gv st8 0)) fun p83 =>
 (bd (ZL 0 p83) fun p84 =>
 (bd3 (zu h30 p84) fun cs86 m85 o87=>if (o87+1<=m85/\0 < 1) then
 (bd (cs86)[o87]? fun v88 =>
 (bd (Qo prog 35 [(0,(V.int .u8 2)),(1,v88)]) fun cs89 =>
 (if (cs89).length=2 then
 (if ((cs89).length<=2) then
 (bd (QZ (gv st8 0)) fun n90 =>
 (bd (Z4 2 1 n90 (none:Option Nat) true (gv st8 0)) fun v91 =>
 (bdS (nv (gv st8 6)) fun n92 =>
 (bd (ZE 1 n92 v6) fun p93 =>
 (bd3 (zu h30 p93) fun cs95 m94 o96=>if (o96+1<=m94/\0 < 1) then
 (bd (cs95)[o96]? fun v97 =>
 (bdS (nv v97) fun n98 =>
 (if (2=2/\n98 < ((lsl (gv st8 5))).length/\(some 99:Option Nat)≠some 11) then
 (if ((((setR [(V.int .u8 5),(V.int .i32 0)] 0 cs89)).drop 0 |>.take 2)).length=2 then
 (if (2=2/\0 < 2/\0+((((setR [(V.int .u8 5),(V.int .i32 0)] 0 cs89)).drop 0 |>.take 2)).length<=2) then
 (bd ((lsl (gv st8 5)))[n98]? fun es99 =>
 (bd (bop prog .add 3 (gv st8 6) (V.int .i64 1)) fun v100 =>
 (next10 [v91,(gv st8 1),(V.sl 2 (lsl (gv st8 2)) false),(V.sl 1 (lsl (gv st8 3)) false),(V.sl 2 (lsl (gv st8 4)) false),(V.sl 2 (((lsl (gv st8 5))).set n98 (setR es99 0 (((setR [(V.int .u8 5),(V.int .i32 0)] 0 cs89)).drop 0 |>.take 2))) false),v100,(V.bool false)] h30))) else none) else none) else none))) else none))))) else none) else none))) else none)))
 else
 (bdS (nv (gv st8 6)) fun n101 =>
 (bd (ZE 1 n101 v6) fun p102 =>
 (bd3 (zu h30 p102) fun cs104 m103 o105=>if (o105+1<=m103/\0 < 1) then
 (bd (cs104)[o105]? fun v106 =>
 (bdS (nv v106) fun n107 =>
 (if (2=2/\n107 < ((lsl (gv st8 5))).length/\(some 99:Option Nat)≠some 11) then
 (bd ((lsl (gv st8 5)))[n107]? fun es108 =>
 (bd (bop prog .add 3 (gv st8 6) (V.int .i64 1)) fun v109 =>
 (next10 [(gv st8 0),(gv st8 1),(V.sl 2 (lsl (gv st8 2)) false),(V.sl 1 (lsl (gv st8 3)) false),(V.sl 2 (lsl (gv st8 4)) false),(V.sl 2 (((lsl (gv st8 5))).set n107 (setR es108 0 [(V.int .u8 5),(V.int .i32 0)])) false),v109,(V.bool false)] h30))) else none))) else none))))))))
 else
 (bd ((setR [(V.int .u8 0),(V.int .i32 0)] 0 ((cs23).drop o24 |>.take 2)))[0]? fun v110 =>
 (bd (bop prog .eql 5 v110 (V.int .u8 2)) fun v111 =>
 (bv v111 fun b112=>if b112 then
 (bd (ZE 2 0 (gv st8 0)) fun p113 =>
 (bd (ZL 0 p113) fun p114 =>
 (bd3 (zu h30 p114) fun cs116 m115 o117=>if (o117+1<=m115/\0 < 1) then
 (bd (cs116)[o117]? fun v118 =>
 (bd (Qo prog 35 [(0,(V.int .u8 2)),(1,v118)]) fun cs119 =>
 (if (cs119).length=2 then
 (if ((cs119).length<=2) then
 (bd (QZ (gv st8 0)) fun n120 =>
 (bd (Z4 2 1 n120 (none:Option Nat) true (gv st8 0)) fun v121 =>
 (bdS (nv (gv st8 6)) fun n122 =>
 (bd (ZE 1 n122 v6) fun p123 =>
 (bd3 (zu h30 p123) fun cs125 m124 o126=>if (o126+1<=m124/\0 < 1) then
 (bd (cs125)[o126]? fun v127 =>
 (bdS (nv v127) fun n128 =>
 (if (2=2/\n128 < ((lsl (gv st8 5))).length/\(some 99:Option Nat)≠some 11) then
 (if ((((setR [(V.int .u8 5),(V.int .i32 0)] 0 cs119)).drop 0 |>.take 2)).length=2 then
 (if (2=2/\0 < 2/\0+((((setR [(V.int .u8 5),(V.int .i32 0)] 0 cs119)).drop 0 |>.take 2)).length<=2) then
 (bd ((lsl (gv st8 5)))[n128]? fun es129 =>
 (bd (bop prog .add 3 (gv st8 6) (V.int .i64 1)) fun v130 =>
 (next10 [v121,(gv st8 1),(V.sl 2 (lsl (gv st8 2)) false),(V.sl 1 (lsl (gv st8 3)) false),(V.sl 2 (lsl (gv st8 4)) false),(V.sl 2 (((lsl (gv st8 5))).set n128 (setR es129 0 (((setR [(V.int .u8 5),(V.int .i32 0)] 0 cs119)).drop 0 |>.take 2))) false),v130,(V.bool false)] h30))) else none) else none) else none))) else none))))) else none) else none))) else none)))
 else
 (bdS (nv (gv st8 6)) fun n131 =>
 (bd (ZE 1 n131 v6) fun p132 =>
 (bd3 (zu h30 p132) fun cs134 m133 o135=>if (o135+1<=m133/\0 < 1) then
 (bd (cs134)[o135]? fun v136 =>
 (bdS (nv v136) fun n137 =>
 (if (2=2/\n137 < ((lsl (gv st8 5))).length/\(some 99:Option Nat)≠some 11) then
 (bd ((lsl (gv st8 5)))[n137]? fun es138 =>
 (bd (bop prog .add 3 (gv st8 6) (V.int .i64 1)) fun v139 =>
 (next10 [(gv st8 0),(gv st8 1),(V.sl 2 (lsl (gv st8 2)) false),(V.sl 1 (lsl (gv st8 3)) false),(V.sl 2 (lsl (gv st8 4)) false),(V.sl 2 (((lsl (gv st8 5))).set n137 (setR es138 0 [(V.int .u8 5),(V.int .i32 0)])) false),v139,(V.bool false)] h30))) else none))) else none)))))))))))))))) (fun z31 h30=>some (Res.pan z31,h30))))
 else
 (bd ((setR [(V.int .u8 0),(V.int .i32 0)] 0 ((cs23).drop o24 |>.take 2)))[0]? fun v140 =>
 (bd (bop prog .eql 5 v140 (V.int .u8 1)) fun v141 =>
 (bv v141 fun b142=>if b142 then
 (cl (call n 130 [(gv st8 1)] hh9) (fun r143 h144 =>
 (bd (r143)[0]? fun v146 =>
 (bd (r143)[1]? fun v147 =>
 (bd ((setR [(V.int .u8 0),(V.int .i32 0)] 0 ((cs23).drop o24 |>.take 2)))[1]? fun v148 =>
 (cl (call n 131 [(V.int .i64 m),(gv st8 0),v148,v147] h144) (fun r149 h150 =>
 (bd (r149)[0]? fun v152 =>
 (bd (r149)[1]? fun v153 =>
 (bdS (nv (gv st8 6)) fun n154 =>
 (bd (ZE 1 n154 v6) fun p155 =>
 (bd3 (zu h150 p155) fun cs157 m156 o158=>if (o158+1<=m156/\0 < 1) then
 (bd (cs157)[o158]? fun v159 =>
 (bdS (nv v159) fun n160 =>
 (if (2=2/\n160 < ((lsl (gv st8 5))).length/\(some 99:Option Nat)≠some 11) then
 (bd ((lsl (gv st8 5)))[n160]? fun es161 =>
 (bd (bop prog .add 3 (gv st8 6) (V.int .i64 1)) fun v162 =>
 (next10 [v152,v146,(V.sl 2 (lsl (gv st8 2)) false),(V.sl 1 (lsl (gv st8 3)) false),(V.sl 2 (lsl (gv st8 4)) false),(V.sl 2 (((lsl (gv st8 5))).set n160 (setR es161 0 [(V.int .u8 1),(V.int .i32 0)])) false),v162,(V.bool false)] h150))) else none))) else none)))))) (fun z151 h150=>some (Res.pan z151,h150))))))) (fun z145 h144=>some (Res.pan z145,h144)))
 else
 (bd ((setR [(V.int .u8 0),(V.int .i32 0)] 0 ((cs23).drop o24 |>.take 2)))[0]? fun v163 =>
 (bd (bop prog .eql 5 v163 (V.int .u8 2)) fun v164 =>
 (bv v164 fun b165=>if b165 then
 (bd (ZR hh9 (gv st8 0)) fun p166 =>
 (if (((p166.2).length:Int) == 0) then
 (bdS (nv (gv st8 6)) fun n167 =>
 (bd (ZE 1 n167 v6) fun p168 =>
 (bd3 (zu hh9 p168) fun cs170 m169 o171=>if (o171+1<=m169/\0 < 1) then
 (bd (cs170)[o171]? fun v172 =>
 (bdS (nv v172) fun n173 =>
 (if (2=2/\n173 < ((lsl (gv st8 5))).length/\(some 99:Option Nat)≠some 11) then
 (bd ((lsl (gv st8 5)))[n173]? fun es174 =>
 (bd (bop prog .add 3 (gv st8 6) (V.int .i64 1)) fun v175 =>
 (next10 [(gv st8 0),(gv st8 1),(V.sl 2 (lsl (gv st8 2)) false),(V.sl 1 (lsl (gv st8 3)) false),(V.sl 2 (lsl (gv st8 4)) false),(V.sl 2 (((lsl (gv st8 5))).set n173 (setR es174 0 [(V.int .u8 4),(V.int .i32 0)])) false),v175,(V.bool false)] hh9))) else none))) else none)))
 else
 (bd ((setR [(V.int .u8 0),(V.int .i32 0)] 0 ((cs23).drop o24 |>.take 2)))[0]? fun v176 =>
 (bd (bop prog .eql 5 v176 (V.int .u8 2)) fun v177 =>
 (bv v177 fun b178=>if b178 then
 (bd (ZE 2 0 (gv st8 0)) fun p179 =>
 (bd (ZL 0 p179) fun p180 =>
 (bd3 (zu hh9 p180) fun cs182 m181 o183=>if (o183+1<=m181/\0 < 1) then
 (bd (cs182)[o183]? fun v184 =>
 (bd (Qo prog 35 [(0,(V.int .u8 2)),(1,v184)]) fun cs185 =>
 (if (cs185).length=2 then
 (if ((cs185).length<=2) then
 (bd (QZ (gv st8 0)) fun n186 =>
 (bd (Z4 2 1 n186 (none:Option Nat) true (gv st8 0)) fun v187 =>
 (bdS (nv (gv st8 6)) fun n188 =>
 (bd (ZE 1 n188 v6) fun p189 =>
 (bd3 (zu hh9 p189) fun cs191 m190 o192=>if (o192+1<=m190/\0 < 1) then
 (bd (cs191)[o192]? fun v193 =>
 (bdS (nv v193) fun n194 =>
 (if (2=2/\n194 < ((lsl (gv st8 5))).length/\(some 99:Option Nat)≠some 11) then
 (if ((((setR [(V.int .u8 5),(V.int .i32 0)] 0 cs185)).drop 0 |>.take 2)).length=2 then
 (if (2=2/\0 < 2/\0+((((setR [(V.int .u8 5),(V.int .i32 0)] 0 cs185)).drop 0 |>.take 2)).length<=2) then
 (bd ((lsl (gv st8 5)))[n194]? fun es195 =>
 (bd (bop prog .add 3 (gv st8 6) (V.int .i64 1)) fun v196 =>
 (next10 [v187,(gv st8 1),(V.sl 2 (lsl (gv st8 2)) false),(V.sl 1 (lsl (gv st8 3)) false),(V.sl 2 (lsl (gv st8 4)) false),(V.sl 2 (((lsl (gv st8 5))).set n194 (setR es195 0 (((setR [(V.int .u8 5),(V.int .i32 0)] 0 cs185)).drop 0 |>.take 2))) false),v196,(V.bool false)] hh9))) else none) else none) else none))) else none))))) else none) else none))) else none)))
 else
 (bdS (nv (gv st8 6)) fun n197 =>
 (bd (ZE 1 n197 v6) fun p198 =>
 (bd3 (zu hh9 p198) fun cs200 m199 o201=>if (o201+1<=m199/\0 < 1) then
 (bd (cs200)[o201]? fun v202 =>
 (bdS (nv v202) fun n203 =>
 (if (2=2/\n203 < ((lsl (gv st8 5))).length/\(some 99:Option Nat)≠some 11) then
 (bd ((lsl (gv st8 5)))[n203]? fun es204 =>
 (bd (bop prog .add 3 (gv st8 6) (V.int .i64 1)) fun v205 =>
 (next10 [(gv st8 0),(gv st8 1),(V.sl 2 (lsl (gv st8 2)) false),(V.sl 1 (lsl (gv st8 3)) false),(V.sl 2 (lsl (gv st8 4)) false),(V.sl 2 (((lsl (gv st8 5))).set n203 (setR es204 0 [(V.int .u8 5),(V.int .i32 0)])) false),v205,(V.bool false)] hh9))) else none))) else none))))))))
 else
 (bd ((setR [(V.int .u8 0),(V.int .i32 0)] 0 ((cs23).drop o24 |>.take 2)))[0]? fun v206 =>
 (bd (bop prog .eql 5 v206 (V.int .u8 2)) fun v207 =>
 (bv v207 fun b208=>if b208 then
 (bd (ZE 2 0 (gv st8 0)) fun p209 =>
 (bd (ZL 0 p209) fun p210 =>
 (bd3 (zu hh9 p210) fun cs212 m211 o213=>if (o213+1<=m211/\0 < 1) then
 (bd (cs212)[o213]? fun v214 =>
 (bd (Qo prog 35 [(0,(V.int .u8 2)),(1,v214)]) fun cs215 =>
 (if (cs215).length=2 then
 (if ((cs215).length<=2) then
 (bd (QZ (gv st8 0)) fun n216 =>
 (bd (Z4 2 1 n216 (none:Option Nat) true (gv st8 0)) fun v217 =>
 (bdS (nv (gv st8 6)) fun n218 =>
 (bd (ZE 1 n218 v6) fun p219 =>
 (bd3 (zu hh9 p219) fun cs221 m220 o222=>if (o222+1<=m220/\0 < 1) then
 (bd (cs221)[o222]? fun v223 =>
 (bdS (nv v223) fun n224 =>
 (if (2=2/\n224 < ((lsl (gv st8 5))).length/\(some 99:Option Nat)≠some 11) then
 (if ((((setR [(V.int .u8 5),(V.int .i32 0)] 0 cs215)).drop 0 |>.take 2)).length=2 then
 (if (2=2/\0 < 2/\0+((((setR [(V.int .u8 5),(V.int .i32 0)] 0 cs215)).drop 0 |>.take 2)).length<=2) then
 (bd ((lsl (gv st8 5)))[n224]? fun es225 =>
 (bd (bop prog .add 3 (gv st8 6) (V.int .i64 1)) fun v226 =>
 (next10 [v217,(gv st8 1),(V.sl 2 (lsl (gv st8 2)) false),(V.sl 1 (lsl (gv st8 3)) false),(V.sl 2 (lsl (gv st8 4)) false),(V.sl 2 (((lsl (gv st8 5))).set n224 (setR es225 0 (((setR [(V.int .u8 5),(V.int .i32 0)] 0 cs215)).drop 0 |>.take 2))) false),v226,(V.bool false)] hh9))) else none) else none) else none))) else none))))) else none) else none))) else none)))
 else
 (bdS (nv (gv st8 6)) fun n227 =>
 (bd (ZE 1 n227 v6) fun p228 =>
 (bd3 (zu hh9 p228) fun cs230 m229 o231=>if (o231+1<=m229/\0 < 1) then
 (bd (cs230)[o231]? fun v232 =>
 (bdS (nv v232) fun n233 =>
 (if (2=2/\n233 < ((lsl (gv st8 5))).length/\(some 99:Option Nat)≠some 11) then
 (bd ((lsl (gv st8 5)))[n233]? fun es234 =>
 (bd (bop prog .add 3 (gv st8 6) (V.int .i64 1)) fun v235 =>
 (next10 [(gv st8 0),(gv st8 1),(V.sl 2 (lsl (gv st8 2)) false),(V.sl 1 (lsl (gv st8 3)) false),(V.sl 2 (lsl (gv st8 4)) false),(V.sl 2 (((lsl (gv st8 5))).set n233 (setR es234 0 [(V.int .u8 5),(V.int .i32 0)])) false),v235,(V.bool false)] hh9))) else none))) else none))))))))))))))) else none) else none) else none)))) else none)))
 else
 some (Res.ret [(gv st8 0),(gv st8 1),(V.sl 2 (lsl (gv st8 5)) false)],hh9))))
noncomputable def zjI(n:Nat)(m:Int)(s:V)(bits:V)(l:V)(h:zd):Option (Res×zd) :=
 (bd (ZR h l) fun p0 =>
 (bdS (nv (V.int .i64 ((p0.2).length:Int))) fun n1 =>
 (bdS (nv (V.int .i64 ((p0.2).length:Int))) fun n2 =>
 (if (n1<=n2/\n2 < lim/\2=2) then
 (cl (call n 64 [(V.int .u8 3),l] h) (fun r3 h4 =>
 (Zr r3 fun v6 =>
 (zR n (Wg n m l v6) [s,bits,(V.sl 2 [] false),(V.sl 1 [] false),(V.sl 2 [] false),(V.sl 2 (List.replicate n1 [(V.int .u8 0),(V.int .i32 0)]) false),(V.int .i64 0),(V.bool false)] h4))) (fun z5 h4=>some (Res.pan z5,h4))) else none))))
theorem zjJ(n:Nat)(m:Int)(s:V)(bits:V)(l:V)(h:zd):call (n+1) 97 [(V.int .i64 m),s,bits,l] h=zjI n m s bits l h:=by kernel_rfl
end Go.Proofs.Tryz
namespace Go.Proofs.Tryz
open Go.L Go.Rp Go.Sk
set_option maxRecDepth 100000
def itW(p:Int×Nat):List V:=[.int .i32 p.1,.int .i64 (p.2:Int)]
abbrev slI(I:List (Int×Nat)):V:=.sl 2 (I.map itW) false
abbrev slB(B:List Bool):V:=.sl 1 (B.map JN) false
theorem zqN(i:Nat)(hi:i<=8):cvt prog 3 204 (.int .i64 (i:Int))=some (.int .u64 (i:Int)):=by
 have e:cvt prog 3 204 (.int .i64 (i:Int))=some (.int .u64 (IntKind.u64.wrap (i:Int))):=by kernel_rfl
 rw[e];have:IntKind.u64.wrap (i:Int)=(i:Int):=by
  unfold IntKind.wrap;simp[IntKind.bits,IntKind.signed];omega
 rw[this]
theorem zjK(a:Int)(i:Nat)(hi:i<=8):bop prog .shr 5 (.int .u8 a) (.int .u64 (i:Int))=some (.int .u8 (a.fdiv (2 ^ i))):=by
 have e:bop prog .shr 5 (.int .u8 a) (.int .u64 (i:Int))=zkY .shr .u8 a (i:Int):=by kernel_rfl
 rw[e];unfold zkY;rw[if_neg (by omega)];simp only[Xu];rw[XT (by exact hi)]
theorem zsO{y:Int}(h0:0<=y)(i:Nat):(Int.tmod (y.fdiv (2 ^ i)) 2 == (1:Int))=Wx y i:=by
 obtain⟨m,rfl⟩:∃ m:Nat,y=(m:Int):=⟨y.toNat,(ZH h0).symm⟩;have hp:((2:Int) ^ i)=((2 ^ i:Nat):Int):=by simp
 have hf:(m:Int).fdiv (2 ^ i)=((m / 2 ^ i:Nat):Int):=by rw[hp,JE _ (Js _)];rfl
 rw[hf,X4 (Js _)];unfold Wx;rw[Xu];generalize m / 2 ^ i=q;by_cases h:q % 2=1
 . simp[h];omega
 . have h':q % 2=0:=by omega
   simp[h'];omega
theorem zqO(l:List Bool)(x:Bool)(h:l.length+1 < lim):app 4 1 (S.own 4 1 (l.map JN)) [[.bool x]]=some ((l++[x]).map JN):=by
 simp[app,h,JN]
theorem zhj(n:Nat)(bs:List Int)(bb:Bool){h:zd}(v0:V)(k:Nat)(hk:k < bs.length){y:Int}(hy:bs[k]?=some y)(y0:0<=y)(u0 u1 u3:V)(hkl:k < lim)(next5:List V->zd->Option (Res×zd)):∀ (d i M:Nat) (out:List Bool),i+d=8->d < M->out.length+d<=20000 →
    zR M (KK n (.sl 1 (bs.map (Xc .u8)) bb) [u0,u1,.int .i64 (k:Int),u3] next5) [.sl 1 [] false,slB out,.int .i64 (i:Int),.bool false] h=next5 [.sl 1 [] false,slB (out++((List.range 8).drop i).map (Wx y)),.int .i64 ((k+1:Nat):Int),.bool false] h:=by
 intro d
 induction d with
 | zero =>
   intro i M out h1 h2 h3;obtain⟨M,rfl⟩:∃ M',M=M'+1:=⟨M - 1,by omega⟩;obtain rfl:i=8:=by omega
   rw[zA];unfold KK;simp only[gv,zf,zh,zr,za,zm];rw[if_neg (by decide),zH,za,Xa hkl];rw[show (List.range 8).drop 8=[] from rfl];simp[lsl]
 | succ d ih =>
   intro i M out h1 h2 h3;obtain⟨M,rfl⟩:∃ M',M=M'+1:=⟨M - 1,by omega⟩;have hlt:decide ((i:Int) < 8)=true:=by simp;omega
   have hyv:(bs.map (Xc .u8))[k]?=some [.int .u8 y]:=by rw[zG,hy];rfl
   have hout:decide (((out.map JN).length:Int) < 20000)=true:=by simp;omega
   have key:∀ next,KK n (.sl 1 (bs.map (Xc .u8)) bb) [u0,u1,.int .i64 (k:Int),u3] next5 [.sl 1 [] false,slB out,.int .i64 (i:Int),.bool false] h next=next [.sl 1 [] false,slB (out++[Wx y i]),.int .i64 ((i+1:Nat):Int),.bool false] h:=by
    intro next
    unfold KK;simp only[gv,zf,zh,zr,za,zm,hlt,if_true,lsl,hout,Za,zy,Xb hyv,Zl,zn,zq,zl,Nat.reduceLT,and_self,zb];rw[zqN i (by omega),za,zjK y i (by omega),za,ji (by decide),za,jT,za,zsO y0,zd3,za];simp only;rw[zqO _ _ (by unfold lim;omega),za,zH,za,Xa (show i < lim by unfold lim;omega)]
   have hd:(List.range 8).drop i=i :: (List.range 8).drop (i+1):=by
    rw[zQ (by simp;omega)];simp
   rw[zA,key,ih (i+1) M (out++[Wx y i]) (by omega) (by omega) (by simp;omega),hd];simp
theorem zcs(n:Nat)(h:zd)(B:List Bool):call (n+1) 145 [slB B] h=some (.ret [slB B.tail,.bool (B.headD false)],h):=by
 refine(zoM n _ h).trans ?_;unfold zqM;rw[ZW,za];cases B with
 | nil=>rfl
 | cons x r =>
   have hx:((x :: r).map JN)[0]?=some [.bool x]:=rfl;rw[if_neg (by simp;omega),YW,za,zjD (.inl rfl) (by simp) (zl _),za,Xb hx,za,Zl,zn,if_pos (by decide)];simp only[zb,za,XJ];rfl
theorem zff(n:Nat)(h:zd)(v1 v2:V):∀ (B:List Bool) (k M:Nat),1<=k->k<=8->8 < M+k →
    zR M (Y0 (n+1)) [slB B,v1,v2,.int .i64 (k:Int)] h=some (.ret [slB (hgt k B).2,.int .i64 ((hgt k B).1:Int)],h):=by
 intro B
 induction B with
 | nil =>
   intro k M h1 h2 h3;obtain⟨M,rfl⟩:∃ M',M=M'+1:=⟨M - 1,by omega⟩;rw[zA];unfold Y0;simp only[gv,zf,zh,zr,za,zm];by_cases h8:k=8
   . subst h8;rw[if_neg (by decide)];rfl
   . rw[if_pos (by simp;omega),zcs,zM];simp only[zb,zj,za,List.headD_nil,QR,zm];rfl
 | cons b r ih =>
   intro k M h1 h2 h3;obtain⟨M,rfl⟩:∃ M',M=M'+1:=⟨M - 1,by omega⟩;rw[zA];unfold Y0;simp only[gv,zf,zh,zr,za,zm];by_cases h8:k=8
   . subst h8;rw[if_neg (by decide),hgt,if_pos rfl]
   . rw[if_pos (by simp;omega),zcs,zM];simp only[zb,zj,za,List.headD_cons,List.tail_cons,QR,zm];rw[hgt,if_neg h8];cases b with
     | false=>rfl
     | true =>
       rw[if_neg (by decide),if_pos rfl,zH,za,Xa (show k < lim by unfold lim;omega)];exact ih (k+1) M (by omega) (by omega) (by omega)
theorem zfg(n:Nat)(h:zd)(B:List Bool)(hn:8<=n):call (n+2) 130 [slB B] h=some (.ret [slB (hgt 1 B).2,.int .i64 ((hgt 1 B).1:Int)],h):=by
 refine(zjH (n+1) _ h).trans ?_;unfold zjG;exact zff n h _ _ B 1 (n+1) (by omega) (by omega) (by omega)
theorem zlV(I:List (Int×Nat))(i:Nat):(I.map itW)[i]?=(I[i]?).map itW:=zG
theorem zhk(a b:List (Int×Nat))(h:a.length+b.length < lim):app 160 2 (.own 160 2 (a.map itW)) (b.map itW)=some ((a++b).map itW):=by
 simp[app,h]
theorem zjL {H : zd} {I : List (Int × Nat)} {a : Nat} {p : Int × Nat} {w : List V} {N : List (List V) -> Option (Res × zd)} {c1 c2 : Nat × List (List V) -> Prop} {d1 : ∀ p, Decidable (c1 p)} {d2 : ∀ p, Decidable (c2 p)} (h1 : ∀ p, p.1 = 2 -> c1 p) (h2 : ∀ p, p.1 = 2 -> c2 p) (hw : w = itW p) (ha : a <= I.length) (hl : I.length + 2 < lim) :
    (bd (QZ (slI I)) fun n24 =>
     (bdS (nv (V.int .i64 (a:Int))) fun n25 =>
     (bd (Z4 2 0 n25 (none:Option Nat) true (slI I)) fun v26 =>
     (bdS (ZR H v26) fun p27 =>
     (if c1 p27 then
     (bd (app 160 2 (S.own 160 2 []) p27.2) fun l28 =>
     (bd (app 160 2 (S.own 160 2 l28) [w]) fun l29 =>
     (bd (QZ (slI I)) fun n30 =>
     (bdS (nv (V.int .i64 (a:Int))) fun n31 =>
     (bd (Z4 2 n31 n30 (none:Option Nat) true (slI I)) fun v32 =>
     (bdS (ZR H v32) fun p33 =>
     (if c2 p33 then
     (bd (app 160 2 (S.own 160 2 l29) p33.2) fun l34=>N l34) else none))))))) else none)))))=N ((I.take a++p :: I.drop a).map itW):=by
 subst hw;have t1:(I.take a).length<=I.length:=by rw[Zh];omega
 rw[YW,za,Za,zy,zjD (.inl rfl) (Ze _) (by rw[zo];exact ha),za,ZW,zy,if_pos (h1 _ rfl)];simp only[zO];rw[<- WV];have a1:=zhk [] (I.take a) (by simp;omega);rw[Qz,zU] at a1;have a2:=zhk (I.take a) [p] (by simp;omega);rw[zS,Qz] at a2;rw[a1,za,a2,za,za,zy,zjD (.inl rfl) (by rw[zo];exact ha) (zl _),za,ZW,zy,if_pos (h2 _ rfl)];simp only[XJ];rw[<- WU,zhk _ _ (by simp;omega),za];simp
theorem znj{s:List (Int×Nat)}{v:Int}{T a:Nat}(h1:∀ y∈s.take a,y.1<=v)(h2:∀ y,s[a]?=some y->¬ y.1<=v):s.take a++(v,T) :: s.drop a=je s v T:=by
 unfold je;have e:s=s.take a++s.drop a:=(Zy a s).symm;have hd:(s.drop a).takeWhile (fun p=>decide (p.1<=v))=[]/\(s.drop a).dropWhile (fun p=>decide (p.1<=v))=s.drop a:=by
  cases hda:s.drop a with
  | nil=>exact⟨rfl,rfl⟩
  | cons y r =>
    have:s[a]?=some y:=by
     have:=congrArg (fun l=>l[0]?) hda;simpa[Zm] using this
    have hy:=h2 y this;exact⟨List.takeWhile_cons_of_neg (by simpa using hy),List.dropWhile_cons_of_neg (by simpa using hy)⟩
 have h3:s.takeWhile (fun p=>decide (p.1<=v))=s.take a:=by
  conv=>lhs;rw[e]
  rw[List.takeWhile_append_of_pos (fun y hy=>by simpa using h1 y hy),hd.1,Zq]
 have h4:s.dropWhile (fun p=>decide (p.1<=v))=s.drop a:=by
  conv=>lhs;rw[e]
  rw[List.dropWhile_append_of_pos (fun y hy=>by simpa using h1 y hy),hd.2]
 rw[h3,h4]
theorem zlW(k:Int):(if 1 < (if 8 < k then 8 else k) then(if 8 < k then 8 else k) else(1:Int))=(hOf k:Int):=by
 unfold hOf;split <;> split at * <;> omega
theorem zfh(n:Nat)(I:List (Int×Nat))(v k:Int)(H:zd)(hl:I.length+2 < lim):∀ (d a M:Nat),a+d=I.length->d < M->(∀ y∈I.take a,y.1<=v) →
    zR M (Wf n (slI I) v k) [.sl 2 [] false,.int .i64 (a:Int)] H=some (.ret [slI (je I v (hOf k)),.bool true],H):=by
 intro d
 induction d with
 | zero =>
   intro a M h1 h2 h3;obtain⟨M,rfl⟩:∃ M',M=M'+1:=⟨M - 1,by omega⟩;obtain rfl:a=I.length:=by omega
   rw[zA];unfold Wf;simp only[gv,zh,zf,ZW,zo,zr,za,zm,zlW];rw[if_neg (by simp)];refine(zjL (H:=H) (I:=I) (a:=I.length) (p:=(v,hOf k)) (N:=fun l=>some (Res.ret [.sl 2 l false,.bool true],H)) (fun p h=>by simp[h]) (fun p h=>by simp[h]) rfl (zl _) hl).trans ?_;rw[znj h3 (fun y hy=>by simp at hy)]
 | succ d ih =>
   intro a M h1 h2 h3;obtain⟨M,rfl⟩:∃ M',M=M'+1:=⟨M - 1,by omega⟩;obtain⟨x,hx⟩:∃ x,I[a]?=some x:=⟨_,zg (by omega)⟩;have hxv:(I.map itW)[a]?=some [.int .i32 x.1,.int .i64 (x.2:Int)]:=by rw[zlV,hx];rfl
   have hlt:decide ((a:Int) < (I.length:Int))=true:=by simp;omega
   have key:∀ next,Wf n (slI I) v k [.sl 2 [] false,.int .i64 (a:Int)] H next=if x.1<=v then next [.sl 2 [] false,.int .i64 ((a+1:Nat):Int)] H else some (.ret [slI (I.take a++(v,hOf k) :: I.drop a),.bool true],H):=by
    intro next
    unfold Wf;simp only[gv,zh,zf,ZW,zo,zr,za,zm,hlt,if_true,Za,zy,Xb hxv,KJ,Zl,zn,zq,zW,Nat.reduceLeDiff,Nat.reduceLT,and_self,zb,jO,zlW];by_cases h:x.1<=v
    . rw[if_pos (by simpa using h),if_pos h,zH,za,Xa (by omega)];rfl
    . rw[if_neg (by simpa using h),if_neg h];exact zjL (H:=H) (I:=I) (a:=a) (p:=(v,hOf k)) (N:=fun l=>some (Res.ret [.sl 2 l false,.bool true],H)) (fun p h=>by simp[h]) (fun p h=>by simp[h]) rfl (by omega) hl
   rw[zA,key];by_cases h:x.1<=v
   . rw[if_pos h];refine ih (a+1) M (by omega) (by omega) fun y hy=>?_;rw[Jx,hx] at hy;rcases Zi.1 hy with hy|hy
     . exact h3 y hy
     . simp at hy;rw[hy];exact h
   . rw[if_neg h,znj h3 fun y hy=>by rw[hx] at hy;cases hy;exact h]
theorem zaq(n:Nat)(m:Int)(H:zd):call (n+1) 129 [.int .i64 m] H=some (.ret [.int .i64 (max 0 (min m 1000))],H):=by
 rw[ziR];unfold zp2;rw[zjE]
theorem zfi (n : Nat) (m : Int) (I : List (Int × Nat)) (v k : Int) (H : zd) (hr : (I.length : Int) < max 0 (min m 1000)) (hl : I.length + 2 < lim) (hn : I.length < n + 1) :
    call (n+2) 131 [.int .i64 m,slI I,.int .i32 v,.int .i64 k] H=some (.ret [slI (je I v (hOf k)),.bool true],H):=by
 refine(zcr (n+1) m _ v k H).trans ?_;unfold zem;rw[ZW,za,zaq,zM,zx];simp only[zo,Z8,za,zm];rw[if_neg (by simp;omega)];exact zfh (n+1) I v k H hl I.length 0 (n+1) (by omega) (by omega) (by simp)
def lvI(k:Nat)(I:List (Int×Nat)):List Int:=(I.filter fun p=>decide (k < p.2)).map (·.1)
theorem zhl (n : Nat) (I : List (Int × Nat)) (k : Nat) (hk : 1 <= k) (H : zd) (hl : I.length + 2 < lim) (hn : I.length < n) :
    call (n+1) 98 [slI I,.int .i64 (k:Int)] H=some (.ret [.sl 1 (vL (lvI (k - 1) I)) false],H):=by
 have loop:∀ (d i M:Nat) (out:List Int),i+d=I.length->d < M->out.length<=i->zR M (Jp n (slI I) (k:Int)) [.sl 1 [] false,.sl 1 (vL out) false,.int .i64 (i:Int)] H=some (.ret [.sl 1 (vL (out++lvI (k - 1) (I.drop i))) false],H):=by
  intro d
  induction d with
  | zero =>
    intro i M out h1 h2 h3;obtain⟨M,rfl⟩:∃ M',M=M'+1:=⟨M - 1,by omega⟩;obtain rfl:i=I.length:=by omega
    rw[zA];unfold Jp;simp only[gv,zf,zh,ZW,zo,zr,za,zm];rw[if_neg (by simp),Jh];simp[lsl,lvI]
  | succ d ih =>
    intro i M out h1 h2 h3;obtain⟨M,rfl⟩:∃ M',M=M'+1:=⟨M - 1,by omega⟩;obtain⟨x,hx⟩:∃ x,I[i]?=some x:=⟨_,zg (by omega)⟩;have hxv:(I.map itW)[i]?=some [.int .i32 x.1,.int .i64 (x.2:Int)]:=by rw[zlV,hx];rfl
    have hlt:decide ((i:Int) < (I.length:Int))=true:=by simp;omega
    have hk1:decide ((k:Int) ≥ 1)=true:=by simp;omega
    have hd:I.drop i=x :: I.drop (i+1):=by
     rw[zQ (by omega)];rw[zg (by omega)] at hx;rw[Option.some.inj hx]
    have key:∀ next,Jp n (slI I) (k:Int) [.sl 1 [] false,.sl 1 (vL out) false,.int .i64 (i:Int)] H next=next [.sl 1 [] false,.sl 1 (vL (if k<=x.2 then out++[x.1] else out)) false,.int .i64 ((i+1:Nat):Int)] H:=by
     intro next
     unfold Jp;simp only[gv,zf,zh,ZW,zo,zr,za,zm,hlt,if_true,hk1,Za,zy,Xb hxv,KJ,Zl,zn,zq,zW,Nat.reduceAdd,Nat.reduceLeDiff,Nat.reduceLT,zl,and_self,zb,zj,Z8,lsl];by_cases h:k<=x.2
     . rw[if_pos (by simpa using h),if_pos h];rw[zqF,za];simp only;rw[zek _ _ (by simp;omega),za,zH,za,Xa (by omega)]
     . rw[if_neg (by simpa using h),if_neg h,zH,za,Xa (by omega)]
    rw[zA,key,ih (i+1) M _ (by omega) (by omega) (by split <;> (try simp) <;> omega),hd];have e:lvI (k - 1) (x :: I.drop (i+1))=if k<=x.2 then x.1 :: lvI (k - 1) (I.drop (i+1)) else lvI (k - 1) (I.drop (i+1)):=by
     unfold lvI;by_cases h:k<=x.2
     . rw[if_pos h,List.filter_cons_of_pos (by simp;omega),zS]
     . rw[if_neg h,List.filter_cons_of_neg (by simp;omega)]
    rw[e];by_cases h:k<=x.2
    . rw[if_pos h,if_pos h,List.append_assoc];rfl
    . rw[if_neg h,if_neg h]
 refine(zen n _ (k:Int) H).trans ?_;unfold zhi;exact loop I.length 0 n [] (by omega) hn (zl _)
end Go.Proofs.Tryz
namespace Go.Proofs.Tryz
open Go.L Go.Rp Go.Sk
set_option maxRecDepth 100000
theorem zqP(told:List R)(k:Nat)(a q:R):(told.map R.w).set k (setR (R.w a) 0 (R.w q))=(told.set k q).map R.w:=by rw[Jt];rfl
theorem zqQ{most:Int}{I:List (Int×Nat)}{B:List Bool}{o:O}(h1:o.k=1)(h2:most<=(I.length:Int)):stp most (I,B) o=((I,B),⟨3,0⟩):=by unfold stp;rw[if_pos h1,if_pos h2]
theorem zqR{most:Int}{I:List (Int×Nat)}{B:List Bool}{o:O}(h1:o.k=1)(h2:¬ most<=(I.length:Int)):stp most (I,B) o=((je I o.v (hgt 1 B).1,(hgt 1 B).2),⟨1,0⟩):=by unfold stp;rw[if_pos h1,if_neg h2]
theorem zqS{most:Int}{B:List Bool}{o:O}(h2:o.k=2):stp most ([],B) o=(([],B),⟨4,0⟩):=by unfold stp;rw[if_neg (by omega),if_pos h2]
theorem zqT{most:Int}{p:Int×Nat}{I:List (Int×Nat)}{B:List Bool}{o:O}(h2:o.k=2):stp most (p :: I,B) o=((I,B),⟨2,p.1⟩):=by unfold stp;rw[if_neg (by omega),if_pos h2]
theorem zt4{most:Int}{I:List (Int×Nat)}{B:List Bool}{o:O}(h1:¬ o.k=1)(h2:¬ o.k=2):stp most (I,B) o=((I,B),⟨5,0⟩):=by unfold stp;rw[if_neg h1,if_neg h2]
end Go.Proofs.Tryz
namespace Go.Proofs.Tryz
open Go.L
set_option maxRecDepth 100000
noncomputable def znk(n:Nat)(x0_0:Int)(x0_1:Int)(x0_2:V)(x0_3:V)(x1:List (List V))(x1b:Bool)(h:zd):Option (Res×zd) :=
 (cl (call n 96 [x0_3,(V.sl 1 x1 x1b)] h) (fun r0 h1 =>
 (Zr r0 fun v3 =>
 (if ((V.cells v3)).length=1 then
 (if (0=0/\3+((V.cells v3)).length<=4) then
 (if ((((setR [(V.int .u8 x0_0),(V.int .i64 x0_1),x0_2,x0_3] 3 (V.cells v3))).drop 0 |>.take 4)).length=4 then
 (if (((((setR [(V.int .u8 x0_0),(V.int .i64 x0_1),x0_2,x0_3] 3 (V.cells v3))).drop 0 |>.take 4)).length<=4) then
 some (Res.ret [(V.agg (((setR [(V.int .u8 0),(V.int .i64 0),(V.sl 0 [] true),(V.sl 0 [] true)] 0 (((setR [(V.int .u8 x0_0),(V.int .i64 x0_1),x0_2,x0_3] 3 (V.cells v3))).drop 0 |>.take 4))).drop 0 |>.take 4))],h1) else none) else none) else none) else none))) (fun z2 h1=>some (Res.pan z2,h1)))
theorem zlX(n:Nat)(x0_0:Int)(x0_1:Int)(x0_2:V)(x0_3:V)(x1:List (List V))(x1b:Bool)(h:zd):call (n+1) 66 [(V.agg [(V.int .u8 x0_0),(V.int .i64 x0_1),x0_2,x0_3]),(V.sl 1 x1 x1b)] h=znk n x0_0 x0_1 x0_2 x0_3 x1 x1b h:=by kernel_rfl
noncomputable def KM(n:Nat)(v13:V)(v14:V)(st16:List V)(hh17:zd)(next18:List V->zd->Option (Res×zd)):Option (Res×zd) :=
 (bd (ZR hh17 v13) fun p19 =>
 (bd (bop prog .lss 3 (gv st16 4) (V.int .i64 ((p19.2).length:Int))) fun v20 =>
 (bv v20 fun b21=>if b21 then
 (bdS (nv (gv st16 4)) fun n22 =>
 (bd (ZE 1 n22 v13) fun p23 =>
 (bd3 (zu hh17 p23) fun cs25 m24 o26=>if (o26+1<=m24/\0 < 1) then
 (bd (cs25)[o26]? fun v27 =>
 (bd (Qo prog 160 [(0,v27)]) fun cs28 =>
 (bd (JY prog 72 1 [(0,(V.agg cs28))]) fun p29 =>
 (bd (app 160 2 (S.own 160 2 (lsl (gv st16 3))) p29.2) fun l30 =>
 (bd (bop prog .add 3 (gv st16 4) (V.int .i64 1)) fun v31 =>
 (next18 [(V.agg (lcs (gv st16 0))),(V.agg (lcs (gv st16 1))),(V.sl 2 (lsl (gv st16 2)) false),(V.sl 2 l30 false),v31] hh17)))))) else none)))
 else
 (if ((((setR (lcs (gv st16 0)) 2 [(V.sl 2 (lsl (gv st16 3)) false)])).drop 0 |>.take 4)).length=4 then
 (if (((((setR (lcs (gv st16 0)) 2 [(V.sl 2 (lsl (gv st16 3)) false)])).drop 0 |>.take 4)).length<=4) then
 some (Res.ret [(V.agg (((setR (lcs (gv st16 1)) 0 (((setR (lcs (gv st16 0)) 2 [(V.sl 2 (lsl (gv st16 3)) false)])).drop 0 |>.take 4))).drop 0 |>.take 4)),v14],hh17) else none) else none))))
noncomputable def zqU(n:Nat)(x0_0:Int)(x0_1:Int)(x0_2:V)(x0_3:V)(x1:List (List V))(x1b:Bool)(h:zd):Option (Res×zd) :=
 (if (x0_0 == 3) then
 (cl (call n 97 [(V.int .i64 x0_1),x0_2,x0_3,(V.sl 2 x1 x1b)] h) (fun r0 h1 =>
 (bd (r0)[0]? fun v3 =>
 (bd (r0)[1]? fun v4 =>
 (bd (r0)[2]? fun v5 =>
 (if ((V.cells v3)).length=1 then
 (if (0=0/\2+((V.cells v3)).length<=4) then
 (if ((V.cells v4)).length=1 then
 (if (0=0/\3+((V.cells v4)).length<=4) then
 (if ((((setR (setR [(V.int .u8 x0_0),(V.int .i64 x0_1),x0_2,x0_3] 2 (V.cells v3)) 3 (V.cells v4))).drop 0 |>.take 4)).length=4 then
 (if (((((setR (setR [(V.int .u8 x0_0),(V.int .i64 x0_1),x0_2,x0_3] 2 (V.cells v3)) 3 (V.cells v4))).drop 0 |>.take 4)).length<=4) then
 some (Res.ret [(V.agg (((setR [(V.int .u8 0),(V.int .i64 0),(V.sl 0 [] true),(V.sl 0 [] true)] 0 (((setR (setR [(V.int .u8 x0_0),(V.int .i64 x0_1),x0_2,x0_3] 2 (V.cells v3)) 3 (V.cells v4))).drop 0 |>.take 4))).drop 0 |>.take 4)),v5],h1) else none) else none) else none) else none) else none) else none))))) (fun z2 h1=>some (Res.pan z2,h1)))
 else
 (clH (call n 43 [x0_2] h) fun r6 h7 =>
 (Zr r6 fun v9 =>
 (clS (call n 22 [(V.int .u8 x0_0),(V.int .i64 x0_1),v9,(V.sl 2 x1 x1b)] []) fun r10 =>
 (bd (r10)[0]? fun v13 =>
 (bd (r10)[1]? fun v14 =>
 (zR n (KM n v13 v14) [(V.agg [(V.int .u8 x0_0),(V.int .i64 x0_1),x0_2,x0_3]),(V.agg [(V.int .u8 0),(V.int .i64 0),(V.sl 0 [] true),(V.sl 0 [] true)]),(V.sl 2 [] false),(V.sl 2 [] false),(V.int .i64 0)] h7)))))))
theorem zjM(n:Nat)(x0_0:Int)(x0_1:Int)(x0_2:V)(x0_3:V)(x1:List (List V))(x1b:Bool)(h:zd):call (n+1) 67 [(V.agg [(V.int .u8 x0_0),(V.int .i64 x0_1),x0_2,x0_3]),(V.sl 2 x1 x1b)] h=zqU n x0_0 x0_1 x0_2 x0_3 x1 x1b h:=by kernel_rfl
noncomputable def YM(n:Nat)(x0:List (List V))(x0b:Bool)(st1:List V)(hh2:zd)(next3:List V->zd->Option (Res×zd)):Option (Res×zd) :=
 (bd (bop prog .lss 3 (gv st1 2) (V.int .i64 ((x0).length:Int))) fun v4 =>
 (bv v4 fun b5=>if b5 then
 (bdS (nv (gv st1 2)) fun n6 =>
 (bd (ZE 2 n6 (V.sl 2 x0 x0b)) fun p7 =>
 (bd (ZL 0 p7) fun p8 =>
 (bd3 (zu hh2 p8) fun cs10 m9 o11=>if (o11+1<=m9/\0 < 1) then
 (bd (cs10)[o11]? fun v12 =>
 (bd (JY prog 27 1 [(0,v12)]) fun p13 =>
 (bd (app 21 1 (S.own 21 1 (lsl (gv st1 1))) p13.2) fun l14 =>
 (bd (bop prog .add 3 (gv st1 2) (V.int .i64 1)) fun v15 =>
 (next3 [(V.sl 1 (lsl (gv st1 0)) false),(V.sl 1 l14 false),v15] hh2))))) else none))))
 else
 some (Res.ret [(V.sl 1 (lsl (gv st1 1)) false)],hh2)))
noncomputable def znl(n:Nat)(x0:List (List V))(x0b:Bool)(h:zd):Option (Res×zd) :=
 (zR n (YM n x0 x0b) [(V.sl 1 [] false),(V.sl 1 [] false),(V.int .i64 0)] h)
theorem zlY(n:Nat)(x0:List (List V))(x0b:Bool)(h:zd):call (n+1) 43 [(V.sl 2 x0 x0b)] h=znl n x0 x0b h:=by kernel_rfl
noncomputable def JJ(n:Nat)(x2:List (List V))(x2b:Bool)(st13:List V)(hh14:zd)(next15:List V->zd->Option (Res×zd)):Option (Res×zd) :=
 (bd (bop prog .lss 3 (gv st13 4) (V.int .i64 ((x2).length:Int))) fun v16 =>
 (bv v16 fun b17=>if b17 then
 (bdS (nv (gv st13 4)) fun n18 =>
 (bd (ZE 3 n18 (V.sl 3 x2 x2b)) fun p19 =>
 (bd (ZL 0 p19) fun p20 =>
 (bd3 (zu hh14 p20) fun cs22 m21 o23=>if (o23+1<=m21/\0 < 1) then
 (bd (cs22)[o23]? fun v24 =>
 (bd (bop prog .rem 5 v24 (V.int .u8 8)) fun v25 =>
 (bd (bop prog .eql 5 v25 (V.int .u8 0)) fun v26 =>
 (bv v26 fun b27=>if b27 then
 (bdS (nv (gv st13 4)) fun n28 =>
 (bd (ZE 3 n28 (V.sl 3 x2 x2b)) fun p29 =>
 (bd (ZL 1 p29) fun p30 =>
 (bd3 (zu hh14 p30) fun cs32 m31 o33=>if (o33+1<=m31/\0 < 1) then
 (bd (cs32)[o33]? fun v34 =>
 (cl (call n 23 [(gv st13 1),v34] hh14) (fun r35 h36 =>
 (bdS (nv (gv st13 4)) fun n38 =>
 (bd (ZE 3 n38 (V.sl 3 x2 x2b)) fun p39 =>
 (bd (ZL 1 p39) fun p40 =>
 (bd3 (zu h36 p40) fun cs42 m41 o43=>if (o43+1<=m41/\0 < 1) then
 (bd (cs42)[o43]? fun v44 =>
 (cl (call n 23 [(gv st13 2),v44] h36) (fun r45 h46 =>
 (bdS (nv (gv st13 4)) fun n48 =>
 (bd (ZE 3 n48 (V.sl 3 x2 x2b)) fun p49 =>
 (bd (ZL 1 p49) fun p50 =>
 (bd3 (zu h46 p50) fun cs52 m51 o53=>if (o53+1<=m51/\0 < 1) then
 (bd (cs52)[o53]? fun v54 =>
 (cl (call n 66 [(V.agg (((lcs (gv st13 3))).drop 0 |>.take 4)),v54] h46) (fun r55 h56 =>
 (Zr r55 fun v58 =>
 (if ((V.cells v58)).length=4 then
 (if (((V.cells v58)).length<=4) then
 (cl (call n 68 [(gv st13 1),(V.agg (((setR (lcs (gv st13 3)) 0 (V.cells v58))).drop 0 |>.take 4))] h56) (fun r59 h60 =>
 (Zr r59 fun v62 =>
 (bd (uop .not v62) fun v63 =>
 (bv v63 fun b64=>if b64 then
 some (Res.ret [(V.bool false)],h60)
 else
 (cl (call n 68 [(gv st13 2),(V.agg (((setR (lcs (gv st13 3)) 0 (V.cells v58))).drop 0 |>.take 4))] h60) (fun r65 h66 =>
 (Zr r65 fun v68 =>
 (bd (uop .not v68) fun v69 =>
 (bv v69 fun b70=>if b70 then
 some (Res.ret [(V.bool false)],h66)
 else
 (bd (bop prog .add 3 (gv st13 4) (V.int .i64 1)) fun v71 =>
 (next15 [(gv st13 0),(gv st13 1),(gv st13 2),(V.agg (setR (lcs (gv st13 3)) 0 (V.cells v58))),v71] h66)))))) (fun z67 h66=>some (Res.pan z67,h66))))))) (fun z61 h60=>some (Res.pan z61,h60))) else none) else none))) (fun z57 h56=>none))) else none))))) (fun z47 h46=>some (Res.pan z47,h46)))) else none))))) (fun z37 h36=>some (Res.pan z37,h36)))) else none))))
 else
 (bd (bop prog .eql 5 v25 (V.int .u8 1)) fun v72 =>
 (bv v72 fun b73=>if b73 then
 (cl (call n 28 [(gv st13 1)] hh14) (fun r74 h75 =>
 (Zr r74 fun v77 =>
 (cl (call n 28 [(gv st13 2)] h75) (fun r78 h79 =>
 (Zr r78 fun v81 =>
 (cl (call n 68 [v77,(V.agg (((lcs (gv st13 3))).drop 0 |>.take 4))] h79) (fun r82 h83 =>
 (Zr r82 fun v85 =>
 (bd (uop .not v85) fun v86 =>
 (bv v86 fun b87=>if b87 then
 some (Res.ret [(V.bool false)],h83)
 else
 (cl (call n 68 [v81,(V.agg (((lcs (gv st13 3))).drop 0 |>.take 4))] h83) (fun r88 h89 =>
 (Zr r88 fun v91 =>
 (bd (uop .not v91) fun v92 =>
 (bv v92 fun b93=>if b93 then
 some (Res.ret [(V.bool false)],h89)
 else
 (bd (bop prog .add 3 (gv st13 4) (V.int .i64 1)) fun v94 =>
 (next15 [(gv st13 0),v77,v81,(V.agg (lcs (gv st13 3))),v94] h89)))))) (fun z90 h89=>some (Res.pan z90,h89))))))) (fun z84 h83=>some (Res.pan z84,h83))))) (fun z80 h79=>some (Res.pan z80,h79))))) (fun z76 h75=>some (Res.pan z76,h75)))
 else
 (bdS (nv (gv st13 4)) fun n95 =>
 (bd (ZE 3 n95 (V.sl 3 x2 x2b)) fun p96 =>
 (bd ((esP p96))[2]? fun v97 =>
 (clH (call n 67 [(V.agg (((lcs (gv st13 3))).drop 0 |>.take 4)),v97] hh14) fun r98 h99 =>
 (bd (r98)[0]? fun v101 =>
 (bd (r98)[1]? fun v102 =>
 (if ((V.cells v101)).length=4 then
 (if (((V.cells v101)).length<=4) then
 (if ((((setR [(V.int .u8 0),(V.int .i64 0),(V.sl 0 [] true),(V.sl 0 [] true)] 0 (V.cells v101))).drop 0 |>.take 4)).length=4 then
 (if (((((setR [(V.int .u8 0),(V.int .i64 0),(V.sl 0 [] true),(V.sl 0 [] true)] 0 (V.cells v101))).drop 0 |>.take 4)).length<=4) then
 (bdS (nv (gv st13 4)) fun n103 =>
 (bd (ZE 3 n103 (V.sl 3 x2 x2b)) fun p104 =>
 (bd (ZL 2 p104) fun p105 =>
 (bd3 (zu h99 p105) fun cs107 m106 o108=>if (o108+1<=m106/\0 < 1) then
 (bd (cs107)[o108]? fun v109 =>
 (cl (call n 17 [(gv st13 1),v109] h99) (fun r110 h111 =>
 (Zr r110 fun v113 =>
 (cl (call n 24 [v113,v102] h111) (fun r114 h115 =>
 (Zr r114 fun v117 =>
 (bd (uop .not v117) fun v118 =>
 (bv v118 fun b119=>if b119 then
 some (Res.ret [(V.bool false)],h115)
 else
 (bdS (nv (gv st13 4)) fun n120 =>
 (bd (ZE 3 n120 (V.sl 3 x2 x2b)) fun p121 =>
 (bd (ZL 2 p121) fun p122 =>
 (bd3 (zu h115 p122) fun cs124 m123 o125=>if (o125+1<=m123/\0 < 1) then
 (bd (cs124)[o125]? fun v126 =>
 (cl (call n 17 [(gv st13 2),v126] h115) (fun r127 h128 =>
 (Zr r127 fun v130 =>
 (cl (call n 24 [v130,v102] h128) (fun r131 h132 =>
 (Zr r131 fun v134 =>
 (bd (uop .not v134) fun v135 =>
 (bv v135 fun b136=>if b136 then
 some (Res.ret [(V.bool false)],h132)
 else
 (cl (call n 68 [(gv st13 1),(V.agg (((setR (lcs (gv st13 3)) 0 (((setR [(V.int .u8 0),(V.int .i64 0),(V.sl 0 [] true),(V.sl 0 [] true)] 0 (V.cells v101))).drop 0 |>.take 4))).drop 0 |>.take 4))] h132) (fun r137 h138 =>
 (Zr r137 fun v140 =>
 (bd (uop .not v140) fun v141 =>
 (bv v141 fun b142=>if b142 then
 some (Res.ret [(V.bool false)],h138)
 else
 (cl (call n 68 [(gv st13 2),(V.agg (((setR (lcs (gv st13 3)) 0 (((setR [(V.int .u8 0),(V.int .i64 0),(V.sl 0 [] true),(V.sl 0 [] true)] 0 (V.cells v101))).drop 0 |>.take 4))).drop 0 |>.take 4))] h138) (fun r143 h144 =>
 (Zr r143 fun v146 =>
 (bd (uop .not v146) fun v147 =>
 (bv v147 fun b148=>if b148 then
 some (Res.ret [(V.bool false)],h144)
 else
 (bd (bop prog .add 3 (gv st13 4) (V.int .i64 1)) fun v149 =>
 (next15 [(gv st13 0),(gv st13 1),(gv st13 2),(V.agg (setR (lcs (gv st13 3)) 0 (((setR [(V.int .u8 0),(V.int .i64 0),(V.sl 0 [] true),(V.sl 0 [] true)] 0 (V.cells v101))).drop 0 |>.take 4))),v149] h144)))))) (fun z145 h144=>some (Res.pan z145,h144))))))) (fun z139 h138=>some (Res.pan z139,h138))))))) (fun z133 h132=>some (Res.pan z133,h132))))) (fun z129 h128=>some (Res.pan z129,h128)))) else none)))))))) (fun z116 h115=>some (Res.pan z116,h115))))) (fun z112 h111=>some (Res.pan z112,h111)))) else none)))) else none) else none) else none) else none))))))))))))) else none))))
 else
 some (Res.ret [(V.bool true)],hh14)))
noncomputable def zqV(n:Nat)(x0:Int)(x1:Int)(x2:List (List V))(x2b:Bool):Option (Res×zd) :=
 (cl (call n 15 [(V.int .u8 x0),(V.int .i64 x1),(V.bool false)] []) (fun r0 h1 =>
 (Zr r0 fun v3 =>
 (cl (call n 15 [(V.int .u8 x0),(V.int .i64 x1),(V.bool true)] h1) (fun r4 h5 =>
 (Zr r4 fun v7 =>
 (bd (Qb prog h5 .eql 25 v3 (V.val (.pointer none))) fun v8 =>
 (bv v8 fun b9=>if b9 then
 some (Res.ret [(V.bool false)],h5)
 else
 (bd (Qb prog h5 .eql 25 v7 (V.val (.pointer none))) fun v10 =>
 (bv v10 fun b11=>if b11 then
 some (Res.ret [(V.bool false)],h5)
 else
 (zR n (JJ n x2 x2b) [(V.bool false),v3,v7,(V.agg [(V.int .u8 x0),(V.int .i64 x1),(V.sl 0 [] true),(V.sl 0 [] true)]),(V.int .i64 0)] h5))))))) (fun z6 h5=>some (Res.pan z6,h5))))) (fun z2 h1=>some (Res.pan z2,h1)))
theorem zqW(n:Nat)(x0:Int)(x1:Int)(x2:List (List V))(x2b:Bool)(h:zd):call (n+1) 27 [(V.int .u8 x0),(V.int .i64 x1),(V.sl 3 x2 x2b)] h=gcw [(V.int .u8 x0),(V.int .i64 x1),(V.sl 3 x2 x2b)] (zqV n x0 x1 x2 x2b) h:=by kernel_rfl
noncomputable def zbR(n:Nat)(x0:Int)(x1:Int)(x2:Int)(x3:List (List V))(x3b:Bool)(x4:List (List V))(x4b:Bool):Option (Res×zd) :=
 (cl (call n 25 [(V.sl 3 x3 x3b)] []) (fun r0 h1 =>
 (Zr r0 fun v3 =>
 (bd (bop prog .gtr 3 v3 (V.int .i64 300)) fun v4 =>
 (bv v4 fun b5=>if b5 then
 (cl (call n 18 [] h1) (fun r6 h7 =>
 (Zr r6 fun v9 =>
 some (Res.ret [v9],h7))) (fun z8 h7=>some (Res.pan z8,h7)))
 else
 (if (decide (((x4).length:Int) > 100)) then
 (cl (call n 18 [] h1) (fun r10 h11 =>
 (Zr r10 fun v13 =>
 some (Res.ret [v13],h11))) (fun z12 h11=>some (Res.pan z12,h11)))
 else
 (cl (call n 18 [] h1) (fun r14 h15 =>
 (Zr r14 fun v17 =>
 (bd (uop .not v17) fun v18 =>
 (bv v18 fun b19=>if b19 then
 (cl (call n 18 [] h15) (fun r20 h21 =>
 (Zr r20 fun v23 =>
 some (Res.ret [v23],h21))) (fun z22 h21=>some (Res.pan z22,h21)))
 else
 (cl (call n 27 [(V.int .u8 (IntKind.u8.wrap (1+(Int.tmod x0 3)))),(V.int .i64 x1),(V.sl 3 x3 x3b)] h15) (fun r24 h25 =>
 (Zr r24 fun v27 =>
 (bv v27 fun b28=>if b28 then
 (cl (call n 21 [(V.sl 1 x4 x4b)] h25) (fun r29 h30 =>
 (Zr r29 fun v32 =>
 (cl (call n 27 [(V.int .u8 (IntKind.u8.wrap (1+(Int.tmod x2 3)))),(V.int .i64 (IntKind.i64.wrap (Int.tmod x2 11))),v32] h30) (fun r33 h34 =>
 (Zr r33 fun v36 =>
 (bv v36 fun b37=>if b37 then
 (cl (call n 27 [(V.int .u8 (IntKind.u8.wrap (1+(Int.tmod x0 3)))),(V.int .i64 (IntKind.i64.wrap (Int.tmod x2 5))),(V.sl 3 x3 x3b)] h34) (fun r38 h39 =>
 (Zr r38 fun v41 =>
 (bv v41 fun b42=>if b42 then
 (cl (call n 15 [(V.int .u8 x0),(V.int .i64 x1),(V.bool true)] h39) (fun r43 h44 =>
 (Zr r43 fun v46 =>
 (bd (Qb prog h44 .neq 25 v46 (V.val (.pointer none))) fun v47 =>
 (if (decide (x0 ≥ 1)) then
 (bd (bop prog .eql 4 v47 (V.bool (decide (x0<=3)))) fun v48 =>
 some (Res.ret [v48],h44))
 else
 (bd (bop prog .eql 4 v47 (V.bool false)) fun v49 =>
 some (Res.ret [v49],h44)))))) (fun z45 h44=>some (Res.pan z45,h44)))
 else
 some (Res.ret [(V.bool false)],h39)))) (fun z40 h39=>some (Res.pan z40,h39)))
 else
 some (Res.ret [(V.bool false)],h34)))) (fun z35 h34=>some (Res.pan z35,h34))))) (fun z31 h30=>some (Res.pan z31,h30)))
 else
 some (Res.ret [(V.bool false)],h25)))) (fun z26 h25=>some (Res.pan z26,h25))))))) (fun z16 h15=>some (Res.pan z16,h15)))))))) (fun z2 h1=>some (Res.pan z2,h1)))
theorem zhm(n:Nat)(x0:Int)(x1:Int)(x2:Int)(x3:List (List V))(x3b:Bool)(x4:List (List V))(x4b:Bool)(h:zd):call (n+1) 6 [(V.int .u8 x0),(V.int .i64 x1),(V.int .u8 x2),(V.sl 3 x3 x3b),(V.sl 1 x4 x4b)] h=gcw [(V.int .u8 x0),(V.int .i64 x1),(V.int .u8 x2),(V.sl 3 x3 x3b),(V.sl 1 x4 x4b)] (zbR n x0 x1 x2 x3 x3b x4 x4b) h:=by kernel_rfl
noncomputable def KN(n:Nat)(x0:V)(st1:List V)(hh2:zd)(next3:List V->zd->Option (Res×zd)):Option (Res×zd) :=
 (bd (bop prog .leq 3 (gv st1 2) (V.int .i64 9)) fun v4 =>
 (bv v4 fun b5=>if b5 then
 (bd ((lcs (gv st1 0)))[0]? fun v6 =>
 (bd (bop prog .eql 5 v6 (V.int .u8 3)) fun v7 =>
 (bv v7 fun b8=>if b8 then
 (clH (call n 29 [x0,(gv st1 2)] hh2) fun r9 h10 =>
 (Zr r9 fun v12 =>
 (bd ((lcs (gv st1 0)))[2]? fun v13 =>
 (clH (call n 98 [v13,(gv st1 2)] h10) fun r14 h15 =>
 (Zr r14 fun v17 =>
 (clH (call n 19 [v12,v17] h15) fun r18 h19 =>
 (Zr r18 fun v21 =>
 (bd (uop .not v21) fun v22 =>
 (bv v22 fun b23=>if b23 then
 some (Res.ret [(V.bool false)],h19)
 else
 (bd (bop prog .add 3 (gv st1 2) (V.int .i64 1)) fun v24 =>
 (next3 [(V.agg (lcs (gv st1 0))),(gv st1 1),v24] h19)))))))))))
 else
 (clH (call n 20 [x0] hh2) fun r25 h26 =>
 (Zr r25 fun v28 =>
 (bd ((lcs (gv st1 0)))[2]? fun v29 =>
 (clH (call n 43 [v29] h26) fun r30 h31 =>
 (Zr r30 fun v33 =>
 (clH (call n 19 [v28,v33] h31) fun r34 h35 =>
 (Zr r34 fun v37 =>
 (bv v37 fun b38=>if b38 then
 (clH (call n 30 [x0] h35) fun r39 h40 =>
 (Zr r39 fun v42 =>
 (zeZ h35 h40 (bd ((lcs (gv st1 0)))[2]? fun v43 =>
 (if qok [(h35).length] (([(S.v v43),(S.v (V.bool true))].filterMap fun s=>L.blkOf (some s))++([(S.v v43),(S.v (V.bool true))].filterMap fun s=>L.blkOf (some s))++[])=true then
 (bd (ZR h40 v43) fun p44 =>
 (bd (bop prog .eql 3 v42 (V.int .i64 ((p44.2).length:Int))) fun v45 =>
 (bv v45 fun b46=>if b46 then
 (bd ((lcs (gv st1 0)))[0]? fun v47 =>
 (bd (bop prog .eql 5 v47 (V.int .u8 3)) fun v48 =>
 (bv v48 fun b49=>if b49 then
 some (Res.ret [(V.bool true)],h40)
 else
 (clH (call n 29 [x0,(V.int .i64 1)] h40) fun r50 h51 =>
 (Zr r50 fun v53 =>
 (bd (ZR h51 v53) fun p54 =>
 some (Res.ret [(V.bool (((p54.2).length:Int) == 0))],h51)))))))
 else
 some (Res.ret [(V.bool false)],h40)))) else none)))))
 else
 none)))))))))))
 else
 (clH (call n 20 [x0] hh2) fun r55 h56 =>
 (Zr r55 fun v58 =>
 (bd ((lcs (gv st1 0)))[2]? fun v59 =>
 (clH (call n 43 [v59] h56) fun r60 h61 =>
 (Zr r60 fun v63 =>
 (clH (call n 19 [v58,v63] h61) fun r64 h65 =>
 (Zr r64 fun v67 =>
 (bv v67 fun b68=>if b68 then
 (clH (call n 30 [x0] h65) fun r69 h70 =>
 (Zr r69 fun v72 =>
 (zeZ h65 h70 (bd ((lcs (gv st1 0)))[2]? fun v73 =>
 (if qok [(h65).length] (([(S.v v73),(S.v (V.bool true))].filterMap fun s=>L.blkOf (some s))++([(S.v v73),(S.v (V.bool true))].filterMap fun s=>L.blkOf (some s))++[])=true then
 (bd (ZR h70 v73) fun p74 =>
 (bd (bop prog .eql 3 v72 (V.int .i64 ((p74.2).length:Int))) fun v75 =>
 (bv v75 fun b76=>if b76 then
 (bd ((lcs (gv st1 0)))[0]? fun v77 =>
 (bd (bop prog .eql 5 v77 (V.int .u8 3)) fun v78 =>
 (bv v78 fun b79=>if b79 then
 some (Res.ret [(V.bool true)],h70)
 else
 (clH (call n 29 [x0,(V.int .i64 1)] h70) fun r80 h81 =>
 (Zr r80 fun v83 =>
 (bd (ZR h81 v83) fun p84 =>
 some (Res.ret [(V.bool (((p84.2).length:Int) == 0))],h81)))))))
 else
 some (Res.ret [(V.bool false)],h70)))) else none)))))
 else
 none))))))))))
noncomputable def ztv(n:Nat)(x0:V)(x1_0:Int)(x1_1:Int)(x1_2:V)(x1_3:V)(h:zd):Option (Res×zd) :=
 (zR n (KN n x0) [(V.agg [(V.int .u8 x1_0),(V.int .i64 x1_1),x1_2,x1_3]),(V.bool false),(V.int .i64 0)] h)
theorem zjN(n:Nat)(x0:V)(x1_0:Int)(x1_1:Int)(x1_2:V)(x1_3:V)(h:zd):call (n+1) 68 [x0,(V.agg [(V.int .u8 x1_0),(V.int .i64 x1_1),x1_2,x1_3])] h=ztv n x0 x1_0 x1_1 x1_2 x1_3 h:=by kernel_rfl
end Go.Proofs.Tryz
namespace Go.Proofs.Tryz
open Go.L Go.Rp Go.Sk
set_option maxRecDepth 100000
def IsI(v:V)(I:List (Int×Nat)):Prop:=v=slI I\/(v=.sl 0 [] true/\I=[])
def IsB(v:V)(B:List Bool):Prop:=v=slB B\/(v=.sl 0 [] true/\B=[])
theorem IsI.slc{v:V}{I:List (Int×Nat)}(h:IsI v I)(H:zd):∃ z,ZR H v=some (z,I.map itW):=by
 rcases h with rfl|⟨rfl,rfl⟩
 . exact⟨2,rfl⟩
 . exact⟨0,rfl⟩
theorem IsI.cells{v:V}{I:List (Int×Nat)}(h:IsI v I):V.cells v=[v]:=by
 rcases h with rfl|⟨rfl,rfl⟩ <;> rfl
theorem IsB.slc{v:V}{I:List Bool}(h:IsB v I)(H:zd):∃ z,ZR H v=some (z,I.map JN)/\(z=1\/I=[]):=by
 rcases h with rfl|⟨rfl,rfl⟩
 . exact⟨1,rfl,.inl rfl⟩
 . exact⟨0,rfl,.inr rfl⟩
theorem IsB.cells{v:V}{I:List Bool}(h:IsB v I):V.cells v=[v]:=by
 rcases h with rfl|⟨rfl,rfl⟩ <;> rfl
theorem zoN(n:Nat)(h:zd):call (n+3) 130 [.sl 0 [] true] h=some (.ret [.sl 0 [] true,.int .i64 1],h):=by kernel_rfl
theorem zhn(n:Nat)(h:zd){v:V}{B:List Bool}(hB:IsB v B)(hn:8<=n):∃ v',call (n+2) 130 [v] h=some (.ret [v',.int .i64 ((hgt 1 B).1:Int)],h)/\IsB v' (hgt 1 B).2:=by
 rcases hB with rfl|⟨rfl,rfl⟩
 . exact⟨_,zfg n h B hn,.inl rfl⟩
 . obtain⟨n,rfl⟩:∃ m,n=m+1:=⟨n - 1,by omega⟩;exact⟨_,zoN n h,.inr ⟨rfl,rfl⟩⟩
theorem zoO(n:Nat)(v k:Int)(H:zd)(M:Nat):zR (M+1) (Wf n (.sl 0 [] true) v k) [.sl 2 [] false,.int .i64 0] H=some (.ret [.sl 2 [[.int .i32 v,.int .i64 (if 1 < (if 8 < k then 8 else k) then(if 8 < k then 8 else k) else 1)]] false,.bool true],H):=by kernel_rfl
theorem zho (n : Nat) (m : Int) {l : V} {I : List (Int × Nat)} (hI : IsI l I) (v k : Int) (H : zd) (hr : (I.length : Int) < max 0 (min m 1000)) (hl : I.length + 2 < lim) (hn : I.length < n + 1) :
    call (n+2) 131 [.int .i64 m,l,.int .i32 v,.int .i64 k] H=some (.ret [slI (je I v (hOf k)),.bool true],H):=by
 rcases hI with rfl|⟨rfl,rfl⟩
 . exact zfi n m I v k H hr hl hn
 . refine(zcr (n+1) m _ v k H).trans ?_;unfold zem;rw[ZW,za,zaq,zM,zx];simp only[zP,Z8,za,zm];rw[if_neg (by simpa using hr),zoO,zlW];rfl
theorem zoP(n:Nat)(k:Int)(H:zd):call (n+2) 98 [.sl 0 [] true,.int .i64 k] H=some (.ret [.sl 1 [] false],H):=by kernel_rfl
theorem zqX(n:Nat)(H:zd):call (n+2) 43 [.sl 0 [] true] H=some (.ret [.sl 1 [] false],H):=by kernel_rfl
theorem zt5(n:Nat)(I:List (Int×Nat))(H:zd)(hl:I.length+2 < lim):∀ (d i M:Nat),i+d=I.length->d < M->zR M (Jp n (slI I) 0) [.sl 1 [] false,.sl 1 [] false,.int .i64 (i:Int)] H=some (.ret [.sl 1 [] false],H):=by
 intro d
 induction d with
 | zero =>
   intro i M h1 h2;obtain⟨M,rfl⟩:∃ M',M=M'+1:=⟨M - 1,by omega⟩;rw[zA];unfold Jp;simp only[gv,zf,zh,ZW,zo,zr,za,zm,lsl];rw[if_neg (by simp;omega)]
 | succ d ih =>
   intro i M h1 h2;obtain⟨M,rfl⟩:∃ M',M=M'+1:=⟨M - 1,by omega⟩;have key:∀ next,Jp n (slI I) 0 [.sl 1 [] false,.sl 1 [] false,.int .i64 (i:Int)] H next=next [.sl 1 [] false,.sl 1 [] false,.int .i64 ((i+1:Nat):Int)] H:=by
    intro next
    unfold Jp;simp only[gv,zf,zh,ZW,zo,zr,za,zm,lsl];rw[if_pos (by simp;omega),if_neg (by decide),zH,za,Xa (by omega)]
   rw[zA,key];exact ih (i+1) M (by omega) (by omega)
theorem zjO (n : Nat) {v : V} {I : List (Int × Nat)} (hI : IsI v I) (k : Nat) (H : zd) (hl : I.length + 2 < lim) (hn : I.length + 1 < n) :
    call (n+1) 98 [v,.int .i64 (k:Int)] H=some (.ret [.sl 1 (vL (if k=0 then[] else lvI (k - 1) I)) false],H):=by
 rcases hI with rfl|⟨rfl,rfl⟩
 . by_cases hk:k=0
   . subst hk;rw[if_pos rfl];refine(zen n _ _ H).trans ?_;unfold zhi;exact zt5 n I H hl I.length 0 n (by omega) (by omega)
   . rw[if_neg hk];exact zhl n I k (by omega) H hl (by omega)
 . obtain⟨n,rfl⟩:∃ m,n=m+1:=⟨n - 1,by omega⟩;rw[zoP];split <;> rfl
theorem zgj(n:Nat){v:V}{I:List (Int×Nat)}(hI:IsI v I)(H:zd)(hl:I.length+2 < lim)(hn:I.length+1 < n):call (n+1) 43 [v] H=some (.ret [.sl 1 (vL (I.map Prod.fst)) false],H):=by
 rcases hI with rfl|⟨rfl,rfl⟩
 . have loop:∀ (d i M:Nat) (out:List Int),i+d=I.length->d < M->out.length=i->zR M (YM n (I.map itW) false) [.sl 1 [] false,.sl 1 (vL out) false,.int .i64 (i:Int)] H=some (.ret [.sl 1 (vL (out++(I.drop i).map Prod.fst)) false],H):=by
     intro d
     induction d with
     | zero =>
       intro i M out h1 h2 h3;obtain⟨M,rfl⟩:∃ M',M=M'+1:=⟨M - 1,by omega⟩;rw[zA,Zo (by omega)];unfold YM;simp only[gv,zf,zh,zo,zr,za,zm,lsl];rw[if_neg (by simp;omega)];simp
     | succ d ih =>
       intro i M out h1 h2 h3;obtain⟨M,rfl⟩:∃ M',M=M'+1:=⟨M - 1,by omega⟩;have hi:i < I.length:=by omega
       have hd:I.drop i=I[i] :: I.drop (i+1):=zQ hi;have hxv:(I.map itW)[i]?=some (itW I[i]):=by rw[zlV,zg hi];rfl
       have key:∀ next,YM n (I.map itW) false [.sl 1 [] false,.sl 1 (vL out) false,.int .i64 (i:Int)] H next=next [.sl 1 [] false,.sl 1 (vL (out++[I[i].1])) false,.int .i64 ((i+1:Nat):Int)] H:=by
        intro next
        unfold YM;simp only[gv,zf,zh,zo,zr,za,zm,lsl];rw[if_pos (by simp;omega),Za,zy,Xb hxv,za];simp only[ZL,za,zq];rw[Zl,zn,if_pos (by decide),show (itW I[i])[0]?=some (.int .i32 I[i].1) from rfl,za,zqF,za];simp only;rw[zek _ _ (by simp;omega),za,zH,za,Xa (by omega)]
       rw[zA,key,ih (i+1) M _ (by omega) (by omega) (by simp;omega),hd,zS,List.append_assoc,List.singleton_append]
   have:=loop I.length 0 n [] (by omega) (by omega) rfl;exact(zlY n _ _ H).trans (by unfold znl;simpa using this)
 . obtain⟨n,rfl⟩:∃ m,n=m+1:=⟨n - 1,by omega⟩;exact zqX n H
theorem zlZ (n : Nat) (h : zd) {v : V} {B : List Bool} (hB : IsB v B) (bs : List Int) (bb : Bool) (hs : Q5 bs = true) (hl : B.length + 8 * bs.length <= 20000) (hn : bs.length + 8 < n) :
    call (n+1) 96 [v,.sl 1 (bs.map (Xc .u8)) bb] h=some (.ret [slB (B++bs.flatMap J1)],h):=by
 have loop:∀ (d k M:Nat) (out:List Bool),k+d=bs.length->d < M->out.length+8 * d<=20000->zR M (KL n (.sl 1 (bs.map (Xc .u8)) bb)) [.sl 1 [] false,slB out,.int .i64 (k:Int),.bool false] h=some (.ret [slB (out++(bs.drop k).flatMap J1)],h):=by
  intro d
  induction d with
  | zero =>
    intro k M out h1 h2 h3;obtain⟨M,rfl⟩:∃ M',M=M'+1:=⟨M - 1,by omega⟩;obtain rfl:k=bs.length:=by omega
    rw[zA];unfold KL;simp only[gv,zf,zh,ZW,zo,zr,za,zm];rw[if_neg (by simp),Jh];simp[lsl]
  | succ d ih =>
    intro k M out h1 h2 h3;obtain⟨M,rfl⟩:∃ M',M=M'+1:=⟨M - 1,by omega⟩;have hlt:decide ((k:Int) < (bs.length:Int))=true:=by simp;omega
    obtain⟨y,hy⟩:∃ y,bs[k]?=some y:=⟨_,zg (by omega)⟩;have hy2:=zbA hs y (zJ hy);have key:∀ next,KL n (.sl 1 (bs.map (Xc .u8)) bb) [.sl 1 [] false,slB out,.int .i64 (k:Int),.bool false] h next=next [.sl 1 [] false,slB (out++J1 y),.int .i64 ((k+1:Nat):Int),.bool false] h:=by
     intro next
     unfold KL;simp only[gv,zf,zh,ZW,zo,zr,za,zm,hlt,if_true,lsl];exact zhj n bs bb (.sl 1 [] false) k (by omega) hy hy2.1 _ _ _ (by unfold lim;omega) next 8 0 n out (by omega) (by omega) (by omega)
    rw[zA,key,ih (k+1) M _ (by omega) (by omega) (by simp[J1];omega)];have hd:bs.drop k=y :: bs.drop (k+1):=by
     rw[zQ (by omega)];rw[zg (by omega)] at hy;rw[Option.some.inj hy]
    rw[hd,List.flatMap_cons,List.append_assoc]
 obtain⟨z,hz,hzz⟩:=hB.slc h;refine(zoL n _ _ h).trans ?_;unfold zqL;rw[hz,zy,if_pos (by first|exact⟨rfl,hzz.imp id (fun e=>by rw[e];rfl)⟩|exact⟨trivial,hzz.imp id (fun e=>by rw[e];rfl)⟩)];have ha:app 4 1 (S.own 4 1 []) (B.map JN)=some (B.map JN):=by simp[app];unfold lim;omega
 rw[ha,za];exact loop bs.length 0 n B (by omega) (by omega) (by omega)
theorem zoQ (n : Nat) (m : Int) (os : List O) (b : Bool) (L : List Int) (H : zd) (hlim : L.length < lim) (i k : Nat) (hx : L[i]? = some (k : Int)) {o : O} (ho : os[k]? = some o) {vI vB : V} (I : List (Int × Nat)) (B : List Bool) (hI : IsI vI I) (hB : IsB vB B) (told : List R) (ht : told.length = os.length) (hl : I.length + 2 < lim) (hn : I.length + 8 <= n) (v7 : V) (next : List V -> zd -> Option (Res × zd)) :
    ∃ vI' vB',IsI vI' (stp (max 0 (min m 1000)) (I,B) o).1.1/\IsB vB' (stp (max 0 (min m 1000)) (I,B) o).1.2/\Wg (n+2) m (.sl 2 (os.map O.w) b) (.sl 1 (iL L) false) [vI,vB,.sl 2 [] false,.sl 1 [] false,.sl 2 [] false,.sl 2 (told.map R.w) false,.int .i64 (i:Int),v7] H next=next [vI',vB',.sl 2 [] false,.sl 1 [] false,.sl 2 [] false,.sl 2 ((told.set k (stp (max 0 (min m 1000)) (I,B) o).2).map R.w) false,.int .i64 ((i+1:Nat):Int),.bool false] H:=by
 obtain⟨mo,hmo⟩:∃ mo,mo=max 0 (min m 1000):=⟨_,rfl⟩;rw[<- hmo];have hil:=(zi.1 hx).1;have hkl:=(zi.1 ho).1;have hov:(os.map O.w)[k]?=some (O.w o):=by rw[Y9,ho];rfl
 have hxv:(iL L)[i]?=some [.int .i64 (k:Int)]:=by unfold iL;rw[zG,hx];rfl
 have hlt:decide ((i:Int) < (L.length:Int))=true:=by simp;omega
 obtain⟨a,ha⟩:∃ a,told[k]?=some a:=⟨_,zg (by omega)⟩;have hav:(told.map R.w)[k]?=some (R.w a):=by rw[K9,ha];rfl
 have hcut:List.take 2 (List.drop 0 (O.w o))=O.w o:=rfl;have hkm:k < (told.map R.w).length:=by rw[zo];omega
 have s64:IntKind.i64.wrap ((i:Int)+1)=((i+1:Nat):Int):=Xa (by omega);have setq:∀ c v:Int,(told.map R.w).set k (setR (R.w a) 0 [V.int .u8 c,V.int .i32 v])=(told.set k ⟨c,v⟩).map R.w:=fun c v=>zqP told k a ⟨c,v⟩;obtain⟨z,hz⟩:=hI.slc H;unfold Wg;simp only[gv,zh,zf,ZW,hz,XN,zr,za,zm,hlt,if_true,Za,zy,Xb hxv,Xb hov,Zl,zn,zq,zl,Nat.reduceLT,and_self,zb,zj,hcut,XV,Yf,znc,zhe,zco,lsl];by_cases h1:o.k=1
 . have e1:(o.k == 1)=true:=by simp[h1]
   simp only[e1,if_true];rw[show n+2=(n+1)+1 from rfl,zaq,zM,zx,<- hmo];simp only[zo,Z8,za,zm];by_cases h2:mo<=(I.length:Int)
   . refine⟨vI,vB,by rw[zqQ h1 h2];exact hI,by rw[zqQ h1 h2];exact hB,?_⟩;rw[if_pos (by simpa using h2),if_pos (by refine⟨?_,?_,by decide⟩ <;> first|trivial|rfl|exact(by omega:k < told.length)),hav,za,zH,za,s64,setq,zqQ h1 h2]
   . obtain⟨vB',c1,hB'⟩:=zhn n H hB (by omega);have c2:=zho n m hI o.v ((hgt 1 B).1:Int) H (by omega) hl (by omega);rw[zhf] at c2;refine⟨slI (je I o.v (hgt 1 B).1),vB',by rw[zqR h1 h2];exact .inl rfl,by rw[zqR h1 h2];exact hB',?_⟩;rw[if_neg (by simpa using h2)];rw[show n+1+1=n+2 from rfl,c1,zM];simp only[zb,zj,za];rw[c2,zM];simp only[zb,zj,za];rw[if_pos (by refine⟨?_,?_,by decide⟩ <;> first|trivial|rfl|exact(by omega:k < told.length)),hav,za,zH,za,s64,setq,zqR h1 h2]
 . have e1:(o.k == 1)=false:=by simp[h1]
   simp only[e1,zp,if_false];by_cases h2:o.k=2
   . have e2:(o.k == 2)=true:=by simp[h2]
     simp only[e2,if_true];cases I with
     | nil =>
       refine⟨vI,vB,by rw[zqS h2];exact hI,by rw[zqS h2];exact hB,?_⟩;simp only[Qz,zP];rw[if_pos (by rfl),if_pos (by refine⟨?_,?_,by decide⟩ <;> first|trivial|rfl|exact hkm),hav,za,zH,za,s64,setq,zqS h2]
     | cons p I =>
       obtain rfl:vI=slI (p :: I):=hI.resolve_right (by rintro ⟨_,e⟩;cases e);refine⟨slI I,vB,by rw[zqT h2];exact .inl rfl,by rw[zqT h2];exact hB,?_⟩;have hpv:((p :: I).map itW)[0]?=some [.int .i32 p.1,.int .i64 (p.2:Int)]:=rfl;have hbl:Qo prog 35 [(0,.int .u8 2),(1,.int .i32 p.1)]=some [.int .u8 2,.int .i32 p.1]:=za4 p.1;rw[if_neg (by simp;omega)];simp only[Xb hpv,KJ,Zl,za,zn,zq,zW,Nat.reduceLeDiff,Nat.reduceLT,and_self,if_true,zb,hbl,YW,zD,zP,Nat.reduceAdd,zl];rw[zjD (.inl rfl) (by simp) (by simp),za,if_pos (by refine⟨?_,?_,by decide⟩ <;> first|trivial|rfl|exact hkm)];rw[if_pos (by rfl),if_pos (by refine⟨?_,?_,?_⟩ <;> first|trivial|rfl|exact zl 2),hav,za,zH,za,s64];rw[show setR (R.w a) 0 (List.take 2 (List.drop 0 (setR [V.int .u8 5,V.int .i32 0] 0 [V.int .u8 2,V.int .i32 p.1])))=setR (R.w a) 0 (R.w ⟨2,p.1⟩) from rfl,zqP,zqT h2];simp[zN]
   . refine⟨vI,vB,by rw[zt4 h1 h2];exact hI,by rw[zt4 h1 h2];exact hB,?_⟩;have e2:(o.k == 2)=false:=by simp[h2]
     simp only[e2,zp,if_false];rw[if_pos (by refine⟨?_,?_,by decide⟩ <;> first|trivial|rfl|exact hkm),hav,za,zH,za,s64,setq,zt4 h1 h2]
theorem zoR(n:Nat)(m:Int)(os:List O)(b:Bool)(L:List Int)(hL:∀ x∈L,0<=x/\x < (os.length:Int))(H:zd)(hlim:L.length < lim):∀ (d i M:Nat) (vI vB:V) (I:List (Int×Nat)) (B:List Bool) (told:List R) (v7:V),IsI vI I->IsB vB B->i+d=L.length->d < M->I.length+d+2 < lim->I.length+d+8<=n->told.length=os.length →
    ∃ vI' vB',IsI vI' (J3 os (max 0 (min m 1000)) (L.drop i) (I,B) told).1.1/\IsB vB' (J3 os (max 0 (min m 1000)) (L.drop i) (I,B) told).1.2/\zR M (Wg (n+2) m (.sl 2 (os.map O.w) b) (.sl 1 (iL L) false)) [vI,vB,.sl 2 [] false,.sl 1 [] false,.sl 2 [] false,.sl 2 (told.map R.w) false,.int .i64 (i:Int),v7] H=some (.ret [vI',vB',.sl 2 ((J3 os (max 0 (min m 1000)) (L.drop i) (I,B) told).2.map R.w) false],H):=by
 intro d
 induction d with
 | zero =>
   intro i M vI vB I B told v7 hI hB h1 h2 hl hn ht;obtain⟨M,rfl⟩:∃ M',M=M'+1:=⟨M - 1,by omega⟩;obtain rfl:i=L.length:=by omega
   rw[Jh];refine⟨vI,vB,hI,hB,?_⟩;rw[zA];unfold Wg;simp only[gv,zh,zf,ZW,XN,zr,za,zm];rw[if_neg (by simp)];rfl
 | succ d ih =>
   intro i M vI vB I B told v7 hI hB h1 h2 hl hn ht;obtain⟨M,rfl⟩:∃ M',M=M'+1:=⟨M - 1,by omega⟩;obtain⟨x,hx⟩:∃ x,L[i]?=some x:=⟨_,zg (by omega)⟩;have hdr:L.drop i=x :: L.drop (i+1):=by
    rw[zQ (by omega)];rw[zg (by omega)] at hx;rw[Option.some.inj hx]
   obtain⟨x0,x1⟩:=hL x (zJ hx);obtain⟨k,rfl⟩:∃ k:Nat,x=(k:Int):=⟨x.toNat,(ZH x0).symm⟩;obtain⟨o,ho⟩:∃ o,os[k]?=some o:=⟨_,zg (by omega)⟩;have hg:=zqK (max 0 (min m 1000)) (I,B) o;obtain⟨vI1,vB1,hI1,hB1,e1⟩:=zoQ n m os b L H hlim i k hx ho I B hI hB told ht (by omega) (by omega) v7 (zR M (Wg (n+2) m (.sl 2 (os.map O.w) b) (.sl 1 (iL L) false)));obtain⟨vI2,vB2,hI2,hB2,e2⟩:=ih (i+1) M vI1 vB1 _ _ (told.set k (stp (max 0 (min m 1000)) (I,B) o).2) (.bool false) hI1 hB1 (by omega) (by omega) (by simp only at hg;omega) (by simp only at hg;omega) (by rw[zt];exact ht);rw[hdr];have hrun:J3 os (max 0 (min m 1000)) ((k:Int) :: L.drop (i+1)) (I,B) told=J3 os (max 0 (min m 1000)) (L.drop (i+1)) ((stp (max 0 (min m 1000)) (I,B) o).1.1,(stp (max 0 (min m 1000)) (I,B) o).1.2) (told.set k (stp (max 0 (min m 1000)) (I,B) o).2):=by
    show J3 os _ _ (stp _ (I,B) (oAt os (k:Int))).1 (told.set (k:Int).toNat (stp _ (I,B) (oAt os (k:Int))).2)=_;rw[Ju ho,Xu]
   rw[hrun];exact⟨vI2,vB2,hI2,hB2,by rw[zA,e1,e2]⟩
theorem zhp (n : Nat) (m : Int) {vI vB : V} (I : List (Int × Nat)) (B : List Bool) (hI : IsI vI I) (hB : IsB vB B) (os : List O) (b : Bool) (H : zd) (hs : qQ os) (hl : I.length + os.length + 4 < lim) (hn : I.length + os.length + 10 <= n) :
    ∃ vI' vB',IsI vI' (YK os (max 0 (min m 1000)) (I,B)).1.1/\IsB vB' (YK os (max 0 (min m 1000)) (I,B)).1.2/\call (n+3) 97 [.int .i64 m,vI,vB,.sl 2 (os.map O.w) b] H=some (.ret [vI',vB',.sl 2 ((YK os (max 0 (min m 1000)) (I,B)).2.map R.w) false],H):=by
 have hol:=zoK os;obtain⟨vI',vB',hI',hB',e⟩:=zoR n m os b (Z9 os++Xo os) (zgg os) H (by omega) os.length 0 (n+2) vI vB I B (List.replicate os.length ⟨0,0⟩) (.bool false) hI hB (by omega) (by omega) (by omega) (by omega) (by simp);rw[zO] at e hI' hB';refine⟨vI',vB',hI',hB',(zjJ (n+2) m _ _ _ H).trans ?_⟩;unfold zjI;have fN:nv (V.int .i64 (os.length:Int))=some os.length:=Za _ _;rw[ZW,za];simp only[zo];rw[fN,zy,zy,if_pos (by first|exact⟨zl _,by omega,rfl⟩|exact⟨zl _,by omega,trivial⟩|exact⟨trivial,by omega,trivial⟩),zjC (n+2) os b H hs (by omega) (by omega),zM,zx,zlO];exact e
end Go.Proofs.Tryz
namespace Go.Proofs.Tryz
open Go.L
set_option maxRecDepth 100000
noncomputable def zeo(n:Nat)(s:Nat)(i:Int)(h:zd):Option (Res×zd) :=
 (bd (Qb prog h .eql 25 (V.ptr s 0) (V.val (.pointer none))) fun v0 =>
 (bv v0 fun b1=>if b1 then
 some (Res.ret [(V.sl 1 [] false)],h)
 else
 (bd3 (zu h (V.ptr s 0)) fun cs3 m2 o4=>if (o4+1<=m2/\0 < 1) then
 (bd (cs3)[o4]? fun v5 =>
 (bd2 (jz prog 120 true v5) fun v6 b7 =>
 (if ((V.cells v6)).length=1 then
 (if (((V.cells v6)).length<=1) then
 (if (!b7) then
 some (Res.ret [(V.sl 1 [] false)],h)
 else
 (bd ((setR [(V.val (.pointer none))] 0 (V.cells v6)))[0]? fun v8 =>
 (cl (call n 70 [v8,(V.int .i64 i)] h) (fun r9 h10 =>
 (Zr r9 fun v12 =>
 some (Res.ret [v12],h10))) (fun z11 h10=>some (Res.pan z11,h10))))) else none) else none))) else none)))
theorem qA(n:Nat)(s:Nat)(i:Int)(h:zd):call (n+1) 29 [(V.ptr s 0),(V.int .i64 i)] h=zeo n s i h:=by kernel_rfl
end Go.Proofs.Tryz
namespace Go.Proofs.Tryz
open Go.L
set_option maxRecDepth 100000
noncomputable def zt6(n:Nat)(x0:Int)(h:zd):Option (Res×zd) :=
 some (Res.ret [(V.ptr (h).length 0)],(h++[(HB.box 2 [(V.sl 0 [] true),(V.int .i64 (if 0 < (if 1000 < x0 then 1000 else x0) then(if 1000 < x0 then 1000 else x0) else 0))])]))
theorem zoS(n:Nat)(x0:Int)(h:zd):call (n+1) 57 [(V.int .i64 x0)] h=zt6 n x0 h:=by kernel_rfl
noncomputable def zhq(n:Nat)(s:Nat)(x:Int)(h:zd):Option (Res×zd) :=
 (cl (call n 180 [(V.ptr s 0),(V.int .i32 x)] h) (fun r0 h1 =>
 (Zr r0 fun v3 =>
 (bv v3 fun b4=>if b4 then
 some (Res.ret [(V.agg [(V.int .u8 1),(V.int .i32 0)])],h1)
 else
 some (Res.ret [(V.agg [(V.int .u8 3),(V.int .i32 0)])],h1)))) (fun z2 h1=>some (Res.pan z2,h1)))
theorem zep(n:Nat)(s:Nat)(x:Int)(h:zd):call (n+1) 189 [(V.ptr s 0),(V.int .i32 x)] h=zhq n s x h:=by kernel_rfl
noncomputable def zl0(n:Nat)(s:Nat)(h:zd):Option (Res×zd) :=
 (cl (call n 184 [(V.ptr s 0)] h) (fun r0 h1 =>
 (bd (r0)[0]? fun v3 =>
 (bd (r0)[1]? fun v4 =>
 (bv v4 fun b5=>if b5 then
 (bd (Qo prog 35 [(0,(V.int .u8 2)),(1,v3)]) fun cs6 =>
 (if (cs6).length=2 then
 (if ((cs6).length<=2) then
 some (Res.ret [(V.agg (((setR [(V.int .u8 0),(V.int .i32 0)] 0 cs6)).drop 0 |>.take 2))],h1) else none) else none))
 else
 some (Res.ret [(V.agg [(V.int .u8 4),(V.int .i32 0)])],h1))))) (fun z2 h1=>some (Res.pan z2,h1)))
noncomputable def zhr(n:Nat)(s:Nat)(x:Int)(h:zd):Option (Res×zd) :=
 (bd (Qb prog h .eql 109 (V.ptr s 0) (V.val (.pointer none))) fun v0 =>
 (bv v0 fun b1=>if b1 then
 some (Res.ret [(V.bool false)],h)
 else
 (bd3 (zu h (V.ptr s 0)) fun cs3 m2 o4=>if (o4+1<=m2/\0 < 1) then
 (bd (cs3)[o4]? fun v5 =>
 (bd (ZR h v5) fun p6 =>
 (bd3 (zu h (V.ptr s 1)) fun cs8 m7 o9=>if (o9+1<=m7/\0 < 1) then
 (bd (cs8)[o9]? fun v10 =>
 (bd (bop prog .geq 3 (V.int .i64 ((p6.2).length:Int)) v10) fun v11 =>
 (bv v11 fun b12=>if b12 then
 some (Res.ret [(V.bool false)],h)
 else
 (bd3 (zu h (V.ptr s 0)) fun cs14 m13 o15=>if (o15+1<=m13/\0 < 1) then
 (bd (cs14)[o15]? fun v16 =>
 (bd2 (WG 21 1 h [[(V.int .i32 x)]] v16) fun v17 h18 =>
 (if ((V.cells v17)).length=1 then
 (bd2 (Zt h18 (V.cells v17) (V.ptr s 0)) fun b19 x20 =>
 some (Res.ret [(V.bool true)],((h18).set b19 x20))) else none))) else none)))) else none))) else none)))
theorem zeq(n:Nat)(s:Nat)(x:Int)(h:zd):call (n+1) 180 [(V.ptr s 0),(V.int .i32 x)] h=zhr n s x h:=by kernel_rfl
noncomputable def zl1(n:Nat)(s:Nat)(h:zd):Option (Res×zd) :=
 (cl (call n 169 [(V.ptr s 0)] h) (fun r0 h1 =>
 (Zr r0 fun v3 =>
 (bd (bop prog .eql 3 v3 (V.int .i64 0)) fun v4 =>
 (bv v4 fun b5=>if b5 then
 some (Res.ret [(V.int .i32 0),(V.bool false)],h1)
 else
 (bd3 (zu h1 (V.ptr s 0)) fun cs7 m6 o8=>if (o8+1<=m6/\0 < 1) then
 (bd (cs7)[o8]? fun v9 =>
 (bd (ZR h1 v9) fun p10 =>
 (bd3 (zu h1 (V.ptr s 0)) fun cs12 m11 o13=>if (o13+1<=m11/\0 < 1) then
 (bd (cs12)[o13]? fun v14 =>
 (bdS (nv (V.int .i64 (IntKind.i64.wrap (((p10.2).length:Int) - 1)))) fun n15 =>
 (bd (ZE 1 n15 v14) fun p16 =>
 (bd3 (zu h1 p16) fun cs18 m17 o19=>if (o19+1<=m17/\0 < 1) then
 (bd (cs18)[o19]? fun v20 =>
 (bd3 (zu h1 (V.ptr s 0)) fun cs22 m21 o23=>if (o23+1<=m21/\0 < 1) then
 (bd (cs22)[o23]? fun v24 =>
 (bd (QZ v24) fun n25 =>
 (bdS (nv (V.int .i64 (IntKind.i64.wrap (((p10.2).length:Int) - 1)))) fun n26 =>
 (bd (Z4 1 0 n26 (none:Option Nat) true v24) fun v27 =>
 (if ((V.cells v27)).length=1 then
 (bd2 (Zt h1 (V.cells v27) (V.ptr s 0)) fun b28 x29 =>
 some (Res.ret [v20,(V.bool true)],((h1).set b28 x29))) else none))))) else none)) else none)))) else none))) else none))))) (fun z2 h1=>some (Res.pan z2,h1)))
theorem zgk(n:Nat)(s:Nat)(h:zd):call (n+1) 184 [(V.ptr s 0)] h=zl1 n s h:=by kernel_rfl
noncomputable def zjP(n:Nat)(s:Nat)(h:zd):Option (Res×zd) :=
 (bd (Qb prog h .eql 109 (V.ptr s 0) (V.val (.pointer none))) fun v0 =>
 (bv v0 fun b1=>if b1 then
 some (Res.ret [(V.row (h).length 1 0 0)],(h++[(HB.row 21 1 [] true)]))
 else
 (bd3 (zu h (V.ptr s 0)) fun cs3 m2 o4=>if (o4+1<=m2/\0 < 1) then
 (bd (cs3)[o4]? fun v5 =>
 (bd (ZR h v5) fun p6 =>
 (if ((p6.1=1\/(p6.2).isEmpty=true)/\(p6.2).length < lim) then
 some (Res.ret [(V.row (h).length 1 0 (p6.2).length)],(h++[(HB.row 21 1 p6.2 true)])) else none))) else none)))
theorem zjQ(n:Nat)(s:Nat)(h:zd):call (n+1) 168 [(V.ptr s 0)] h=zjP n s h:=by kernel_rfl
noncomputable def zqY(n:Nat)(s:Nat)(h:zd):Option (Res×zd) :=
 (bd (Qb prog h .eql 109 (V.ptr s 0) (V.val (.pointer none))) fun v0 =>
 (bv v0 fun b1=>if b1 then
 some (Res.ret [(V.int .i64 0)],h)
 else
 (bd3 (zu h (V.ptr s 0)) fun cs3 m2 o4=>if (o4+1<=m2/\0 < 1) then
 (bd (cs3)[o4]? fun v5 =>
 (bd (ZR h v5) fun p6 =>
 some (Res.ret [(V.int .i64 ((p6.2).length:Int))],h))) else none)))
theorem zoT(n:Nat)(s:Nat)(h:zd):call (n+1) 169 [(V.ptr s 0)] h=zqY n s h:=by kernel_rfl
noncomputable def znm(n:Nat)(s:Nat)(h:zd):Option (Res×zd) :=
 (bd (Qb prog h .eql 109 (V.ptr s 0) (V.val (.pointer none))) fun v0 =>
 (bv v0 fun b1=>if b1 then
 some (Res.ret [(V.int .i64 0)],h)
 else
 (bd3 (zu h (V.ptr s 1)) fun cs3 m2 o4=>if (o4+1<=m2/\0 < 1) then
 (bd (cs3)[o4]? fun v5 =>
 some (Res.ret [v5],h)) else none)))
theorem zl2(n:Nat)(s:Nat)(h:zd):call (n+1) 178 [(V.ptr s 0)] h=znm n s h:=by kernel_rfl
noncomputable def znn(n:Nat)(s:Nat)(h:zd):Option (Res×zd) :=
 (cl (call n 168 [(V.ptr s 0)] h) (fun r0 h1 =>
 (Zr r0 fun v3 =>
 (cl (call n 178 [(V.ptr s 0)] h1) (fun r4 h5 =>
 (Zr r4 fun v7 =>
 (bd (Qo prog 172 [(0,v3),(1,v7)]) fun cs8 =>
 (if (cs8).length=2 then
 some (Res.ret [(V.ptr (h5).length 0)],(h5++[(HB.box 2 cs8)])) else none)))) (fun z6 h5=>some (Res.pan z6,h5))))) (fun z2 h1=>some (Res.pan z2,h1)))
theorem zl3(n:Nat)(s:Nat)(h:zd):call (n+1) 175 [(V.ptr s 0)] h=znn n s h:=by kernel_rfl
noncomputable def zqZ(n:Nat)(s:Nat)(x:Int)(h:zd):Option (Res×zd) :=
 (if (decide (0 ≥ 3)) then
 some (Res.ret [(V.agg [(V.int .u8 5),(V.int .i32 0)])],h)
 else
 some (Res.ret [(V.agg [(V.int .u8 5),(V.int .i32 0)])],h))
theorem zoU(n:Nat)(s:Nat)(x:Int)(h:zd):call (n+2) 177 [(V.ptr s 0),(V.agg [(V.int .u8 0),(V.int .i32 x)])] h=zqZ (n+1) s x h:=by kernel_rfl
noncomputable def zl4(n:Nat)(s:Nat)(x:Int)(h:zd):Option (Res×zd) :=
 (if (decide (1 ≥ 3)) then
 some (Res.ret [(V.agg [(V.int .u8 5),(V.int .i32 0)])],h)
 else
 (cl (call n 189 [(V.ptr s 0),(V.int .i32 x)] h) (fun r3 h4 =>
 (Zr r3 fun v6 =>
 (if ((V.cells v6)).length=2 then
 (if (((V.cells v6)).length<=2) then
 some (Res.ret [(V.agg (((setR [(V.int .u8 0),(V.int .i32 0)] 0 (V.cells v6))).drop 0 |>.take 2))],h4) else none) else none))) (fun z5 h4=>none)))
theorem zgl(n:Nat)(s:Nat)(x:Int)(h:zd):call (n+2) 177 [(V.ptr s 0),(V.agg [(V.int .u8 1),(V.int .i32 x)])] h=zl4 (n+1) s x h:=by kernel_rfl
noncomputable def zl5(n:Nat)(s:Nat)(x:Int)(h:zd):Option (Res×zd) :=
 (if (decide (2 ≥ 3)) then
 some (Res.ret [(V.agg [(V.int .u8 5),(V.int .i32 0)])],h)
 else
 (cl (call n 190 [(V.ptr s 0),(V.int .i32 x)] h) (fun r3 h4 =>
 (Zr r3 fun v6 =>
 (if ((V.cells v6)).length=2 then
 (if (((V.cells v6)).length<=2) then
 some (Res.ret [(V.agg (((setR [(V.int .u8 0),(V.int .i32 0)] 0 (V.cells v6))).drop 0 |>.take 2))],h4) else none) else none))) (fun z5 h4=>none)))
theorem zgm(n:Nat)(s:Nat)(x:Int)(h:zd):call (n+2) 177 [(V.ptr s 0),(V.agg [(V.int .u8 2),(V.int .i32 x)])] h=zl5 (n+1) s x h:=by kernel_rfl
end Go.Proofs.Tryz
namespace Go.Sk
open Go.L
def Yq(x:Int):List V:=[.int .i32 x]
def zjR(c v:Int):V:=.agg [.int .u8 c,.int .i32 v]
def Xe(most:Int)(c x:Int)(xs:List Int):(Int×Int)×List Int :=
 if c=1 then(if (xs.length:Int) < most then((1,0),xs++[x]) else((3,0),xs))
 else if c=2 then(match xs.getLast? with|some y=>((2,y),xs.dropLast)|none=>((4,0),xs))
 else((5,0),xs)
end Go.Sk
namespace Go.Proofs.Tryz
open Go.L Go.Rp Go.Sk
set_option maxRecDepth 100000
def StkAt(h:zd)(s:Nat)(sb:Option Nat)(most:Int)(xs:List Int):Prop:=match sb with
 | none=>xs=[]/\h[s]?=some (.box 2 [.sl 0 [] true,.int .i64 most])
 | some b=>b≠s/\∃ l z,h[s]?=some (.box 2 [.row b 1 0 xs.length,.int .i64 most])/\h[b]?=some (.row 21 1 l z)/\xs.length<=l.length/\l.take xs.length=xs.map Yq
theorem StkAt.keep{h h':zd}{s:Nat}{sb:Option Nat}{most:Int}{xs:List Int}(hb:StkAt h s sb most xs)(hc:h'[s]?=h[s]?)(hk:∀ b,sb=some b->h'[b]?=h[b]?):StkAt h' s sb most xs:=by
 cases sb with
 | none=>exact⟨hb.1,hc.trans hb.2⟩
 | some b =>
   obtain⟨h1,l,z,h2,h3,h4⟩:=hb;exact⟨h1,l,z,hc.trans h2,(hk b rfl).trans h3,h4⟩
theorem W3(h:zd)(c:Nat):Qb prog h .eql 109 (V.ptr c 0) (V.val (.pointer none))=some (.bool false):=by kernel_rfl
theorem StkAt.box{h:zd}{s:Nat}{sb:Option Nat}{most:Int}{xs:List Int}(hb:StkAt h s sb most xs):∃ v sz,h[s]?=some (.box 2 [v,.int .i64 most])/\ZR h v=some (sz,xs.map Yq)/\(sz=1\/xs=[]):=by
 cases sb with
 | none =>
   obtain⟨rfl,hc⟩:=hb;exact⟨_,0,hc,ZW ..,.inr rfl⟩
 | some b =>
   obtain⟨h1,l,z,h2,h3,h4,h5⟩:=hb;refine⟨_,1,h2,?_,.inl rfl⟩;rw[Qx h3 (Ze _) h4,zO,h5]
theorem Yr(n:Nat){h:zd}{s:Nat}{sb:Option Nat}{most:Int}{xs:List Int}(hb:StkAt h s sb most xs):call (n+1) 169 [.ptr s 0] h=some (.ret [.int .i64 (xs.length:Int)],h):=by
 obtain⟨v,sz,h1,h2,h3⟩:=hb.box;refine(zoT n s h).trans ?_;unfold zqY;rw[W3,za,zm,if_neg (by decide),zC h1,zn,if_pos (by decide)];simp only[zb,za];rw[h2,za];simp
theorem qR(n:Nat){h:zd}{s:Nat}{sb:Option Nat}{most:Int}{xs:List Int}(hb:StkAt h s sb most xs):call (n+1) 178 [.ptr s 0] h=some (.ret [.int .i64 most],h):=by
 obtain⟨v,sz,h1,h2,h3⟩:=hb.box;refine(zl2 n s h).trans ?_;unfold znm;rw[W3,za,zm,if_neg (by decide),zC h1,zn,if_pos (by decide)];rfl
theorem j8(n:Nat){h:zd}{s:Nat}{sb:Option Nat}{most:Int}{xs:List Int}(hb:StkAt h s sb most xs)(hl:xs.length < lim):call (n+1) 168 [.ptr s 0] h=some (.ret [.row h.length 1 0 xs.length],h++[.row 21 1 (xs.map Yq) true]):=by
 obtain⟨v,sz,h1,h2,h3⟩:=hb.box;refine(zjQ n s h).trans ?_;unfold zjP;rw[W3,za,zm,if_neg (by decide),zC h1,zn,if_pos (by decide)];simp only[zb,za];rw[h2,za,if_pos ⟨h3.imp id (fun e=>by rw[e];rfl),by simpa using hl⟩,zo]
theorem zfj(n:Nat){h:zd}{s:Nat}{sb:Option Nat}{most:Int}{xs:List Int}(hb:StkAt h s sb most xs)(x:Int)(hm:most<=xs.length):call (n+1) 180 [.ptr s 0,.int .i32 x] h=some (.ret [.bool false],h):=by
 obtain⟨v,sz,h1,h2,h3⟩:=hb.box;refine(zeq n s x h).trans ?_;unfold zhr;rw[W3,za,zm,if_neg (by decide),zC h1,zn,if_pos (by decide)];simp only[zb,za];rw[h2,za,zC h1,zn,if_pos (by decide)];simp only[zb,zj,za];rw[Z8,za,zm,if_pos (by simpa using hm)]
theorem qS (n : Nat) {h : zd} {s : Nat} {sb : Option Nat} {most : Int} {xs : List Int} (hb : StkAt h s sb most xs) (x : Int) (hm : (xs.length : Int) < most) (hl : xs.length + 1 < lim) :
    ∃ h' sb',call (n+1) 180 [.ptr s 0,.int .i32 x] h=some (.ret [.bool true],h')/\StkAt h' s sb' most (xs++[x])/\Fed h h' s sb sb':=by
 rw[zeq n s x h];unfold zhr;rw[W3,za,zm,if_neg (by decide)];cases sb with
 | none =>
   obtain⟨rfl,hc⟩:=hb;have hcl:=zT hc;rw[zC hc,zn,if_pos (by decide)];simp only[zb,za];rw[ZW,za,zC hc,zn,if_pos (by decide)];simp only[zb,zj,za];rw[Z8,za,zm,if_neg (by simpa using hm),zn,if_pos (by decide)];simp only[zb,za];have Wr:WG 21 1 h [[.int .i32 x]] (.sl 0 [] true)=some (.row h.length 1 0 1,h++[.row 21 1 [[.int .i32 x]] true]):=rfl;simp only[Wr,Zf,V.cells,zD,zP,zq,if_true];have hc':(h++[HB.row 21 1 [[.int .i32 x]] true])[s]?=some (.box 2 [.sl 0 [] true,.int .i64 most]):=by rw[zk hcl];exact hc
   rw[ZV hc' (by simp),Zf];refine⟨_,some h.length,rfl,⟨by omega,[[.int .i32 x]],true,?_,?_,?_,?_⟩,⟨by simp,fun j h1 h2 h3=>?_,fun b hb=>.inr (by cases hb;exact zl _)⟩⟩
   . rw[Xr (by simp;omega)];rfl
   . rw[ze (by omega)];exact zI
   . simp
   . simp[Yq]
   . rw[ze (by omega),zk h1]
 | some b =>
   obtain⟨h1,l,z,h2,h3,h4,h5⟩:=hb;have hcl:=zT h2;have hbl:=zT h3;rw[zC h2,zn,if_pos (by decide)];simp only[zb,za];rw[Qx h3 (Ze _) h4,za,zC h2,zn,if_pos (by decide)];simp only[zb,zj,za];rw[Z8,za,zm,if_neg (by rw[zO,h5];simpa using hm),zn,if_pos (by decide)];simp only[zb,za];have Wr:WG 21 1 h [[.int .i32 x]] (.row b 1 0 xs.length)=some (.row h.length 1 0 (xs.length+1),h.set b .dead++[.row 21 1 (xs.map Yq++[[.int .i32 x]]) z]):=by
    simp only[WG,h3];rw[if_pos (by refine⟨⟨?_,?_,?_⟩,⟨by omega,h4⟩,by simp;omega⟩ <;> first|trivial|rfl),zO,h5];simp
   rw[Wr,Zf];simp only[V.cells,zD,zP,zq,if_true];have hc':(h.set b .dead++[HB.row 21 1 (xs.map Yq++[[.int .i32 x]]) z])[s]?=some (.box 2 [.row b 1 0 xs.length,.int .i64 most]):=by
    rw[zk (by simpa using hcl),ze h1];exact h2
   rw[ZV hc' (by simp),Zf];refine⟨_,some h.length,rfl,⟨by omega,xs.map Yq++[[.int .i32 x]],z,?_,?_,?_,?_⟩,⟨by simp,fun j k1 k2 k3=>?_,fun b hb=>.inr (by cases hb;exact zl _)⟩⟩
   . rw[Xr (by simp;omega)];simp;rfl
   . rw[ze (by omega),zK (by simp)];simp
   . simp
   . simp[Yq,zN]
   . rw[ze (by omega),zk (by simpa using k1),ze (fun e=>k3 (by rw[e]))]
theorem zhs(n:Nat){h:zd}{s:Nat}{sb:Option Nat}{most:Int}(hb:StkAt h s sb most []):call (n+2) 184 [.ptr s 0] h=some (.ret [.int .i32 0,.bool false],h):=by
 rw[show n+2=(n+1)+1 from rfl,zgk];unfold zl1;rw[Yr n hb,zM,zx,Xv,za,zm,if_pos (by rfl)]
theorem za7 (n : Nat) {h : zd} {s : Nat} {sb : Option Nat} {most : Int} {xs : List Int} {x : Int} (hb : StkAt h s sb most (xs ++ [x])) (hl : xs.length + 1 < lim) :
    ∃ h',call (n+2) 184 [.ptr s 0] h=some (.ret [.int .i32 x,.bool true],h')/\StkAt h' s sb most xs/\h'.length=h.length/\∀ i,i≠s->h'[i]?=h[i]?:=by
 rw[show n+2=(n+1)+1 from rfl,zgk];unfold zl1;rw[Yr n hb,zM,zx,Xv,za,zm,if_neg (by simp;omega)];cases sb with
 | none=>exact absurd hb.1 (by simp)
 | some b =>
   obtain⟨h1,l,z,h2,h3,h4,h5⟩:=hb;rw[zE,ZM] at h2 h4 h5;have hcl:=zT h2;have hx:l[xs.length]?=some [.int .i32 x]:=by
    have:=congrArg (fun t:List (List V)=>t[xs.length]?) h5;simpa[Yq,Zb] using this
   have hr:l.take xs.length=xs.map Yq:=by
    have:=congrArg (List.take xs.length) h5;rw[List.take_take,XT (by omega)] at this;rw[this,Zu,XO (by simp),zN (by simp)]
   have hw:IntKind.i64.wrap ((((l.take (xs.length+1)).drop 0).length:Int) - 1)=(xs.length:Int):=by
    rw[zO,h5];rw[show (((List.map Yq (xs++[x])).length:Int) - 1)=(xs.length:Int) by simp];unfold lim at hl;rw[w64] <;> omega
   have hn:nv (V.int .i64 (xs.length:Int))=some xs.length:=by simp[nv]
   rw[zC h2,zn,if_pos (by decide)];simp only[zb,za];rw[Qx h3 (Ze _) h4,za,zn,if_pos (by decide)];simp only[zb,za];rw[hw,hn,zy,XR (by omega),za,zq,XD h3 (by decide) hx,zn,if_pos (by decide)];simp only[zb,za];rw[zn,if_pos (by decide)];simp only[zb,za];rw[YI,za,zy,J0 (Ze _) (by omega),za];simp only[V.cells,zD,zP,zq,if_true];rw[ZV h2 (by simp),Zf];refine⟨_,rfl,⟨h1,l,z,?_,?_,by omega,hr⟩,by rw[zt],fun i hi=>ze (Ne.symm hi)⟩
   . rw[Xr hcl];rfl
   . rw[ze (Ne.symm h1)];exact h3
theorem zq0(c v:Int):Qo prog 35 [(0,.int .u8 c),(1,.int .i32 v)]=some [.int .u8 c,.int .i32 v]:=by kernel_rfl
theorem zq1{P:Nat->Prop}{m:Nat}(h:∀ k,3<=k->k < m->P k)(hm:P m):∀ k,3<=k->k < m+1->P k:=fun k h3 hk=>by
 rcases ZX k m with e|e
 . exact h k h3 e
 . obtain rfl:k=m:=by omega
   exact hm
theorem zl6(n s:Nat)(x:Int)(h:zd):∀ k:Nat,3<=k->k < 256->call (n+2) 177 [.ptr s 0,.agg [.int .u8 (k:Int),.int .i32 x]] h=some (.ret [zjR 5 0],h):=by
 iterate 253 (refine zq1 (m:=_) ?_ (by show call _ _ _ _=_;kernel_rfl))
 intro k h1 h2;omega
theorem zjS (n : Nat) {h : zd} {s : Nat} {sb : Option Nat} {most : Int} {xs : List Int} (hb : StkAt h s sb most xs) (hl : xs.length + 1 < lim) (c x : Int) (c0 : 0 <= c) (c1 : c < 256) :
    ∃ h' sb',call (n+5) 177 [.ptr s 0,.agg [.int .u8 c,.int .i32 x]] h=some (.ret [zjR (Xe most c x xs).1.1 (Xe most c x xs).1.2],h')/\StkAt h' s sb' most (Xe most c x xs).2/\Fed h h' s sb sb':=by
 obtain⟨k,rfl⟩:∃ k:Nat,c=(k:Int):=⟨c.toNat,(ZH c0).symm⟩;by_cases k3:3<=k
 . have:Xe most (k:Int) x xs=((5,0),xs):=by unfold Xe;rw[if_neg (by omega),if_neg (by omega)]
   rw[this];exact⟨h,sb,zl6 (n+3) s x h k k3 (by omega),hb,Fed.refl ..⟩
 obtain rfl|rfl|rfl:k=0\/k=1\/k=2:=by omega
 . exact⟨h,sb,(zoU (n+3) s x h).trans (by unfold zqZ;rw[if_neg (by decide)];rfl),hb,Fed.refl ..⟩
 . by_cases hm:(xs.length:Int) < most
   . obtain⟨h',sb',e,b1,b2⟩:=qS (n+2) hb x hm hl;have:Xe most ((1:Nat):Int) x xs=((1,0),xs++[x]):=by unfold Xe;rw[if_pos (by decide),if_pos hm]
     rw[this];refine⟨h',sb',(zgl (n+3) s x h).trans ?_,b1,b2⟩;unfold zl4;rw[if_neg (by decide),zep];unfold zhq;rw[e,zM,zx,zm,if_pos (by rfl)];rfl
   . have e:=zfj (n+2) hb x (by omega);have:Xe most ((1:Nat):Int) x xs=((3,0),xs):=by unfold Xe;rw[if_pos (by decide),if_neg hm]
     rw[this];refine⟨h,sb,(zgl (n+3) s x h).trans ?_,hb,Fed.refl ..⟩;unfold zl4;rw[if_neg (by decide),zep];unfold zhq;rw[e,zM,zx,zm,if_neg (by decide)];rfl
 . have e2:∀ (m:Nat) (h:zd),call (m+1) 190 [.ptr s 0,.int .i32 x] h=zl0 m s h:=fun m h=>by kernel_rfl
   rcases ZD xs with rfl|⟨ys,y,rfl⟩
   . have e:=zhs (n+1) hb;have:Xe most ((2:Nat):Int) x []=((4,0),[]):=rfl;rw[this];refine⟨h,sb,(zgm (n+3) s x h).trans ?_,hb,Fed.refl ..⟩;unfold zl5;rw[if_neg (by decide),e2];unfold zl0;rw[e,zM];rfl
   . rw[XA] at hb hl ⊢;obtain⟨h',e,b1,b2,b3⟩:=za7 (n+1) hb (by simp at hl;omega);have:Xe most ((2:Nat):Int) x (ys++[y])=((2,y),ys):=by unfold Xe;rw[if_neg (by decide),if_pos (by decide)];simp
     rw[this];refine⟨h',sb,(zgm (n+3) s x h).trans ?_,b1,⟨by omega,fun i h1 h2 h3=>b3 i h2,fun b hb=>.inl hb⟩⟩;unfold zl5;rw[if_neg (by decide),e2];unfold zl0;rw[e,zM];simp only[zb,zj,za,zm,if_true];rw[zq0,za];rfl
end Go.Proofs.Tryz
