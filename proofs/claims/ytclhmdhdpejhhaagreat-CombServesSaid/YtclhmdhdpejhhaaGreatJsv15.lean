/- SortL SortM So1 Kp Kq Kr Kv Krf Kx Lops Sops Kyw Ko Tj Tk Xs Pt Xb Xc: what the law needs of these -/import Derived.Test.YtclhmdhdpejhhaaGreatJsv14
namespace Go.Rp
def Ah(K:Int->Int)(x y:Int):Prop:=K x < K y\/(K x=K y/\x < y)
abbrev Sd(K:Int->Int)(l:List Int):Prop:=l.Pairwise (Ah K)
section
variable {K:Int->Int}
theorem Ah.trans{x y z:Int}(h:Ah K x y)(k:Ah K y z):Ah K x z:=by unfold Ah at *;omega
theorem Ah.asymm{x y:Int}(h:Ah K x y)(k:Ah K y x):False:=by unfold Ah at *;omega
theorem Ah.lt{x y:Int}(h:K x < K y):Ah K x y:=.inl h
theorem Ah.le{x y:Int}(h:K x<=K y)(k:x < y):Ah K x y:=by unfold Ah;omega
theorem Ah.of{x y:Int}(h:Ah K x y):K x<=K y:=by unfold Ah at h;omega
theorem zgJ : ∀ {l m : List Int}, l.Perm m -> Sd K l -> Sd K m -> l = m
 | [],m,h,_,_=>(h.symm.eq_nil).symm
 | x :: l,[],h,_,_=>absurd h.eq_nil (by simp)
 | x :: l,y :: m,h,hl,hm=>by
   obtain⟨h1,h2⟩:=Z6.1 hl;obtain⟨k1,k2⟩:=Z6.1 hm;have hx:x∈y :: m:=h.mem_iff.1 (by simp);have hy:y∈x :: l:=h.mem_iff.2 (by simp);obtain rfl:x=y:=by
    rcases zN.1 hx with e|hx
    . exact e
    . rcases zN.1 hy with e|hy
      . exact e.symm
      . exact absurd (h1 y hy) fun a=>(k1 x hx).asymm a
   rw[zgJ (List.perm_cons x |>.1 h) h2 k2]
def zfd (K : Int -> Int) : List Int -> Int -> List Int -> List Int
 | [],x,b=>x :: b
 | y :: r,x,b=>if K x < K y then zfd K r x (y :: b) else r.reverse++y :: x :: b
theorem zgK : ∀ (r : List Int) (x : Int) (b : List Int), (zfd K r x b).Perm (r.reverse ++ x :: b)
 | [],x,b=>.refl _
 | y :: r,x,b=>by
   unfold zfd;split
   . refine(zgK r x (y :: b)).trans ?_;rw[Yb,List.append_assoc];exact List.Perm.append_left _ (List.Perm.swap y x b)
   . rw[Yb,List.append_assoc];exact .refl _
theorem znF : ∀ (r : List Int) (x : Int) (b : List Int), Sd K (r.reverse ++ b) -> (∀ y ∈ r, y < x) -> (∀ y ∈ b, Ah K x y) -> Sd K (zfd K r x b)
 | [],x,b,h,_,hb=>Z6.2 ⟨hb,by simpa using h⟩
 | y :: r,x,b,h,hr,hb=>by
   rw[Yb,List.append_assoc] at h;unfold zfd;split
   . rename_i hk;exact znF r x (y :: b) h (fun z hz=>hr z (zu _ hz)) (fun z hz=>by
      rcases zN.1 hz with rfl|hz
      . exact .lt hk
      . exact hb z hz)
   . rename_i hk;have hyx:Ah K y x:=.le (by omega) (hr y (by simp));obtain⟨h1,h2,h3⟩:=ZO.1 h;obtain⟨h4,h5⟩:=Z6.1 (show Sd K (y :: b) from h2);refine ZO.2 ⟨h1,Z6.2 ⟨fun z hz=>?_,Z6.2 ⟨hb,h5⟩⟩,fun u hu v hv=>?_⟩
     . rcases zN.1 hz with rfl|hz
       . exact hyx
       . exact hyx.trans (hb z hz)
     . rcases zN.1 hv with rfl|hv
       . exact h3 u hu v (by simp)
       . rcases zN.1 hv with rfl|hv
         . exact(h3 u hu y (by simp)).trans hyx
         . exact h3 u hu v (by simp[hv])
theorem zb1{Q:Int->Prop}{B:List Int}{k:Nat}(hQ:∀ y z,Ah K y z->Q z->Q y)(hB:Sd K B)(hk:k<=B.length)(h:k=0\/Q (B.getD (k - 1) 0)):∀ y∈B.take k,Q y:=by
 intro y hy;obtain⟨i,hi,rfl⟩:=List.mem_iff_getElem.1 hy;rw[z5] at hi;rw[JY];rcases h with h|h
 . omega
 . rw[zO,zf (by omega),Wk] at h;rcases ZX i (k - 1) with h1|h1
   . exact hQ _ _ (QH.1 hB i (k - 1) (by omega) (by omega) h1) h
   . obtain rfl:i=k - 1:=by omega
     exact h
theorem zb2{Q:Int->Prop}{B:List Int}{k:Nat}(hQ:∀ y z,Ah K y z->Q y->Q z)(hB:Sd K B)(h:B.length<=k\/Q (B.getD k 0)):∀ y∈B.drop k,Q y:=by
 intro y hy;obtain⟨i,hi,rfl⟩:=List.mem_iff_getElem.1 hy;rw[XQ] at hi;rw[List.getElem_drop];rcases h with h|h
 . omega
 . rw[zO,zf (by omega),Wk] at h;rcases WE i with h1|h1
   . subst h1;exact h
   . exact hQ _ _ (QH.1 hB k (k+i) (by omega) (by omega) (by omega)) h
theorem zpj{x:Int}{B:List Int}{k:Nat}(hB:Sd K B)(hk:k<=B.length)(hlt:∀ y∈B,x < y)(h1:k=0\/K (B.getD (k - 1) 0) < K x)(h2:B.length<=k\/¬ K (B.getD k 0) < K x):Sd K (B.take k++x :: B.drop k):=by
 have a1:=zb1 (Q:=fun y=>K y < K x) (fun y z h hz=>by have:=h.of;omega) hB hk h1;have a2:=zb2 (Q:=fun y=>¬ K y < K x) (fun y z h hz=>by have:=h.of;omega) hB h2;have hB':=hB;rw[<- Zu k B] at hB';obtain⟨s1,s2,s3⟩:=ZO.1 hB';refine ZO.2 ⟨s1,Z6.2 ⟨fun y hy=>?_,s2⟩,fun u hu v hv=>?_⟩
 . exact .le (by have:=a2 y hy;omega) (hlt y (Zk hy))
 . rcases zN.1 hv with rfl|hv
   . exact .lt (a1 u hu)
   . exact s3 u hu v hv
theorem zme{x:Int}{A:List Int}{k:Nat}(hA:Sd K A)(hk:k<=A.length)(hlt:∀ y∈A,y < x)(h1:k=0\/¬ K x < K (A.getD (k - 1) 0))(h2:A.length<=k\/K x < K (A.getD k 0)):Sd K (A.take k++x :: A.drop k):=by
 have a1:=zb1 (Q:=fun y=>¬ K x < K y) (fun y z h hz=>by have:=h.of;omega) hA hk h1;have a2:=zb2 (Q:=fun y=>K x < K y) (fun y z h hz=>by have:=h.of;omega) hA h2;have hA':=hA;rw[<- Zu k A] at hA';obtain⟨s1,s2,s3⟩:=ZO.1 hA';refine ZO.2 ⟨s1,Z6.2 ⟨fun y hy=>.lt (a2 y hy),s2⟩,fun u hu v hv=>?_⟩;rcases zN.1 hv with rfl|hv
 . exact .le (by have:=a1 u hu;omega) (hlt u (Zs hu))
 . exact s3 u hu v hv
theorem zwq {A B : List Int} {i j : Nat} (hA : Sd K A) (hB : Sd K B) (hi : i <= A.length) (hj : j <= B.length) (hlt : ∀ x ∈ A, ∀ y ∈ B, x < y)
    (h1:i=0\/B.length<=j\/¬ K (B.getD j 0) < K (A.getD (i - 1) 0)) (h2:j=0\/A.length<=i\/K (B.getD (j - 1) 0) < K (A.getD i 0)):∀ u∈A.take i++B.take j,∀ v∈A.drop i++B.drop j,Ah K u v:=by
 have a1:∀ u∈A.take i,∀ v∈B.drop j,Ah K u v:=fun u hu v hv=>by
  have h0:¬ K v < K u:=by
   rcases h1 with h1|h1|h1
   . subst h1;simp at hu
   . rw[ZC h1] at hv;cases hv
   . have:=zb2 (Q:=fun y=>¬ K y < K (A.getD (i - 1) 0)) (fun y z h hz=>by have:=h.of;omega) hB (.inr h1) v hv;exact zb1 (Q:=fun y=>¬ K v < K y) (fun y z h hz=>by have:=h.of;omega) hA hi (.inr this) u hu
  exact .le (by omega) (hlt u (Zs hu) v (Zk hv))
 have a2:∀ u∈B.take j,∀ v∈A.drop i,Ah K u v:=fun u hu v hv=>by
  rcases h2 with h2|h2|h2
  . subst h2;simp at hu
  . rw[ZC h2] at hv;cases hv
  . have:=zb2 (Q:=fun y=>K (B.getD (j - 1) 0) < K y) (fun y z h hz=>by have:=h.of;omega) hA (.inr h2) v hv;exact .lt (zb1 (Q:=fun y=>K y < K v) (fun y z h hz=>by have:=h.of;omega) hB hj (.inr this) u hu)
 have hA':=hA;have hB':=hB;rw[<- Zu i A] at hA';rw[<- Zu j B] at hB';intro u hu v hv;rcases Zn.1 hu with hu|hu <;> rcases Zn.1 hv with hv|hv
 . exact(ZO.1 hA').2.2 u hu v hv
 . exact a1 u hu v hv
 . exact a2 u hu v hv
 . exact(ZO.1 hB').2.2 u hu v hv
end
end Go.Rp
namespace Go.Rp
def zh2(p:Nat->Int):Prop:=∀ i j,i < j->p i < p j
def rng(p:Nat->Int)(lo k:Nat):List Int:=(List.range' lo k).map p
section
variable {p:Nat->Int}
theorem zfe(lo k:Nat):rng p lo (k+1)=rng p lo k++[p (lo+k)]:=by
 unfold rng;rw[List.range'_concat,Zo];simp
theorem zkr(lo k:Nat):rng p lo (k+1)=p lo :: rng p (lo+1) k:=by
 unfold rng;rw[List.range'_succ,zW]
theorem zdQ(lo k:Nat):(rng p lo k).length=k:=by simp[rng]
theorem zh3 (lo : Nat) : ∀ (k j : Nat), rng p lo (k + j) = rng p lo k ++ rng p (lo + k) j
 | k,0=>by simp[rng]
 | k,j+1=>by rw[<- ZR,zfe,zh3 lo k j,zfe (lo+k) j,List.append_assoc,ZR]
theorem qf{lo k:Nat}{x:Int}:x∈rng p lo k ↔ ∃ i,lo<=i/\i < lo+k/\p i=x:=by
 unfold rng;rw[ZL];constructor
 . rintro ⟨j,hj,rfl⟩;have:=List.mem_range'_1.1 hj;exact⟨j,by omega,by omega,rfl⟩
 . rintro ⟨i,h1,h2,rfl⟩;exact⟨i,List.mem_range'_1.2 (by omega),rfl⟩
theorem zaB{lo k a l:Nat}{x:Int}(h1:lo<=a)(h2:a+l<=lo+k)(h:x∈rng p a l):x∈rng p lo k:=by
 obtain⟨i,a1,a2,a3⟩:=qf.1 h;exact qf.2 ⟨i,by omega,by omega,a3⟩
variable {K:Int->Int}
def sR (K : Int -> Int) (p : Nat -> Int) (lo : Nat) : Nat -> List Int
 | 0=>[]
 | k+1=>zfd K (sR K p lo k).reverse (p (lo+k)) []
theorem qg (lo : Nat) : ∀ k, (sR K p lo k).Perm (rng p lo k)
 | 0=>.refl _
 | k+1=>by
   unfold sR;refine(zgK _ _ _).trans ?_;rw[List.reverse_reverse,zfe];exact(qg lo k).append_right _
theorem ja(lo k:Nat):(sR K p lo k).length=k:=by rw[(qg lo k).length_eq,zdQ]
theorem zcJ{lo k:Nat}{x:Int}:x∈sR K p lo k ↔ ∃ i,lo<=i/\i < lo+k/\p i=x:=by rw[(qg lo k).mem_iff,qf]
theorem zwr(hp:zh2 p){lo i j:Nat}{x y:Int}(hx:x∈sR K p lo i)(hy:y∈sR K p (lo+i) j):x < y:=by
 obtain⟨a,a1,a2,rfl⟩:=zcJ.1 hx;obtain⟨b,b1,b2,rfl⟩:=zcJ.1 hy;exact hp a b (by omega)
theorem zks (hp : zh2 p) (lo : Nat) : ∀ k, Sd K (sR K p lo k)
 | 0=>.nil
 | k+1=>by
   unfold sR;refine znF _ _ _ (by simpa using zks hp lo k) (fun y hy=>?_) (by simp);obtain⟨i,h1,h2,rfl⟩:=zcJ.1 (List.mem_reverse.1 hy);exact hp _ _ h2
theorem zpk(hp:zh2 p){lo k:Nat}{C:List Int}(h:C.Perm (rng p lo k))(hs:Sd K C):C=sR K p lo k:=zgJ (h.trans (qg lo k).symm) hs (zks hp lo k)
theorem ztG(hp:zh2 p){lo i j:Nat}{C:List Int}(h:C.Perm (sR K p lo i++sR K p (lo+i) j))(hs:Sd K C):C=sR K p lo (i+j):=by
 refine zpk hp (h.trans ?_) hs;rw[zh3];exact(qg lo i).append (qg (lo+i) j)
def JM (K : Int -> Int) (p : Nat -> Int) (bs : Nat) : Nat -> Nat -> Nat -> List Int
 | 0,_,_=>[]
 | f+1,lo,len=>if len<=bs then sR K p lo len else sR K p lo bs++JM K p bs f (lo+bs) (len - bs)
theorem zdk {bs : Nat} (hb : 0 < bs) : ∀ (f g lo len : Nat), len <= f -> len <= g -> JM K p bs f lo len = JM K p bs g lo len
 | 0,0,lo,len,_,_=>rfl
 | 0,g+1,lo,len,h,_=>by
   obtain rfl:len=0:=by omega
   simp[JM,sR]
 | f+1,0,lo,len,_,h=>by
   obtain rfl:len=0:=by omega
   simp[JM,sR]
 | f+1,g+1,lo,len,h,k=>by
   unfold JM;split
   . rfl
   . rw[zdk hb f g _ _ (by omega) (by omega)]
theorem WM{bs:Nat}(f lo len:Nat)(h:len<=bs)(hf:0 < f):JM K p bs f lo len=sR K p lo len:=by
 cases f with
 | zero=>omega
 | succ f=>unfold JM;rw[if_pos h]
theorem zpl{bs:Nat}(hb:0 < bs)(f lo len:Nat)(h:bs < len)(hf:len<=f):JM K p bs f lo len=sR K p lo bs++JM K p bs f (lo+bs) (len - bs):=by
 cases f with
 | zero=>omega
 | succ f =>
   have:=zdk (K:=K) (p:=p) hb f (f+1) (lo+bs) (len - bs) (by omega) (by omega);rw[<- this]
   conv=>lhs;unfold JM
   rw[if_neg (by omega)]
def atP(l:List Int)(B:Int)(i:Nat):Int:=match l[i]? with|some x=>x|none=>B+(i:Int)
theorem zkt{l:List Int}{B:Int}(hl:l.Pairwise (· < ·))(hB:∀ x∈l,x < B):zh2 (atP l B):=by
 intro i j hij;unfold atP;cases hj:l[j]? with
 | some y =>
   have hjl:=(zj.1 hj).1;rw[zf (show i < l.length by omega)];have:=QH.1 hl i j (by omega) hjl hij;rw[zf hjl] at hj;rw[<- Option.some.inj hj];exact this
 | none =>
   cases hi:l[i]? with
   | some x =>
     have:=hB x (zM hi);simp only;omega
   | none=>simp only;omega
theorem zh4(l:List Int)(B:Int):rng (atP l B) 0 l.length=l:=by
 apply ZM;intro i;unfold rng;rw[zF];by_cases hi:i < l.length
 . rw[List.getElem?_range' hi,zf hi];simp only[Z5,zq,Nat.one_mul];unfold atP;rw[zf hi]
 . rw[zS (by simp;omega),zS (by omega)];rfl
end
end Go.Rp
set_option linter.unusedVariables false
set_option linter.unusedSimpArgs false
namespace Go.Proofs.Tryz
open Go.L Go.Rp
set_option maxRecDepth 100000
abbrev iL(l:List Int):List (List V):=l.map (Qs .i64)
theorem wN{e:Int}{n:Nat}(h:e=(n:Int))(hn:n < lim):IntKind.i64.wrap e=(n:Int):=by unfold lim at hn;subst h;rw[w64] <;> omega
theorem zh5(l:List Int)(i:Nat)(x:Int):(iL l).set i [V.int .i64 x]=iL (l.set i x):=by
 unfold iL;rw[Qo];rfl
theorem Q7(l:List Int):(iL l).length=l.length:=by simp
theorem JE{l:List Int}{i:Nat}{x:Int}(h:l[i]?=some x):(iL l)[i]?=some [V.int .i64 x]:=by
 unfold iL;rw[zF,h];rfl
theorem zdR(a b:V):setR [a] 0 [b]=[b]:=rfl
theorem qh{n m k:Nat}:(1=1/\n < m/\(some k:Option Nat)≠some 0) ↔ (n < m/\(k == 0)=false):=by simp
theorem zdS:(1=1/\0 < 1/\0+1<=1) ↔ True:=by decide
theorem Y3{α:Type}(P:List α)(x:α)(R:List α){i:Nat}(h:i=P.length):(P++x :: R)[i]?=some x:=by subst h;simp
theorem zaC{α:Type}(P:List α)(x y:α)(R:List α){i:Nat}(h:i=P.length):(P++x :: R).set i y=P++y :: R:=by subst h;simp
theorem zws (P A M B S : List Int) (x y : Int) {i j : Nat} (hi : i = P.length) (hj : j = P.length + 1 + A.length + M.length) :
    (P++(x :: A++(M++(y :: B++S))))[i]?=some x/\(P++(x :: A++(M++(y :: B++S))))[j]?=some y/\(P++(y :: A++(M++(y :: B++S))))[j]?=some y ∧
    (P++(x :: A++(M++(y :: B++S)))).set i y=P++(y :: A++(M++(y :: B++S)))/\(P++(y :: A++(M++(y :: B++S)))).set j x=(P++[y])++(A++((M++[x])++(B++S))):=by
 have e:∀ u:Int,P++(u :: A++(M++(y :: B++S)))=(P++u :: (A++M))++y :: (B++S):=fun u=>by simp
 have hl:∀ u:Int,j=(P++u :: (A++M)).length:=fun u=>by simp;omega
 refine⟨Y3 P x _ hi,?_,?_,zaC P x y _ hi,?_⟩
 . rw[e];exact Y3 _ _ _ (hl x)
 . rw[e];exact Y3 _ _ _ (hl y)
 . rw[e,zaC _ _ _ _ (hl y)];simp
theorem zgL(n:Nat)(H:ze)(a b k:Nat)(S:List Int):∀ (A B P M:List Int) (i Mx:Nat),B.length=A.length->i+A.length=k->a+i=P.length->b+i=P.length+A.length+M.length->P.length+A.length+M.length+B.length < lim->A.length < Mx →
    zV Mx (zbW n a b k) [.sl 1 (iL (P++(A++(M++(B++S))))) false,.int .i64 (i:Int)] H=some (.ret [.sl 1 (iL (P++(B++(M++(A++S))))) false],H)
 | _,_,_,_,i,0,_,_,_,_,_,h=>by omega
 | [],B,P,M,i,Mx+1,hB,hk,ha,hb,hl,hm=>by
   obtain rfl:B=[]:=by cases B <;> simp_all
   have hik:¬ (i:Int) < (k:Int):=by simp at hk;omega
   rw[zK];simp only[zbW,gv,zi,zg,zy,za,zm,hik,decide_false,zt,if_false,lsl,zX,Yi,Ya,Yg]
 | x :: A,[],P,M,i,Mx+1,hB,hk,ha,hb,hl,hm=>by simp at hB
 | x :: A,y :: B,P,M,i,Mx+1,hB,hk,ha,hb,hl,hm=>by
   simp only[zD] at hB hk hb hl hm;have hik:(i:Int) < (k:Int):=by omega
   have e1:IntKind.i64.wrap ((a:Int)+(i:Int))=((a+i:Nat):Int):=wN (by omega) (by omega);have e2:IntKind.i64.wrap ((b:Int)+(i:Int))=((b+i:Nat):Int):=wN (by omega) (by omega);have e3:IntKind.i64.wrap ((i:Int)+1)=((i+1:Nat):Int):=wN (by omega) (by omega);obtain⟨s1,s2,s3,s4,s5⟩:=zws P A M B S x y ha (show b+i=P.length+1+A.length+M.length by omega);have l1:a+i < (P++(x :: A++(M++(y :: B++S)))).length:=(zj.1 s1).1;have l2:b+i < (P++(x :: A++(M++(y :: B++S)))).length:=(zj.1 s2).1;have l3:b+i < (P++(y :: A++(M++(y :: B++S)))).length:=(zj.1 s3).1;have ih:=zgL n H a b k S A B (P++[y]) (M++[x]) (i+1) Mx (by omega) (by omega) (by simp;omega) (by simp;omega) (by simp;omega) (by omega);rw[zK];simp only[zbW,gv,zi,zg,zy,za,zm,hik,decide_true,if_true,zA,e1,e2,e3,z3,zB,lsl,Q7,qh,Nat.reduceBEq,and_true,if_true,l1,l2,l3,JE s1,JE s2,zb,V.cells,zD,zP,zq,zdS,zdR,zh5,s4,
    JE s3,s5,ih,Yi,Ya,Yg]
   simp
theorem zcK (n : Nat) (H : ze) (c : V) (a b k : Nat) (P A M B S : List Int) (hB : B.length = A.length) (hk : A.length = k) (ha : a = P.length) (hb : b = P.length + A.length + M.length) (hl : P.length + A.length + M.length + B.length < lim) (hn : k + 2 <= n) :
    call n 251 [.sl 1 (iL (P++(A++(M++(B++S))))) false,.int .i64 (a:Int),.int .i64 (b:Int),.int .i64 (k:Int),c] H=some (.ret [.sl 1 (iL (P++(B++(M++(A++S))))) false],H):=by
 obtain⟨N,rfl⟩:∃ N,n=N+1:=⟨n - 1,by omega⟩;rw[zrN];unfold zuU;exact zgL N H a b k S A B P M 0 N hB (by omega) (by omega) (by omega) hl (by omega)
theorem zff(n:Nat)(H:ze)(c:V)(m:Nat):∀ (Mx:Nat) (A B P S:List Int),A≠[]->B≠[]->m=P.length+A.length->P.length+A.length+B.length < lim->A.length+B.length<=Mx->A.length+B.length+2<=n →
    zV Mx (zbX n m c) [.sl 1 (iL (P++(A++(B++S)))) false,.int .i64 (A.length:Int),.int .i64 (B.length:Int)] H=some (.ret [.sl 1 (iL (P++(B++(A++S)))) false],H)
 | 0,A,B,P,S,hA,hB,_,_,h,_=>by
   cases A with
   | nil=>exact absurd rfl hA
   | cons=>simp at h
 | Mx+1,A,B,P,S,hA,hB,hm,hl,hx,hn=>by
   have a0:0 < A.length:=Zy.2 hA;have b0:0 < B.length:=Zy.2 hB;have e1:IntKind.i64.wrap ((m:Int) - (A.length:Int))=((P.length:Nat):Int):=wN (by omega) (by omega);rw[zK];by_cases h1:A.length=B.length
   . have hne:((A.length:Int) != (B.length:Int))=false:=by simp[h1]
     have hs:=zcK n H c P.length m A.length P A [] B S h1.symm rfl rfl (by simpa using hm) (by simp;omega) (by omega);simp only[zX] at hs;simp only[zbX,gv,zi,zg,KU,za,zm,hne,zt,if_false,ZF,e1,lsl,Yi];rw[hs,WZ]
   . have hne:((A.length:Int) != (B.length:Int))=true:=by simp;omega
     by_cases h2:B.length < A.length
     ·
      have hgt:(A.length:Int) > (B.length:Int):=by omega
      obtain⟨A1,A2,rfl,hA1⟩:∃ A1 A2,A=A1++A2/\A1.length=B.length:=⟨A.take B.length,A.drop B.length,(Zu _ _).symm,by rw[z5];omega⟩;rw[zL] at *;have hs:=zcK n H c P.length m B.length P A1 A2 B S hA1.symm hA1 rfl (by omega) (by omega) (by omega);have e2:IntKind.i64.wrap (((A1.length+A2.length:Nat):Int) - (B.length:Int))=((A2.length:Nat):Int):=wN (by omega) (by omega);have ih:=zff n H c m Mx A2 A1 (P++B) S (by rintro rfl;simp at h2;omega) (by rintro rfl;simp at hA1;omega) (by simp;omega) (by simp;omega) (by omega) (by omega);simp only[List.append_assoc] at hs ih ⊢;rw[hA1] at ih;simp only[zbX,gv,zi,zg,KU,za,zm,hne,if_true,Qg,hgt,decide_true,ZF,e1,lsl,Yi];rw[hs,WZ,e2,ih]
     . have hgt:¬ (A.length:Int) > (B.length:Int):=by omega
       obtain⟨B1,B2,rfl,hB2⟩:∃ B1 B2,B=B1++B2/\B2.length=A.length:=⟨B.take (B.length - A.length),B.drop (B.length - A.length),(Zu _ _).symm,by rw[XQ];omega⟩;rw[zL] at *;have hs:=zcK n H c P.length (P.length+A.length+B1.length) A.length P A B1 B2 S hB2 rfl rfl rfl (by omega) (by omega);have e2:IntKind.i64.wrap ((m:Int)+((B1.length+B2.length:Nat):Int))=((m+(B1.length+B2.length):Nat):Int):=wN (by omega) (by omega);have e3:IntKind.i64.wrap (((m+(B1.length+B2.length):Nat):Int) - (A.length:Int))=((P.length+A.length+B1.length:Nat):Int):=wN (by omega) (by omega);have e4:IntKind.i64.wrap (((B1.length+B2.length:Nat):Int) - (A.length:Int))=((B1.length:Nat):Int):=wN (by omega) (by omega);have ih:=zff n H c m Mx B2 B1 P (A++S) (by rintro rfl;simp at hB2;omega) (by rintro rfl;simp at h1;omega) (by omega) (by omega) (by omega) (by omega);simp only[List.append_assoc] at hs ih ⊢;rw[hB2] at ih;simp only[zbX,gv,zi,zg,KU,za,zm,hne,if_true,Qg,hgt,decide_false,zt,if_false,ZF,zA,e1,e2,e3,lsl,Yi];rw[hs,WZ,e4,ih]
theorem zrQ (n : Nat) (H : ze) (c : V) (a m b : Nat) (P A B S : List Int) (hA : A ≠ []) (hB : B ≠ []) (ha : a = P.length) (hm : m = P.length + A.length) (hb : b = P.length + A.length + B.length) (hl : P.length + A.length + B.length < lim) (hn : A.length + B.length + 3 <= n) :
    call n 250 [.sl 1 (iL (P++(A++(B++S)))) false,.int .i64 (a:Int),.int .i64 (m:Int),.int .i64 (b:Int),c] H=some (.ret [.sl 1 (iL (P++(B++(A++S)))) false],H):=by
 obtain⟨N,rfl⟩:∃ N,n=N+1:=⟨n - 1,by omega⟩;have e1:IntKind.i64.wrap ((m:Int) - (a:Int))=((A.length:Nat):Int):=wN (by omega) (by omega);have e2:IntKind.i64.wrap ((b:Int) - (m:Int))=((B.length:Nat):Int):=wN (by omega) (by omega);rw[ztD];unfold zwn;rw[e1,e2];exact zff N H c m N A B P S hA hB hm hl (by omega) (by omega)
end Go.Proofs.Tryz
namespace Go.Proofs.Tryz
open Go.L Go.Rp
set_option maxRecDepth 100000
structure CmpOk(n0:Nat)(c:V)(H:ze)(K:Int->Int)(D:Int->Prop):Prop where
 ex:∃ f caps,c=.fn f caps/\okV prog 3 f=true/\QI f=true/\∀ n,n0<=n->∀ x y,D x->D y->∃ q,call n f ([.int .i64 x,.int .i64 y]++caps) H=some (.ret [.int .i64 q],H)/\(q < 0 ↔ K x < K y)
theorem adj (Q T : List Int) (y x : Int) {i j : Nat} (hi : i = Q.length) (hj : j = Q.length + 1) :
    (Q++y :: x :: T)[i]?=some y/\(Q++y :: x :: T)[j]?=some x/\(Q++y :: x :: T).set j y=Q++y :: y :: T/\(Q++y :: x :: T).set i x=Q++x :: x :: T ∧
    (Q++y :: y :: T)[i]?=some y/\(Q++x :: x :: T)[j]?=some x/\(Q++y :: y :: T).set i x=Q++x :: y :: T/\(Q++x :: x :: T).set j y=Q++x :: y :: T:=by
 have e:∀ u v:Int,Q++u :: v :: T=(Q++[u])++v :: T:=fun u v=>by simp
 have hl:∀ u:Int,j=(Q++[u]).length:=fun u=>by simp;omega
 refine⟨Y3 _ _ _ hi,?_,?_,zaC _ _ _ _ hi,Y3 _ _ _ hi,?_,zaC _ _ _ _ hi,?_⟩
 . rw[e];exact Y3 _ _ _ (hl y)
 . rw[e,zaC _ _ _ _ (hl y)];simp
 . rw[e];exact Y3 _ _ _ (hl x)
 . rw[e,zaC _ _ _ _ (hl x)];simp
section
variable {K:Int->Int} {D:Int->Prop} {H:ze} {c:V} {n0:Nat} {p:Nat->Int}
theorem zgM(hc:CmpOk n0 c H K D)(n a i:Nat)(st1:List V)(next3:List V->ze->Option (Res×ze))(hst:gv st1 1=.int .i64 (i:Int))(hi:i+1 < lim)(hn:n0<=n)(R:List Int):∀ (r:List Int) (x:Int) (b P:List Int) (j Mx:Nat),
    a=P.length->j=P.length+r.length->j+b.length+R.length+1 < lim->(∀ y∈r,D y)->D x->r.length < Mx →
    zV Mx (zdP n a c st1 next3) [.sl 1 (iL (P++(r.reverse++(x :: (b++R))))) false,.int .i64 (j:Int)] H=next3 [.sl 1 (iL (P++(zfd K r x b++R))) false,.int .i64 ((i+1:Nat):Int)] H
 | _,_,_,_,_,0,_,_,_,_,_,h=>by omega
 | [],x,b,P,j,Mx+1,ha,hj,hl,hr,hx,hM=>by
   have hja:¬ (j:Int) > (a:Int):=by simp at hj;omega
   have e1:IntKind.i64.wrap ((i:Int)+1)=((i+1:Nat):Int):=wN (by omega) hi;rw[zK];simp only[zdP,gv,zi,zg,Qg,za,zm,hja,decide_false,zt,if_false,lsl,Yi,Ya,Yg];simp only[gv] at hst;simp only[hst,zA,za,e1,zfd,List.reverse_nil,zX,Z4]
 | y :: r,x,b,P,j,Mx+1,ha,hj,hl,hr,hx,hM=>by
   obtain⟨f,caps,hcf,hok,hk,hcmp⟩:=hc.ex;have hfn:∀ k:Nat->List V->Option (Res×ze),fnK c k=k f caps:=fun k=>by rw[hcf];rfl
   simp only[zD] at hj hM;have hja:(j:Int) > (a:Int):=by omega
   have hL:P++((y :: r).reverse++(x :: (b++R)))=(P++r.reverse)++y :: x :: (b++R):=by simp
   have e1:IntKind.i64.wrap ((i:Int)+1)=((i+1:Nat):Int):=wN (by omega) hi;have e2:IntKind.i64.wrap ((j:Int) - 1)=((j - 1:Nat):Int):=wN (by omega) (by omega);obtain⟨s1,s2,s3,s4,s5,s6,s7,s8⟩:=adj (P++r.reverse) (b++R) y x (i:=j - 1) (j:=j) (by simp;omega) (by simp;omega);have l1:=(zj.1 s1).1;have l2:=(zj.1 s2).1;have l5:=(zj.1 s5).1;obtain⟨q,hq,hqk⟩:=hcmp n hn x y hx (hr y (by simp));have ih:=zgM hc n a i st1 next3 hst hi hn R r x (y :: b) P (j - 1) Mx ha (by omega) (by simp;omega) (fun z hz=>hr z (zu _ hz)) hx (by omega);rw[zK,hL];simp only[zdP,gv,zi,zg,Qg,za,zm,hja,decide_true,if_true,z3,zB,lsl,Q7,qh,Nat.reduceBEq,and_true,l1,l2,JE s1,JE s2,zb,ZF,e2,hfn,hok,hk,Yi,Ya,Yg];rw[hq,zH];simp only[zC,zy,za,zm];by_cases hxy:K x < K y
   . have hq0:q < 0:=hqk.2 hxy;simp only[hq0,decide_true,if_true,z3,zB,za,JE s1,JE s2,zb,V.cells,zD,zP,zq,zdS,zdR,zh5,s3,Q7,l1,l2,l5,JE s5,s7,if_true];rw[zfd,if_pos hxy];have hL2:(P++r.reverse)++x :: y :: (b++R)=P++(r.reverse++(x :: (y :: b++R))):=by simp
     rw[hL2];exact ih
   . have hq0:¬ q < 0:=fun h=>hxy (hqk.1 h);simp only[gv] at hst;simp only[hq0,decide_false,zt,if_false,hst,zA,za,e1];rw[zfd,if_neg hxy];simp
theorem zku(hc:CmpOk n0 c H K D)(n lo len:Nat)(hn:n0<=n)(hn2:len<=n)(hlim:lo+len+1 < lim)(P S:List Int)(hP:lo=P.length)(hD:∀ x∈rng p lo len,D x)(hS:lo+len+S.length < lim):∀ (d k Mx:Nat),1<=k->(k+d=len\/(len=0/\k=1/\d=0))->d < Mx →
    zV Mx (zbZ n lo ((lo+len:Nat):Int) c) [.sl 1 (iL (P++(sR K p lo (min k len)++(rng p (lo+k) (len - k)++S)))) false,.int .i64 ((lo+k:Nat):Int)] H=some (.ret [.sl 1 (iL (P++(sR K p lo len++S))) false],H)
 | d,k,0,_,_,h=>by omega
 | 0,k,Mx+1,h1,hk,_=>by
   have hik:¬ ((lo+k:Nat):Int) < ((lo+len:Nat):Int):=by omega
   have hmin:min k len=len:=by omega
   have hz:len - k=0:=by omega
   rw[zK];simp only[zbZ,gv,zi,zg,zy,za,zm,hik,decide_false,zt,if_false,lsl,hmin,hz,Yi];rfl
 | d+1,k,Mx+1,h1,hk,hM=>by
   have hkl:k+(d+1)=len:=by omega
   have hik:((lo+k:Nat):Int) < ((lo+len:Nat):Int):=by omega
   have hmin:min k len=k:=by omega
   have hr:rng p (lo+k) (len - k)=p (lo+k) :: rng p (lo+(k+1)) (len - (k+1)):=by
    rw[show len - k=(len - (k+1))+1 by omega,zkr,ZR]
   have ih:=zku hc n lo len hn hn2 hlim P S hP hD hS d (k+1) Mx (by omega) (by omega) (by omega);have hm2:min (k+1) len=k+1:=by omega
   rw[hm2] at ih;have hDk:∀ y∈(sR K p lo k).reverse,D y:=fun y hy=>hD y (by
    obtain⟨i,h1,h2,h3⟩:=zcJ.1 (List.mem_reverse.1 hy);exact qf.2 ⟨i,h1,by omega,h3⟩)
   have inner := zgM hc n lo (lo + k) [.sl 1 (iL (P ++ (sR K p lo k ++ (rng p (lo + k) (len - k) ++ S)))) false, .int .i64 ((lo + k : Nat) : Int)] (zV Mx (zbZ n lo ((lo + len : Nat) : Int) c)) rfl (by omega) hn (rng p (lo + (k + 1)) (len - (k + 1)) ++ S)
    (sR K p lo k).reverse (p (lo+k)) [] P (lo+k) n hP (by rw[List.length_reverse,ja];omega) (by rw[zL,zdQ];simp;omega) hDk (hD _ (qf.2 ⟨_,by omega,by omega,rfl⟩)) (by rw[List.length_reverse,ja];omega)
   rw[List.reverse_reverse,zX] at inner;rw[zK,hmin];simp only[zbZ,gv,zi,zg,zy,za,zm,hik,decide_true,if_true,lsl,Yi];have hL:P++(sR K p lo k++(rng p (lo+k) (len - k)++S))=P++(sR K p lo k++(p (lo+k) :: (rng p (lo+(k+1)) (len - (k+1))++S))):=by rw[hr];rfl
   simp only[hL] at inner ⊢;rw[inner];exact ih
theorem zkv (hc : CmpOk n0 c H K D) (n lo len : Nat) (P S : List Int) (hP : lo = P.length) (hD : ∀ x ∈ rng p lo len, D x) (hS : lo + len + S.length + 1 < lim) (hn : n0 + 1 <= n) (hn2 : len + 2 <= n) :
    call n 248 [.sl 1 (iL (P++(rng p lo len++S))) false,.int .i64 (lo:Int),.int .i64 ((lo+len:Nat):Int),c] H=some (.ret [.sl 1 (iL (P++(sR K p lo len++S))) false],H):=by
 obtain⟨N,rfl⟩:∃ N,n=N+1:=⟨n - 1,by omega⟩;have e1:IntKind.i64.wrap ((lo:Int)+1)=((lo+1:Nat):Int):=wN (by omega) (by omega);rw[ztF];unfold zwp;rw[e1];have h1:rng p lo len=sR K p lo (min 1 len)++rng p (lo+1) (len - 1):=by
  cases len with
  | zero=>simp[rng,sR]
  | succ l =>
    have:min 1 (l+1)=1:=by omega
    rw[this,zkr];simp[sR,zfd]
 rw[h1,List.append_assoc];exact zku hc N lo len (by omega) (by omega) (by omega) P S hP hD (by omega) (len - 1) 1 N (by omega) (by omega) (by omega)
theorem zfg {l : V} {body : List V -> ze -> (List V -> ze -> Option (Res × ze)) -> Option (Res × ze)} {fin : Nat -> Option (Res × ze)} {Q : Nat -> Prop} (lo hi : Nat)
    (step:∀ i j:Nat,lo<=i->i < j->j<=hi->∀ next,(Q ((i+j) / 2)/\body [l,.int .i64 (i:Int),.int .i64 (j:Int)] H next=next [l,.int .i64 (((i+j) / 2+1:Nat):Int),.int .i64 (j:Int)] H)\/(¬ Q ((i+j) / 2)/\body [l,.int .i64 (i:Int),.int .i64 (j:Int)] H next=next [l,.int .i64 (i:Int),.int .i64 (((i+j) / 2:Nat):Int)] H))
    (stop:∀ i:Nat,lo<=i->i<=hi->∀ next,body [l,.int .i64 (i:Int),.int .i64 (i:Int)] H next=fin i):∀ (M i j:Nat),j - i < M->lo<=i->i<=j->j<=hi->(i=lo\/Q (i - 1))->(j=hi\/¬ Q j) →
    ∃ r,lo<=r/\r<=hi/\(r=lo\/Q (r - 1))/\(r=hi\/¬ Q r)/\zV M body [l,.int .i64 (i:Int),.int .i64 (j:Int)] H=fin r
 | 0,i,j,h,_,_,_,_,_=>by omega
 | M+1,i,j,h,h1,h2,h3,h4,h5=>by
   by_cases hij:i=j
   . subst hij;exact⟨i,h1,h3,h4,h5,by rw[zK];exact stop i h1 h3 _⟩
   . rcases step i j h1 (by omega) h3 (zV M body) with ⟨q,e⟩|⟨q,e⟩
     . obtain⟨r,r1,r2,r3,r4,r5⟩:=zfg lo hi step stop M ((i+j) / 2+1) j (by omega) (by omega) (by omega) h3 (.inr (by simpa using q)) h5;exact⟨r,r1,r2,r3,r4,by rw[zK,e];exact r5⟩
     . obtain⟨r,r1,r2,r3,r4,r5⟩:=zfg lo hi step stop M i ((i+j) / 2) (by omega) h1 (by omega) (by omega) h4 (.inr q);exact⟨r,r1,r2,r3,r4,by rw[zK,e];exact r5⟩
end
theorem zmf(a:Int):cvt prog 3 204 (.int .i64 a)=some (.int .u64 (IntKind.u64.wrap a)):=by kernel_rfl
theorem zh6(a:Int):cvt prog 204 3 (.int .u64 a)=some (.int .i64 (IntKind.i64.wrap a)):=by kernel_rfl
theorem znG(a:Int):bop prog .shr 204 (.int .u64 a) (.int .u64 1)=some (.int .u64 (a.fdiv (2 ^ (min (1:Int).toNat 64)))):=by kernel_rfl
theorem zdT{i j:Nat}(h:i+j < lim):IntKind.i64.wrap ((IntKind.u64.wrap (((i+j:Nat):Int))).fdiv (2 ^ (min (1:Int).toNat 64)))=(((i+j) / 2:Nat):Int):=by
 have e:IntKind.u64.wrap (((i+j:Nat):Int))=((i+j:Nat):Int):=by rw[IntKind.wrap_u64];unfold lim at h;omega
 rw[e];have e2:(2:Int) ^ (min (1:Int).toNat 64)=2:=by decide
 rw[e2,Int.fdiv_eq_ediv_of_nonneg _ (by decide)];exact wN (by omega) (by omega)
end Go.Proofs.Tryz
namespace Go.Proofs.Tryz
open Go.L Go.Rp
set_option maxRecDepth 100000
noncomputable def zmg(n:Nat)(b:Int)(c v100 v138:V)(l:List (List V))(h:ze):Option (Res×ze) :=
 bd (bop prog .lss 3 v100 v138) fun a =>
 bv a fun d=>if d then
 bd (bop prog .lss 3 v138 (V.int .i64 b)) fun e =>
 bv e fun f=>if f then
 clm (call n 249 (V.sl 1 l false :: [v100,v138,(V.int .i64 b),c]) h) 1 fun g j i=>some (Res.ret (V.sl 1 g false :: []),i)
 else some (Res.ret (V.sl 1 l false :: []),h)
 else some (Res.ret (V.sl 1 l false :: []),h)
noncomputable def zpm(n:Nat)(a b:Int)(c v100 v138 v1:V)(l:List (List V))(h:ze):Option (Res×ze) :=
 bd (bop prog .lss 3 (V.int .i64 a) v1) fun d =>
 bv d fun e=>if e then
 bd (bop prog .lss 3 v1 v100) fun f =>
 bv f fun g=>if g then
 clm (call n 249 (V.sl 1 l false :: [(V.int .i64 a),v1,v100,c]) h) 1 fun i k j=>zmg n b c v100 v138 i j
 else zmg n b c v100 v138 l h
 else zmg n b c v100 v138 l h
noncomputable def zrR(n:Nat)(a m b:Int)(c v100 v101 v1:V)(l:List (List V))(hh:ze):Option (Res×ze) :=
 bd (bop prog .sub 3 v101 v1) fun d =>
 bd (bop prog .lss 3 v1 (V.int .i64 m)) fun e =>
 bv e fun f=>if f then
 bd (bop prog .lss 3 (V.int .i64 m) d) fun g =>
 bv g fun h=>if h then
 clm (call n 250 (V.sl 1 l false :: [v1,(V.int .i64 m),d,c]) hh) 1 fun i k j=>zpm n a b c v100 d v1 i j
 else zpm n a b c v100 d v1 l hh
 else zpm n a b c v100 d v1 l hh
def znH(c:V)(H:ze)(K:Int->Int)(D:Int->Prop)(n sz:Nat):Prop:=∀ (A B P S:List Int) (a m b:Nat),A≠[]->B≠[]->A.length+B.length<=sz->a=P.length->m=P.length+A.length->b=P.length+A.length+B.length->2 * b+1 < lim →
 Sd K A->Sd K B->(∀ x∈A,∀ y∈B,x < y)->(∀ x∈A,D x)->(∀ y∈B,D y)->∃ C,C.Perm (A++B)/\Sd K C ∧
  call n 249 [.sl 1 (iL (P++(A++(B++S)))) false,.int .i64 (a:Int),.int .i64 (m:Int),.int .i64 (b:Int),c] H=some (.ret [.sl 1 (iL (P++(C++S))) false],H)
section
variable {K:Int->Int} {D:Int->Prop} {H:ze} {c:V}
theorem ztH {n sz : Nat} (ih : znH c H K D n sz) (A B P S : List Int) (mid e b : Nat) (hsz : A.length + B.length <= sz) (hm : mid = P.length) (he : e = P.length + A.length) (hb : b = P.length + A.length + B.length) (hl : 2 * b + 1 < lim)
    (hA:Sd K A) (hB:Sd K B) (hlt:∀ x∈A,∀ y∈B,x < y) (dA:∀ x∈A,D x) (dB:∀ y∈B,D y):∃ C,C.Perm (A++B)/\Sd K C ∧
    zmg n b c (.int .i64 (mid:Int)) (.int .i64 (e:Int)) (iL (P++(A++(B++S)))) H=some (.ret [.sl 1 (iL (P++(C++S))) false],H):=by
 unfold zmg;by_cases h1:A=[]
 . subst h1;have hc:¬ (mid:Int) < (e:Int):=by simp at he;omega
   exact⟨B,.refl _,hB,by simp only[zy,za,zm,hc,decide_false,zt,if_false,zX]⟩
 . have hA0:0 < A.length:=Zy.2 h1;have hc:(mid:Int) < (e:Int):=by omega
   by_cases h2:B=[]
   . subst h2;have hc2:¬ (e:Int) < (b:Int):=by simp at hb;omega
     exact⟨A,by simp,hA,by simp only[zy,za,zm,hc,hc2,decide_true,decide_false,zt,if_false,if_true,zX]⟩
   . have hB0:0 < B.length:=Zy.2 h2;have hc2:(e:Int) < (b:Int):=by omega
     obtain⟨C,p,s,e1⟩:=ih A B P S mid e b h1 h2 hsz hm he hb hl hA hB hlt dA dB;refine⟨C,p,s,?_⟩;simp only[zy,za,zm,hc,hc2,decide_true,if_true];rw[e1,WZ]
theorem ztI {n sz : Nat} (ih : znH c H K D n sz) (A1 A2 B1 B2 P S : List Int) (a r mid e b : Nat) (h1z : A1.length + B1.length <= sz) (h2z : A2.length + B2.length <= sz) (ha : a = P.length) (hr : r = P.length + A1.length) (hm : mid = P.length + A1.length + B1.length) (he : e = mid + A2.length) (hb : b = e + B2.length) (hl : 2 * b + 1 < lim)
    (s1:Sd K A1) (t1:Sd K B1) (s2:Sd K A2) (t2:Sd K B2) (hlt:∀ x∈A1++A2,∀ y∈B1++B2,x < y) (dA:∀ x∈A1++A2,D x) (dB:∀ y∈B1++B2,D y):∃ C1 C2,C1.Perm (A1++B1)/\Sd K C1/\C2.Perm (A2++B2)/\Sd K C2 ∧
    zpm n a b c (.int .i64 (mid:Int)) (.int .i64 (e:Int)) (.int .i64 (r:Int)) (iL (P++(A1++(B1++(A2++(B2++S)))))) H=some (.ret [.sl 1 (iL (P++(C1++(C2++S)))) false],H):=by
 have hU:∀ C1:List Int,C1.length=A1.length+B1.length->∃ C2,C2.Perm (A2++B2)/\Sd K C2/\zmg n b c (.int .i64 (mid:Int)) (.int .i64 (e:Int)) (iL (P++(C1++(A2++(B2++S))))) H=some (.ret [.sl 1 (iL (P++(C1++(C2++S)))) false],H):=fun C1 hC=>by
  obtain⟨C2,p,s,e1⟩:=ztH ih A2 B2 (P++C1) S mid e b h2z (by simp;omega) (by simp;omega) (by simp;omega) hl s2 t2 (fun x hx y hy=>hlt x (ZA _ hx) y (ZA _ hy)) (fun x hx=>dA x (ZA _ hx)) (fun y hy=>dB y (ZA _ hy));exact⟨C2,p,s,by simpa only[List.append_assoc] using e1⟩
 unfold zpm;by_cases h1:A1=[]
 . subst h1;have hc:¬ (a:Int) < (r:Int):=by simp at hr;omega
   obtain⟨C2,p,s,e1⟩:=hU B1 (by simp);exact⟨B1,C2,.refl _,t1,p,s,by simp only[zy,za,zm,hc,decide_false,zt,if_false,zX];exact e1⟩
 . have hA0:0 < A1.length:=Zy.2 h1;have hc:(a:Int) < (r:Int):=by omega
   by_cases h2:B1=[]
   . subst h2;have hc2:¬ (r:Int) < (mid:Int):=by simp at hm;omega
     obtain⟨C2,p,s,e1⟩:=hU A1 (by simp);exact⟨A1,C2,by simp,s1,p,s,by simp only[zy,za,zm,hc,hc2,decide_true,decide_false,zt,if_false,if_true,zX];exact e1⟩
   . have hB0:0 < B1.length:=Zy.2 h2;have hc2:(r:Int) < (mid:Int):=by omega
     obtain⟨C1,p1,q1,e1⟩:=ih A1 B1 P (A2++(B2++S)) a r mid h1 h2 h1z ha hr hm (by omega) s1 t1 (fun x hx y hy=>hlt x (z9 _ hx) y (z9 _ hy)) (fun x hx=>dA x (z9 _ hx)) (fun y hy=>dB y (z9 _ hy));obtain⟨C2,p2,q2,e2⟩:=hU C1 (by rw[p1.length_eq];simp);refine⟨C1,C2,p1,q1,p2,q2,?_⟩;simp only[zy,za,zm,hc,hc2,decide_true,if_true];rw[e1,WZ,e2]
theorem ztJ {n sz : Nat} (ih : znH c H K D n sz) (A1 A2 B1 B2 P S : List Int) (a r m mid nn b : Nat) (h1z : A1.length + B1.length <= sz) (h2z : A2.length + B2.length <= sz) (ha : a = P.length) (hr : r = P.length + A1.length) (hmm : m = r + A2.length) (hm : mid = P.length + A1.length + B1.length) (hnn : nn = mid + m) (hb : b = m + B1.length + B2.length) (hl : 2 * b + 1 < lim) (hn : A2.length + B1.length + 3 <= n)
    (s1:Sd K A1) (t1:Sd K B1) (s2:Sd K A2) (t2:Sd K B2) (hlt:∀ x∈A1++A2,∀ y∈B1++B2,x < y) (dA:∀ x∈A1++A2,D x) (dB:∀ y∈B1++B2,D y):∃ C1 C2,C1.Perm (A1++B1)/\Sd K C1/\C2.Perm (A2++B2)/\Sd K C2 ∧
    zrR n a m b c (.int .i64 (mid:Int)) (.int .i64 (nn:Int)) (.int .i64 (r:Int)) (iL (P++((A1++A2)++((B1++B2)++S)))) H=some (.ret [.sl 1 (iL (P++(C1++(C2++S)))) false],H):=by
 obtain⟨C1,C2,p1,q1,p2,q2,e1⟩:=ztI ih A1 A2 B1 B2 P S a r mid (m+B1.length) b h1z h2z ha hr hm (by omega) (by omega) hl s1 t1 s2 t2 hlt dA dB;refine⟨C1,C2,p1,q1,p2,q2,?_⟩;have e2:IntKind.i64.wrap ((nn:Int) - (r:Int))=((m+B1.length:Nat):Int):=wN (by omega) (by omega);unfold zrR;simp only[ZF,za,e2,zy,zm];by_cases h1:A2=[]
 . subst h1;have hc:¬ (r:Int) < (m:Int):=by simp at hmm;omega
   simp only[hc,decide_false,zt,if_false];simpa only[z6,zX,List.append_assoc] using e1
 . have hA0:0 < A2.length:=Zy.2 h1;have hc:(r:Int) < (m:Int):=by omega
   by_cases h2:B1=[]
   . subst h2;have hc2:¬ (m:Int) < ((m+([]:List Int).length:Nat):Int):=by simp
     simp only[hc,hc2,decide_true,decide_false,zt,if_false,if_true];simpa only[z6,zX,List.append_assoc] using e1
   . have hB0:0 < B1.length:=Zy.2 h2;have hc2:(m:Int) < ((m+B1.length:Nat):Int):=by omega
     have hrot:=zrQ n H c r m (m+B1.length) (P++A1) A2 B1 (B2++S) h1 h2 (by simp;omega) (by simp;omega) (by simp;omega) (by simp;omega) hn;simp only[hc,hc2,decide_true,if_true];simp only[List.append_assoc] at hrot e1 ⊢;rw[hrot,WZ,e1]
end
end Go.Proofs.Tryz
namespace Go.Proofs.Tryz
open Go.L Go.Rp
set_option maxRecDepth 100000
theorem zb3{k:Nat}:((some k:Option Nat)≠some 0)=((k == 0)=false):=by simp
theorem zlo:(0:Nat) < 1:=by decide
theorem ole:(1:Nat)<=1:=by decide
theorem zdU(P A S:List Int){h:Nat}(h1:P.length<=h)(h2:h < P.length+A.length):(P++(A++S))[h]?=some (A.getD (h - P.length) 0):=by
 rw[zJ h1,zk (by omega),zO,zf (by omega)];rfl
theorem zb4{A:List Int}{k:Nat}(h:k < A.length):A.getD k 0∈A:=by
 rw[zO,zf h];exact ZN h
section
variable {K:Int->Int} {D:Int->Prop} {H:ze} {c:V} {n0:Nat} {p:Nat->Int}
theorem zkw(n i:Nat)(st1:List V)(hst:st1.getD 1 (.bool false)=.int .i64 (i:Int))(hi:i+1 < lim)(x:Int)(R:List Int):∀ (B P:List Int) (k Mx:Nat),k=P.length->i=k+1+B.length->B.length < Mx →
    zV Mx (zad n st1) [.sl 1 (iL (P++(x :: (B++R)))) false,.int .i64 (k:Int)] H=some (.ret [.sl 1 (iL (P++(B++(x :: R)))) false],H)
 | _,_,_,0,_,_,h=>by omega
 | [],P,k,Mx+1,hk,hi',hM=>by
   have e1:IntKind.i64.wrap ((i:Int) - 1)=((i - 1:Nat):Int):=wN (by omega) (by omega);have hc:¬ (k:Int) < ((i - 1:Nat):Int):=by simp at hi';omega
   rw[zK];simp only[zad,gv,zi,zg,hst,ZF,za,e1,zy,zm,hc,decide_false,zt,if_false,lsl,zX,Yi,Ya,Yg]
 | y :: B,P,k,Mx+1,hk,hi',hM=>by
   simp only[zD] at hi' hM;have e1:IntKind.i64.wrap ((i:Int) - 1)=((i - 1:Nat):Int):=wN (by omega) (by omega);have e2:IntKind.i64.wrap ((k:Int)+1)=((k+1:Nat):Int):=wN (by omega) (by omega);have hc:(k:Int) < ((i - 1:Nat):Int):=by omega
   obtain⟨s1,s2,s3,s4,s5,s6,s7,s8⟩:=adj P (B++R) x y hk (show k+1=P.length+1 by omega);have l1:=(zj.1 s1).1;have l2:=(zj.1 s2).1;have l6:=(zj.1 s6).1;have ih:=zkw n i st1 hst hi x R B (P++[y]) (k+1) Mx (by simp;omega) (by omega) (by omega);rw[zK,Z4];simp only[zad,gv,zi,zg,hst,ZF,zA,za,e1,e2,zy,zm,hc,decide_true,if_true,z3,zB,lsl,Q7,qh,zb3,true_and,zlo,ole,Nat.reduceBEq,and_true,l1,l2,l6,JE s1,JE s2,zb,V.cells,zD,zP,zq,zdS,zdR,zh5,s4,JE s6,s8,Yi,Ya,Yg];simpa only[List.append_assoc,Z4,zX] using ih
theorem zkx(n i:Nat)(st50:List V)(hst:st50.getD 1 (.bool false)=.int .i64 (i:Int))(x:Int):∀ (r R P:List Int) (k Mx:Nat),i=P.length->k=P.length+r.length->k+1 < lim->r.length < Mx →
    zV Mx (zae n st50) [.sl 1 (iL (P++(r.reverse++(x :: R)))) false,.int .i64 (k:Int)] H=some (.ret [.sl 1 (iL (P++(x :: (r.reverse++R)))) false],H)
 | _,_,_,_,0,_,_,_,h=>by omega
 | [],R,P,k,Mx+1,hi,hk,hl,hM=>by
   have hc:¬ (k:Int) > (i:Int):=by simp at hk;omega
   rw[zK];simp only[zae,gv,zi,zg,hst,Qg,za,zm,hc,decide_false,zt,if_false,lsl,zX,List.reverse_nil,Yi,Yg]
 | y :: r,R,P,k,Mx+1,hi,hk,hl,hM=>by
   simp only[zD] at hk hM;have e1:IntKind.i64.wrap ((k:Int) - 1)=((k - 1:Nat):Int):=wN (by omega) (by omega);have hc:(k:Int) > (i:Int):=by omega
   have hL:P++((y :: r).reverse++(x :: R))=(P++r.reverse)++y :: x :: R:=by simp
   obtain⟨s1,s2,s3,s4,s5,s6,s7,s8⟩:=adj (P++r.reverse) R y x (i:=k - 1) (j:=k) (by simp;omega) (by simp;omega);have l1:=(zj.1 s1).1;have l2:=(zj.1 s2).1;have l5:=(zj.1 s5).1;have ih:=zkx n i st50 hst x r (y :: R) P (k - 1) Mx hi (by omega) (by omega) (by omega);rw[zK,hL];simp only[zae,gv,zi,zg,hst,ZF,za,e1,Qg,zm,hc,decide_true,if_true,z3,zB,lsl,Q7,qh,zb3,true_and,zlo,ole,Nat.reduceBEq,and_true,l1,l2,l5,JE s1,JE s2,zb,V.cells,zD,zP,zq,zdS,zdR,zh5,s3,JE s5,s7,Yi,Yg];simpa only[List.append_assoc,Yb,Z4,zX] using ih
theorem ztK (hc : CmpOk n0 c H K D) (n : Nat) (x : Int) (B P S : List Int) (a m b : Nat) (ha : a = P.length) (hm : m = P.length + 1) (hb : b = P.length + 1 + B.length) (hl : 2 * b + 1 < lim) (hB : Sd K B) (hlt : ∀ y ∈ B, x < y) (dx : D x) (dB : ∀ y ∈ B, D y) (hn : n0 <= n) (hn2 : B.length + 2 <= n) :
    ∃ C,C.Perm (x :: B)/\Sd K C/\zV n (zbY n a c) [.sl 1 (iL (P++(x :: (B++S)))) false,.int .i64 (m:Int),.int .i64 (b:Int)] H=some (.ret [.sl 1 (iL (P++(C++S))) false],H):=by
 obtain⟨f,caps,hcf,hok,hk,hcmp⟩:=hc.ex;have hfn:∀ k:Nat->List V->Option (Res×ze),fnK c k=k f caps:=fun k=>by rw[hcf];rfl
 have gx:(P++(x :: (B++S)))[a]?=some x:=Y3 _ _ _ ha;have gB:∀ h,m<=h->h < b->(P++(x :: (B++S)))[h]?=some (B.getD (h - m) 0):=fun h h1 h2=>by
  have:=zdU (P++[x]) B S (h:=h) (by simp;omega) (by simp;omega);simp only[List.append_assoc,Z4,zX,zL,ZG] at this;rw[this,hm]
 obtain ⟨r, r1, r2, r3, r4, r5⟩ := zfg (H := H) (l := .sl 1 (iL (P ++ (x :: (B ++ S)))) false) (body := zbY n a c) (fin := fun i => zV n (zad n [.sl 1 (iL (P ++ (x :: (B ++ S)))) false, .int .i64 (i : Int), .int .i64 (i : Int)]) [.sl 1 (iL (P ++ (x :: (B ++ S)))) false, .int .i64 (a : Int)] H) (Q := fun h => K (B.getD (h - m) 0) < K x) m b
  (fun i j h1 h2 h3 next=>by
   have hij:(i:Int) < (j:Int):=by omega
   have e1:IntKind.i64.wrap ((i:Int)+(j:Int))=((i+j:Nat):Int):=wN (by omega) (by omega);have g1:=gB ((i+j) / 2) (by omega) (by omega);have l1:=(zj.1 g1).1;have l2:=(zj.1 gx).1;have e2:IntKind.i64.wrap ((((i+j) / 2:Nat):Int)+1)=(((i+j) / 2+1:Nat):Int):=wN (by omega) (by omega);obtain⟨q,hq,hqk⟩:=hcmp n hn (B.getD ((i+j) / 2 - m) 0) x (dB _ (zb4 (by omega))) dx;simp only[zbY,gv,zi,zg,zy,za,zm,hij,decide_true,if_true,zA,e1,zmf,znG,zh6,zdT (show i+j < lim by omega),z3,zB,lsl,Q7,qh,zb3,true_and,zlo,ole,Nat.reduceBEq,and_true,l1,l2,JE g1,JE gx,zb,hfn,hok,hk,Yi,Ya,Yg];rw[hq,zH];simp only[zC,zy,za,zm,zA,e2];by_cases h:K (B.getD ((i+j) / 2 - m) 0) < K x
   . exact .inl ⟨h,by simp only[hqk.2 h,decide_true,if_true]⟩
   . exact .inr ⟨h,by simp only[show ¬ q < 0 from fun h'=>h (hqk.1 h'),decide_false,zt,if_false]⟩)
  (fun i h1 h2 next=>by
   have hii:¬ (i:Int) < (i:Int):=by omega
   simp only[zbY,gv,zi,zg,zy,za,zm,hii,decide_false,zt,if_false,lsl,Yi,Ya,Yg])
  n m b (by omega) (zn _) (by omega) (zn _) (.inl rfl) (.inl rfl)
 rw[r5];have hB2:B=B.take (r - m)++B.drop (r - m):=(Zu _ _).symm;refine⟨B.take (r - m)++x :: B.drop (r - m),?_,zpj hB (by omega) hlt ?_ ?_,?_⟩
 . refine List.perm_middle.trans ?_;rw[<- hB2]
 . rcases r3 with h|h
   . exact .inl (by omega)
   . exact .inr (by rw[show r - m - 1=r - 1 - m by omega];exact h)
 . rcases r4 with h|h
   . exact .inl (by omega)
   . exact .inr h
 . have:=zkw (H:=H) n r [.sl 1 (iL (P++(x :: (B++S)))) false,.int .i64 (r:Int),.int .i64 (r:Int)] rfl (by omega) x (B.drop (r - m)++S) (B.take (r - m)) P a n ha (by rw[z5];omega) (by rw[z5];omega);have e:B++S=B.take (r - m)++(B.drop (r - m)++S):=by rw[<- List.append_assoc,<- hB2]
   rw[e];rw[e] at this;rw[this];simp
theorem zrS (hc : CmpOk n0 c H K D) (n : Nat) (x : Int) (A P S : List Int) (a m : Nat) (ha : a = P.length) (hm : m = P.length + A.length) (hl : 2 * (m + 1) + 1 < lim) (hA : Sd K A) (hlt : ∀ y ∈ A, y < x) (dx : D x) (dA : ∀ y ∈ A, D y) (hn : n0 <= n) (hn2 : A.length + 2 <= n) :
    ∃ C,C.Perm (A++[x])/\Sd K C/\zV n (zaf n m c) [.sl 1 (iL (P++(A++(x :: S)))) false,.int .i64 (a:Int),.int .i64 (m:Int)] H=some (.ret [.sl 1 (iL (P++(C++S))) false],H):=by
 obtain⟨f,caps,hcf,hok,hk,hcmp⟩:=hc.ex;have hfn:∀ k:Nat->List V->Option (Res×ze),fnK c k=k f caps:=fun k=>by rw[hcf];rfl
 have gx:(P++(A++(x :: S)))[m]?=some x:=by rw[<- List.append_assoc];exact Y3 _ _ _ (by simp;omega)
 have gA:∀ h,a<=h->h < m->(P++(A++(x :: S)))[h]?=some (A.getD (h - a) 0):=fun h h1 h2=>by
  rw[zdU P A (x :: S) (h:=h) (by omega) (by omega),ha]
 obtain ⟨r, r1, r2, r3, r4, r5⟩ := zfg (H := H) (l := .sl 1 (iL (P ++ (A ++ (x :: S)))) false) (body := zaf n m c) (fin := fun i => zV n (zae n [.sl 1 (iL (P ++ (A ++ (x :: S)))) false, .int .i64 (i : Int), .int .i64 (i : Int)]) [.sl 1 (iL (P ++ (A ++ (x :: S)))) false, .int .i64 (m : Int)] H) (Q := fun h => ¬ K x < K (A.getD (h - a) 0)) a m
  (fun i j h1 h2 h3 next=>by
   have hij:(i:Int) < (j:Int):=by omega
   have e1:IntKind.i64.wrap ((i:Int)+(j:Int))=((i+j:Nat):Int):=wN (by omega) (by omega);have g1:=gA ((i+j) / 2) (by omega) (by omega);have l1:=(zj.1 g1).1;have l2:=(zj.1 gx).1;have e2:IntKind.i64.wrap ((((i+j) / 2:Nat):Int)+1)=(((i+j) / 2+1:Nat):Int):=wN (by omega) (by omega);obtain⟨q,hq,hqk⟩:=hcmp n hn x (A.getD ((i+j) / 2 - a) 0) dx (dA _ (zb4 (by omega)));simp only[zaf,gv,zi,zg,zy,za,zm,hij,decide_true,if_true,zA,e1,zmf,znG,zh6,zdT (show i+j < lim by omega),z3,zB,lsl,Q7,qh,zb3,true_and,zlo,ole,Nat.reduceBEq,and_true,l1,l2,JE g1,JE gx,zb,hfn,hok,hk,Yi,Ya,Yg];rw[hq,zH];simp only[zC,zy,za,Yu,zm,zA,e2];by_cases h:K x < K (A.getD ((i+j) / 2 - a) 0)
   . exact .inr ⟨fun h'=>h' h,by simp only[hqk.2 h,decide_true,Jv,zt,if_false]⟩
   . exact .inl ⟨h,by simp only[show ¬ q < 0 from fun h'=>h (hqk.1 h'),decide_false,Bool.not_false,if_true]⟩)
  (fun i h1 h2 next=>by
   have hii:¬ (i:Int) < (i:Int):=by omega
   simp only[zaf,gv,zi,zg,zy,za,zm,hii,decide_false,zt,if_false,lsl,Yi,Ya,Yg])
  n a m (by omega) (zn _) (by omega) (zn _) (.inl rfl) (.inl rfl)
 rw[r5];have hA2:A=A.take (r - a)++A.drop (r - a):=(Zu _ _).symm;refine⟨A.take (r - a)++x :: A.drop (r - a),?_,zme hA (by omega) hlt ?_ ?_,?_⟩
 . refine List.perm_middle.trans ?_;rw[<- hA2];exact(List.perm_append_singleton x A).symm
 . rcases r3 with h|h
   . exact .inl (by omega)
   . exact .inr (by rw[show r - a - 1=r - 1 - a by omega];exact h)
 . rcases r4 with h|h
   . exact .inl (by omega)
   . exact .inr (by simpa using h)
 . have:=zkx (H:=H) n r [.sl 1 (iL (P++(A++(x :: S)))) false,.int .i64 (r:Int),.int .i64 (r:Int)] rfl x (A.drop (r - a)).reverse S (P++A.take (r - a)) m n (by simp;omega) (by simp;omega) (by omega) (by simp;omega);rw[List.reverse_reverse] at this;have e:P++(A++(x :: S))=(P++A.take (r - a))++(A.drop (r - a)++(x :: S)):=by
    conv=>lhs;rw[hA2]
    simp only[List.append_assoc]
   rw[e];rw[e] at this;rw[this];simp
end
end Go.Proofs.Tryz
namespace Go.Proofs.Tryz
open Go.L Go.Rp
set_option maxRecDepth 100000
section
variable {K:Int->Int} {D:Int->Prop} {H:ze} {c:V} {n0:Nat} {p:Nat->Int}
theorem zmh (hc : CmpOk n0 c H K D) (n : Nat) (A B P S : List Int) (a m b mid nn lo hi : Nat) (body : List V -> ze -> (List V -> ze -> Option (Res × ze)) -> Option (Res × ze))
    (hbody:∀ st hh next,body st hh next=jE n a m b c (.int .i64 (mid:Int)) (.int .i64 (nn:Int)) (.int .i64 ((nn - 1:Nat):Int)) st hh next)
    (ha:a=P.length) (hm:m=P.length+A.length) (hb:b=P.length+A.length+B.length) (hmid:mid=(a+b) / 2) (hnn:nn=mid+m) (hl:2 * b+1 < lim)
    (hlo:(m > mid/\lo=nn - b/\hi=mid)\/(m<=mid/\lo=a/\hi=m)) (hA0:0 < A.length) (hB0:0 < B.length)
    (dA:∀ x∈A,D x) (dB:∀ y∈B,D y) (hn:n0<=n) (hn2:hi < n+lo) :
    ∃ r,a<=r/\r<=m/\r<=mid/\mid<=r+B.length/\(r - a=0\/B.length<=mid - r\/¬ K (B.getD (mid - r) 0) < K (A.getD (r - a - 1) 0))/\(mid - r=0\/A.length<=r - a\/K (B.getD (mid - r - 1) 0) < K (A.getD (r - a) 0)) ∧
     zV n body [.sl 1 (iL (P++(A++(B++S)))) false,.int .i64 (lo:Int),.int .i64 (hi:Int)] H=zrR n a m b c (.int .i64 (mid:Int)) (.int .i64 (nn:Int)) (.int .i64 (r:Int)) (iL (P++(A++(B++S)))) H:=by
 obtain⟨f,caps,hcf,hok,hk,hcmp⟩:=hc.ex;have hfn:∀ k:Nat->List V->Option (Res×ze),fnK c k=k f caps:=fun k=>by rw[hcf];rfl
 have gA:∀ h,a<=h->h < m->(P++(A++(B++S)))[h]?=some (A.getD (h - a) 0):=fun h h1 h2=>by
  rw[zdU P A (B++S) (h:=h) (by omega) (by omega),ha]
 have gB:∀ h,m<=h->h < b->(P++(A++(B++S)))[h]?=some (B.getD (h - m) 0):=fun h h1 h2=>by
  have:=zdU (P++A) B S (h:=h) (by simp;omega) (by simp;omega);simp only[List.append_assoc,zL] at this;rw[this,hm]
 have hlom:a<=lo/\lo<=hi/\hi<=m/\hi<=mid/\mid<=lo+B.length:=by
  rcases hlo with ⟨h1,h2,h3⟩|⟨h1,h2,h3⟩ <;> omega
 obtain ⟨r, r1, r2, r3, r4, r5⟩ := zfg (H := H) (l := .sl 1 (iL (P ++ (A ++ (B ++ S)))) false) (body := body) (fin := fun i => zrR n a m b c (.int .i64 (mid : Int)) (.int .i64 (nn : Int)) (.int .i64 (i : Int)) (iL (P ++ (A ++ (B ++ S)))) H) (Q := fun h => ¬ K (B.getD (mid - 1 - h) 0) < K (A.getD (h - a) 0)) lo hi
  (fun i j h1 h2 h3 next=>by
   rw[hbody];have hij:(i:Int) < (j:Int):=by omega
   have e1:IntKind.i64.wrap ((i:Int)+(j:Int))=((i+j:Nat):Int):=wN (by omega) (by omega);have g1:=gA ((i+j) / 2) (by omega) (by omega);have g2:=gB (nn - 1 - (i+j) / 2) (by omega) (by omega);have l1:=(zj.1 g1).1;have l2:=(zj.1 g2).1;have e2:IntKind.i64.wrap ((((i+j) / 2:Nat):Int)+1)=(((i+j) / 2+1:Nat):Int):=wN (by omega) (by omega);have e3:IntKind.i64.wrap (((nn - 1:Nat):Int) - (((i+j) / 2:Nat):Int))=((nn - 1 - (i+j) / 2:Nat):Int):=wN (by omega) (by omega);have e4:nn - 1 - (i+j) / 2 - m=mid - 1 - (i+j) / 2:=by omega
   rw[e4] at g2;obtain⟨q,hq,hqk⟩:=hcmp n hn (B.getD (mid - 1 - (i+j) / 2) 0) (A.getD ((i+j) / 2 - a) 0) (dB _ (zb4 (by omega))) (dA _ (zb4 (by omega)));simp only[jE,gv,zi,zg,zy,za,zm,hij,decide_true,if_true,zA,e1,zmf,znG,zh6,zdT (show i+j < lim by omega),ZF,e3,z3,zB,lsl,Q7,qh,zb3,true_and,zlo,ole,Nat.reduceBEq,and_true,l1,l2,JE g1,JE g2,zb,hfn,hok,hk,Yi,Ya,Yg];rw[hq,zH];simp only[zC,zy,za,Yu,zm,zA,e2];by_cases h:K (B.getD (mid - 1 - (i+j) / 2) 0) < K (A.getD ((i+j) / 2 - a) 0)
   . exact .inr ⟨fun h'=>h' h,by simp only[hqk.2 h,decide_true,Jv,zt,if_false]⟩
   . exact .inl ⟨h,by simp only[show ¬ q < 0 from fun h'=>h (hqk.1 h'),decide_false,Bool.not_false,if_true]⟩)
  (fun i h1 h2 next=>by
   have hii:¬ (i:Int) < (i:Int):=by omega
   rw[hbody];simp only[jE,gv,zi,zg,zy,za,zm,hii,decide_false,zt,if_false,lsl,zrR,zpm,zmg,Yi,Ya,Yg])
  n lo hi (by omega) (zn _) hlom.2.1 (zn _) (.inl rfl) (.inl rfl)
 refine⟨r,by omega,by omega,by omega,by omega,?_,?_,r5⟩
 . rcases r3 with h|h
   . rcases hlo with ⟨h1,h2,h3⟩|⟨h1,h2,h3⟩
     . exact .inr (.inl (by omega))
     . exact .inl (by omega)
   . by_cases h0:r - a=0
     . exact .inl h0
     . refine .inr (.inr ?_);rw[show mid - r=mid - 1 - (r - 1) by omega,show r - a - 1=r - 1 - a by omega];exact h
 . rcases r4 with h|h
   . rcases hlo with ⟨h1,h2,h3⟩|⟨h1,h2,h3⟩
     . exact .inl (by omega)
     . exact .inr (.inl (by omega))
   . refine .inr (.inr ?_);rw[show mid - r - 1=mid - 1 - r by omega];simpa using h
theorem zgN (hc : CmpOk n0 c H K D) : ∀ (sz n : Nat), n0 + 2 * sz + 8 <= n -> znH c H K D n sz
 | 0,n,_=>fun A B P S a m b hA hB hsz=>by
   have:=Zy.2 hA;omega
 | sz+1,n,hn=>fun A B P S a m b hA hB hsz ha hm hb hl sA sB hlt dA dB=>by
   obtain⟨N,rfl⟩:∃ N,n=N+1:=⟨n - 1,by omega⟩;have ih:=zgN hc sz N (by omega);have hA0:=Zy.2 hA;have hB0:=Zy.2 hB;have e1:IntKind.i64.wrap ((m:Int) - (a:Int))=((A.length:Nat):Int):=wN (by omega) (by omega);have e2:IntKind.i64.wrap ((b:Int) - (m:Int))=((B.length:Nat):Int):=wN (by omega) (by omega);have e3:IntKind.i64.wrap ((a:Int)+(b:Int))=((a+b:Nat):Int):=wN (by omega) (by omega);rw[ztE];unfold zwo Yi;rw[e1,e2,e3];by_cases h1:A.length=1
   . obtain⟨x,rfl⟩:=ZS.1 h1;have hc1:((([x]:List Int).length:Int) == 1)=true:=by simp
     rw[if_pos hc1];obtain⟨C,p,s,e⟩:=ztK hc N x B P S a m b ha (by simpa using hm) (by simpa using hb) hl sB (fun y hy=>hlt x (by simp) y hy) (dA x (by simp)) dB (by omega) (by omega);exact⟨C,by simpa using p,s,by simpa using e⟩
   . have hc1:¬ (((A.length:Nat):Int) == 1)=true:=by simp;omega
     rw[if_neg hc1];by_cases h2:B.length=1
     . obtain⟨x,rfl⟩:=ZS.1 h2;have hc2:((([x]:List Int).length:Int) == 1)=true:=by simp
       rw[if_pos hc2];obtain⟨C,p,s,e⟩:=zrS hc N x A P S a m ha hm (by simp at hb;omega) sA (fun y hy=>hlt y hy x (by simp)) (dB x (by simp)) dA (by omega) (by simp at hsz;omega);exact⟨C,p,s,by simpa using e⟩
     . have hc2:¬ (((B.length:Nat):Int) == 1)=true:=by simp;omega
       rw[if_neg hc2];obtain⟨mid,hmid⟩:∃ mid,mid=(a+b) / 2:=⟨_,rfl⟩;obtain⟨nn,hnn⟩:∃ nn,nn=mid+m:=⟨_,rfl⟩;have e4:IntKind.i64.wrap ((mid:Int)+(m:Int))=((nn:Nat):Int):=wN (by omega) (by omega);have e5:IntKind.i64.wrap ((nn:Int) - 1)=((nn - 1:Nat):Int):=wN (by omega) (by omega);have e6:=zdT (show a+b < lim by omega);rw[<- hmid] at e6;simp only[znG,za,zh6,e6,zA,e4,Qg,zm];have key:∀ (lo hi:Nat) (body:List V->ze->(List V->ze->Option (Res×ze))->Option (Res×ze)),(∀ st hh next,body st hh next=jE N a m b c (.int .i64 (mid:Int)) (.int .i64 (nn:Int)) (.int .i64 ((nn - 1:Nat):Int)) st hh next) →
           ((m > mid/\lo=nn - b/\hi=mid)\/(m<=mid/\lo=a/\hi=m))->∃ C,C.Perm (A++B)/\Sd K C/\zV N body [.sl 1 (iL (P++(A++(B++S)))) false,.int .i64 (lo:Int),.int .i64 (hi:Int)] H=some (.ret [.sl 1 (iL (P++(C++S))) false],H):=fun lo hi body hbody hlo=>by
        obtain⟨r,r1,r2,r3,r4,r5,r6,r7⟩:=zmh hc N A B P S a m b mid nn lo hi body hbody ha hm hb hmid hnn hl hlo hA0 hB0 dA dB (by omega) (by omega);have hAt:A=A.take (r - a)++A.drop (r - a):=(Zu _ _).symm;have hBt:B=B.take (mid - r)++B.drop (mid - r):=(Zu _ _).symm;have hcr:=zwq sA sB (by omega) (by omega) hlt r5 r6;have tA:(A.take (r - a)).length=r - a:=by rw[z5];omega
        have tB:(B.take (mid - r)).length=mid - r:=by rw[z5];omega
        have dA':(A.drop (r - a)).length=A.length - (r - a):=XQ;have dB':(B.drop (mid - r)).length=B.length - (mid - r):=XQ
        obtain ⟨C1, C2, p1, q1, p2, q2, e⟩ := ztJ ih (A.take (r - a)) (A.drop (r - a)) (B.take (mid - r)) (B.drop (mid - r)) P S a r m mid nn b (by omega) (by omega) ha (by omega) (by omega) (by omega) hnn (by omega) hl (by omega)
         (sA.sublist (JX _ _)) (sB.sublist (JX _ _)) (sA.sublist (QZ _ _)) (sB.sublist (QZ _ _)) (by rw[<- hAt,<- hBt];exact hlt) (by rw[<- hAt];exact dA) (by rw[<- hBt];exact dB)
        rw[<- hAt,<- hBt] at e;refine⟨C1++C2,?_,ZO.2 ⟨q1,q2,fun u hu v hv=>hcr u (p1.mem_iff.1 hu) v (p2.mem_iff.1 hv)⟩,?_⟩
        . refine(p1.append p2).trans ?_
          conv=>rhs;rw[hAt,hBt]
          simp only[List.append_assoc];refine List.Perm.append_left _ ?_;rw[<- List.append_assoc,<- List.append_assoc];exact List.Perm.append_right _ List.perm_append_comm
        . rw[r7,e];simp only[List.append_assoc]
       by_cases hg:(m:Int) > (mid:Int)
       . have e7:IntKind.i64.wrap ((nn:Int) - (b:Int))=((nn - b:Nat):Int):=wN (by omega) (by omega);simp only[hg,decide_true,if_true,ZF,za,e7,e5];exact key (nn - b) mid _ (fun _ _ _=>rfl) (.inl ⟨by omega,rfl,rfl⟩)
       . simp only[hg,decide_false,zt,if_false,ZF,za,e5];exact key a m _ (fun _ _ _=>rfl) (.inr ⟨by omega,rfl,rfl⟩)
theorem zrT (hp : zh2 p) (hc : CmpOk n0 c H K D) (n lo i j : Nat) (P S : List Int) (hP : lo = P.length) (hi : 0 < i) (hj : 0 < j) (hl : 2 * (lo + i + j) + 1 < lim) (hD : ∀ x ∈ rng p lo (i + j), D x) (hn : n0 + 2 * (i + j) + 8 <= n) :
    call n 249 [.sl 1 (iL (P++(sR K p lo i++(sR K p (lo+i) j++S)))) false,.int .i64 (lo:Int),.int .i64 ((lo+i:Nat):Int),.int .i64 ((lo+i+j:Nat):Int),c] H=some (.ret [.sl 1 (iL (P++(sR K p lo (i+j)++S))) false],H):=by
 have hne:∀ l k,0 < k->sR K p l k≠[]:=fun l k hk h=>by have:=ja (K:=K) (p:=p) l k;rw[h] at this;simp at this;omega
 obtain ⟨C, q, s, e⟩ := zgN hc (i + j) n hn (sR K p lo i) (sR K p (lo + i) j) P S lo (lo + i) (lo + i + j) (hne _ _ hi) (hne _ _ hj) (by rw [ja, ja]; omega) hP (by rw [ja]; omega) (by rw [ja, ja]; omega) hl (zks hp _ _) (zks hp _ _)
  (fun x hx y hy=>zwr hp hx hy) (fun x hx=>hD x (zaB (zn _) (by omega) (qf.2 (zcJ.1 hx)))) (fun x hx=>hD x (zaB (Nat.le_add_right _ _) (by omega) (qf.2 (zcJ.1 hx))))
 rw[e,ztG hp q s]
end
end Go.Proofs.Tryz
namespace Go.Proofs.Tryz
open Go.L Go.Rp
set_option maxRecDepth 100000
@[simp] theorem KY(a b:Int):bop prog .mul 3 (.int .i64 a) (.int .i64 b)=some (.int .i64 (IntKind.i64.wrap (a * b))):=by kernel_rfl
section
variable {K:Int->Int} {D:Int->Prop} {H:ze} {c:V} {n0:Nat} {p:Nat->Int}
theorem jF{bs:Nat}(hb:0 < bs)(f lo len:Nat)(h:bs<=len)(hf:len<=f):JM K p bs f lo len=sR K p lo bs++JM K p bs f (lo+bs) (len - bs):=by
 rcases ZX bs len with h1|h1
 . exact zpl hb f lo len h1 hf
 . obtain rfl:len=bs:=by omega
   rw[WM f lo len (zn _) (by omega),X8,WM f _ 0 (by omega) (by omega)];simp[sR]
theorem zfh(hc:CmpOk n0 c H K D)(n k f:Nat)(hD:∀ x∈rng p 0 k,D x)(hl:2 * k+100 < lim)(hn:n0+k+25<=n)(hf:k<=f)(hf0:0 < f):∀ (M len a:Nat) (P:List Int),a=P.length->a+len=k->len < M->∃ u v:Nat,
    zV M (zb0 n k c) [.sl 1 (iL (P++rng p a len)) false,.int .i64 (a:Int),.int .i64 ((a+20:Nat):Int)] H=zV n (Kh n k c) [.sl 1 (iL (P++JM K p 20 f a len)) false,.int .i64 20,.int .i64 (u:Int),.int .i64 (v:Int)] H
 | 0,_,_,_,_,_,h=>by omega
 | M+1,len,a,P,ha,hk,hM=>by
   rw[zK];by_cases h:20<=len
   . have h1:((a+20:Nat):Int)<=(k:Int):=by omega
     have e1:IntKind.i64.wrap (((a+20:Nat):Int)+20)=((a+20+20:Nat):Int):=wN (by omega) (by omega);have hr:rng p a len=rng p a 20++rng p (a+20) (len - 20):=by rw[<- zh3];congr 1;omega
     have hi:=zkv hc n a 20 P (rng p (a+20) (len - 20)) ha (fun x hx=>hD x (zaB (by omega) (by omega) hx)) (by rw[zdQ];omega) (by omega) (by omega);obtain⟨u,v,e⟩:=zfh hc n k f hD hl hn hf hf0 M (len - 20) (a+20) (P++sR K p a 20) (by rw[zL,ja];omega) (by omega) (by omega);refine⟨u,v,?_⟩;simp only[zb0,gv,zi,zg,KT,za,zm,h1,decide_true,if_true,lsl,Yi];rw[hr,hi,WZ];simp only[zA,za,e1];rw[jF (by omega) f a len h (by omega),<- List.append_assoc,<- List.append_assoc];exact e
   . have h1:¬ ((a+20:Nat):Int)<=(k:Int):=by omega
     have hi:=zkv hc n a len P [] ha (fun x hx=>hD x (zaB (by omega) (by omega) hx)) (by simp;omega) (by omega) (by omega);rw[z6,z6,hk] at hi;refine⟨a,a+20,?_⟩;simp only[zb0,gv,zi,zg,KT,za,zm,h1,decide_false,zt,if_false,lsl,Yi];rw[hi,WZ,WM f a len (by omega) hf0]
theorem zfi(hp:zh2 p)(hc:CmpOk n0 c H K D)(n k f bs:Nat)(st14:List V)(next16:List V->ze->Option (Res×ze))(hst:st14.getD 1 (.bool false)=.int .i64 (bs:Int))(hb:0 < bs)(hbk:bs < k)(hD:∀ x∈rng p 0 k,D x)(hl:4 * k+100 < lim)(hn:n0+2 * k+8<=n)(hf:k<=f):∀ (M len a:Nat) (P:List Int),a=P.length->a+len=k->len < M->∃ u v:Nat,
    zV M (zaA n k c st14 next16) [.sl 1 (iL (P++JM K p bs f a len)) false,.int .i64 (a:Int),.int .i64 ((a+2 * bs:Nat):Int)] H=next16 [.sl 1 (iL (P++JM K p (2 * bs) f a len)) false,.int .i64 ((2 * bs:Nat):Int),.int .i64 (u:Int),.int .i64 (v:Int)] H
 | 0,_,_,_,_,_,h=>by omega
 | M+1,len,a,P,ha,hk,hM=>by
   rw[zK];have e1:IntKind.i64.wrap ((a:Int)+(bs:Int))=((a+bs:Nat):Int):=wN (by omega) (by omega);have e2:IntKind.i64.wrap (2 * (bs:Int))=((2 * bs:Nat):Int):=wN (by omega) (by omega);have e3:IntKind.i64.wrap ((bs:Int) * 2)=((2 * bs:Nat):Int):=wN (by omega) (by omega);by_cases h:2 * bs<=len
   . have h1:((a+2 * bs:Nat):Int)<=(k:Int):=by omega
     have e4:IntKind.i64.wrap (((a+2 * bs:Nat):Int)+((2 * bs:Nat):Int))=((a+2 * bs+2 * bs:Nat):Int):=wN (by omega) (by omega);have hs:=zrT hp hc n a bs bs P (JM K p bs f (a+bs+bs) (len - bs - bs)) ha hb hb (by omega) (fun x hx=>hD x (zaB (by omega) (by omega) hx)) (by omega);obtain⟨u,v,e⟩:=zfi hp hc n k f bs st14 next16 hst hb hbk hD hl hn hf M (len - 2 * bs) (a+2 * bs) (P++sR K p a (2 * bs)) (by rw[zL,ja];omega) (by omega) (by omega);refine⟨u,v,?_⟩;rw[jF hb f a len (by omega) (by omega),jF hb f (a+bs) (len - bs) (by omega) (by omega),jF (bs:=2 * bs) (by omega) f a len h (by omega)];simp only[zaA,gv,zi,zg,hst,KT,za,zm,h1,decide_true,if_true,zA,e1,lsl,Yi];rw[show ((a+bs+bs:Nat):Int)=((a+2 * bs:Nat):Int) by omega] at hs;rw[hs,WZ];simp only[KY,zA,za,e2,e4];rw[show bs+bs=2 * bs by omega,show a+bs+bs=a+2 * bs by omega,show len - bs - bs=len - 2 * bs by omega,<- List.append_assoc,<- List.append_assoc];exact e
   . have h1:¬ ((a+2 * bs:Nat):Int)<=(k:Int):=by omega
     refine⟨a,a+2 * bs,?_⟩;simp only[zaA,gv,zi,zg,hst,KT,za,zm,h1,decide_false,zt,if_false,zA,e1,zy,lsl,Yi];by_cases h2:bs < len
     . have h3:((a+bs:Nat):Int) < (k:Int):=by omega
       have hs:=zrT hp hc n a bs (len - bs) P [] ha hb (by omega) (by omega) (fun x hx=>hD x (zaB (by omega) (by omega) hx)) (by omega);rw[z6,z6,show a+bs+(len - bs)=k by omega,show bs+(len - bs)=len by omega] at hs;simp only[h3,decide_true,if_true];rw[jF hb f a len (by omega) (by omega),WM f (a+bs) (len - bs) (by omega) (by omega),WM (bs:=2 * bs) f a len (by omega) (by omega),hs,WZ];simp only[KY,za,e3]
     . have h3:¬ ((a+bs:Nat):Int) < (k:Int):=by omega
       simp only[h3,decide_false,zt,if_false,KY,za,e3];rw[WM f a len (by omega) (by omega),WM (bs:=2 * bs) f a len (by omega) (by omega)]
theorem zky(hp:zh2 p)(hc:CmpOk n0 c H K D)(n k f:Nat)(hD:∀ x∈rng p 0 k,D x)(hl:4 * k+100 < lim)(hn:n0+2 * k+8<=n)(hf:k<=f)(hf0:0 < f):∀ (M bs u v:Nat),0 < bs->k < M+bs->0 < M →
    zV M (Kh n k c) [.sl 1 (iL (JM K p bs f 0 k)) false,.int .i64 (bs:Int),.int .i64 (u:Int),.int .i64 (v:Int)] H=some (.ret [.sl 1 (iL (sR K p 0 k)) false],H)
 | 0,_,_,_,_,_,h=>by omega
 | M+1,bs,u,v,hb,hM,_=>by
   rw[zK];by_cases h:bs < k
   . have h1:(bs:Int) < (k:Int):=by omega
     have e2:IntKind.i64.wrap (2 * (bs:Int))=((2 * bs:Nat):Int):=wN (by omega) (by omega);obtain⟨u',v',e⟩:=zfi hp hc n k f bs [.sl 1 (iL (JM K p bs f 0 k)) false,.int .i64 (bs:Int),.int .i64 (u:Int),.int .i64 (v:Int)] (zV M (Kh n k c)) rfl hb h hD hl hn hf n k 0 [] rfl (by omega) (by omega);have ih:=zky hp hc n k f hD hl hn hf hf0 M (2 * bs) u' v' (by omega) (by omega) (by omega);simp only[zX,zq] at e;simp only[Kh,gv,zi,zg,zy,za,zm,h1,decide_true,if_true,KY,e2,lsl,Yi];exact e.trans ih
   . have h1:¬ (bs:Int) < (k:Int):=by omega
     simp only[Kh,gv,zi,zg,zy,za,zm,h1,decide_false,zt,if_false,lsl,Yi];rw[WM f 0 k (by omega) hf0]
theorem zpn (hp : zh2 p) (hc : CmpOk n0 c H K D) (n k : Nat) (hD : ∀ x ∈ rng p 0 k, D x) (hl : 4 * k + 100 < lim) (hn : n0 + 2 * k + 40 <= n) :
    call n 240 [.sl 1 (iL (rng p 0 k)) false,c] H=some (.ret [.sl 1 (iL (sR K p 0 k)) false],H):=by
 obtain⟨N,rfl⟩:∃ N,n=N+2:=⟨n - 2,by omega⟩;obtain⟨u,v,e⟩:=zfh hc N k (k+1) hD (by omega) (by omega) (by omega) (by omega) N k 0 [] rfl (by omega) (by omega);have e2:=zky hp hc N k (k+1) hD hl (by omega) (by omega) (by omega) N 20 u v (by omega) (by omega) (by omega);rw[zrP];unfold zuW;rw[zrO];unfold zuV;simp only[zX] at e;rw[show ((20:Nat):Int)=(20:Int) from rfl] at e2;have e3:(((iL (rng p 0 k)).length:Nat):Int)=(k:Int):=by rw[Q7,zdQ]
 rw[e3];have e4:=e.trans e2;rw[show (((0:Nat)+20:Nat):Int)=(20:Int) from rfl,show (((0:Nat)):Int)=(0:Int) from rfl] at e4;rw[e4,WZ]
end
end Go.Proofs.Tryz
namespace Go.Proofs.Tryz
open Go.L Go.Rp Go.Sk
set_option maxRecDepth 100000
def oAt(os:List O)(x:Int):O:=os.getD x.toNat ⟨0,0⟩
theorem YJ{os:List O}{k:Nat}{x:O}(h:os[k]?=some x):oAt os (k:Int)=x:=by
 unfold oAt;rw[XR,zO,h];rfl
def jG(os:List O)(x:Int):Int:=(oAt os x).v
theorem zkz(n:Nat)(o:O)(h:ze):call (n+1) 235 [.agg (O.w o)] h=some (.ret [.int .i32 o.v],h):=by
 refine(zpg n o.k o.v h).trans ?_;exact Y0 (by simp) (by simp)
theorem zfj(x:O):List.take 2 (List.drop 0 (O.w x))=O.w x:=rfl
theorem zvv(os:List O)(lb:Bool)(H:ze):CmpOk 4 (.fn 241 [.iptr 1 [.fn 235 []] 0,.iptr 1 [.sl 2 (os.map O.w) lb] 0]) H (jG os) (fun x=>0<=x/\x < (os.length:Int)) where
 ex:=by
  refine⟨_,_,rfl,by kernel_rfl,by kernel_rfl,fun n hn x y hx hy=>?_⟩;obtain⟨m,rfl⟩:∃ m,n=(m+3)+1:=⟨n - 4,by omega⟩;obtain⟨i,rfl⟩:∃ i:Nat,x=(i:Int):=⟨x.toNat,(Xx hx.1).symm⟩;obtain⟨j,rfl⟩:∃ j:Nat,y=(j:Int):=⟨y.toNat,(Xx hy.1).symm⟩;obtain⟨a,ha⟩:∃ a,os[i]?=some a:=⟨_,zf (by omega)⟩;obtain⟨b,hb⟩:∃ b,os[j]?=some b:=⟨_,zf (by omega)⟩;have hav:(os.map O.w)[i]?=some (O.w a):=by rw[zcB,ha];rfl
  have hbv:(os.map O.w)[j]?=some (O.w b):=by rw[zcB,hb];rfl
  refine⟨zrF (jG os (i:Int)) (jG os (j:Int)),?_,?_⟩
  . refine(zrK (m+3) (i:Int) (j:Int) (os.map O.w) lb H).trans ?_;unfold zuS Yx Yr;have e1:∀ (u:O) (h:ze),call (m+3) 235 [.agg (O.w u)] h=some (.ret [.int .i32 u.v],h):=fun u h=>zkz (m+2) u h;have e2:∀ (u v:Int) (h:ze),call (m+3) 242 [.int .i32 u,.int .i32 v] h=some (.ret [.int .i64 (zrF u v)],h):=fun u v h=>zh0 (m+1) u v h;have fi:nv (V.int .i64 (i:Int))=some i:=z3 _ _;have fj:nv (V.int .i64 (j:Int))=some j:=z3 _ _;rw[fi,zB,XJ hav,za]
    first
     | rw [Zq, zo, if_pos (by decide), zfj, e1, j8, zC, fj, zB, XJ hbv, za, Zq, zo, if_pos (by decide), zfj, e1, j8, zC, e2, Q5, zC]
       rw[show jG os (i:Int)=a.v from by unfold jG;rw[YJ ha],show jG os (j:Int)=b.v from by unfold jG;rw[YJ hb]]
     | (simp only [esP, zfj]
        rw[e1,j8,zC,fj,zB,XJ hbv,za];simp only[esP,zfj];rw[e1,j8,zC,e2,Q5,zC];rw[show jG os (i:Int)=a.v from by unfold jG;rw[YJ ha],show jG os (j:Int)=b.v from by unfold jG;rw[YJ hb]])
  . unfold zrF;split
    . rename_i h;exact⟨fun _=>h,fun _=>by omega⟩
    . rename_i h;split <;> exact⟨fun e=>by omega,fun e=>absurd e h⟩
def J6 (os : List O) : Nat -> List Int
 | 0=>[]
 | k+1=>if (oAt os (k:Int)).k=1 then J6 os k++[(k:Int)] else J6 os k
def J7 (os : List O) : Nat -> List Int
 | 0=>[]
 | k+1=>if (oAt os (k:Int)).k=1 then J7 os k else J7 os k++[(k:Int)]
theorem J8 (os : List O) : ∀ (n : Nat) (x : Int), x ∈ J6 os n -> 0 <= x /\ x < (n : Int) /\ (oAt os x).k = 1
 | 0,x,h=>by cases h
 | n+1,x,h=>by
   simp only[J6] at h;split at h
   . rename_i hk;rcases Zn.1 h with h|h
     . have:=J8 os n x h;omega
     . rw[ZE] at h;subst h;exact⟨by omega,by omega,hk⟩
   . have:=J8 os n x h;omega
theorem WB (os : List O) : ∀ (n : Nat) (x : Int), x ∈ J7 os n -> 0 <= x /\ x < (n : Int) /\ (oAt os x).k ≠ 1
 | 0,x,h=>by cases h
 | n+1,x,h=>by
   simp only[J7] at h;split at h
   . have:=WB os n x h;omega
   . rename_i hk;rcases Zn.1 h with h|h
     . have:=WB os n x h;omega
     . rw[ZE] at h;subst h;exact⟨by omega,by omega,hk⟩
theorem jH (os : List O) : ∀ n : Nat, (J6 os n).Pairwise (· < ·)
 | 0=>.nil
 | n+1=>by
   simp only[J6];split
   . refine ZO.2 ⟨jH os n,List.pairwise_singleton ..,fun a ha b hb=>?_⟩;rw[ZE] at hb;subst hb;exact(J8 os n a ha).2.1
   . exact jH os n
theorem jI (os : List O) : ∀ n : Nat, (J6 os n).length + (J7 os n).length = n
 | 0=>rfl
 | n+1=>by
   have:=jI os n;simp only[J6,J7];split
   . rw[zL,zD,zP];omega
   . rw[zL,zD,zP];omega
def YQ(os:List O):List Int:=J6 os os.length
def Qn(os:List O):List Int:=J7 os os.length
def XL(os:List O):List Int:=sR (jG os) (atP (YQ os) (os.length:Int)) 0 (YQ os).length
theorem qi(os:List O):(XL os).Perm (YQ os):=by
 have:=qg (K:=jG os) (p:=atP (YQ os) (os.length:Int)) 0 (YQ os).length;rwa[zh4] at this
theorem zcL(os:List O):(XL os).length=(YQ os).length:=(qi os).length_eq
theorem zrU(os:List O):Sd (jG os) (XL os):=zks (zkt (jH os _) fun x hx=>(J8 os _ x hx).2.1) 0 _
theorem ztL (n : Nat) {h : ze} {b : Nat} (os : List O) (lb : Bool) (hb : h[b]? = some (.row 3 1 (iL (YQ os)) true)) (hl : 4 * os.length + 100 < lim) (hn : 2 * os.length + 50 <= n) :
    call (n+1) 234 [.sl 2 (os.map O.w) lb,.row b 1 0 (YQ os).length,.fn 235 []] h=some (.ret [.row b 1 0 (YQ os).length],(h.set b .dead).set b (.row 3 1 (iL (XL os)) true)):=by
 have hlen:=jI os os.length;have hpl:(YQ os).length<=os.length:=by unfold YQ;omega
 have hs:=zpn (p:=atP (YQ os) (os.length:Int)) (H:=h.set b .dead) (zkt (jH os _) fun x hx=>(J8 os _ x hx).2.1) (zvv os lb (h.set b .dead)) n (YQ os).length (fun x hx=>by
  rw[zh4] at hx;have:=J8 os _ x hx;exact⟨this.1,this.2.1⟩) (by omega) (by omega)
 rw[zh4] at hs;refine(zrL n (os.map O.w) lb b (YQ os).length h).trans ?_;unfold zuT Yr;rw[hb];simp only[rwT];rw[if_pos (by rw[Q7];refine⟨⟨?_,?_,?_⟩,?_,?_⟩ <;> first|trivial|rfl),hs];simp only[clr];rw[if_pos (And.intro (by first|trivial|rfl) (by rw[Q7,Q7];exact zcL os))];rfl
theorem znI(x:Int):K6 prog 55 1 [(0,.int .i64 x)]=some (1,[[.int .i64 x]]):=by kernel_rfl
theorem zh7(l:List Int)(x:Int)(h:l.length+1 < lim):app 3 1 (S.own 3 1 (iL l)) [[.int .i64 x]]=some (iL (l++[x])):=by
 simp only[app];rw[if_pos (by refine⟨?_,?_,by simpa using h⟩ <;> first|trivial|rfl)];simp[iL,Qs]
theorem zwY(x:O):(setR [V.int .u8 0,V.int .i32 0] 0 (O.w x))[0]?=some (.int .u8 x.k):=rfl
theorem zkA(a b:Int):bop prog .eql 5 (.int .u8 a) (.int .u8 b)=some (.bool (a == b)):=by kernel_rfl
def WN(h:ze)(os:List O):ze:=h++[.row 3 1 (iL (XL os)) true,.row 3 1 (iL (Qn os)) true]
theorem zkB(n:Nat)(h:ze)(os:List O)(lb:Bool)(hl:4 * os.length+100 < lim)(hn:2 * os.length+50<=n):∀ (d k M:Nat),k+d=os.length->d < M →
    zV M (jD (n+1) (os.map O.w) lb) [.sl 1 (iL (J6 os k)) false,.sl 1 (iL (J7 os k)) false,.int .i64 (k:Int)] h=some (.ret [.row h.length 1 0 (YQ os).length,.row (h.length+1) 1 0 (Qn os).length],WN h os):=by
 intro d
 induction d with
 | zero =>
   intro k M h1 h2;obtain⟨M,rfl⟩:∃ M',M=M'+1:=⟨M - 1,by omega⟩;obtain rfl:k=os.length:=by omega
   have hb:=ztL n (h:=h++[.row 3 1 (iL (YQ os)) true]) (b:=h.length) os lb zx hl hn;have hset:((h++[HB.row 3 1 (iL (YQ os)) true]).set h.length .dead).set h.length (.row 3 1 (iL (XL os)) true)=h++[.row 3 1 (iL (XL os)) true]:=by
    rw[List.set_set,Zi _ _ (zn _),X8];rfl
   rw[hset] at hb;rw[zK];unfold jD Yi Yx Ya Yg Yr Yp;simp only[gv,zg,zi,zp,zy,za,zm];rw[if_neg (by simp)];rw[show lsl (V.sl 1 (iL (J6 os os.length)) false)=iL (YQ os) from rfl,show lsl (V.sl 1 (iL (J7 os os.length)) false)=iL (Qn os) from rfl,Q7,Q7,hb,zH,zC];simp[WN]
 | succ d ih =>
   intro k M h1 h2;obtain⟨M,rfl⟩:∃ M',M=M'+1:=⟨M - 1,by omega⟩;obtain⟨x,hx⟩:∃ x,os[k]?=some x:=⟨_,zf (by omega)⟩;have hxv:(os.map O.w)[k]?=some (O.w x):=by rw[zcB,hx];rfl
   have hlt:decide ((k:Int) < (os.length:Int))=true:=by simp;omega
   have hpl:=jI os k;have hox:=YJ hx;have IH:=ih (k+1) M (by omega) (by omega);rw[zK];have key:∀ next,jD (n+1) (os.map O.w) lb [.sl 1 (iL (J6 os k)) false,.sl 1 (iL (J7 os k)) false,.int .i64 (k:Int)] h next=next [.sl 1 (iL (J6 os (k+1))) false,.sl 1 (iL (J7 os (k+1))) false,.int .i64 ((k+1:Nat):Int)] h:=by
    intro next
    unfold jD Yi Yx Ya Yg Yr Yp;simp only[gv,zg,zi,zp,zy,za,zm,hlt,if_true,z3,zB,XJ hxv,Zq,zo,zq,zn,Nat.reduceLT,and_self,zfj,show (O.w x).length=2 from rfl,zwY,zkA,znI,zA,Xl (show k < lim by omega)];rw[show lsl (V.sl 1 (iL (J6 os k)) false)=iL (J6 os k) from rfl,show lsl (V.sl 1 (iL (J7 os k)) false)=iL (J7 os k) from rfl];by_cases hk:x.k=1
    . rw[if_pos (by simp[hk]),zh7 _ _ (by omega),za];simp only[J6,J7,hox,hk,if_true]
    . rw[if_neg (by simp[hk]),zh7 _ _ (by omega),za];simp only[J6,J7,hox,hk,if_false]
   rw[key];exact IH
theorem zdl (n : Nat) (h : ze) (os : List O) (lb : Bool) (hl : 4 * os.length + 100 < lim) (hn : 2 * os.length + 50 <= n) :
    call (n+2) 225 [.sl 2 (os.map O.w) lb] h=some (.ret [.row h.length 1 0 (YQ os).length,.row (h.length+1) 1 0 (Qn os).length],WN h os):=by
 refine(zph (n+1) (os.map O.w) lb h).trans ?_;unfold zrM;exact zkB n h os lb hl hn os.length 0 (n+1) (by omega) (by omega)
end Go.Proofs.Tryz
namespace Go.Proofs.Tryz
open Go.L Go.Rp Go.Sk
set_option maxRecDepth 100000
abbrev St:=List (Int×Nat)×List Bool
def stp(most:Int)(st:St)(o:O):St×R :=
 if o.k=1 then(if most<=(st.1.length:Int) then(st,⟨3,0⟩) else((zfU st.1 o.v (hgt 1 st.2).1,(hgt 1 st.2).2),⟨1,0⟩))
 else if o.k=2 then(match st.1 with|[]=>(st,⟨4,0⟩)|p :: r=>((r,st.2),⟨2,p.1⟩))
 else(st,⟨5,0⟩)
def Y4 (os : List O) (most : Int) : List Int -> St -> List R -> St × List R
 | [],st,told=>(st,told)
 | k :: r,st,told=>Y4 os most r (stp most st (oAt os k)).1 (told.set k.toNat (stp most st (oAt os k)).2)
theorem KZ (os : List O) (most : Int) : ∀ (l m : List Int) (st : St) (told : List R), Y4 os most (l ++ m) st told = Y4 os most m (Y4 os most l st told).1 (Y4 os most l st told).2
 | [],m,st,told=>rfl
 | k :: l,m,st,told=>KZ os most l m _ _
theorem zkC (os : List O) (most : Int) : ∀ (l : List Int) (st : St) (told : List R), (Y4 os most l st told).2.length = told.length
 | [],_,_=>rfl
 | k :: l,st,told=>by
   show (Y4 os most l _ _).2.length=_;rw[zkC os most l,zw]
structure Frm(h h':ze)(X:List Nat):Prop where
 len:h.length<=h'.length
 old:∀ i,i < h.length->i ∉ X->h'[i]?=h[i]?
theorem Frm.refl(h:ze)(X:List Nat):Frm h h X:=⟨zn _,fun _ _ _=>rfl⟩
theorem Frm.trans{h h1 h2:ze}{X Y:List Nat}(a:Frm h h1 X)(b:Frm h1 h2 Y)(hY:∀ y∈Y,y∈X\/h.length<=y):Frm h h2 X :=
 ⟨ZY a.len b.len,fun i h1' h2'=>(b.old i (by have:=a.len;omega) fun hm=>by rcases hY i hm with h|h;exact h2' h;omega).trans (a.old i h1' h2')⟩
theorem Grew.frm{h h':ze}{s:Nat}{ts ts':List Tw}{most:Int}(g:Grew h h' s ts ts' most):Frm h h' (skB s ts):=⟨g.len,g.old⟩
theorem Frm.push(h:ze)(l:List HB)(X:List Nat):Frm h (h++l) X:=⟨by simp,fun i hi _=>zk hi⟩
def RowR(h:ze)(b:Nat)(l:List R):Prop:=∃ z,h[b]?=some (.row 35 2 (l.map R.w) z)
theorem RowR.keep{h h':ze}{b:Nat}{l:List R}(r:RowR h b l)(hk:h'[b]?=h[b]?):RowR h' b l:=by obtain⟨z,hz⟩:=r;exact⟨z,hk.trans hz⟩
theorem RowR.code {h : ze} {b : Nat} {l : List R} (r : RowR h b l) {i : Nat} {x : R} (hx : l[i]? = some x) (c : Int) :
    ∃ B,Zl h [.int .u8 c] (.rptr b 2 i 0)=some (b,B)/\RowR (h.set b B) b (l.set i ⟨c,x.v⟩):=by
 obtain⟨z,hz⟩:=r;refine⟨_,QU hz (by decide) (by simp) (by rw[zcC,hx];rfl),z,?_⟩;rw[ZU (zQ hz),Qo];rfl
theorem RowR.all {h : ze} {b : Nat} {l : List R} (r : RowR h b l) {i : Nat} {x : R} (hx : l[i]? = some x) (c v : Int) :
    ∃ B,Zl h [.int .u8 c,.int .i32 v] (.rptr b 2 i 0)=some (b,B)/\RowR (h.set b B) b (l.set i ⟨c,v⟩):=by
 obtain⟨z,hz⟩:=r;refine⟨_,QU hz (by decide) (by simp) (by rw[zcC,hx];rfl),z,?_⟩;rw[ZU (zQ hz),Qo];rfl
theorem zrV{b n i:Nat}(h:i < n):Jz 2 i (.row b 2 0 n)=some (.rptr b 2 i 0):=by simpa using Z3 (b:=b) (sz:=2) (lo:=0) (hi:=n) (show i < n - 0 by omega)
theorem ztM(v:Int):Wz prog 35 [(0,.int .u8 2),(1,.int .i32 v)]=some [.int .u8 2,.int .i32 v]:=by kernel_rfl
theorem ztN(x:O):(O.w x)[0]?=some (.int .u8 x.k):=rfl
theorem znJ(x:O):(O.w x)[1]?=some (.int .i32 x.v):=rfl
theorem zgO(k n:Nat)(cs:List V)(o:Nat):ZD k (.iptr n cs o)=some (.iptr n cs (o+k)):=rfl
theorem zkD(a b:Int):bop prog .neq 5 (.int .u8 a) (.int .u8 b)=some (.bool (a != b)):=by kernel_rfl
theorem zpo(n:Nat){s:Nat}{most:Int}(os:List O)(lb:Bool)(L:List Int)(hL:∀ x∈L,0<=x/\x < (os.length:Int)/\(oAt os x).k≠1)(hnd:L.Nodup)(tb pb:Nat)(hlim:L.length < lim)(hn:8 < n)(bits:List Bool):∀ (d i M:Nat) (h:ze) (ts:List Tw) (told:List R) (v0:V),i+d=L.length->d < M →
    (∃ N,SkAt h s ts most N)->ts.length < lim->RowR h tb told->RowI h pb .i64 3 L->told.length=os.length->tb ∉ skB s ts->pb ∉ skB s ts->pb≠tb->(∀ x∈L.drop i,told[x.toNat]?=some ⟨0,0⟩) →
    ∃ h' ts' told',zV M (KK (n+2) s (os.map O.w) lb (.row pb 1 0 L.length) (.row tb 2 0 os.length) (1,iL L)) [v0,.int .i64 (i:Int)] h=some (.ret [.row tb 2 0 os.length],h') ∧
     (∃ N,SkAt h' s ts' most N)/\(∀ b∈skB s ts',b∈skB s ts)/\Frm h h' (tb :: skB s ts)/\h'.length=h.length/\RowR h' tb told'/\Y4 os most (L.drop i) (itT ts,bits) told=((itT ts',bits),told'):=by
 intro d
 induction d with
 | zero =>
   intro i M h ts told v0 h1 h2 S hts rt rp hlt nt np hpt h0;obtain⟨M,rfl⟩:∃ M',M=M'+1:=⟨M - 1,by omega⟩;obtain rfl:i=L.length:=by omega
   refine⟨h,ts,told,?_,S,fun b hb=>hb,.refl _ _,rfl,rt,by rw[Wl];rfl⟩;rw[zK];unfold KK Yl Yi Yx Ya Yr Yp;simp only[gv,zg,zi,Q7,zy,za,zm];rw[if_neg (by simp)]
 | succ d ih =>
   intro i M h ts told v0 h1 h2 S hts rt rp hlt nt np hpt h0;obtain⟨M,rfl⟩:∃ M',M=M'+1:=⟨M - 1,by omega⟩;obtain⟨x,hx⟩:∃ x,L[i]?=some x:=⟨_,zf (by omega)⟩;have hdr:L.drop i=x :: L.drop (i+1):=by
    rw[Zb (by omega)];rw[zf (by omega)] at hx;rw[Option.some.inj hx]
   obtain⟨x0,x1,xk⟩:=hL x (zM hx);obtain⟨k,rfl⟩:∃ k:Nat,x=(k:Int):=⟨x.toNat,(Xx x0).symm⟩;have hk:k < os.length:=by omega
   obtain⟨o,ho⟩:∃ o,os[k]?=some o:=⟨_,zf hk⟩;have hov:(os.map O.w)[k]?=some (O.w o):=by rw[zcB,ho];rfl
   have hoo:=YJ ho;have ht0:told[k]?=some ⟨0,0⟩:=by
    have:=h0 (k:Int) (by rw[hdr];exact zG ..);simpa using this
   obtain⟨B1,w1,r1⟩:=rt.code ht0 5;have hl1:decide ((i:Int) < (L.length:Int))=true:=by simp;omega
   obtain⟨g1,g2⟩:=rp.get hx;have htk:k < told.length:=by omega
   have hkeep1:∀ b,b≠tb->(h.set tb B1)[b]?=h[b]?:=fun b hb=>zd (Ne.symm hb);have hrest:∀ (told2:List R) (r:R),told2=told.set k r->∀ y∈L.drop (i+1),told2[y.toNat]?=some ⟨0,0⟩:=fun told2 r e y hy=>by
    rw[e,zd]
    . exact h0 y (by rw[hdr];exact zu _ hy)
    . intro e2;have hy0:=hL y (Zk hy);have hyk:y=(k:Int):=by omega
      have hnd2:(L.drop i).Nodup:=hnd.sublist (QZ _ _);rw[hdr] at hnd2;exact(Zt.1 hnd2).1 (hyk ▸ hy)
   rw[hoo] at xk;have hw1:Zl h [.int .u8 5] (.rptr tb 2 k 0)=some (tb,B1):=w1;have S1:∃ N,SkAt (h.set tb B1) s ts most N:=by obtain⟨N,S⟩:=S;exact⟨N,S.keep fun b hb=>hkeep1 b fun e=>nt (e ▸ hb)⟩
   have fk:nv (V.int .i64 (k:Int))=some k:=z3 _ _;have rp1:RowI (h.set tb B1) pb .i64 3 L:=rp.keep (hkeep1 pb hpt);have base:∀ next,KK (n+2) s (os.map O.w) lb (.row pb 1 0 L.length) (.row tb 2 0 os.length) (1,iL L) [v0,.int .i64 (i:Int)] h next =
       (if (o.k != 2)=true then next [.sl 2 (lsl v0) false,.int .i64 ((i+1:Nat):Int)] (h.set tb B1) else
        (bd2 (Zl (h.set tb B1) [.int .u8 4] (.rptr tb 2 k 0)) fun b31 x32 =>
        (cl (call (n+2) 239 [.ptr s 0] (((h.set tb B1)).set b31 x32)) (fun r33 h34 =>
        (bd (r33)[0]? fun v36 =>
        (bd (r33)[1]? fun v37 =>
        (bv v37 fun b38=>if b38 then
        (bd (Wz prog 35 [(0,(V.int .u8 2)),(1,v36)]) fun cs39 =>
        (if (cs39).length=2 then
        (bd2 (Zl h34 cs39 (.rptr tb 2 k 0)) fun b42 x43 =>
        (next [(V.sl 2 (lsl v0) false),.int .i64 ((i+1:Nat):Int)] ((h34).set b42 x43))) else none))
        else
        (next [(V.sl 2 (lsl v0) false),.int .i64 ((i+1:Nat):Int)] h34))))) (fun z35 h34=>some (Res.pan z35,h34))))):=by
    intro next
    unfold KK Yl Yi Yx Ya Yr Yp;simp only[gv,zg,zi,Q7,zy,za,zm,hl1,if_true,z3,zB,g1,g2,zo,zq,zn,Nat.reduceLT,and_self,zb,zrV hk,zoY,z8,hw1,zZ,XJ hov,zgO,Zq,Nat.reduceAdd,Nat.reduceLeDiff,ztN,zkD,zA,Xl (show i < lim by omega)]
   obtain⟨N,hS⟩:=S;rw[zK,base];have hst5:stp most (itT ts,bits) o=if o.k=2 then(match itT ts with|[]=>((itT ts,bits),⟨4,0⟩)|p :: r=>((r,bits),⟨2,p.1⟩)) else((itT ts,bits),⟨5,0⟩):=by
    unfold stp;rw[if_neg xk]
   have hrun:Y4 os most (L.drop i) (itT ts,bits) told=Y4 os most (L.drop (i+1)) (stp most (itT ts,bits) o).1 (told.set k (stp most (itT ts,bits) o).2):=by
    rw[hdr];show Y4 os most _ (stp most (itT ts,bits) (oAt os (k:Int))).1 (told.set (k:Int).toNat (stp most (itT ts,bits) (oAt os (k:Int))).2)=_;rw[hoo,XR]
   by_cases hk2:o.k=2
   . rw[if_neg (by simp[hk2])];have ht5:(told.set k ⟨5,0⟩)[k]?=some ⟨5,0⟩:=Zf htk;obtain⟨B2,w2,r2⟩:=r1.code ht5 4;have e2:(told.set k ⟨5,0⟩).set k ⟨4,0⟩=told.set k ⟨4,0⟩:=List.set_set ..
     replace r2:RowR ((h.set tb B1).set tb B2) tb (told.set k ⟨4,0⟩):=by rw[<- e2];exact r2
     rw[w2,zZ];have hkeep2:∀ b,b≠tb->((h.set tb B1).set tb B2)[b]?=h[b]?:=fun b hb=>by rw[zd (Ne.symm hb)];exact hkeep1 b hb
     have S2:SkAt ((h.set tb B1).set tb B2) s ts most N:=hS.keep fun b hb=>hkeep2 b fun e=>nt (e ▸ hb);cases ts with
     | nil =>
       rw[zrD n S2,zH];simp only[zb,zh,za,zm];rw[if_neg (by decide)];obtain⟨h',ts',told',e,b1,b2,b3,b4,b5,b6⟩:=ih (i+1) M ((h.set tb B1).set tb B2) [] (told.set k ⟨4,0⟩) (.sl 2 (lsl v0) false) (by omega) (by omega) ⟨N,S2⟩ hts r2 (rp.keep (hkeep2 pb hpt)) (by rw[zw];exact hlt) nt np hpt (hrest _ ⟨4,0⟩ rfl);refine⟨h',ts',told',e,b1,b2,?_,by rw[b4,zw,zw],b5,?_⟩
       . exact Frm.trans ⟨by simp,fun j _ hj=>hkeep2 j fun e=>hj (e ▸ zG ..)⟩ b3 fun y hy=>.inl hy
       . rw[hrun,hst5,if_pos hk2];exact b6
     | cons t ts =>
       obtain⟨h3,e3,T⟩:=zrC n S2 hn (by simp at hts;omega);rw[e3,zH];simp only[zb,zh,za,zm];rw[if_pos (by first|trivial|rfl),ztM,za,if_pos (by first|trivial|rfl)];have hts3:tb≠s:=fun e=>nt (e ▸ zG ..);have hps3:pb≠s:=fun e=>np (e ▸ zG ..);have r3:RowR h3 tb (told.set k ⟨4,0⟩):=r2.keep (T.old tb hts3);obtain⟨B3,w3,r4⟩:=r3.all (show (told.set k ⟨4,0⟩)[k]?=some ⟨4,0⟩ from Zf htk) 2 t.v;have e4:(told.set k ⟨4,0⟩).set k ⟨2,t.v⟩=told.set k ⟨2,t.v⟩:=List.set_set ..
       replace r4:RowR (h3.set tb B3) tb (told.set k ⟨2,t.v⟩):=by rw[<- e4];exact r4
       rw[w3,zZ];have hkeep4:∀ b,b≠tb->(h3.set tb B3)[b]?=h3[b]?:=fun b hb=>zd (Ne.symm hb);have nt':tb ∉ skB s ts:=fun hm=>nt (by
        rcases zN.1 hm with e|hm
        . exact e ▸ zG ..
        . exact zu _ (zu _ hm))
       have hsub:∀ b∈skB s ts,b∈skB s (t :: ts):=fun b hb=>by
        rcases zN.1 hb with e|hm
        . exact e ▸ zG ..
        . exact zu _ (zu _ hm)
       have S4:∃ N,SkAt (h3.set tb B3) s ts most N:=by obtain⟨N',S'⟩:=T.sk;exact⟨N',S'.keep fun b hb=>hkeep4 b fun e=>nt' (e ▸ hb)⟩
       obtain⟨h',ts',told',e,b1,b2,b3,b4,b5,b6⟩:=ih (i+1) M (h3.set tb B3) ts (told.set k ⟨2,t.v⟩) (.sl 2 (lsl v0) false) (by omega) (by omega) S4 (by simp at hts;omega) r4 (rp.keep (by rw[hkeep4 pb hpt,T.old pb hps3,hkeep2 pb hpt])) (by rw[zw];exact hlt) nt' (fun hm=>np (hsub pb hm)) hpt (hrest _ ⟨2,t.v⟩ rfl);refine⟨h',ts',told',e,b1,fun b hb=>hsub b (b2 b hb),?_,by rw[b4,zw,T.len,zw,zw],b5,?_⟩
       . refine Frm.trans (h1:=h3.set tb B3) ⟨by rw[zw,T.len,zw,zw];exact zn _,fun j _ hj=>?_⟩ b3 fun y hy=>.inl ?_
         . have hj1:j≠tb:=fun e=>hj (e ▸ zG ..);have hj2:j≠s:=fun e=>hj (e ▸ zu _ (zG ..));rw[hkeep4 j hj1,T.old j hj2,hkeep2 j hj1]
         . rcases zN.1 hy with e|hy
           . exact e ▸ zG ..
           . exact zu _ (hsub y hy)
       . rw[hrun,hst5,if_pos hk2];exact b6
   . rw[if_pos (by simp[hk2])];obtain⟨h',ts',told',e,b1,b2,b3,b4,b5,b6⟩:=ih (i+1) M (h.set tb B1) ts (told.set k ⟨5,0⟩) (.sl 2 (lsl v0) false) (by omega) (by omega) S1 hts r1 rp1 (by rw[zw];exact hlt) nt np hpt (hrest _ ⟨5,0⟩ rfl);refine⟨h',ts',told',e,b1,b2,?_,by rw[b4,zw],b5,?_⟩
     . exact Frm.trans ⟨by simp,fun j _ hj=>hkeep1 j fun e=>hj (e ▸ zG ..)⟩ b3 fun y hy=>.inl hy
     . rw[hrun,hst5,if_neg hk2];exact b6
theorem zpp (n : Nat) {h : ze} {s : Nat} {ts : List Tw} {most : Int} (os : List O) (lb : Bool) (told : List R) (tb pb : Nat) (bits : List Bool) (S : ∃ N, SkAt h s ts most N) (hts : ts.length < lim) (rt : RowR h tb told) (rp : RowI h pb .i64 3 (Qn os)) (hlt : told.length = os.length) (nt : tb ∉ skB s ts) (np : pb ∉ skB s ts) (hpt : pb ≠ tb) (h0 : ∀ x ∈ Qn os, told[x.toNat]? = some ⟨0, 0⟩) (hlim : os.length < lim) (hn : os.length + 8 < n) :
    ∃ h' ts' told',call (n+3) 229 [.ptr s 0,.sl 2 (os.map O.w) lb,.row pb 1 0 (Qn os).length,.row tb 2 0 os.length] h=some (.ret [.row tb 2 0 os.length],h') ∧
     (∃ N,SkAt h' s ts' most N)/\(∀ b∈skB s ts',b∈skB s ts)/\Frm h h' (tb :: skB s ts)/\h'.length=h.length/\RowR h' tb told'/\Y4 os most (Qn os) (itT ts,bits) told=((itT ts',bits),told'):=by
 have hl:=jI os os.length;have hol:(Qn os).length<=os.length:=by unfold Qn;omega
 have hnd:(Qn os).Nodup:=by
  have:∀ n:Nat,(J7 os n).Pairwise (· < ·):=fun n=>by
   induction n with
   | zero=>exact .nil
   | succ n ih =>
     simp only[J7];split
     . exact ih
     . refine ZO.2 ⟨ih,List.pairwise_singleton ..,fun a ha b hb=>?_⟩;rw[ZE] at hb;subst hb;exact(WB os n a ha).2.1
  exact(this os.length).imp fun h=>by omega
 obtain⟨h',ts',told',e,r⟩:=zpo n os lb (Qn os) (WB os os.length) hnd tb pb (by omega) (by omega) bits (Qn os).length 0 (n+2) h ts told (.sl 2 [] false) (by omega) (by omega) S hts rt rp hlt nt np hpt (by rw[zR];exact h0);refine⟨h',ts',told',?_,by rw[zR] at r;exact r⟩;refine(zmd (n+2) s (os.map O.w) lb _ _ h).trans ?_;unfold znE;rw[rp.slc,za];exact e
end Go.Proofs.Tryz
namespace Go.Proofs.Tryz
open Go.L Go.Rp Go.Sk
set_option maxRecDepth 100000
structure Env(h:ze)(s:Nat)(ts:List Tw)(most:Int)(c:Nat)(cb:Option Nat)(bits:List Bool)(p1:Nat)(P:List Int)(p2:Nat)(Q:List Int):Prop where
 sk:∃ N,SkAt h s ts most N
 bt:BitsAt h c cb bits
 r1:RowI h p1 .i64 3 P
 r2:RowI h p2 .i64 3 Q
 nc:c ∉ skB s ts
 ncb:∀ b,cb=some b->b ∉ skB s ts
 n1:p1 ∉ skB s ts/\p1≠c
 n2:p2 ∉ skB s ts/\p2≠c
theorem BitsAt.lt{h:ze}{c:Nat}{cb:Option Nat}{bits:List Bool}(hb:BitsAt h c cb bits):c < h.length/\∀ b,cb=some b->b < h.length:=by
 cases cb with
 | none=>exact⟨zQ hb.2,fun b e=>by cases e⟩
 | some b =>
   obtain⟨_,lo,l,z,h2,h3,_⟩:=hb;exact⟨zQ h2,fun b' e=>by cases e;exact zQ h3⟩
theorem Env.coin{h h':ze}{s:Nat}{ts:List Tw}{most:Int}{c:Nat}{cb:Option Nat}{bits bits':List Bool}{p1 p2:Nat}{P Q:List Int}(E:Env h s ts most c cb bits p1 P p2 Q)(hb:BitsAt h' c cb bits')(hk:∀ i,i≠c->h'[i]?=h[i]?):Env h' s ts most c cb bits' p1 P p2 Q :=
 ⟨by obtain⟨N,S⟩:=E.sk;exact⟨N,S.keep fun b hb=>hk b fun e=>E.nc (e ▸ hb)⟩,hb,E.r1.keep (hk _ E.n1.2),E.r2.keep (hk _ E.n2.2),E.nc,E.ncb,E.n1,E.n2⟩
theorem RowI.lt{h:ze}{b:Nat}{k:IntKind}{e:Nat}{l:List Int}(r:RowI h b k e l):b < h.length:=by obtain⟨z,hz⟩:=r;exact zQ hz
theorem Env.grew{h h':ze}{s:Nat}{ts ts':List Tw}{most:Int}{c:Nat}{cb:Option Nat}{bits:List Bool}{p1 p2:Nat}{P Q:List Int}(E:Env h s ts most c cb bits p1 P p2 Q)(G:Grew h h' s ts ts' most):Env h' s ts' most c cb bits p1 P p2 Q:=by
 have l:=E.bt.lt;have hn:∀ b,b < h.length->b ∉ skB s ts->b ∉ skB s ts':=fun b h1 h2 hm=>by rcases G.new b hm with h|h;exact h2 h;omega
 exact⟨G.sk,E.bt.keep (G.old c l.1 E.nc) fun b hb=>G.old b (l.2 b hb) (E.ncb b hb),E.r1.keep (G.old _ E.r1.lt E.n1.1),E.r2.keep (G.old _ E.r2.lt E.n2.1),hn c l.1 E.nc,fun b hb=>hn b (l.2 b hb) (E.ncb b hb),⟨hn _ E.r1.lt E.n1.1,E.n1.2⟩,⟨hn _ E.r2.lt E.n2.1,E.n2.2⟩⟩
theorem Env.push{h:ze}{s:Nat}{ts:List Tw}{most:Int}{c:Nat}{cb:Option Nat}{bits:List Bool}{p1 p2:Nat}{P Q:List Int}(E:Env h s ts most c cb bits p1 P p2 Q)(l:List HB):Env (h++l) s ts most c cb bits p1 P p2 Q:=by
 have hk:∀ b,b < h.length->(h++l)[b]?=h[b]?:=fun b hb=>zk hb;have lt:=E.bt.lt;obtain⟨N,S⟩:=E.sk;exact⟨⟨N,S.keep fun b hb=>hk b (S.lt b hb)⟩,E.bt.keep (hk c lt.1) fun b hb=>hk b (lt.2 b hb),E.r1.keep (hk _ E.r1.lt),E.r2.keep (hk _ E.r2.lt),E.nc,E.ncb,E.n1,E.n2⟩
structure Did(h h':ze)(s:Nat)(ts ts':List Tw)(most:Int)(c:Nat)(cb:Option Nat)(bits':List Bool)(tb:Nat)(told:List R):Prop where
 sk:∃ N,SkAt h' s ts' most N
 bt:BitsAt h' c cb bits'
 tl:RowR h' tb told
 tb:h.length<=tb
 frm:Frm h h' (c :: skB s ts)
 new:∀ b∈skB s ts',b∈skB s ts\/h.length<=b
 room:(ts'.length:Int)<=most
theorem znK(bits:List Bool):hOf ((hgt 1 bits).1:Int)=(hgt 1 bits).1:=by
 have:=znk bits 1 (zn _) (by omega);unfold hOf;omega
theorem zb5(l:List (Int×Nat))(v:Int)(T:Nat):(zfU l v T).length=l.length+1:=by
 unfold zfU;rw[zL,zD];have:=congrArg List.length (List.takeWhile_append_dropWhile (p:=fun p:Int×Nat=>decide (p.1<=v)) (l:=l));rw[zL] at this;omega
theorem Wj(ts:List Tw):(itT ts).length=ts.length:=by simp[itT]
theorem zrW{most:Int}{st:St}{o:O}(h:(st.1.length:Int)<=most):((stp most st o).1.1.length:Int)<=most:=by
 unfold stp;split
 . split
   . exact h
   . simp only[zb5];omega
 . split
   . split
     . exact h
     . rename_i p r e;rw[e] at h;simp at h;simp only;omega
   . exact h
theorem zcM {os : List O} {most : Int} : ∀ (l : List Int) {st : St} {told : List R}, (st.1.length : Int) <= most -> ((Y4 os most l st told).1.1.length : Int) <= most
 | [],st,told,h=>h
 | k :: l,st,told,h=>zcM l (zrW h)
theorem zcN(l:List R):lsl (V.sl 2 (l.map R.w) false)=l.map R.w:=rfl
theorem zh8(x:R)(c:Int):setR (R.w x) 0 [.int .u8 c]=R.w ⟨c,x.v⟩:=rfl
theorem zmi(n:Nat){s c:Nat}{cb:Option Nat}{most:Int}(os:List O)(lb:Bool)(P:List Int)(hP:∀ x∈P,0<=x/\x < (os.length:Int)/\(oAt os x).k=1)(hnd:P.Nodup)(p1 p2:Nat)(Q0:List Int)(v6:V)(hlim:P.length < lim):∀ (d i M:Nat) (h:ze) (ts:List Tw) (bits:List Bool) (told:List R) (v0 v2:V),i+d=P.length->d < M →
    Env h s ts most c cb bits p1 P p2 Q0->ts.length+d < lim->ts.length+d+10 < n->told.length=os.length->(∀ x∈P.drop i,told[x.toNat]?=some ⟨0,0⟩) →
    ∃ h' ts' bits' told' v0' v2' M',zV M (Jp (n+3) s c (os.map O.w) lb (.row p1 1 0 P.length) v6 (1,iL P)) [v0,.sl 2 (told.map R.w) false,v2,.int .i64 (i:Int)] h=Jp (n+3) s c (os.map O.w) lb (.row p1 1 0 P.length) v6 (1,iL P) [v0',.sl 2 (told'.map R.w) false,v2',.int .i64 (P.length:Int)] h' (zV M' (Jp (n+3) s c (os.map O.w) lb (.row p1 1 0 P.length) v6 (1,iL P))) ∧
     Env h' s ts' most c cb bits' p1 P p2 Q0/\Frm h h' (c :: skB s ts)/\(∀ b∈skB s ts',b∈skB s ts\/h.length<=b)/\told'.length=os.length/\ts'.length<=ts.length+d/\Y4 os most (P.drop i) (itT ts,bits) told=((itT ts',bits'),told')/\(∀ y:Nat,(∀ x∈P.drop i,x≠(y:Int))->told'[y]?=told[y]?):=by
 intro d
 induction d with
 | zero =>
   intro i M h ts bits told v0 v2 h1 h2 E hts hn hlt h0;obtain⟨M,rfl⟩:∃ M',M=M'+1:=⟨M - 1,by omega⟩;obtain rfl:i=P.length:=by omega
   exact⟨h,ts,bits,told,v0,v2,M,zK ..,E,.refl _ _,fun b hb=>.inl hb,hlt,zn _,by rw[Wl];rfl,fun _ _=>rfl⟩
 | succ d ih =>
   intro i M h ts bits told v0 v2 h1 h2 E hts hn hlt h0;obtain⟨M,rfl⟩:∃ M',M=M'+1:=⟨M - 1,by omega⟩;obtain⟨x,hx⟩:∃ x,P[i]?=some x:=⟨_,zf (by omega)⟩;have hdr:P.drop i=x :: P.drop (i+1):=by
    rw[Zb (by omega)];rw[zf (by omega)] at hx;rw[Option.some.inj hx]
   obtain⟨x0,x1,xk⟩:=hP x (zM hx);obtain⟨k,rfl⟩:∃ k:Nat,x=(k:Int):=⟨x.toNat,(Xx x0).symm⟩;have hk:k < os.length:=by omega
   obtain⟨o,ho⟩:∃ o,os[k]?=some o:=⟨_,zf hk⟩;have hov:(os.map O.w)[k]?=some (O.w o):=by rw[zcB,ho];rfl
   have hoo:=YJ ho;rw[hoo] at xk;have ht0:told[k]?=some ⟨0,0⟩:=by
    have:=h0 (k:Int) (by rw[hdr];exact zG ..);simpa using this
   have htk:k < told.length:=by omega
   have htv:(told.map R.w)[k]?=some (R.w ⟨0,0⟩):=by rw[zcC,ht0];rfl
   have hl1:decide ((i:Int) < (P.length:Int))=true:=by simp;omega
   obtain⟨g1,g2⟩:=E.r1.get hx;have hnd2:(P.drop i).Nodup:=hnd.sublist (QZ _ _);rw[hdr] at hnd2;have hrest:∀ (told2:List R) (r:R),told2=told.set k r->∀ y∈P.drop (i+1),told2[y.toNat]?=some ⟨0,0⟩:=fun told2 r e y hy=>by
    rw[e,zd]
    . exact h0 y (by rw[hdr];exact zu _ hy)
    . intro e2;have hy0:=hP y (Zk hy);have hyk:y=(k:Int):=by omega
      exact(Zt.1 hnd2).1 (hyk ▸ hy)
   have hrun:Y4 os most (P.drop i) (itT ts,bits) told=Y4 os most (P.drop (i+1)) (stp most (itT ts,bits) o).1 (told.set k (stp most (itT ts,bits) o).2):=by
    rw[hdr];show Y4 os most _ (stp most (itT ts,bits) (oAt os (k:Int))).1 (told.set (k:Int).toNat (stp most (itT ts,bits) (oAt os (k:Int))).2)=_;rw[hoo,XR]
   have hoth:∀ (r:R) (told':List R),(∀ y:Nat,(∀ x∈P.drop (i+1),x≠(y:Int))->told'[y]?=(told.set k r)[y]?)->∀ y:Nat,(∀ x∈P.drop i,x≠(y:Int))->told'[y]?=told[y]?:=fun r told' hh y hy=>by
    rw[hdr] at hy;rw[hh y fun x hx=>hy x (zu _ hx),zd];intro e;exact hy (k:Int) (zG ..) (by omega)
   obtain⟨N,hS⟩:=E.sk;have hlenC:=zbV (n+2) hS;have hmostC:=zgI (n+2) hS;have hset3:(told.map R.w).set k (setR (R.w ⟨0,0⟩) 0 [.int .u8 3])=(told.set k ⟨3,0⟩).map R.w:=by rw[zh8,Qo]
   have c1:(2=2/\k < (told.map R.w).length/\(some 28:Option Nat)≠some 7):=⟨rfl,by rw[zp];exact htk,by decide⟩;by_cases hfull:(ts.length:Int) < most
   ·
    obtain⟨h2',e2,B2,l2,f2⟩:=zdf n E.bt (by omega);have E2:=E.coin B2 f2;obtain⟨N2,hS2⟩:=E2.sk;obtain⟨h3,ts3,e3,P3⟩:=zki n hS2 o.v ((hgt 1 bits).1:Int) (by omega) (by omega) hfull;have E3:=E2.grew P3.grew;have hset1:((told.set k ⟨3,0⟩).map R.w).set k (setR (R.w ⟨3,0⟩) 0 [.int .u8 1])=(told.set k ⟨1,0⟩).map R.w:=by rw[zh8,<- Qo,List.set_set]
    have htv3:((told.set k ⟨3,0⟩).map R.w)[k]?=some (R.w ⟨3,0⟩):=by rw[zcC,Zf htk];rfl
    have key:∀ next,Jp (n+3) s c (os.map O.w) lb (.row p1 1 0 P.length) v6 (1,iL P) [v0,.sl 2 (told.map R.w) false,v2,.int .i64 (i:Int)] h next=next [.sl 2 (lsl v0) false,.sl 2 ((told.set k ⟨1,0⟩).map R.w) false,.bool false,.int .i64 ((i+1:Nat):Int)] h3:=by
     intro next
     unfold Jp Yl Yi Yx Ya Yg Yr Yp;simp only[gv,zg,zi,Q7,zy,za,zm,hl1,if_true,z3,zB,g1,g2,zo,zq,zn,Nat.reduceLT,and_self,zb,zcN];rw[if_pos (by exact⟨trivial,c1.2.1,by decide⟩),htv,za,hlenC,zH,zC,hmostC,zH,zC,zy,za,zm,if_pos (by exact decide_eq_true hfull)];rw[XJ hov,za];simp only[esP,znJ,za];rw[e2,Q5,zC,e3,Q5,zC,hset3];rw[if_pos (by exact⟨trivial,by rw[zp,zw];exact htk,by decide⟩),htv3,za,zA,za,hset1,Xl (show i < lim by omega)]
    have hlen3:ts3.length=ts.length+1:=by
     have:=congrArg List.length P3.items;rwa[Wj,zb5,Wj] at this
    obtain⟨h',ts',bits',told',v0',v2',M',e,b1,b2,b3,b4,b5,b6,b7⟩:=ih (i+1) M h3 ts3 (hgt 1 bits).2 (told.set k ⟨1,0⟩) (.sl 2 (lsl v0) false) (.bool false) (by omega) (by omega) E3 (by omega) (by omega) (by rw[zw];exact hlt) (hrest _ ⟨1,0⟩ rfl);refine⟨h',ts',bits',told',v0',v2',M',by rw[zK,key];exact e,b1,?_,fun b hb=>?_,b4,by omega,?_,hoth ⟨1,0⟩ told' b7⟩
    . have f3:Frm h h3 (c :: skB s ts):=Frm.trans (h1:=h2') ⟨Js l2.symm,fun j _ hj=>f2 j fun e=>hj (e ▸ zG ..)⟩ P3.grew.frm fun y hy=>.inl (zu _ hy);refine f3.trans b2 fun y hy=>?_;rcases zN.1 hy with e|hy
      . exact .inl (e ▸ zG ..)
      . rcases P3.grew.new y hy with h|h
        . exact .inl (zu _ h)
        . exact .inr (by omega)
    . have hl3:=P3.len;rcases b3 b hb with h|h
      . rcases P3.grew.new b h with h|h
        . exact .inl h
        . exact .inr (by omega)
      . exact .inr (by omega)
    . rw[hrun];have hst:stp most (itT ts,bits) o=((zfU (itT ts) o.v (hgt 1 bits).1,(hgt 1 bits).2),⟨1,0⟩):=by
       unfold stp;rw[if_pos xk,if_neg (by simp only[Wj];omega)]
      rw[hst,<- znK bits,<- P3.items];exact b6
   . have key:∀ next,Jp (n+3) s c (os.map O.w) lb (.row p1 1 0 P.length) v6 (1,iL P) [v0,.sl 2 (told.map R.w) false,v2,.int .i64 (i:Int)] h next=next [.sl 2 (lsl v0) false,.sl 2 ((told.set k ⟨3,0⟩).map R.w) false,.bool false,.int .i64 ((i+1:Nat):Int)] h:=by
       intro next
       unfold Jp Yl Yi Yx Ya Yg Yr Yp;simp only[gv,zg,zi,Q7,zy,za,zm,hl1,if_true,z3,zB,g1,g2,zo,zq,zn,Nat.reduceLT,and_self,zb,zcN];rw[if_pos (by exact⟨trivial,c1.2.1,by decide⟩),htv,za,hlenC,zH,zC,hmostC,zH,zC,zy,za,zm,if_neg (by intro e;exact hfull (of_decide_eq_true e)),zA,za,hset3,Xl (show i < lim by omega)]
     obtain⟨h',ts',bits',told',v0',v2',M',e,b1,b2,b3,b4,b5,b6,b7⟩:=ih (i+1) M h ts bits (told.set k ⟨3,0⟩) (.sl 2 (lsl v0) false) (.bool false) (by omega) (by omega) E (by omega) (by omega) (by rw[zw];exact hlt) (hrest _ ⟨3,0⟩ rfl);refine⟨h',ts',bits',told',v0',v2',M',by rw[zK,key];exact e,b1,b2,b3,b4,by omega,?_,hoth ⟨3,0⟩ told' b7⟩;rw[hrun];have hst:stp most (itT ts,bits) o=((itT ts,bits),⟨3,0⟩):=by
      unfold stp;rw[if_pos xk,if_pos (by simp only[Wj];omega)]
     rw[hst];exact b6
theorem zrX(n:Nat):List.replicate n [V.int .u8 0,V.int .i32 0]=(List.replicate n (⟨0,0⟩:R)).map R.w:=by rw[List.map_replicate];rfl
def zag(os:List O)(most:Int)(st:St):St×List R:=Y4 os most (XL os++Qn os) st (List.replicate os.length ⟨0,0⟩)
theorem zdm(os:List O):∀ x∈Qn os,∀ y∈XL os,y≠x:=fun x hx y hy e=>by
 have h1:=WB os _ x hx;have h2:=J8 os _ y ((qi os).mem_iff.1 hy);rw[e] at h2;exact h1.2.2 h2.2.2
theorem zah(os:List O):(XL os).Nodup:=(qi os).nodup_iff.2 ((jH os os.length).imp fun h=>by omega)
theorem Jm(os:List O):∀ x∈XL os,0<=x/\x < (os.length:Int)/\(oAt os x).k=1:=fun x hx=>J8 os _ x ((qi os).mem_iff.1 hx)
theorem zkE {h : ze} {s : Nat} {ts : List Tw} {most : Int} {c : Nat} {cb : Option Nat} {bits : List Bool} (os : List O) (S : ∃ N, SkAt h s ts most N) (B : BitsAt h c cb bits) (nc : c ∉ skB s ts) (ncb : ∀ b, cb = some b -> b ∉ skB s ts) :
    Env (WN h os) s ts most c cb bits h.length (XL os) (h.length+1) (Qn os):=by
 obtain⟨N,S⟩:=S;have l:=B.lt;have hk:∀ b,b < h.length->(WN h os)[b]?=h[b]?:=fun b hb=>zk hb;have h0:(WN h os)[h.length]?=some (.row 3 1 (iL (XL os)) true):=by unfold WN;rw[zJ (zn _),X8];rfl
 have h1:(WN h os)[h.length+1]?=some (.row 3 1 (iL (Qn os)) true):=by unfold WN;rw[zJ (by omega),Qy];rfl
 exact⟨⟨N,S.keep fun b hb=>hk b (S.lt b hb)⟩,B.keep (hk c l.1) fun b hb=>hk b (l.2 b hb),⟨_,h0⟩,⟨_,h1⟩,nc,ncb,⟨fun hm=>by have:=S.lt _ hm;omega,by omega⟩,⟨fun hm=>by have:=S.lt _ hm;omega,by omega⟩⟩
theorem zkF (n : Nat) {h hh : ze} {s : Nat} {ts ts1 : List Tw} {most : Int} {c : Nat} {cb : Option Nat} {bits : List Bool} {p1 p2 : Nat} (os : List O) (lb : Bool) (told : List R) (E : Env hh s ts1 most c cb bits p1 (XL os) p2 (Qn os)) (hp2 : h.length <= p2) (hlt : told.length = os.length) (h0 : ∀ x ∈ Qn os, told[x.toNat]? = some ⟨0, 0⟩) (hts : ts1.length < lim) (hlim : os.length < lim) (hn : os.length + 8 < n) (hF : Frm h hh (c :: skB s ts)) (hN : ∀ b ∈ skB s ts1, b ∈ skB s ts \/ h.length <= b) (hroom : (ts1.length : Int) <= most) :
    ∃ h' ts' told',call (n+3) 229 [.ptr s 0,.sl 2 (os.map O.w) lb,.row p2 1 0 (Qn os).length,.row hh.length 2 0 os.length] (hh++[.row 35 2 (told.map R.w) true])=some (.ret [.row hh.length 2 0 os.length],h') ∧
     Did h h' s ts ts' most c cb bits hh.length told'/\Y4 os most (Qn os) (itT ts1,bits) told=((itT ts',bits),told'):=by
 have E1:=E.push [.row 35 2 (told.map R.w) true];have rt:RowR (hh++[.row 35 2 (told.map R.w) true]) hh.length told:=⟨true,zx⟩;obtain⟨N,S⟩:=E.sk;have nt:hh.length ∉ skB s ts1:=fun hm=>by have:=S.lt _ hm;omega
 have hpl:=E.r2.lt;obtain⟨h',ts',told',e,a1,a2,a3,a4,a5,a6⟩:=zpp n os lb told hh.length p2 bits E1.sk hts rt E1.r2 hlt nt E.n2.1 (by omega) h0 hlim hn;have hl:=E.bt.lt;refine⟨h',ts',told',e,⟨a1,?_,a5,hF.len,?_,fun b hb=>?_,?_⟩,a6⟩
 . have hk:∀ i,i < hh.length->i ∉ skB s ts1->h'[i]?=hh[i]?:=fun i h1 h2=>by
     rw[a3.old i (by rw[zL];omega) (fun hm=>by rcases zN.1 hm with e|hm;omega;exact h2 hm),zk h1]
   exact E.bt.keep (hk c hl.1 E.nc) fun b hb=>hk b (hl.2 b hb) (E.ncb b hb)
 . refine(hF.trans (Frm.push hh _ []) (fun y hy=>by cases hy)).trans a3 fun y hy=>?_;rcases zN.1 hy with e|hy
   . exact .inr (by have:=hF.len;omega)
   . rcases hN y hy with h|h
     . exact .inl (zu _ h)
     . exact .inr h
 . exact hN b (a2 b hb)
 . have h1:=congrArg (fun p=>(p.1.1.length:Int)) a6;simp only[Wj] at h1;rw[<- h1];exact zcM _ (by simp only[Wj];exact hroom)
theorem zmj (n : Nat) {h : ze} {s : Nat} {ts : List Tw} {most : Int} {c : Nat} {cb : Option Nat} {bits : List Bool} (os : List O) (lb : Bool) (S : ∃ N, SkAt h s ts most N) (B : BitsAt h c cb bits) (nc : c ∉ skB s ts) (ncb : ∀ b, cb = some b -> b ∉ skB s ts) (hroom : (ts.length : Int) <= most) (hl : ts.length + 4 * os.length + 100 < lim) (hn : ts.length + 2 * os.length + 50 <= n) :
    ∃ h' ts' bits' tb told',call (n+4) 224 [.ptr s 0,.ptr c 0,.sl 2 (os.map O.w) lb] h=some (.ret [.row tb 2 0 os.length],h')/\Did h h' s ts ts' most c cb bits' tb told'/\zag os most (itT ts,bits)=((itT ts',bits'),told'):=by
 have hpl:=jI os os.length;have hsl:=zcL os;have hpo:(YQ os).length<=os.length:=by unfold YQ;omega
 have E0:=zkE os S B nc ncb;have hlf:(WN h os).length=h.length+2:=by simp[WN]
 obtain⟨h1,ts1,bits1,told1,v0',v2',M',e,b1,b2,b3,b4,b5,b6,b7⟩:=zmi n os lb (XL os) (Jm os) (zah os) h.length (h.length+1) (Qn os) (.row (h.length+1) 1 0 (Qn os).length) (by omega) (XL os).length 0 (n+3) (WN h os) ts bits (List.replicate os.length ⟨0,0⟩) (.sl 2 [] false) (.bool false) (by omega) (by omega) E0 (by omega) (by omega) (by simp) (fun x hx=>by
  have:=Jm os x (Zk hx);rw[Zw,if_pos (by omega)])
 rw[zR] at b6 b7;have hF:Frm h h1 (c :: skB s ts):=Frm.trans (Frm.push h _ (c :: skB s ts)) b2 fun y hy=>.inl hy;have hN:∀ b∈skB s ts1,b∈skB s ts\/h.length<=b:=fun b hb=>(b3 b hb).imp id fun h=>by omega
 have hr1:(ts1.length:Int)<=most:=by
  have h1:=congrArg (fun p=>(p.1.1.length:Int)) b6;simp only[Wj] at h1;rw[<- h1];exact zcM _ (by simp only[Wj];exact hroom)
 obtain⟨h',ts',told',e2,D,r⟩:=zkF (ts:=ts) n os lb told1 b1 (by omega) b4 (fun x hx=>by
  have hm:=WB os _ x hx;rw[b7 x.toNat fun y hy=>fun e=>zdm os x hx y hy (by omega),Zw,if_pos (by omega)]) (by omega) (by omega) (by omega) hF hN hr1
 refine⟨h',ts',bits1,h1.length,told',?_,D,?_⟩
 . refine(zkq (n+3) s c (os.map O.w) lb h).trans ?_;unfold zkp Yg Yp;have fN:nv (V.int .i64 (os.length:Int))=some os.length:=z3 _ _;have hpc:call (n+3) 225 [.sl 2 (os.map O.w) lb] h=some (.ret [.row h.length 1 0 (YQ os).length,.row (h.length+1) 1 0 (Qn os).length],WN h os):=zdl (n+1) h os lb (by omega) (by omega);simp only[zp];rw[fN,zB,zB,if_pos (by first|exact⟨zn _,by omega,rfl⟩|exact⟨trivial,by omega,trivial⟩|exact⟨zn _,by omega,trivial⟩),hpc,zH];simp only[zb,zh,za];rw[<- hsl,E0.r1.slc,za,zrX];refine e.trans ?_;unfold Jp Yl Yi Yx Ya Yg Yr Yp;simp only[gv,zg,zi,Q7,zy,za,zm];rw[if_neg (by simp),zcN,zp,b4,e2,zH,zC]
 . unfold zag;rw[KZ,b6];exact r
end Go.Proofs.Tryz
namespace Go.Proofs.Tryz
open Go.L Go.Rp Go.Sk
set_option maxRecDepth 100000
def zbj : Nat -> List Bool -> List Int × List Bool
 | 0,bits=>([],bits)
 | k+1,bits=>(((hgt 1 bits).1:Int) :: (zbj k (hgt 1 bits).2).1,(zbj k (hgt 1 bits).2).2)
theorem zkG : ∀ (k : Nat) (bits : List Bool), (zbj k bits).1.length = k
 | 0,_=>rfl
 | k+1,bits=>by simp[zbj,zkG k]
def JN (r : R) : List Int -> List R -> List R
 | [],told=>told
 | k :: l,told=>JN r l (told.set k.toNat r)
theorem zbk (r : R) : ∀ (l : List Int) (told : List R), (JN r l told).length = told.length
 | [],_=>rfl
 | k :: l,told=>by show (JN r l _).length=_;rw[zbk r l,zw]
theorem zaD (r : R) : ∀ (l : List Int) (told : List R) (y : Nat), (∀ x ∈ l, x.toNat ≠ y) -> (JN r l told)[y]? = told[y]?
 | [],_,_,_=>rfl
 | k :: l,told,y,h=>by
   show (JN r l _)[y]?=_;rw[zaD r l _ y fun x hx=>h x (zu _ hx),zd (h k (zG ..))]
theorem znL(os:List O)(most:Int):∀ (P:List Int) (st:St) (told:List R),(∀ x∈P,(oAt os x).k=1)->(st.1.length:Int)+P.length<=most →
    Y4 os most P st told=((zbi st.1 ((P.map (jG os)).zip (zbj P.length st.2).1),(zbj P.length st.2).2),JN ⟨1,0⟩ P told)
 | [],st,told,_,_=>rfl
 | k :: P,st,told,hk,hm=>by
   have hst:stp most st (oAt os k)=((zfU st.1 (oAt os k).v (hgt 1 st.2).1,(hgt 1 st.2).2),⟨1,0⟩):=by
    unfold stp;rw[if_pos (hk k (zG ..)),if_neg (by simp at hm;omega)]
   show Y4 os most P (stp most st (oAt os k)).1 (told.set k.toNat (stp most st (oAt os k)).2)=_;rw[hst,znL os most P _ _ (fun x hx=>hk x (zu _ hx)) (by rw[zb5];simp at hm ⊢;omega)];simp only[zW,zD,zbj,Qu,zbi,JN,znK];rfl
theorem zkH (os : List O) (most : Int) : ∀ (P : List Int) (st : St) (told : List R), (∀ x ∈ P, (oAt os x).k = 1) -> most <= (st.1.length : Int) -> Y4 os most P st told = (st, JN ⟨3, 0⟩ P told)
 | [],st,told,_,_=>rfl
 | k :: P,st,told,hk,hm=>by
   have hst:stp most st (oAt os k)=(st,⟨3,0⟩):=by
    unfold stp;rw[if_pos (hk k (zG ..)),if_pos hm]
   show Y4 os most P (stp most st (oAt os k)).1 (told.set k.toNat (stp most st (oAt os k)).2)=_;rw[hst];exact zkH os most P st _ (fun x hx=>hk x (zu _ hx)) hm
theorem RowI.getP{h:ze}{b:Nat}{k:IntKind}{e:Nat}{l:List Int}(r:RowI h b k e l){lo hi i:Nat}{x:Int}(hi':lo+i < hi)(hx:l[lo+i]?=some x):Jz 1 i (.row b 1 lo hi)=some (.rptr b 1 (lo+i) 0)/\Zv h (.rptr b 1 (lo+i) 0)=some ([.int k x],1,0):=by
 obtain⟨z,hz⟩:=r;refine⟨Z3 (by omega),ZJ hz (by decide) ?_⟩;rw[zF,hx];rfl
theorem RowI.slcP{h:ze}{b:Nat}{k:IntKind}{e:Nat}{l:List Int}(r:RowI h b k e l){lo hi:Nat}(h1:lo<=hi)(h2:hi<=l.length):ZI h (.row b 1 lo hi)=some (1,((l.take hi).drop lo).map (Qs k)):=by
 obtain⟨z,hz⟩:=r;rw[Qm hz h1 (by rw[zp];exact h2),List.map_drop,List.map_take]
theorem ztO(l:List Int)(x:Int)(h:l.length+1 < lim):app 21 1 (S.own 21 1 (l.map (Qs .i32))) [[.int .i32 x]]=some ((l++[x]).map (Qs .i32)):=by
 simp only[app];rw[if_pos (by refine⟨?_,?_,by simpa using h⟩ <;> first|trivial|rfl)];simp[Qs]
theorem znM(l:List Int):lsl (V.sl 1 (l.map (Qs .i32)) false)=l.map (Qs .i32):=rfl
theorem zrY(l:List Int):lsl (V.sl 1 (iL l) false)=iL l:=rfl
theorem zpq(n:Nat){s c:Nat}{cb:Option Nat}{most:Int}{ts:List Tw}(os:List O)(lb:Bool)(P0:List Int)(hP:∀ x∈P0,0<=x/\x < (os.length:Int))(hnd:P0.Nodup)(p1 p2:Nat)(Q0:List Int)(v5 v6 v18:V)(r:Nat)(hr:r<=P0.length)(hlim:P0.length < lim)(hn:8<=n):∀ (d i M:Nat) (h:ze) (bits:List Bool) (told:List R) (vs hs:List Int) (v0 v4:V),i+d=r->d < M →
    Env h s ts most c cb bits p1 P0 p2 Q0->told.length=os.length->vs.length=i->hs.length=i->(∀ x∈P0.drop i,told[x.toNat]?=some ⟨0,0⟩) →
    ∃ h' v0' v4' M',zV M (JL (n+3) s c (os.map O.w) lb v5 v6 v18 (.row p1 1 0 r) (1,iL (P0.take r))) [v0,.sl 2 (told.map R.w) false,.sl 1 (vs.map (Qs .i32)) false,.sl 1 (iL hs) false,v4,.int .i64 (i:Int)] h =
     JL (n+3) s c (os.map O.w) lb v5 v6 v18 (.row p1 1 0 r) (1,iL (P0.take r)) [v0',.sl 2 ((JN ⟨1,0⟩ ((P0.take r).drop i) told).map R.w) false,.sl 1 ((vs++((P0.take r).drop i).map (jG os)).map (Qs .i32)) false,.sl 1 (iL (hs++(zbj d bits).1)) false,v4',.int .i64 (r:Int)] h' (zV M' (JL (n+3) s c (os.map O.w) lb v5 v6 v18 (.row p1 1 0 r) (1,iL (P0.take r)))) ∧
     Env h' s ts most c cb (zbj d bits).2 p1 P0 p2 Q0/\h'.length=h.length/\∀ i,i≠c->h'[i]?=h[i]?:=by
 intro d
 induction d with
 | zero =>
   intro i M h bits told vs hs v0 v4 h1 h2 E hlt hvl hhl h0;obtain⟨M,rfl⟩:∃ M',M=M'+1:=⟨M - 1,by omega⟩;obtain rfl:i=r:=by omega
   have hd:(P0.take i).drop i=[]:=ZC (by rw[z5];omega);refine⟨h,v0,v4,M,?_,E,rfl,fun _ _=>rfl⟩;rw[hd];simp only[JN,Q8,z6,zbj];exact zK ..
 | succ d ih =>
   intro i M h bits told vs hs v0 v4 h1 h2 E hlt hvl hhl h0;obtain⟨M,rfl⟩:∃ M',M=M'+1:=⟨M - 1,by omega⟩;have hiP:i < P0.length:=by omega
   obtain⟨x,hx⟩:∃ x,P0[i]?=some x:=⟨_,zf hiP⟩;have hdr:P0.drop i=x :: P0.drop (i+1):=by
    rw[Zb hiP];rw[zf hiP] at hx;rw[Option.some.inj hx]
   have hdt:(P0.take r).drop i=x :: (P0.take r).drop (i+1):=by
    have hil:i < (P0.take r).length:=by rw[z5];omega
    rw[Zb hil];rw[zf hiP] at hx;rw[<- Option.some.inj hx,JY]
   obtain⟨x0,x1⟩:=hP x (zM hx);obtain⟨k,rfl⟩:∃ k:Nat,x=(k:Int):=⟨x.toNat,(Xx x0).symm⟩;have hk:k < os.length:=by omega
   obtain⟨o,ho⟩:∃ o,os[k]?=some o:=⟨_,zf hk⟩;have hov:(os.map O.w)[k]?=some (O.w o):=by rw[zcB,ho];rfl
   have hoo:=YJ ho;have hkv:jG os (k:Int)=o.v:=by unfold jG;rw[hoo]
   have ht0:told[k]?=some ⟨0,0⟩:=by
    have:=h0 (k:Int) (by rw[hdr];exact zG ..);simpa using this
   have htk:k < told.length:=by omega
   have htv:(told.map R.w)[k]?=some (R.w ⟨0,0⟩):=by rw[zcC,ht0];rfl
   have hl1:decide ((i:Int) < ((P0.take r).length:Int))=true:=by rw[z5];simp;omega
   obtain⟨g1,g2⟩:=E.r1.getP (lo:=0) (hi:=r) (i:=i) (by omega) (by rw[zq];exact hx);rw[zq] at g1 g2;have hnd2:(P0.drop i).Nodup:=hnd.sublist (QZ _ _);rw[hdr] at hnd2;obtain⟨h2',e2,B2,l2,f2⟩:=zdf n E.bt hn;have E2:=E.coin B2 f2;have hset1:(told.map R.w).set k (setR (R.w ⟨0,0⟩) 0 [.int .u8 1])=(told.set k ⟨1,0⟩).map R.w:=by rw[zh8,Qo]
   have key:∀ next,JL (n+3) s c (os.map O.w) lb v5 v6 v18 (.row p1 1 0 r) (1,iL (P0.take r)) [v0,.sl 2 (told.map R.w) false,.sl 1 (vs.map (Qs .i32)) false,.sl 1 (iL hs) false,v4,.int .i64 (i:Int)] h next=next [.sl 2 (lsl v0) false,.sl 2 ((told.set k ⟨1,0⟩).map R.w) false,.sl 1 ((vs++[o.v]).map (Qs .i32)) false,.sl 1 (iL (hs++[((hgt 1 bits).1:Int)])) false,.bool false,.int .i64 ((i+1:Nat):Int)] h2':=by
    intro next
    unfold JL Yl Yi Yx Ya Yg Yp;simp only[gv,zg,zi,Q7,zy,za,zm,hl1,if_true,z3,zB,g1,g2,zo,zq,zn,Nat.reduceLT,and_self,zb,XJ hov,zgO,Zq,Nat.reduceAdd,Nat.reduceLeDiff,znJ,zdO,znM,zrY,zcN];rw[ztO _ _ (by omega),za,e2,zH,zC,znI,za,zh7 _ _ (by omega),za];rw[if_pos (by exact⟨trivial,by rw[zp];exact htk,by decide⟩),htv,za,zA,za,hset1,Xl (show i < lim by omega)]
   obtain⟨h',v0',v4',M',e,b1,b2,b3⟩:=ih (i+1) M h2' (hgt 1 bits).2 (told.set k ⟨1,0⟩) (vs++[o.v]) (hs++[((hgt 1 bits).1:Int)]) (.sl 2 (lsl v0) false) (.bool false) (by omega) (by omega) E2 (by rw[zw];exact hlt) (by simp;omega) (by simp;omega) (fun y hy=>by
    rw[zd]
    . exact h0 y (by rw[hdr];exact zu _ hy)
    . intro e2;have hy0:=hP y (Zk hy);have hyk:y=(k:Int):=by omega
      exact(Zt.1 hnd2).1 (hyk ▸ hy))
   refine⟨h',v0',v4',M',?_,b1,by rw[b2,l2],fun j hj=>by rw[b3 j hj,f2 j hj]⟩;rw[zK,key,e,hdt];simp only[JN,XR,zW,hkv,zbj,List.append_assoc,Z4,zX]
theorem zpr(n:Nat){s c:Nat}{cb:Option Nat}{most:Int}{ts:List Tw}{bits:List Bool}{h:ze}(os:List O)(lb:Bool)(P0:List Int)(hP:∀ x∈P0,0<=x/\x < (os.length:Int))(hnd:P0.Nodup)(p1 p2:Nat)(Q0:List Int)(v6:V)(r:Nat)(hr:r<=P0.length)(hlim:P0.length < lim)(E:Env h s ts most c cb bits p1 P0 p2 Q0):∀ (d i M:Nat) (told:List R) (v0 v2:V),r+i+d=P0.length->d < M →
    told.length=os.length->(∀ x∈P0.drop (r+i),told[x.toNat]?=some ⟨0,0⟩) →
    ∃ v0' v2' M',zV M (JK (n+3) s (os.map O.w) lb v6 (.row p1 1 r P0.length) (1,iL (P0.drop r))) [v0,.sl 2 (told.map R.w) false,v2,.int .i64 (i:Int)] h =
     JK (n+3) s (os.map O.w) lb v6 (.row p1 1 r P0.length) (1,iL (P0.drop r)) [v0',.sl 2 ((JN ⟨3,0⟩ (P0.drop (r+i)) told).map R.w) false,v2',.int .i64 ((P0.drop r).length:Int)] h (zV M' (JK (n+3) s (os.map O.w) lb v6 (.row p1 1 r P0.length) (1,iL (P0.drop r)))):=by
 intro d
 induction d with
 | zero =>
   intro i M told v0 v2 h1 h2 hlt h0;obtain⟨M,rfl⟩:∃ M',M=M'+1:=⟨M - 1,by omega⟩;have hi:i=(P0.drop r).length:=by rw[XQ];omega
   refine⟨v0,v2,M,?_⟩;rw[ZC (i:=r+i) (by omega),<- hi];exact zK ..
 | succ d ih =>
   intro i M told v0 v2 h1 h2 hlt h0;obtain⟨M,rfl⟩:∃ M',M=M'+1:=⟨M - 1,by omega⟩;obtain⟨x,hx⟩:∃ x,P0[r+i]?=some x:=⟨_,zf (by omega)⟩;have hdr:P0.drop (r+i)=x :: P0.drop (r+(i+1)):=by
    rw[Zb (show r+i < P0.length by omega)];rw[zf (by omega)] at hx;rw[Option.some.inj hx,ZR]
   obtain⟨x0,x1⟩:=hP x (zM hx);obtain⟨k,rfl⟩:∃ k:Nat,x=(k:Int):=⟨x.toNat,(Xx x0).symm⟩;have ht0:told[k]?=some ⟨0,0⟩:=by
    have:=h0 (k:Int) (by rw[hdr];exact zG ..);simpa using this
   have htk:k < told.length:=by omega
   have htv:(told.map R.w)[k]?=some (R.w ⟨0,0⟩):=by rw[zcC,ht0];rfl
   have hl1:decide ((i:Int) < ((P0.drop r).length:Int))=true:=by rw[XQ];simp;omega
   obtain⟨g1,g2⟩:=E.r1.getP (lo:=r) (hi:=P0.length) (i:=i) (by omega) hx;have hnd2:(P0.drop (r+i)).Nodup:=hnd.sublist (QZ _ _);rw[hdr] at hnd2;have hset1:(told.map R.w).set k (setR (R.w ⟨0,0⟩) 0 [.int .u8 3])=(told.set k ⟨3,0⟩).map R.w:=by rw[zh8,Qo]
   have key:∀ next,JK (n+3) s (os.map O.w) lb v6 (.row p1 1 r P0.length) (1,iL (P0.drop r)) [v0,.sl 2 (told.map R.w) false,v2,.int .i64 (i:Int)] h next=next [.sl 2 (lsl v0) false,.sl 2 ((told.set k ⟨3,0⟩).map R.w) false,.bool false,.int .i64 ((i+1:Nat):Int)] h:=by
    intro next
    unfold JK Yl Yi Yx Ya Yg Yr Yp;simp only[gv,zg,zi,Q7,zy,za,zm,hl1,if_true,z3,zB,g1,g2,zo,zq,zn,Nat.reduceLT,and_self,zb,zcN];rw[if_pos (by exact⟨trivial,by rw[zp];exact htk,by decide⟩),htv,za,zA,za,hset1,Xl (show i < lim by omega)]
   obtain⟨v0',v2',M',e⟩:=ih (i+1) M (told.set k ⟨3,0⟩) (.sl 2 (lsl v0) false) (.bool false) (by omega) (by omega) (by rw[zw];exact hlt) (fun y hy=>by
    rw[zd]
    . exact h0 y (by rw[hdr];exact zu _ hy)
    . intro e2;have hy0:=hP y (Zk hy);have hyk:y=(k:Int):=by omega
      exact(Zt.1 hnd2).1 (hyk ▸ hy))
   refine⟨v0',v2',M',?_⟩;rw[zK,key,e,hdr];simp only[JN,XR]
theorem zrZ(a b:Int):mm false [.int .i64 a,.int .i64 b]=some (.int .i64 (if b < a then b else a)):=rfl
theorem zmk(os:List O)(r:Nat):(((XL os).take r).map (jG os)).Pairwise (·<=·):=by
 rw[List.pairwise_map];exact((zrU os).sublist (JX _ _)).imp fun h=>h.of
theorem zfW (n : Nat) {h : ze} {s : Nat} {ts : List Tw} {most : Int} {c : Nat} {cb : Option Nat} {bits : List Bool} (os : List O) (lb : Bool) (S : ∃ N, SkAt h s ts most N) (B : BitsAt h c cb bits) (nc : c ∉ skB s ts) (ncb : ∀ b, cb = some b -> b ∉ skB s ts) (hroom : (ts.length : Int) <= most) (hmost : most <= 1000) (hl : ts.length + 4 * os.length + 100 < lim) (hn : ts.length + 2 * os.length + 50 <= n) :
    ∃ h' ts' bits' tb told',call (n+4) 222 [.ptr s 0,.ptr c 0,.sl 2 (os.map O.w) lb] h=some (.ret [.row tb 2 0 os.length],h')/\Did h h' s ts ts' most c cb bits' tb told'/\zag os most (itT ts,bits)=((itT ts',bits'),told'):=by
 have hpl:=jI os os.length;have hsl:=zcL os;have hpo:(YQ os).length<=os.length:=by unfold YQ;omega
 have E0:=zkE os S B nc ncb;have hlf:(WN h os).length=h.length+2:=by simp[WN]
 have hkp:=fun x hx=>(Jm os x hx).2.2;obtain⟨r,hr⟩:∃ r:Nat,(r:Int)=if most - (ts.length:Int) < ((XL os).length:Int) then most - (ts.length:Int) else((XL os).length:Int):=⟨(if most - (ts.length:Int) < ((XL os).length:Int) then most - (ts.length:Int) else((XL os).length:Int)).toNat,Xx (by split <;> omega)⟩;have hr1:r<=(XL os).length:=by split at hr <;> omega
 have hr2:(ts.length:Int)+r<=most:=by split at hr <;> omega
 have hr3:r=(XL os).length\/most<=(ts.length:Int)+r:=by split at hr <;> omega
 have hlt1:((XL os).take r).length=r:=by rw[z5];omega
 obtain⟨h1,v0',v4',M',e1,E1,l1,f1⟩:=zpq n os lb (XL os) (fun x hx=>⟨(Jm os x hx).1,(Jm os x hx).2.1⟩) (zah os) h.length (h.length+1) (Qn os) (.row h.length 1 0 (XL os).length) (.row (h.length+1) 1 0 (Qn os).length) (.int .i64 (r:Int)) r hr1 (by omega) (by omega) r 0 (n+3) (WN h os) bits (List.replicate os.length ⟨0,0⟩) [] [] (.sl 2 [] false) (.bool false) (by omega) (by omega) E0 (by simp) rfl rfl (fun x hx=>by
  have:=Jm os x (Zk hx);rw[Zw,if_pos (by omega)])
 rw[zR,zX,zX] at e1;obtain⟨vs,hvs⟩:∃ vs,vs=((XL os).take r).map (jG os):=⟨_,rfl⟩;obtain⟨hs,hhs⟩:∃ hs,hs=(zbj r bits).1:=⟨_,rfl⟩;have hvl:vs.length=r:=by rw[hvs,zp,hlt1]
 have hhl:hs.length=r:=by rw[hhs,zkG]
 rw[<- hvs,<- hhs] at e1;have E2:=E1.push [.row 21 1 (vs.map (Qs .i32)) true,.row 3 1 (iL hs) true];have hrow1:RowI (h1++[HB.row 21 1 (vs.map (Qs .i32)) true,HB.row 3 1 (iL hs) true]) h1.length .i32 21 vs:=⟨true,by rw[zJ (zn _),X8];rfl⟩;have hrow2:RowI (h1++[HB.row 21 1 (vs.map (Qs .i32)) true,HB.row 3 1 (iL hs) true]) (h1.length+1) .i64 3 hs:=⟨true,by rw[zJ (by omega),Qy];rfl⟩;obtain⟨N1,S1⟩:=E1.sk;obtain⟨h2,ts2,tb2,e2,G2,I2⟩:=zma n E2.sk h1.length (h1.length+1) vs hs (by omega) (hvs ▸ zmk os r) hrow1 hrow2 (fun hm=>by have:=S1.lt _ hm;omega) (fun hm=>by have:=S1.lt _ hm;omega) (by rw[hvl];exact hr2) (by rw[hvl];omega) (by rw[hvl];omega);have E3:=E2.grew G2;have told1:=zbk ⟨1,0⟩ ((XL os).take r) (List.replicate os.length (⟨0,0⟩:R));rw[ZZ] at told1;have hnd:=zah os;have hdis:∀ x∈(XL os).drop r,∀ y∈(XL os).take r,y.toNat≠x.toNat:=fun x hx y hy e=>by
  have a:=Jm os x (Zk hx);have b:=Jm os y (Zs hy);have hxy:x=y:=by omega
  have hnd':((XL os).take r++(XL os).drop r).Nodup:=by rw[Zu];exact hnd
  exact(Qi.1 hnd').2.2 y hy x hx hxy.symm
 obtain⟨v0'',v2'',M'',e3⟩:=zpr n os lb (XL os) (fun x hx=>⟨(Jm os x hx).1,(Jm os x hx).2.1⟩) hnd h.length (h.length+1) (Qn os) (.row (h.length+1) 1 0 (Qn os).length) r hr1 (by omega) E3 ((XL os).length - r) 0 (n+3) (JN ⟨1,0⟩ ((XL os).take r) (List.replicate os.length ⟨0,0⟩)) (.sl 2 (lsl v0') false) (.bool false) (by omega) (by omega) told1 (fun x hx=>by
  rw[z8] at hx;rw[zaD _ _ _ _ (hdis x hx)];have:=Jm os x (Zk hx);rw[Zw,if_pos (by omega)])
 simp only[z8] at e3;obtain⟨told2,htold2⟩:∃ told2,told2=JN (⟨3,0⟩:R) ((XL os).drop r) (JN ⟨1,0⟩ ((XL os).take r) (List.replicate os.length ⟨0,0⟩)):=⟨_,rfl⟩;rw[<- htold2] at e3;have told2l:told2.length=os.length:=by rw[htold2,zbk,told1]
 have hlen2:ts2.length=ts.length+r:=by
  have hz:∀ (q:List (Int×Int)) (l:List (Int×Nat)),(zbi l q).length=l.length+q.length:=fun q=>by
   induction q with
   | nil=>intro l;rfl
   | cons p q ih=>intro l;show (zbi (zfU l p.1 (hOf p.2)) q).length=_;rw[ih,zb5,zD];omega
  have:=congrArg List.length I2;rw[hz,Wj,Wj,List.length_zip,hvl,hhl,Nat.min_self] at this;exact this
 have hF:Frm h h2 (c :: skB s ts):=by
  have a:Frm h (WN h os) (c :: skB s ts):=Frm.push h _ _;have b:Frm (WN h os) h1 [c]:=⟨Js l1.symm,fun j _ hj=>f1 j fun e=>hj (e ▸ zG ..)⟩;have c':Frm h1 (h1++[HB.row 21 1 (vs.map (Qs .i32)) true,HB.row 3 1 (iL hs) true]) []:=Frm.push h1 _ _;exact(((a.trans b fun y hy=>.inl (by rw[ZE] at hy;exact hy ▸ zG ..)).trans c' fun y hy=>by cases hy).trans G2.frm fun y hy=>.inl (zu _ hy))
 have hN:∀ b∈skB s ts2,b∈skB s ts\/h.length<=b:=fun b hb=>(G2.new b hb).imp id fun hh=>by rw[zL,l1,hlf] at hh;omega
 have h0:∀ x∈Qn os,told2[x.toNat]?=some ⟨0,0⟩:=fun x hx=>by
  have hm:=WB os _ x hx;have hne:∀ y∈XL os,y.toNat≠x.toNat:=fun y hy e=>zdm os x hx y hy (by have:=Jm os y hy;omega);rw[htold2,zaD _ _ _ _ fun y hy=>hne y (Zk hy),zaD _ _ _ _ fun y hy=>hne y (Zs hy),Zw,if_pos (by omega)]
 obtain⟨h',ts',told',e4,D,rr⟩:=zkF (ts:=ts) n os lb told2 E3 (by omega) told2l h0 (by omega) (by omega) (by omega) hF hN (by omega);refine⟨h',ts',(zbj r bits).2,h2.length,told',?_,D,?_⟩
 . refine(zko (n+3) s c (os.map O.w) lb h).trans ?_;unfold zkn Yg Yp;have fN:nv (V.int .i64 (os.length:Int))=some os.length:=z3 _ _;have fr:nv (V.int .i64 (r:Int))=some r:=z3 _ _;have hpc:call (n+3) 225 [.sl 2 (os.map O.w) lb] h=some (.ret [.row h.length 1 0 (YQ os).length,.row (h.length+1) 1 0 (Qn os).length],WN h os):=zdl (n+1) h os lb (by omega) (by omega);obtain⟨N0,S0⟩:=E0.sk;have hm1:=zgI (n+2) S0;have hl1:=zbV (n+2) S0;have hsub:IntKind.i64.wrap (most - (ts.length:Int))=most - (ts.length:Int):=by rw[w64] <;> omega
   have hs1:Je 1 0 r none true (.row h.length 1 0 (XL os).length)=some (.row h.length 1 0 r):=by simpa using Q2 (r:=h.length) (sz:=1) (u:=0) (v:=(XL os).length) (z2 r) (by omega) true
   have hs2:Je 1 r (XL os).length none true (.row h.length 1 0 (XL os).length)=some (.row h.length 1 r (XL os).length):=by simpa using Q2 (r:=h.length) (sz:=1) (u:=0) (v:=(XL os).length) hr1 (by omega) true
   have hc1:ZI (WN h os) (.row h.length 1 0 r)=some (1,iL ((XL os).take r)):=by have:=E0.r1.slcP (lo:=0) (hi:=r) (z2 _) hr1;rwa[zR] at this
   have hc2:ZI h2 (.row h.length 1 r (XL os).length)=some (1,iL ((XL os).drop r)):=by have:=E3.r1.slcP (lo:=r) (hi:=(XL os).length) hr1 (zn _);rwa[X9] at this
   simp only[zp];rw[fN,zB,zB,if_pos (by first|exact⟨zn _,by omega,rfl⟩|exact⟨trivial,by omega,trivial⟩|exact⟨zn _,by omega,trivial⟩),hpc,zH];simp only[zb,zh,za];rw[<- hsl,E0.r1.slc,za,hm1,zH,zC,hl1,zH,zC,ZF,za,hsub];simp only[zp,Wp,WI,za];rw[zrZ,za,<- hr,KG,za,fr,zB,hs1,za,hc1,za,zrX];refine e1.trans ?_;unfold JL Yl Yi Yx Ya Yg Yp;simp only[gv,zg,zi,Q7,hlt1,zy,za,zm];rw[if_neg (by simp),znM,zrY,Q7,zp,List.append_assoc];rw[show (h1++[HB.row 21 1 (vs.map (Qs .i32)) true]).length=h1.length+1 by simp];rw[show ([HB.row 21 1 (vs.map (Qs .i32)) true]++[HB.row 3 1 (iL hs) true])=[HB.row 21 1 (vs.map (Qs .i32)) true,HB.row 3 1 (iL hs) true] from rfl,e2,zH,zC,KG,za,fr,zB,Nat.sub_zero,hs2,za,hc2,za];rw[show lsl (V.sl 2 ((JN (⟨1,0⟩:R) ((XL os).take r) (List.replicate os.length ⟨0,0⟩)).map R.w) false)=(JN (⟨1,0⟩:R) ((XL os).take r) (List.replicate os.length ⟨0,0⟩)).map R.w from rfl];refine e3.trans ?_;unfold JK Yl Yi Yx Ya Yg Yr Yp;simp only[gv,zg,zi,Q7,zy,za,zm];rw[if_neg (by simp),zcN,zp,told2l,e4,zH,zC]
 . unfold zag;have hp:=znL os most ((XL os).take r) (itT ts,bits) (List.replicate os.length ⟨0,0⟩) (fun x hx=>hkp x (Zs hx)) (by simp only[Wj,hlt1];exact hr2);simp only[hlt1,<- hvs,<- hhs,<- I2] at hp;have hsplit:XL os++Qn os=(XL os).take r++((XL os).drop r++Qn os):=by rw[<- List.append_assoc,Zu]
   rw[hsplit,KZ,hp,KZ];have hfull:Y4 os most ((XL os).drop r) (itT ts2,(zbj r bits).2) (JN ⟨1,0⟩ ((XL os).take r) (List.replicate os.length ⟨0,0⟩))=((itT ts2,(zbj r bits).2),told2):=by
    rcases hr3 with h3|h3
    . rw[htold2,h3,Wl];rfl
    . rw[zkH os most _ _ _ (fun x hx=>hkp x (Zk hx)) (by simp only[Wj,hlen2];omega),htold2]
   rw[hfull];exact rr
end Go.Proofs.Tryz
namespace Go.Proofs.Tryz
open Go.L
set_option maxRecDepth 100000
noncomputable def zai(n:Nat)(a b:V)(st3:List V)(hh4:ze)(next5:List V->ze->Option (Res×ze)):Option (Res×ze) :=
 (bd (ZI hh4 a) fun c =>
 (Yi (bop prog .lss 3 (gv st3 1) (V.int .i64 ((c.2).length:Int)))
 (Yx 1 (gv st3 1) a fun d =>
 (Yl hh4 d fun e =>
 (Yx 1 (gv st3 1) b fun f =>
 (Yl hh4 f fun g =>
 (Yi (bop prog .neq 21 e g)
 (Yr [(V.bool false)] hh4)
 (Ya (gv st3 1) fun h =>
 (next5 [(gv st3 0),h] hh4)))))))
 (Yr [(V.bool true)] hh4)))
noncomputable def zuX(n:Nat)(a b:V)(h:ze):Option (Res×ze) :=
 (bd (ZI h a) fun c =>
 (bd (ZI h b) fun d =>
 (if (((c.2).length:Int) != ((d.2).length:Int)) then
 Yr [(V.bool false)] h
 else
 (zV n (zai n a b) [(V.bool false),(V.int .i64 0)] h))))
theorem zr0(n a b h):call (n+1) 19 [a,b] h=zuX n a b h:=by kernel_rfl
end Go.Proofs.Tryz
namespace Go.Proofs.Tryz
open Go.L Go.Rp Go.Sk
set_option maxRecDepth 100000
end Go.Proofs.Tryz
namespace Go.Proofs.Tryz
open Go.L
set_option maxRecDepth 100000
end Go.Proofs.Tryz
namespace Go.Proofs.Tryz
open Go.L Go.Rp
set_option maxRecDepth 100000
end Go.Proofs.Tryz
namespace Go.Proofs.Tryz
open Go.L Go.Rp Go.Sk
set_option maxRecDepth 100000
end Go.Proofs.Tryz
namespace Go.Proofs.Tryz
open Go.L Go.Rp Go.Sk
set_option maxRecDepth 100000
def zh9(h:ze)(r:V)(l:List Int):Prop:=(∃ sz,ZI h r=some (sz,l.map (Qs .i32)))/\∀ (i:Nat) (x:Int),l[i]?=some x->∃ p,Jz 1 i r=some p/\Zv h p=some ([.int .i32 x],1,0)
theorem RowI.sees{h:ze}{b:Nat}{L:List Int}(r:RowI h b .i32 21 L){lo hi:Nat}(h1:lo<=hi)(h2:hi<=L.length):zh9 h (.row b 1 lo hi) ((L.take hi).drop lo):=by
 refine⟨⟨1,r.slcP h1 h2⟩,fun i x hx=>?_⟩;rw[Zh] at hx;have hi':lo+i < hi:=by
  have:=(zj.1 hx).1;rw[z5] at this;omega
 rw[List.getElem?_take_of_lt hi'] at hx;obtain⟨a,c⟩:=r.getP hi' hx;exact⟨_,a,c⟩
theorem zr1(h:ze):zh9 h (.sl 0 [] true) []:=⟨⟨0,rfl⟩,fun i x hx=>by simp at hx⟩
theorem SlI.sees{h:ze}{lo:Nat}{r:V}{l:List Int}(s:SlI h lo r l):zh9 h r l:=by
 rcases s with ⟨rfl,rfl⟩|⟨b,z,_,rfl,hz⟩
 . exact zr1 h
 . have:=RowI.sees (L:=l) ⟨z,hz⟩ (z2 l.length) (zn _);rwa[X9,zR] at this
theorem zml(n:Nat){h:ze}{a b:V}{l:List Int}(ha:zh9 h a l)(hb:zh9 h b l)(hl:l.length < lim):∀ (d i M:Nat) (v0:V),i+d=l.length->d < M->zV M (zai n a b) [v0,.int .i64 (i:Int)] h=some (.ret [.bool true],h):=by
 obtain⟨⟨sa,hsa⟩,ga⟩:=ha;intro d
 induction d with
 | zero =>
   intro i M v0 h1 h2;obtain⟨M,rfl⟩:∃ M',M=M'+1:=⟨M - 1,by omega⟩;obtain rfl:i=l.length:=by omega
   rw[zK];unfold zai Yl Yi Yx Ya Yr;rw[hsa,za];simp only[gv,zg,zi,zp,zy,za,zm];rw[if_neg (by simp)]
 | succ d ih =>
   intro i M v0 h1 h2;obtain⟨M,rfl⟩:∃ M',M=M'+1:=⟨M - 1,by omega⟩;obtain⟨x,hx⟩:∃ x,l[i]?=some x:=⟨_,zf (by omega)⟩;obtain⟨p,p1,p2⟩:=ga i x hx;obtain⟨q,q1,q2⟩:=hb.2 i x hx;have hlt:decide ((i:Int) < (l.length:Int))=true:=by simp;omega
   have key:∀ next,zai n a b [v0,.int .i64 (i:Int)] h next=next [v0,.int .i64 ((i+1:Nat):Int)] h:=by
    intro next
    unfold zai Yl Yi Yx Ya Yr;rw[hsa,za];simp only[gv,zg,zi,zp,zy,za,zm,hlt,if_true,z3,zB,p1,p2,q1,q2,zo,zq,zn,Nat.reduceLT,and_self,zb,zi4,zA,Xl (show i < lim by omega)];rw[if_neg (by simp)]
   rw[zK,key];exact ih (i+1) M v0 (by omega) (by omega)
theorem zmm(n:Nat){h:ze}{a b:V}{l:List Int}(ha:zh9 h a l)(hb:zh9 h b l)(hl:l.length < lim)(hn:l.length < n):call (n+1) 19 [a,b] h=some (.ret [.bool true],h):=by
 refine(zr0 n a b h).trans ?_;unfold zuX Yr;obtain⟨sa,hsa⟩:=ha.1;obtain⟨sb,hsb⟩:=hb.1;rw[hsa,za,hsb,za,if_neg (by simp)];exact zml n ha hb hl l.length 0 n (.bool false) (by omega) hn
end Go.Proofs.Tryz
namespace Go.Sk
open Go.L Go.Rp
theorem zmn(m:Nat)(c x:Int)(xs:List Int)(h:xs.length<=m):(Qh (m:Int) c x xs).2.length<=m:=by
 unfold Qh;split
 . split
   . simp;omega
   . exact h
 . split
   . split
     . simp;omega
     . exact h
   . exact h
theorem zgP (m : Nat) : ∀ (l : List O) (xs : List Int), xs.length <= m -> (Jk (m : Int) l xs).2.length <= m
 | [],_,h=>h
 | o :: l,xs,h=>zgP m l _ (zmn m o.k o.v xs h)
theorem zmo(m:Nat)(c x:Int)(xs:List Int)(h:xs.length<=m):(XN (m:Int) c x xs).2.length<=m:=by
 unfold XN;split
 . split
   . simp;omega
   . exact h
 split
 . split
   . simp;omega
   . exact h
 split
 . split
   . simp at h ⊢;omega
   . exact h
 split
 . split
   . simp;omega
   . exact h
 . exact h
theorem zgQ (m : Nat) : ∀ (l : List O) (xs : List Int), xs.length <= m -> (Ju (m : Int) l xs).2.length <= m
 | [],_,h=>h
 | o :: l,xs,h=>zgQ m l _ (zmo m o.k o.v xs h)
end Go.Sk
namespace Go.Proofs.Tryz
open Go.L Go.Rp Go.Sk
set_option maxRecDepth 100000
theorem zia(n s:Nat)(osb:Bool)(b c:Nat)(hc:c < 100000)(os:List O)(hos:os.length < lim):∀ (d i N:Nat) (h:ze) (xs:List Int) (done:List R),RngAt h s b c xs->i+d=os.length->done.length=i->d < N →
    ∃ h',zV N (KI (n+3) s (os.map O.w) osb) [.sl 2 [] false,.sl 2 (done.map R.w++List.replicate d [.int .u8 0,.int .i32 0]) false,.bool false,.int .i64 (i:Int)] h=some (.ret [.row h'.length 2 0 os.length],h'++[.row 35 2 ((done++(Ju (c:Int) (os.drop i) xs).1).map R.w) true])/\RngAt h' s b c (Ju (c:Int) (os.drop i) xs).2/\RFed h h' s b:=by
 intro d
 induction d with
 | zero =>
   intro i N h xs done hb h1 h2 h3;obtain⟨N,rfl⟩:∃ N',N=N'+1:=⟨N - 1,by omega⟩;rw[zK];unfold KI Yi Yx Ya Yg Yr Yp;simp only[gv,zg,zi];rw[zy,za,zm,if_neg (by simp;omega),Z2 (by omega)];refine⟨h,?_,hb,RFed.refl ..⟩;simp only[lsl,Ju,z6,Jx,zp];rw[show done.length=os.length by omega]
 | succ d ih =>
   intro i N h xs done hb h1 h2 h3;obtain⟨N,rfl⟩:∃ N',N=N'+1:=⟨N - 1,by omega⟩;have hi:i < os.length:=by omega
   obtain⟨h',e,b1,b2⟩:=zjB n hb hc os[i].k os[i].v;obtain⟨h'',e',d1,d2⟩:=ih (i+1) N h' _ (done++[zj6 (c:Int) os[i] xs]) b1 (by omega) (by simp;omega) (by omega);have hd:os.drop i=os[i] :: os.drop (i+1):=Zb hi;refine⟨h'',?_,by rw[hd];exact d1,b2.trans d2⟩;rw[hd];simp only[Ju];rw[show done++(zj6 (c:Int) os[i] xs :: (Ju (c:Int) (os.drop (i+1)) (XN (c:Int) os[i].k os[i].v xs).2).1)=done++[zj6 (c:Int) os[i] xs]++(Ju (c:Int) (os.drop (i+1)) (XN (c:Int) os[i].k os[i].v xs).2).1 by simp,<- e',zK];have hix:Jz 2 i (.sl 2 (os.map O.w) osb)=some (.iptr 2 (O.w os[i]) 0):=by
    simp[Jz,zf hi]
   have key:∀ next,KI (n+3) s (os.map O.w) osb [.sl 2 [] false,.sl 2 (done.map R.w++List.replicate (d+1) [.int .u8 0,.int .i32 0]) false,.bool false,.int .i64 (i:Int)] h next=next [.sl 2 [] false,.sl 2 ((done++[zj6 (c:Int) os[i] xs]).map R.w++List.replicate d [.int .u8 0,.int .i32 0]) false,.bool false,.int .i64 ((i+1:Nat):Int)] h':=by
    intro next
    unfold KI Yi Yx Ya Yg Yr Yp;simp only[gv,zg,zi];rw[zy,za,zm,if_pos (by simp;omega),z3,zB,hix,za];simp only[Zv];rw[zo,if_pos (by decide),zR,Jn,if_pos (Qz _),if_pos (by rw[Qz];decide),KB,zR,Jn];show cl (call (n+3) _ [.ptr s 0,.agg [.int .u8 os[i].k,.int .i32 os[i].v]] h) _ _=_;rw[e,zH,zC,zB];have hlen:i < (done.map R.w++List.replicate (d+1) [V.int .u8 0,V.int .i32 0]).length:=by simp;omega
    have hget:(done.map R.w++List.replicate (d+1) [V.int .u8 0,V.int .i32 0])[i]?=some [.int .u8 0,.int .i32 0]:=by
     rw[zJ (by simp;omega)];simp[h2]
    rw[if_pos (by refine⟨?_,hlen,by decide⟩;first|trivial|rfl),if_pos (by rfl),if_pos (by refine⟨?_,by decide,zn 2⟩;first|trivial|rfl)];simp only[lsl,zjt,V.cells];rw[hget,za,zA,za,Xl (by omega)];have hset:(done.map R.w++List.replicate (d+1) [V.int .u8 0,V.int .i32 0]).set i (setR [V.int .u8 0,V.int .i32 0] 0 [V.int .u8 (XN (c:Int) os[i].k os[i].v xs).1.1,V.int .i32 (XN (c:Int) os[i].k os[i].v xs).1.2])=(done++[zj6 (c:Int) os[i] xs]).map R.w++List.replicate d [V.int .u8 0,V.int .i32 0]:=by
     rw[Zi _ _ (by simp;omega)];simp[h2,XP,R.w,setR,zj6]
    rw[hset]
   rw[key]
theorem zib (n s : Nat) {h : ze} {b c : Nat} {xs : List Int} (hb : RngAt h s b c xs) (hc : c < 100000) (os : List O) (osb : Bool) (hos : os.length < lim) (hn : os.length < n) :
    ∃ h',call (n+4) 176 [.bf 201 [.ptr s 0],.sl 2 (os.map O.w) osb] h=some (.ret [.row h'.length 2 0 os.length],h'++[.row 35 2 ((Ju (c:Int) os xs).1.map R.w) true])/\RngAt h' s b c (Ju (c:Int) os xs).2/\RFed h h' s b:=by
 obtain⟨h',e,b1,b2⟩:=zia n s osb b c hc os hos os.length 0 (n+3) h xs [] hb (by omega) rfl (by omega);refine⟨h',(zl3 (n+3) s _ osb h).trans ?_,b1,b2⟩;unfold znv Yg;rw[zp,z3,zB,zB,if_pos ⟨zn _,by omega,rfl⟩];exact e
def noH(xs:List Int):List (Int×Nat):=xs.map fun x=>(x,0)
theorem K0(xs:List Int):(noH xs).length=xs.length:=zp ..
theorem zdV(xs:List Int):(noH xs).map Prod.fst=xs:=by unfold noH;rw[List.map_map];exact List.map_id _
def zaj(k m:Nat)(os:List O)(st:St):St×List R :=
 if k=1 then((noH (Jk (m:Int) os (st.1.map Prod.fst)).2,st.2),(Jk (m:Int) os (st.1.map Prod.fst)).1)
 else if k=2 then((noH (Ju (m:Int) os (st.1.map Prod.fst)).2,st.2),(Ju (m:Int) os (st.1.map Prod.fst)).1)
 else zag os (m:Int) st
def BodAt(k:Nat)(h:ze)(s:Nat)(Y:List Nat)(m:Nat)(its:List (Int×Nat)):Prop :=
 (k=1/\∃ xs qb,its=noH xs/\StkAt h s qb (m:Int) xs/\Y=s :: qb.toList) ∨
 (k=2/\∃ xs b,its=noH xs/\RngAt h s b m xs/\Y=[s,b]) ∨
 (k=3/\∃ ts,its=itT ts/\(∃ N,SkAt h s ts (m:Int) N)/\Y=skB s ts)
def zr2(k s:Nat):V:=.iface (if k=1 then 112 else if k=2 then 116 else 120) (.agg [.ptr s 0])
structure ObAt(k:Nat)(h:ze)(o s c:Nat)(cb:Option Nat)(Y:List Nat)(m:Nat)(pl:Bool)(st:St):Prop where
 box:h[o]?=some (.box 3 [zr2 k s,.ptr c 0,.bool pl])
 bits:BitsAt h c cb st.2
 body:BodAt k h s Y m st.1
 room:st.1.length<=m
 most:m<=1000
 oc:o≠c
 ocb:cb≠some o
 oY:o ∉ Y
 cY:c ∉ Y
 cbY:∀ b,cb=some b->b ∉ Y
def obB(o c:Nat)(cb:Option Nat)(Y:List Nat):List Nat:=o :: c :: (cb.toList++Y)
theorem BodAt.lt{k:Nat}{h:ze}{s:Nat}{Y:List Nat}{m:Nat}{its:List (Int×Nat)}(B:BodAt k h s Y m its):∀ y∈Y,y < h.length:=by
 rcases B with ⟨rfl,xs,qb,rfl,S,rfl⟩|⟨rfl,xs,b,rfl,R,rfl⟩|⟨rfl,ts,rfl,⟨N,S⟩,rfl⟩
 . intro y hy;obtain⟨v,sz,k1,k2⟩:=S.box;rcases zN.1 hy with rfl|hy
   . exact zQ k1
   . cases qb with
     | none=>simp at hy
     | some b =>
       simp at hy;subst hy;obtain⟨_,l,z,_,k3,_⟩:=S;exact zQ k3
 . intro y hy;obtain⟨_,l,z,f,k1,k2,_⟩:=R;simp at hy;rcases hy with rfl|rfl
   . exact zQ k1
   . exact zQ k2
 . exact S.lt
theorem BitsAt.blt{h:ze}{c b:Nat}{bits:List Bool}(B:BitsAt h c (some b) bits):b < h.length:=by
 obtain⟨_,lo,l,z,_,k,_⟩:=B;exact zQ k
theorem BitsAt.clt{h:ze}{c:Nat}{cb:Option Nat}{bits:List Bool}(B:BitsAt h c cb bits):c < h.length:=by
 cases cb with
 | none=>exact zQ B.2
 | some b =>
   obtain⟨_,lo,l,z,k,_⟩:=B;exact zQ k
theorem BodAt.keep{k:Nat}{h h':ze}{s:Nat}{Y:List Nat}{m:Nat}{its:List (Int×Nat)}(B:BodAt k h s Y m its)(hk:∀ y∈Y,h'[y]?=h[y]?):BodAt k h' s Y m its:=by
 rcases B with ⟨rfl,xs,qb,rfl,S,rfl⟩|⟨rfl,xs,b,rfl,R,rfl⟩|⟨rfl,ts,rfl,⟨N,S⟩,rfl⟩
 . exact .inl ⟨rfl,xs,qb,rfl,S.keep (hk s (by simp)) (fun b hb=>hk b (by simp[hb])),rfl⟩
 . exact .inr (.inl ⟨rfl,xs,b,rfl,R.keep (hk s (by simp)) (hk b (by simp)),rfl⟩)
 . exact .inr (.inr ⟨rfl,ts,rfl,⟨N,S.keep hk⟩,rfl⟩)
theorem ObAt.keep{k:Nat}{h h':ze}{o s c:Nat}{cb:Option Nat}{Y:List Nat}{m:Nat}{pl:Bool}{st:St}(A:ObAt k h o s c cb Y m pl st)(hk:∀ y∈obB o c cb Y,h'[y]?=h[y]?):ObAt k h' o s c cb Y m pl st :=
 ⟨(hk o (by simp[obB])).trans A.box,A.bits.keep (hk c (by simp[obB])) (fun b hb=>hk b (by simp[obB,hb])),A.body.keep (fun y hy=>hk y (by simp[obB,hy])),A.room,A.most,A.oc,A.ocb,A.oY,A.cY,A.cbY⟩
theorem ObAt.lt{k:Nat}{h:ze}{o s c:Nat}{cb:Option Nat}{Y:List Nat}{m:Nat}{pl:Bool}{st:St}(A:ObAt k h o s c cb Y m pl st):∀ y∈obB o c cb Y,y < h.length:=by
 intro y hy;simp only[obB,zN,Zn] at hy;rcases hy with rfl|rfl|hy|hy
 . exact zQ A.box
 . exact A.bits.clt
 . cases cb with
   | none=>simp at hy
   | some b=>simp at hy;subst hy;exact A.bits.blt
 . exact A.body.lt y hy
structure XFed(h h':ze)(X X':List Nat):Prop where
 len:h.length<=h'.length
 old:∀ i,i < h.length->i ∉ X->h'[i]?=h[i]?
 new:∀ x∈X',x∈X\/h.length<=x
structure BFed(h h':ze)(c:Nat)(Y Y':List Nat):Prop where
 len:h.length<=h'.length
 old:∀ i,i < h.length->i ∉ c :: Y->h'[i]?=h[i]?
 new:∀ x∈Y',x∈Y\/h.length<=x
def zmp(k:Nat)(pl:Bool):Nat:=if k=1 then(if pl then 173 else 171) else if k=2 then(if pl then 198 else 196) else(if pl then 221 else 219)
theorem zr3 (n : Nat) {k : Nat} {h : ze} {s c : Nat} {cb : Option Nat} {Y : List Nat} {m : Nat} {st : St} (pl : Bool) (B : BodAt k h s Y m st.1) (C : BitsAt h c cb st.2) (room : st.1.length <= m) (hm : m <= 1000) (cY : c ∉ Y) (cbY : ∀ b, cb = some b -> b ∉ Y) (os : List O) (osb : Bool) (hk : ∀ o ∈ os, 0 <= o.k /\ o.k < 256) (hos : os.length <= 1000) (hn : 2 * os.length + m + 100 <= n) :
    ∃ h' Y' T,call (n+7) (zmp k pl) [.agg [.ptr s 0],.ptr c 0,.sl 2 (os.map O.w) osb] h=some (.ret [.row T 2 0 os.length],h')/\RowR h' T (zaj k m os st).2/\BodAt k h' s Y' m (zaj k m os st).1.1/\BitsAt h' c cb (zaj k m os st).1.2/\(zaj k m os st).1.1.length<=m/\h.length<=T/\T ∉ Y'/\BFed h h' c Y Y':=by
 have hlim:1000000 < lim:=by decide
 have hlt:=B.lt;have hcl:=C.clt;rcases B with ⟨rfl,xs,qb,hits,S,rfl⟩|⟨rfl,xs,b,hits,RR,rfl⟩|⟨rfl,ts,hits,S,rfl⟩
 . have hxs:st.1.map Prod.fst=xs:=by rw[hits,zdV]
   have hxl:xs.length<=m:=by rw[hits,K0] at room;exact room
   have hsc:c≠s:=fun e=>cY (by simp[e]);have hcq:qb≠some c:=fun e=>cY (by simp[e]);have hsb:∀ b,cb=some b->b≠s/\qb≠some b:=fun b hb=>⟨fun e=>cbY b hb (by simp[e]),fun e=>cbY b hb (by simp[e])⟩;simp only[zaj,hxs,if_true];have hrl:=zgP m os xs hxl;cases pl with
   | false =>
     obtain⟨h',qb',T,e,c1,c2,c3,c4,c5⟩:=ze5 (n+1) S os osb hxl (by omega) (by omega) (by omega) (fun b hb=>hlt b (by simp[hb]));refine⟨h',s :: qb'.toList,T,?_,⟨true,c1⟩,.inl ⟨rfl,_,qb',rfl,c4,rfl⟩,C.keep (c5.old c hcl hsc hcq) (fun b hb=>c5.old b (hb ▸ C).blt (hsb b hb).1 (hsb b hb).2),by rw[K0];exact hrl,c2,?_,⟨c5.len,fun i h1 h2=>c5.old i h1 (fun e=>h2 (by simp[e])) (fun e=>h2 (by simp[e])),?_⟩⟩
     . show call (n+6+1) 171 _ h=_;rw[zjP];unfold zjO Yr Yp;rw[e,zH,zC]
     . intro hT;have:=hlt s (by simp);rcases zN.1 hT with rfl|hT
       . omega
       . cases qb' with
         | none=>simp at hT
         | some b=>simp at hT;exact c3 (by rw[hT])
     . intro x hx;rcases zN.1 hx with rfl|hx
       . exact .inl (by simp)
       . cases qb' with
         | none=>simp at hx
         | some b =>
           simp at hx;subst hx;rcases c5.own _ rfl with e|e
           . exact .inl (by simp[e])
           . exact .inr e
   | true =>
     obtain⟨h',qb',e,c4,c5⟩:=zhO n s S os osb hk (by omega) (by omega);have hk':∀ j,j < h'.length->(h'++[HB.row 35 2 ((Jk (m:Int) os xs).1.map R.w) true])[j]?=h'[j]?:=fun j hj=>zk hj;have hql:∀ b,qb'=some b->b < h'.length:=fun b hb=>by
      rw[hb] at c4;obtain⟨_,l,z,_,k3,_⟩:=c4;exact zQ k3
     have hsl':s < h'.length:=by have:=hlt s (by simp);have:=c5.len;omega
     have hlen:=c5.len;refine⟨h'++[HB.row 35 2 ((Jk (m:Int) os xs).1.map R.w) true],s :: qb'.toList,h'.length,?_,⟨true,zx⟩,.inl ⟨rfl,_,qb',rfl,c4.keep (hk' s hsl') (fun b hb=>hk' b (hql b hb)),rfl⟩,C.keep ((hk' c (by omega)).trans (c5.old c hcl hsc hcq)) (fun b hb=>(hk' b (by have:=(hb ▸ C).blt;omega)).trans (c5.old b (hb ▸ C).blt (hsb b hb).1 (hsb b hb).2)),by rw[K0];exact hrl,hlen,?_,⟨by simp;omega,fun i h1 h2=>(hk' i (by omega)).trans (c5.old i h1 (fun e=>h2 (by simp[e])) (fun e=>h2 (by simp[e]))),?_⟩⟩
     . show call (n+6+1) 173 _ h=_;rw[zjR];unfold zjQ Yr Yp;rw[e,zH,zC]
     . intro hT;rcases zN.1 hT with hT|hT
       . omega
       . cases qb' with
         | none=>simp at hT
         | some b=>simp at hT;have:=hql b rfl;omega
     . intro x hx;rcases zN.1 hx with rfl|hx
       . exact .inl (by simp)
       . cases qb' with
         | none=>simp at hx
         | some b =>
           simp at hx;subst hx;rcases c5.own _ rfl with e|e
           . exact .inl (by simp[e])
           . exact .inr e
 . have hxs:st.1.map Prod.fst=xs:=by rw[hits,zdV]
   have hxl:xs.length<=m:=by rw[hits,K0] at room;exact room
   have hsc:c≠s:=fun e=>cY (by simp[e]);have hcq:c≠b:=fun e=>cY (by simp[e]);have hsb:∀ x,cb=some x->x≠s/\x≠b:=fun x hb=>⟨fun e=>cbY x hb (by simp[e]),fun e=>cbY x hb (by simp[e])⟩;have hsl:=hlt s (by simp);have hbl:=hlt b (by simp);simp only[zaj,hxs,if_neg (show ¬ (2=1) by decide),if_true];have hrl:=zgQ m os xs hxl;cases pl with
   | false =>
     obtain⟨h',T,e,c1,c2,c4,c5,c6⟩:=ze6 (n+1) RR os osb (by omega) (by omega) (by omega);refine⟨h',[s,b],T,?_,⟨true,c1⟩,.inr (.inl ⟨rfl,_,b,rfl,c4,rfl⟩),C.keep (c6 c hcl hsc hcq) (fun x hb=>c6 x (hb ▸ C).blt (hsb x hb).1 (hsb x hb).2),by rw[K0];exact hrl,c2,?_,⟨c5,fun i h1 h2=>c6 i h1 (fun e=>h2 (by simp[e])) (fun e=>h2 (by simp[e])),fun x hx=>.inl hx⟩⟩
     . show call (n+6+1) 196 _ h=_;rw[zjT];unfold zjS Yr Yp;rw[e,zH,zC]
     . simp;omega
   | true =>
     obtain⟨h',e,c4,c5⟩:=zib (n+2) s RR (by omega) os osb (by omega) (by omega);have hlen:=c5.len;have hk':∀ j,j < h'.length->(h'++[HB.row 35 2 ((Ju (m:Int) os xs).1.map R.w) true])[j]?=h'[j]?:=fun j hj=>zk hj;refine⟨h'++[HB.row 35 2 ((Ju (m:Int) os xs).1.map R.w) true],[s,b],h'.length,?_,⟨true,zx⟩,.inr (.inl ⟨rfl,_,b,rfl,c4.keep (hk' s (by omega)) (hk' b (by omega)),rfl⟩),C.keep ((hk' c (by omega)).trans (c5.old c hsc hcq)) (fun x hb=>(hk' x (by have:=(hb ▸ C).blt;omega)).trans (c5.old x (hsb x hb).1 (hsb x hb).2)),by rw[K0];exact hrl,by omega,?_,⟨by simp;omega,fun i h1 h2=>(hk' i (by omega)).trans (c5.old i (fun e=>h2 (by simp[e])) (fun e=>h2 (by simp[e]))),fun x hx=>.inl hx⟩⟩
     . show call (n+6+1) 198 _ h=_;rw[zjV];unfold zjU Yr Yp;rw[e,zH,zC]
     . simp;omega
 . have hst:st=(itT ts,st.2):=by rw[<- hits]
   have htl:ts.length<=m:=by rw[hits] at room;simpa[itT] using room
   simp only[zaj,if_neg (show ¬ (3=1) by decide),if_neg (show ¬ (3=2) by decide)];have fin:∀ (h':ze) (ts':List Tw) (bits':List Bool) (tb:Nat) (told':List R),Did h h' s ts ts' (m:Int) c cb bits' tb told'->zag os (m:Int) (itT ts,st.2)=((itT ts',bits'),told')->RowR h' tb (zag os (m:Int) st).2/\BodAt 3 h' s (skB s ts') m (zag os (m:Int) st).1.1/\BitsAt h' c cb (zag os (m:Int) st).1.2/\(zag os (m:Int) st).1.1.length<=m/\h.length<=tb/\tb ∉ skB s ts'/\BFed h h' c (skB s ts) (skB s ts'):=by
    intro h' ts' bits' tb told' D hd;rw[hst,hd];refine⟨D.tl,.inr (.inr ⟨rfl,ts',rfl,D.sk,rfl⟩),D.bt,?_,D.tb,?_,⟨D.frm.len,fun i h1 h2=>D.frm.old i h1 h2,fun x hx=>?_⟩⟩
    . have:=D.room;simp[itT];omega
    . intro hT;obtain⟨N,S'⟩:=D.sk;unfold skB at hT;rw[<- YP s (ts'.length:Int) (m:Int) ts'] at hT;obtain⟨x,hx,rfl⟩:=ZL.1 hT;have h1:=S'.rep.at_ x hx;obtain⟨z,hz⟩:=D.tl;unfold zab at h1;rw[hz] at h1;cases h1
    . rcases D.new x hx with e|e
      . exact .inl e
      . exact .inr e
   cases pl with
   | false =>
     obtain⟨h',ts',bits',tb,told',e,D,hd⟩:=zfW (n+2) os osb S C cY cbY (by omega) (by omega) (by omega) (by omega);refine⟨h',skB s ts',tb,?_,fin h' ts' bits' tb told' D hd⟩;show call (n+6+1) 219 _ h=_;rw[zjX];unfold zjW Yr Yp;rw[e,zH,zC]
   | true =>
     obtain⟨h',ts',bits',tb,told',e,D,hd⟩:=zmj (n+2) os osb S C cY cbY (by omega) (by omega) (by omega);refine⟨h',skB s ts',tb,?_,fin h' ts' bits' tb told' D hd⟩;show call (n+6+1) 221 _ h=_;rw[zjZ];unfold zjY Yr Yp;rw[e,zH,zC]
end Go.Proofs.Tryz
namespace Go.Proofs.Tryz
open Go.L Go.Rp Go.Sk
set_option maxRecDepth 100000
theorem K1(h:ze)(c:Nat):Qq prog h .eql 25 (V.ptr c 0) (V.val (.pointer none))=some (.bool false):=by kernel_rfl
theorem BodAt.kind{k:Nat}{h:ze}{s:Nat}{Y:List Nat}{m:Nat}{its:List (Int×Nat)}(B:BodAt k h s Y m its):k=1\/k=2\/k=3:=by
 rcases B with ⟨h,_⟩|⟨h,_⟩|⟨h,_⟩ <;> omega
def zps(k:Nat):Nat:=if k=1 then 112 else if k=2 then 116 else 120
theorem zmq{k:Nat}(hk:k=1\/k=2\/k=3)(s:Nat):JR prog (zps k) (.agg [.ptr s 0]) "reaper/object.plain"=some (zmp k true,.agg [.ptr s 0]):=by
 rcases hk with rfl|rfl|rfl
 . show JR prog 112 (.agg [.ptr s 0]) "reaper/object.plain"=some (173,.agg [.ptr s 0]);kernel_rfl
 . show JR prog 116 (.agg [.ptr s 0]) "reaper/object.plain"=some (198,.agg [.ptr s 0]);kernel_rfl
 . show JR prog 120 (.agg [.ptr s 0]) "reaper/object.plain"=some (221,.agg [.ptr s 0]);kernel_rfl
theorem zmr{k:Nat}(hk:k=1\/k=2\/k=3)(s:Nat):JR prog (zps k) (.agg [.ptr s 0]) "reaper/object.batch"=some (zmp k false,.agg [.ptr s 0]):=by
 rcases hk with rfl|rfl|rfl
 . show JR prog 112 (.agg [.ptr s 0]) "reaper/object.batch"=some (171,.agg [.ptr s 0]);kernel_rfl
 . show JR prog 116 (.agg [.ptr s 0]) "reaper/object.batch"=some (196,.agg [.ptr s 0]);kernel_rfl
 . show JR prog 120 (.agg [.ptr s 0]) "reaper/object.batch"=some (219,.agg [.ptr s 0]);kernel_rfl
theorem znN{k:Nat}(hk:k=1\/k=2\/k=3)(pl:Bool):QI (zmp k pl)=true/\okV prog 28 (zmp k pl)=true:=by
 rcases hk with rfl|rfl|rfl <;> cases pl
 . show QI 171=true/\okV prog 28 171=true;exact⟨by kernel_rfl,by kernel_rfl⟩
 . show QI 173=true/\okV prog 28 173=true;exact⟨by kernel_rfl,by kernel_rfl⟩
 . show QI 196=true/\okV prog 28 196=true;exact⟨by kernel_rfl,by kernel_rfl⟩
 . show QI 198=true/\okV prog 28 198=true;exact⟨by kernel_rfl,by kernel_rfl⟩
 . show QI 219=true/\okV prog 28 219=true;exact⟨by kernel_rfl,by kernel_rfl⟩
 . show QI 221=true/\okV prog 28 221=true;exact⟨by kernel_rfl,by kernel_rfl⟩
theorem zms (n : Nat) {k : Nat} {h : ze} {o s c : Nat} {cb : Option Nat} {Y : List Nat} {m : Nat} {pl : Bool} {st : St} (A : ObAt k h o s c cb Y m pl st) (os : List O) (osb : Bool) (hk : ∀ o ∈ os, 0 <= o.k /\ o.k < 256) (hos : os.length <= 1000) (hn : 2 * os.length + m + 100 <= n) :
    ∃ h' Y' T,call (n+8) 17 [.ptr o 0,.sl 2 (os.map O.w) osb] h=some (.ret [.row T 2 0 os.length],h')/\RowR h' T (zaj k m os st).2/\ObAt k h' o s c cb Y' m pl (zaj k m os st).1/\h.length<=T/\T ∉ obB o c cb Y'/\XFed h h' (obB o c cb Y) (obB o c cb Y'):=by
 have hkk:=A.body.kind;obtain⟨h',Y',T,e,b1,b2,b3,b4,b5,b6,b7⟩:=zr3 n pl A.body A.bits A.room A.most A.cY A.cbY os osb hk hos hn;have hol:=zQ A.box;have hA:=A.lt;have oX:o ∉ c :: Y:=by
  intro ho;rcases zN.1 ho with e|e
  . exact A.oc e
  . exact A.oY e
 have hcl:=A.bits.clt;refine⟨h',Y',T,?_,b1,⟨(b7.old o hol oX).trans A.box,b3,b2,b4,A.most,A.oc,A.ocb,?_,?_,?_⟩,b5,?_,⟨b7.len,fun i h1 h2=>b7.old i h1 (fun hm=>h2 ?_),fun x hx=>?_⟩⟩
 . rw[show n+8=(n+7)+1 from rfl,zrh];unfold zuR Yl Yi Yg Yr Yn;rw[K1,za,zm,if_neg (by decide),zI A.box,zo,if_pos (by decide)];simp only[zb,zh,za];rw[zm];cases pl with
   | true =>
     rw[if_pos rfl,zI A.box,zo,if_pos (by decide)];simp only[zb,zh,za];rw[zI A.box,zo,if_pos (by decide)];simp only[zb,zh,za];rw[if_pos (by rfl)];show bd2 (JR prog (zps k) (.agg [.ptr s 0]) "reaper/object.plain") _=_;rw[zmq hkk,zZ,if_pos (znN hkk true)];show clH (call (n+7) (zmp k true) [.agg [.ptr s 0],.ptr c 0,.sl 2 (os.map O.w) osb] h) _=_;rw[e];rfl
   | false =>
     rw[if_neg (by decide),zI A.box,zo,if_pos (by decide)];simp only[zb,zh,za];rw[zI A.box,zo,if_pos (by decide)];simp only[zb,zh,za];rw[if_pos (by rfl)];show bd2 (JR prog (zps k) (.agg [.ptr s 0]) "reaper/object.batch") _=_;rw[zmr hkk,zZ,if_pos (znN hkk false)];show clH (call (n+7) (zmp k false) [.agg [.ptr s 0],.ptr c 0,.sl 2 (os.map O.w) osb] h) _=_;rw[e];rfl
 . intro hy;rcases b7.new o hy with e1|e1
   . exact A.oY e1
   . omega
 . intro hy;rcases b7.new c hy with e1|e1
   . exact A.cY e1
   . omega
 . intro b hb hy;rcases b7.new b hy with e1|e1
   . exact A.cbY b hb e1
   . have:=(hb ▸ A.bits).blt;omega
 . intro hT;simp only[obB,zN,Zn] at hT;rcases hT with e1|e1|e1|e1
   . omega
   . omega
   . cases cb with
     | none=>simp at e1
     | some b=>simp at e1;have:=A.bits.blt;omega
   . exact b6 e1
 . rcases zN.1 hm with e1|e1
   . simp[obB,e1]
   . simp[obB,e1]
 . simp only[obB,zN,Zn] at hx ⊢;rcases hx with e1|e1|e1|e1
   . exact .inl (.inl e1)
   . exact .inl (.inr (.inl e1))
   . exact .inl (.inr (.inr (.inl e1)))
   . rcases b7.new x e1 with e2|e2
     . exact .inl (.inr (.inr (.inr e2)))
     . exact .inr e2
def SlJ(h:ze)(lo:Nat)(r:V)(l:List Int):Prop:=SlI h lo r l\/r=.sl 1 (l.map (Qs .i32)) false
theorem SlJ.sees{h:ze}{lo:Nat}{r:V}{l:List Int}(s:SlJ h lo r l):zh9 h r l:=by
 rcases s with s|rfl
 . exact s.sees
 . exact⟨⟨1,j9 ..⟩,fun i x hx=>⟨_,XJ (es:=Qs .i32 x) (by rw[zF,hx];rfl) false,Zq ..⟩⟩
theorem SlI.keepB{h h':ze}{lo:Nat}{r:V}{l:List Int}(s:SlI h lo r l)(hk:∀ b,lo<=b->b < h.length->h'[b]?=h[b]?):SlI h' lo r l:=by
 rcases s with s|⟨b,z,h1,h2,h3⟩
 . exact .inl s
 . exact .inr ⟨b,z,h1,h2,(hk b h1 (zQ h3)).trans h3⟩
theorem SlJ.keep{h h':ze}{lo:Nat}{r:V}{l:List Int}(s:SlJ h lo r l)(hk:∀ b,lo<=b->b < h.length->h'[b]?=h[b]?):SlJ h' lo r l:=s.imp (fun s=>s.keepB hk) id
theorem zwt{ts:List Tw}(hh:∀ t∈ts,1<=t.ht):lvV 0 ts=(itT ts).map Prod.fst:=by
 unfold lvV itT;rw[List.map_map,XO.2 (fun t ht=>by have:=hh t ht;simp;omega)];rfl
theorem zmt{k:Nat}(hk:k=1\/k=2\/k=3)(s:Nat):JR prog (zps k) (.agg [.ptr s 0]) "Items"=some (if k=1 then 168 else if k=2 then 191 else 217,.ptr s 0):=by
 rcases hk with rfl|rfl|rfl
 . show JR prog 112 (.agg [.ptr s 0]) "Items"=some (168,.ptr s 0);kernel_rfl
 . show JR prog 116 (.agg [.ptr s 0]) "Items"=some (191,.ptr s 0);kernel_rfl
 . show JR prog 120 (.agg [.ptr s 0]) "Items"=some (217,.ptr s 0);kernel_rfl
theorem zr4{k:Nat}(hk:k=1\/k=2\/k=3):QI (if k=1 then 168 else if k=2 then 191 else 217)=true/\okV prog 27 (if k=1 then 168 else if k=2 then 191 else 217)=true:=by
 rcases hk with rfl|rfl|rfl
 . show QI 168=true/\okV prog 27 168=true;exact⟨by kernel_rfl,by kernel_rfl⟩
 . show QI 191=true/\okV prog 27 191=true;exact⟨by kernel_rfl,by kernel_rfl⟩
 . show QI 217=true/\okV prog 27 217=true;exact⟨by kernel_rfl,by kernel_rfl⟩
theorem zfk (n : Nat) {k : Nat} {h : ze} {s : Nat} {Y : List Nat} {m : Nat} {its : List (Int × Nat)} (B : BodAt k h s Y m its) (room : its.length <= m) (hm : m <= 1000) (hn : m + 10 < n) :
    ∃ h' r,call (n+3) (if k=1 then 168 else if k=2 then 191 else 217) [.ptr s 0] h=some (.ret [r],h')/\SlJ h' h.length r (its.map Prod.fst)/\h.length<=h'.length/\∀ i,i < h.length->h'[i]?=h[i]?:=by
 have hlim:1000000 < lim:=by decide
 rcases B with ⟨rfl,xs,qb,rfl,S,rfl⟩|⟨rfl,xs,b,rfl,RR,rfl⟩|⟨rfl,ts,rfl,⟨N,S⟩,rfl⟩
 . rw[K0] at room;rw[zdV];exact⟨h++[HB.row 21 1 (xs.map jz) true],.row h.length 1 0 xs.length,zeO (n+2) S (by omega),.inl (.inr ⟨h.length,true,zn _,rfl,zx⟩),by simp,fun i hi=>zk hi⟩
 . rw[K0] at room;rw[zdV];obtain⟨h',r,z,e,b1,b2,b3,b4⟩:=zfc n RR (by omega) (by omega);exact⟨h',_,e,.inl (.inr ⟨r,z,b2,rfl,b1⟩),b3,b4⟩
 . rw[Wj] at room;obtain⟨h',r,e,b1,b2,b3⟩:=zmc n S (by omega) (by omega);rw[zwt (fun t ht=>(S.ht t ht).1)] at b1;exact⟨h',r,e,.inl b1,b2,b3⟩
theorem zaX (n : Nat) {k : Nat} {h : ze} {o s c : Nat} {cb : Option Nat} {Y : List Nat} {m : Nat} {pl : Bool} {st : St} (A : ObAt k h o s c cb Y m pl st) (hn : m + 10 < n) :
    ∃ h' r,call (n+4) 20 [.ptr o 0] h=some (.ret [r],h')/\SlJ h' h.length r (st.1.map Prod.fst)/\h.length<=h'.length/\∀ i,i < h.length->h'[i]?=h[i]?:=by
 have hkk:=A.body.kind;obtain⟨h',r,e,b1,b2,b3⟩:=zfk n A.body A.room A.most hn;refine⟨h',r,?_,b1,b2,b3⟩;rw[show n+4=(n+3)+1 from rfl,zjN];unfold zjM Yl Yi Yr Yn Yp;rw[K1,za,zm,if_neg (by decide),zI A.box,zo,if_pos (by decide)];simp only[zb,zh,za];show bd2 (JR prog (zps k) (.agg [.ptr s 0]) "Items") _=_;rw[zmt hkk,zZ,if_pos (zr4 hkk)];show cl (call (n+3) _ [.ptr s 0] h) _ _=_;rw[e,zH,zC]
def ztP:List (V×V):=[(.int .u8 1,.fn 56 []),(.int .u8 2,.fn 58 []),(.int .u8 3,.fn 60 [])]
noncomputable def znO(n F:Nat)(m:Int)(p:Bool)(h:ze):Option (Res×ze) :=
 (cl (call n F [(V.int .i64 m)] h) (fun c d =>
 (Zm c fun e =>
 (cl (call n 62 [] d) (fun f a =>
 (Zm f fun g =>
 (bd (Wz prog 125 [(0,e),(1,g),(2,(V.bool p))]) fun b =>
 (if (b).length=3 then
 Yr [(V.ptr (a).length 0)] (a++[(HB.box 3 b)]) else none)))) Yp))) Yp)
def JO(m:Int):Nat:=(if 0 < (if 1000 < m then 1000 else m) then(if 1000 < m then 1000 else m) else 0).toNat
theorem znP(m:Int):(if 0 < (if 1000 < m then 1000 else m) then(if 1000 < m then 1000 else m) else 0)=((JO m:Nat):Int):=by
 unfold JO
 (repeat' split) <;> omega
theorem znQ(m:Int):JO m<=1000:=by
 unfold JO
 (repeat' split) <;> omega
theorem zr5(m:Int):max 0 (min m 1000)=((JO m:Nat):Int):=by
 unfold JO
 (repeat' split) <;> omega
theorem zic(n:Nat)(h:ze)(m:Int):call (n+1) 57 [.int .i64 m] h=some (.ret [.ptr h.length 0],h++[.box 2 [.sl 0 [] true,.int .i64 (JO m:Int)]]):=by
 rw[zo0,<- znP];rfl
theorem zid(n:Nat)(h:ze)(m:Int):call (n+1) 59 [.int .i64 m] h=some (.ret [.ptr (h.length+1) 0],h++[.row 21 1 (List.replicate (JO m) [.int .i32 0]) true,.box 3 [.row h.length 1 0 (JO m),.int .i64 0,.int .i64 0]]):=by
 have hc:=znQ m;rw[zo4];unfold zq5 Yg Yr;rw[znP,z3,zB,zB,if_pos ⟨zn _,by unfold lim;omega,by first|trivial|rfl⟩];simp
def zmu(k:Nat):Nat:=if k=1 then 56 else if k=2 then 58 else 60
theorem zvw(v:V)(s:Nat):Wz prog 112 [(0,.ptr s 0)]=some [.ptr s 0]:=by kernel_rfl
theorem zvx(s:Nat):Wz prog 116 [(0,.ptr s 0)]=some [.ptr s 0]:=by kernel_rfl
theorem zvy(s:Nat):Wz prog 120 [(0,.ptr s 0)]=some [.ptr s 0]:=by kernel_rfl
theorem zvz(t:Nat)(v:V)(c:Nat)(p:Bool):Wz prog 125 [(0,.iface t v),(1,.ptr c 0),(2,.bool p)]=some [.iface t v,.ptr c 0,.bool p]:=by kernel_rfl
theorem ztQ(n:Nat){k:Nat}(hk:k=1\/k=2\/k=3)(m:Int)(g:ze):∃ g' s Y,call (n+2) (zmu k) [.int .i64 m] g=some (.ret [zr2 k s],g')/\BodAt k g' s Y (JO m) []/\g.length<=g'.length/\(∀ i,i < g.length->g'[i]?=g[i]?)/\∀ y∈Y,g.length<=y:=by
 rcases hk with rfl|rfl|rfl
 . refine⟨_,_,[g.length],?_,.inl ⟨rfl,[],none,rfl,⟨rfl,zx⟩,rfl⟩,by simp,fun i hi=>zk hi,by simp⟩;show call (n+1+1) 56 [.int .i64 m] g=_;rw[zlZ];unfold znr Yr Yp;rw[zic,zH,zC,zvw (.bool true),za];rfl
 . refine⟨g++[.row 21 1 (List.replicate (JO m) [.int .i32 0]) true,.box 3 [.row g.length 1 0 (JO m),.int .i64 0,.int .i64 0]],g.length+1,[g.length+1,g.length],?_,.inr (.inl ⟨rfl,[],g.length,rfl,⟨by omega,List.replicate (JO m) [.int .i32 0],true,0,?_,?_,by simp,?_,by simp,by simp,?_⟩,rfl⟩),by simp,fun i hi=>zk hi,by simp⟩
   . show call (n+1+1) 58 [.int .i64 m] g=_;rw[zl0];unfold zns Yr Yp;rw[zid,zH,zC,zvx,za];rfl
   . rw[zJ (by omega),Qy];rfl
   . rw[zJ (by omega),X8];rfl
   . omega
   . intro es hes;rw[(List.mem_replicate.1 hes).2];rfl
 . obtain⟨N,e,S⟩:=zrE n g m;rw[zr5] at e S;refine⟨_,g.length,[g.length],?_,.inr (.inr ⟨rfl,[],rfl,⟨N,S⟩,rfl⟩),by simp,fun i hi=>zk hi,by simp⟩;show call (n+1+1) 60 [.int .i64 m] g=_;rw[zl1];unfold znt Yr Yp;rw[e,zH,zC,zvy,za];rfl
theorem ztR(n:Nat){k:Nat}(hk:k=1\/k=2\/k=3)(m:Int)(pl:Bool)(g:ze):∃ h' o s c Y,znO (n+2) (zmu k) m pl g=some (.ret [.ptr o 0],h')/\ObAt k h' o s c none Y (JO m) pl ([],[])/\g.length<=h'.length/\(∀ i,i < g.length->h'[i]?=g[i]?)/\∀ x∈obB o c none Y,g.length<=x:=by
 obtain⟨g',s,Y,e,B,b1,b2,b3⟩:=ztQ n hk m g;have hY:=B.lt;have k1:∀ i,i < g'.length->((g'++[HB.box 1 [V.sl 0 [] true]])++[HB.box 3 [zr2 k s,.ptr g'.length 0,.bool pl]])[i]?=g'[i]?:=fun i hi=>by
  rw[zk (by simp;omega),zk hi]
 refine⟨(g'++[HB.box 1 [V.sl 0 [] true]])++[HB.box 3 [zr2 k s,.ptr g'.length 0,.bool pl]],g'.length+1,s,g'.length,Y,?_,⟨?_,⟨rfl,?_⟩,B.keep (fun y hy=>k1 y (hY y hy)),z2 _,znQ m,by omega,by simp,fun hy=>by have:=hY _ hy;omega,fun hy=>by have:=hY _ hy;omega,by simp⟩,by simp;omega,fun i hi=>(k1 i (by omega)).trans (b2 i hi),?_⟩
 . unfold znO Yr Yp;rw[e,zH,zC,zfF,zH,zC];unfold zr2;rw[zvz,za,if_pos (by rfl)];simp
 . rw[zJ (by simp)];simp
 . rw[zk (by simp),zx]
 . intro x hx;simp only[obB,zN,Zn,Option.toList_none,List.not_mem_nil,false_or] at hx;rcases hx with e1|e1|e1
   . omega
   . omega
   . exact b3 x e1
end Go.Proofs.Tryz
namespace Go.Proofs.Tryz
open Go.L Go.Rp Go.Sk
set_option maxRecDepth 100000
theorem zvA(h:ze)(a x:HB):(h++[a]).set h.length x=h++[x]:=by simp
theorem zvB(h:ze)(a:HB):(h++[a])[h.length]?=some a:=zx
theorem ztS:kds prog 12 5=some [0]:=by kernel_rfl
end Go.Proofs.Tryz
namespace Go.Proofs.Tryz
open Go.L
set_option maxRecDepth 100000
noncomputable def plF {R : Type} (b t : Nat) : List (Int × Nat) -> ze -> (ze -> Option R) -> Option R
 | [],h,K=>K h
 | (k,f) :: l,h,K=>zbL (h)[b]? fun es=>bd (kds prog 12 3) fun ks=>bd (Qp ks (V.int .i64 k) es 0) fun r=>if ((V.int .i64 k).one=!false/\(V.int .i64 k).cells.length=ks.length) then plF b t l ((h).set b (HB.map (upd es (V.int .i64 k) (V.bf f [(V.ptr t 0)]) r))) K else none
def zfX:List (Int×Nat):=[(20,103),(21,104),(22,105),(23,106),(24,107),(25,108),(26,109),(27,110),(28,111),(29,112),(30,113),(31,114),(32,115),(33,116),(34,117),(35,118),(36,119),(37,120),(38,121),(39,122)]
theorem zkI(n t h):call (n+1) 79 [(V.ptr t 0)] h=plF h.length t zfX (h++[.map []]) (fun h'=>some (.ret [.map h.length],h')):=by kernel_rfl
noncomputable def zr6(n t:Nat)(a p:Int)(h:ze):Option (Res×ze) :=
 (Yl h (V.ptr t 13) fun f =>
 (cl (call n 51 [f,(V.int .i64 a)] h) (fun c b =>
 (bd (c)[0]? fun g =>
 (bd (c)[1]? fun k =>
 (Yw g b (V.ptr t 5) fun d e =>
 (bd2 (Zl ((b).set d e) [(V.int .i64 p)] (V.ptr t 1)) fun i j =>
 Yr [] ((((b).set d e)).set i j)))))) Yp))
theorem zpt(n t a p h):call (n+1) 133 [(V.ptr t 0),(V.int .i64 a),(V.int .i64 p)] h=zr6 n t a p h:=by kernel_rfl
noncomputable def znR(n t:Nat)(a v p:Int)(h:ze):Option (Res×ze) :=
 (Yl h (V.ptr t 13) fun c =>
 (cl (call n 52 [c,(V.int .i64 a),(V.int .i64 v)] h) (fun d b =>
 (Zm d fun g =>
 (bd2 (Zl b [(V.int .i64 p)] (V.ptr t 1)) fun e f =>
 Yr [] ((b).set e f)))) Yp))
theorem zmv(n t a v p h):call (n+1) 134 [(V.ptr t 0),(V.int .i64 a),(V.int .i64 v),(V.int .i64 p)] h=znR n t a v p h:=by kernel_rfl
noncomputable def zr7(n t:Nat)(a u v y z:Int)(h:ze):Option (Res×ze) :=
 (bd2 (Zl h [(V.int .i64 z)] (V.ptr t 1)) fun c d =>
 (Yl ((h).set c d) (V.ptr t 13) fun f =>
 (cl (call n 147 [f,(V.int .i64 a),(V.int .i64 u),(V.int .i64 v)] ((h).set c d)) (fun e b =>
 (bd (e)[0]? fun g =>
 (bd (e)[1]? fun l =>
 (bv g fun i=>if i then
 (bd2 (Zl b [(V.int .i64 y)] (V.ptr t 1)) fun j k =>
 Yr [] ((b).set j k))
 else
 Yr [] b)))) Yp)))
theorem zpu(n t a u v y z h):call (n+1) 140 [(V.ptr t 0),(V.int .i64 a),(V.int .i64 u),(V.int .i64 v),(V.int .i64 y),(V.int .i64 z)] h=zr7 n t a u v y z h:=by kernel_rfl
noncomputable def zwu(n t:Nat)(h:ze):Option (Res×ze) :=
 (Yl h (V.ptr t 8) fun e =>
 (Ya e fun f =>
 (Yw f h (V.ptr t 8) fun a b =>
 (bd2 (Zl ((h).set a b) [(V.int .i64 33)] (V.ptr t 1)) fun c d =>
 (Yl ((((h).set a b)).set c d) (V.ptr t 8) fun g =>
 (Yl ((((h).set a b)).set c d) (V.ptr t 9) fun i =>
 (Yi (bop prog .lss 3 g i)
 (bd2 (Zl ((((h).set a b)).set c d) [(V.int .i64 23)] (V.ptr t 1)) fun j k =>
 Yr [] ((((((h).set a b)).set c d)).set j k))
 (Yr [] ((((h).set a b)).set c d)))))))))
theorem ztT(n t h):call (n+1) 136 [(V.ptr t 0)] h=zwu n t h:=by kernel_rfl
noncomputable def zkJ(n t:Nat)(b:Bool)(h:ze):Option (Res×ze) :=
 (if (!b) then
 (cl (call n 136 [(V.ptr t 0)] h) (fun c a =>
 Yr [] a) Yp)
 else
 Yr [] h)
theorem zkK(n t b h):call (n+1) 138 [(V.ptr t 0),(V.bool b)] h=zkJ n t b h:=by kernel_rfl
noncomputable def zr8(n t:Nat)(h:ze):Option (Res×ze) :=
 (Yl h (V.ptr t 8) fun b =>
 (Yi (bop prog .lss 3 b (V.int .i64 0))
 (Yr [Yn] h)
 (Yl h (V.ptr t 8) fun c =>
 (Yl h (V.ptr t 12) fun d =>
 (bd (ZI h d) fun e =>
 (Yi (bop prog .geq 3 c (V.int .i64 ((e.2).length:Int)))
 (Yr [Yn] h)
 (Yl h (V.ptr t 12) fun a =>
 (Yl h (V.ptr t 8) fun f =>
 (Yx 3 f a fun g =>
 Yr [(jd a g)] h)))))))))
theorem zpv(n t h):call (n+1) 143 [(V.ptr t 0)] h=zr8 n t h:=by kernel_rfl
noncomputable def zr9(n t:Nat)(h:ze):Option (Res×ze) :=
 (cl (call n 133 [(V.ptr t 0),(V.int .i64 2),(V.int .i64 21)] h) (fun b a =>
 Yr [] a) Yp)
theorem zpw(n t h):call (n+1) 103 [(V.ptr t 0)] h=zr9 n t h:=by kernel_rfl
noncomputable def znS(n t:Nat)(h:ze):Option (Res×ze) :=
 (Yl h (V.ptr t 5) fun e =>
 (bd (bop prog .add 2 e (V.int .i64 1)) fun f =>
 (Yw f h (V.ptr t 10) fun a b =>
 (Yl ((h).set a b) (V.ptr t 11) fun g =>
 (Ya g fun i =>
 (Yw i ((h).set a b) (V.ptr t 11) fun c d =>
 (Yl ((((h).set a b)).set c d) (V.ptr t 10) fun j =>
 (cl (call n 134 [(V.ptr t 0),(V.int .i64 2),j,(V.int .i64 22)] ((((h).set a b)).set c d)) (fun l k =>
 Yr [] k) Yp))))))))
theorem zmw(n t h):call (n+1) 104 [(V.ptr t 0)] h=znS n t h:=by kernel_rfl
noncomputable def zsa(n t:Nat)(h:ze):Option (Res×ze) :=
 (Yl h (V.ptr t 13) fun f =>
 (cl (call n 135 [f] h) (fun g a =>
 (Zm g fun i =>
 (Yw i a (V.ptr t 9) fun b c =>
 (bd2 (Zl ((a).set b c) [(V.int .i64 (-1))] (V.ptr t 8)) fun d e =>
 (bd2 (Zl ((((a).set b c)).set d e) [(V.sl 0 [] true)] (V.ptr t 12)) fun j k =>
 (cl (call n 136 [(V.ptr t 0)] ((((((a).set b c)).set d e)).set j k)) (fun m l =>
 Yr [] l) Yp)))))) Yp))
theorem zpx(n t h):call (n+1) 105 [(V.ptr t 0)] h=zsa n t h:=by kernel_rfl
noncomputable def zsb(n t:Nat)(h:ze):Option (Res×ze) :=
 (Yl h (V.ptr t 8) fun e =>
 (cl (call n 137 [e] h) (fun f a =>
 (Zm f fun g =>
 (Yw g a (V.ptr t 6) fun b c =>
 (Yl ((a).set b c) (V.ptr t 6) fun i =>
 (Ya i fun j =>
 (cl (call n 133 [(V.ptr t 0),j,(V.int .i64 24)] ((a).set b c)) (fun o d =>
 (Yl d (V.ptr t 5) fun k =>
 (bd (bop prog .eql 2 k (V.int .i64 0)) fun l =>
 (cl (call n 138 [(V.ptr t 0),l] d) (fun p m =>
 Yr [] m) Yp)))) Yp)))))) Yp))
theorem zpy(n t h):call (n+1) 106 [(V.ptr t 0)] h=zsb n t h:=by kernel_rfl
noncomputable def zsc(n t:Nat)(h:ze):Option (Res×ze) :=
 (Yl h (V.ptr t 6) fun b =>
 (bd (bop prog .add 3 b (V.int .i64 0)) fun c =>
 (cl (call n 133 [(V.ptr t 0),c,(V.int .i64 25)] h) (fun j a =>
 (Yl a (V.ptr t 5) fun d =>
 (cl (call n 139 [d] a) (fun e f =>
 (Zm e fun g =>
 (cl (call n 138 [(V.ptr t 0),g] f) (fun k i =>
 Yr [] i) Yp))) Yp))) Yp)))
theorem zpz(n t h):call (n+1) 107 [(V.ptr t 0)] h=zsc n t h:=by kernel_rfl
noncomputable def zsd(n t:Nat)(h:ze):Option (Res×ze) :=
 (Yl h (V.ptr t 6) fun b =>
 (Ya b fun c =>
 (cl (call n 140 [(V.ptr t 0),c,(V.int .i64 0),(V.int .i64 2),(V.int .i64 26),(V.int .i64 23)] h) (fun g a =>
 (Yl a (V.ptr t 1) fun d =>
 (bd (bop prog .eql 3 d (V.int .i64 26)) fun e =>
 (cl (call n 138 [(V.ptr t 0),e] a) (fun i f =>
 Yr [] f) Yp)))) Yp)))
theorem zpA(n t h):call (n+1) 108 [(V.ptr t 0)] h=zsd n t h:=by kernel_rfl
noncomputable def znT(n t:Nat)(h:ze):Option (Res×ze) :=
 (cl (call n 133 [(V.ptr t 0),(V.int .i64 1),(V.int .i64 27)] h) (fun i a =>
 (Yl a (V.ptr t 5) fun d =>
 (Yi (bop prog .neq 2 d (V.int .i64 0))
 (Yl a (V.ptr t 5) fun e =>
 (Yw e a (V.ptr t 7) fun b c =>
 (bd2 (Zl ((a).set b c) [(V.int .i64 29)] (V.ptr t 1)) fun f g =>
 Yr [] ((((a).set b c)).set f g))))
 (Yr [] a)))) Yp)
theorem zmx(n t h):call (n+1) 109 [(V.ptr t 0)] h=znT n t h:=by kernel_rfl
noncomputable def zse(n t:Nat)(h:ze):Option (Res×ze) :=
 (Yl h (V.ptr t 6) fun a =>
 (bd (bop prog .add 3 a (V.int .i64 3)) fun b =>
 (cl (call n 134 [(V.ptr t 0),b,(V.int .i64 0),(V.int .i64 28)] h) (fun d c =>
 Yr [] c) Yp)))
theorem zpB(n t h):call (n+1) 110 [(V.ptr t 0)] h=zse n t h:=by kernel_rfl
noncomputable def zsf(n t:Nat)(h:ze):Option (Res×ze) :=
 (Yl h (V.ptr t 6) fun a =>
 (cl (call n 140 [(V.ptr t 0),(V.int .i64 1),(V.int .i64 0),a,(V.int .i64 32),(V.int .i64 26)] h) (fun c b =>
 Yr [] b) Yp))
theorem zpC(n t h):call (n+1) 111 [(V.ptr t 0)] h=zsf n t h:=by kernel_rfl
noncomputable def znU(n t:Nat)(h:ze):Option (Res×ze) :=
 (Yl h (V.ptr t 7) fun a =>
 (bd (bop prog .add 3 a (V.int .i64 3)) fun b =>
 (cl (call n 133 [(V.ptr t 0),b,(V.int .i64 30)] h) (fun d c =>
 Yr [] c) Yp)))
theorem zmy(n t h):call (n+1) 112 [(V.ptr t 0)] h=znU n t h:=by kernel_rfl
noncomputable def zuY(n t:Nat)(h:ze):Option (Res×ze) :=
 (Yl h (V.ptr t 6) fun a =>
 (bd (bop prog .add 3 a (V.int .i64 3)) fun b =>
 (Yl h (V.ptr t 5) fun c =>
 (clH (call n 134 [(V.ptr t 0),b,c,(V.int .i64 31)] h) fun e d =>
 Yr [] d))))
theorem zsg(n t h):call (n+1) 113 [(V.ptr t 0)] h=zuY n t h:=by kernel_rfl
noncomputable def zuZ(n t:Nat)(h:ze):Option (Res×ze) :=
 (Yl h (V.ptr t 7) fun a =>
 (bd (bop prog .add 3 a (V.int .i64 3)) fun b =>
 (Yl h (V.ptr t 6) fun c =>
 (clH (call n 134 [(V.ptr t 0),b,c,(V.int .i64 32)] h) fun e d =>
 Yr [] d))))
theorem zsh(n t h):call (n+1) 114 [(V.ptr t 0)] h=zuZ n t h:=by kernel_rfl
noncomputable def zsi(n t:Nat)(h:ze):Option (Res×ze) :=
 (Yl h (V.ptr t 6) fun a =>
 (Ya a fun b =>
 (cl (call n 134 [(V.ptr t 0),b,(V.int .i64 1),(V.int .i64 23)] h) (fun e c =>
 (cl (call n 136 [(V.ptr t 0)] c) (fun f d =>
 Yr [] d) Yp)) Yp)))
theorem zpD(n t h):call (n+1) 115 [(V.ptr t 0)] h=zsi n t h:=by kernel_rfl
noncomputable def zsj(n t:Nat)(h:ze):Option (Res×ze) :=
 (cl (call n 133 [(V.ptr t 0),(V.int .i64 1),(V.int .i64 40)] h) (fun i a =>
 (Yl a (V.ptr t 5) fun d =>
 (Yi (bop prog .neq 2 d (V.int .i64 0))
 (Yl a (V.ptr t 5) fun e =>
 (Yw e a (V.ptr t 6) fun b c =>
 (bd2 (Zl ((a).set b c) [(V.int .i64 34)] (V.ptr t 1)) fun f g =>
 Yr [] ((((a).set b c)).set f g))))
 (Yr [] a)))) Yp)
theorem zpE(n t h):call (n+1) 116 [(V.ptr t 0)] h=zsj n t h:=by kernel_rfl
noncomputable def zsk(n t:Nat)(h:ze):Option (Res×ze) :=
 (Yl h (V.ptr t 6) fun d =>
 (bd (bop prog .add 3 d (V.int .i64 0)) fun e =>
 (cl (call n 133 [(V.ptr t 0),e,(V.int .i64 35)] h) (fun u b =>
 (Yl b (V.ptr t 5) fun f =>
 (cl (call n 139 [f] b) (fun g a =>
 (Zm g fun i =>
 (bv i fun j=>if j then
 (Yl a (V.ptr t 12) fun k =>
 (Yl a (V.ptr t 6) fun l =>
 (Yl a (V.ptr t 5) fun m =>
 (bd (Wz prog 87 [(0,l),(1,m)]) fun o =>
 (bd (K6 prog 63 1 [(0,(V.agg o))]) fun p =>
 (bd2 (Ws 87 3 a p.2 k) fun q c =>
 (Yw q c (V.ptr t 12) fun r s =>
 Yr [] ((c).set r s))))))))
 else
 Yr [] a))) Yp))) Yp)))
theorem zpF(n t h):call (n+1) 117 [(V.ptr t 0)] h=zsk n t h:=by kernel_rfl
noncomputable def zsl(n t:Nat)(h:ze):Option (Res×ze) :=
 (Yl h (V.ptr t 6) fun d =>
 (bd (bop prog .add 3 d (V.int .i64 3)) fun e =>
 (cl (call n 133 [(V.ptr t 0),e,(V.int .i64 36)] h) (fun p a =>
 (Yl a (V.ptr t 5) fun f =>
 (Yi (bop prog .neq 2 f (V.int .i64 0))
 (Yl a (V.ptr t 5) fun g =>
 (Yw g a (V.ptr t 6) fun b c =>
 (bd2 (Zl ((a).set b c) [(V.int .i64 34)] (V.ptr t 1)) fun i j =>
 Yr [] ((((a).set b c)).set i j))))
 (Yl a (V.ptr t 12) fun k =>
 (bd (ZI a k) fun l =>
 (if (((l.2).length:Int) == 0) then
 (bd2 (Zl a [(V.int .i64 40)] (V.ptr t 1)) fun m o =>
 Yr [] ((a).set m o))
 else
 Yr [] a)))))) Yp)))
theorem zpG(n t h):call (n+1) 118 [(V.ptr t 0)] h=zsl n t h:=by kernel_rfl
noncomputable def zb6(n t:Nat)(v39:V)(p44:Nat×List (List V))(st46:List V)(hh47:ze)(next48:List V->ze->Option (Res×ze)):Option (Res×ze) :=
 (Yi (bop prog .lss 3 (gv st46 1) (V.int .i64 ((p44.2).length:Int)))
 (bd (ZI hh47 v39) fun j =>
 (Yi (bop prog .lss 3 (gv st46 1) (V.int .i64 ((j.2).length:Int)))
 (Yx 2 (gv st46 1) v39 fun k =>
 (bd3 (Zv hh47 k) fun c l a=>if (a+2<=l/\0 < 2) then
 (if (((c).drop a |>.take 2)).length=2 then
 (Yg ((((c).drop a |>.take 2)).length<=2) (Yl hh47 (V.ptr t 12) fun f =>
 (clS (call n 142 [(V.agg (((setR [(V.int .u8 0),(V.int .i32 0)] 0 ((c).drop a |>.take 2))).drop 0 |>.take 2))] []) fun m =>
 (Zm m fun o =>
 (Yx 3 (gv st46 1) f fun p =>
 (bd (ZD 2 (jd f p)) fun q =>
 (Yw o hh47 q fun r s =>
 (Ya (gv st46 1) fun u =>
 (next48 [(V.bool false),u] ((hh47).set r s)))))))))) else none) else none))
 (Yl hh47 (V.ptr t 12) fun g =>
 (clS (call n 142 [(V.agg [(V.int .u8 0),(V.int .i32 0)])] []) fun v =>
 (Zm v fun w =>
 (Yx 3 (gv st46 1) g fun x =>
 (bd (ZD 2 (jd g x)) fun y =>
 (Yw w hh47 y fun z A =>
 (Ya (gv st46 1) fun B =>
 (next48 [(V.bool false),B] ((hh47).set z A)))))))))))
 (Yl hh47 (V.ptr t 12) fun C =>
 (bd (ZI hh47 C) fun b =>
 (Yg ((b.1=3\/(b.2).isEmpty=true)/\(b.2).length < lim) (bd2 (Zl hh47 [(V.sl 3 b.2 false)] (V.ptr t 16)) fun d e =>
 (bd2 (Zl ((hh47).set d e) [(V.int .i64 0)] (V.ptr t 8)) fun h i =>
 (bd2 (Zl ((((hh47).set d e)).set h i) [(V.int .i64 37)] (V.ptr t 1)) fun D E =>
 Yr [] ((((((hh47).set d e)).set h i)).set D E))))))))
noncomputable def jJ(n t:Nat)(v10:V)(p11:Nat×List (List V))(st13:List V)(hh14:ze)(next15:List V->ze->Option (Res×ze)):Option (Res×ze) :=
 (Yi (bop prog .lss 3 (gv st13 2) (V.int .i64 ((p11.2).length:Int)))
 (Yx 3 (gv st13 2) v10 fun g =>
 (bd3 (Zv hh14 g) fun b h a=>if (a+3<=h/\0 < 3) then
 (if (((b).drop a |>.take 3)).length=3 then
 (Yg ((((b).drop a |>.take 3)).length<=3) (bd ((setR [(V.int .i64 0),(V.int .i64 0),(V.int .i64 0)] 0 ((b).drop a |>.take 3)))[1]? fun i =>
 (cl (call n 141 [i] hh14) (fun f j =>
 (bd (f)[0]? fun c =>
 (bd (f)[1]? fun s =>
 (bdS (nv (gv st13 2)) fun d =>
 (Yg (2=2/\d < ((lsl (gv st13 0))).length/\(some 34:Option Nat)≠some 2) (if ((V.cells c)).length=2 then
 (Yg (2=2/\0 < 2/\0+((V.cells c)).length<=2) (bd ((lsl (gv st13 0)))[d]? fun k =>
 (Ya (gv st13 2) fun l =>
 (next15 [(V.sl 2 (((lsl (gv st13 0))).set d (setR k 0 (V.cells c))) false),(V.bool false),l] j)))) else none)))))) Yp))) else none) else none))
 (Yl hh14 (V.ptr t 14) fun m =>
 (cl (call n 17 [m,(V.sl 2 (lsl (gv st13 0)) false)] hh14) (fun o e =>
 (Zm o fun p =>
 (Yl e (V.ptr t 12) fun q =>
 (bd (ZI e q) fun r =>
 (zV n (zb6 n t p r) [(V.bool false),(V.int .i64 0)] e))))) Yp)))
noncomputable def zwv(n t:Nat)(h:ze):Option (Res×ze) :=
 (Yl h (V.ptr t 12) fun e =>
 (bd (ZI h e) fun a =>
 (bdS (nv (V.int .i64 ((a.2).length:Int))) fun b =>
 (bdS (nv (V.int .i64 ((a.2).length:Int))) fun c =>
 (Yg (b<=c/\c < lim/\2=2) (Yl h (V.ptr t 12) fun d =>
 (bd (ZI h d) fun f =>
 (zV n (jJ n t d f) [(V.sl 2 (List.replicate b [(V.int .u8 0),(V.int .i32 0)]) false),(V.bool false),(V.int .i64 0)] h))))))))
theorem ztU(n t h):call (n+1) 119 [(V.ptr t 0)] h=zwv n t h:=by kernel_rfl
noncomputable def zsm(n t:Nat)(h:ze):Option (Res×ze) :=
 (cl (call n 143 [(V.ptr t 0)] h) (fun d a =>
 (Zm d fun b =>
 (Yi (Qq prog a .neq 216 b Yn)
 (Yl a (V.ptr t 13) fun e =>
 (bd (ZD 0 b) fun f =>
 (bd (ZD 0 f) fun g =>
 (Yl a g fun i =>
 (bd (bop prog .add 3 i (V.int .i64 4)) fun j =>
 (bd (ZD 0 b) fun k =>
 (bd (ZD 2 k) fun l =>
 (Yl a l fun m =>
 (clH (call n 52 [e,j,m] a) fun o c =>
 (Zm o fun u =>
 (bd2 (Zl c [(V.int .i64 38)] (V.ptr t 1)) fun p q =>
 Yr [] ((c).set p q))))))))))))
 (bd2 (Zl a [(V.int .i64 38)] (V.ptr t 1)) fun r s =>
 Yr [] ((a).set r s))))) Yp)
theorem zpH(n t h):call (n+1) 120 [(V.ptr t 0)] h=zsm n t h:=by kernel_rfl
noncomputable def zu0(n t:Nat)(h:ze):Option (Res×ze) :=
 (cl (call n 143 [(V.ptr t 0)] h) (fun d a =>
 (Zm d fun b =>
 (Yi (Qq prog a .neq 216 b Yn)
 (Yl a (V.ptr t 13) fun e =>
 (bd (ZD 0 b) fun f =>
 (bd (ZD 0 f) fun g =>
 (Yl a g fun i =>
 (bd (bop prog .add 3 i (V.int .i64 2)) fun j =>
 (Yl a (V.ptr t 10) fun k =>
 (clH (call n 52 [e,j,k] a) fun l c =>
 (Zm l fun r =>
 (bd2 (Zl c [(V.int .i64 39)] (V.ptr t 1)) fun m o =>
 Yr [] ((c).set m o))))))))))
 (bd2 (Zl a [(V.int .i64 39)] (V.ptr t 1)) fun p q =>
 Yr [] ((a).set p q))))) Yp)
theorem zsn(n t h):call (n+1) 121 [(V.ptr t 0)] h=zu0 n t h:=by kernel_rfl
noncomputable def zso(n t:Nat)(h:ze):Option (Res×ze) :=
 (cl (call n 143 [(V.ptr t 0)] h) (fun k a =>
 (Zm k fun j =>
 (Yi (Qq prog a .neq 216 j Yn)
 (Yl a (V.ptr t 13) fun l =>
 (bd (ZD 0 j) fun m =>
 (bd (ZD 0 m) fun o =>
 (Yl a o fun p =>
 (bd (bop prog .add 3 p (V.int .i64 0)) fun q =>
 (clH (call n 52 [l,q,(V.int .i64 0)] a) fun r b =>
 (Zm r fun ae =>
 (Yl b (V.ptr t 8) fun s =>
 (Ya s fun u =>
 (Yw u b (V.ptr t 8) fun e f =>
 (Yi (Qq prog ((b).set e f) .neq 216 j Yn)
 (cl (call n 143 [(V.ptr t 0)] ((b).set e f)) (fun v c =>
 (Zm v fun w =>
 (Yi (Qq prog c .neq 216 w Yn)
 (bd2 (Zl c [(V.int .i64 37)] (V.ptr t 1)) fun x y =>
 Yr [] ((c).set x y))
 (Yl c (V.ptr t 11) fun z =>
 (Yl c (V.ptr t 15) fun A =>
 (Yi (bop prog .lss 3 z A)
 (bd2 (Zl c [(V.int .i64 20)] (V.ptr t 1)) fun B C =>
 Yr [] ((c).set B C))
 (bd2 (Zl c [(V.int .i64 40)] (V.ptr t 1)) fun D E =>
 Yr [] ((c).set D E)))))))) Yp)
 (Yl ((b).set e f) (V.ptr t 11) fun F =>
 (Yl ((b).set e f) (V.ptr t 15) fun G =>
 (Yi (bop prog .lss 3 F G)
 (bd2 (Zl ((b).set e f) [(V.int .i64 20)] (V.ptr t 1)) fun H I =>
 Yr [] ((((b).set e f)).set H I))
 (bd2 (Zl ((b).set e f) [(V.int .i64 40)] (V.ptr t 1)) fun J K =>
 Yr [] ((((b).set e f)).set J K))))))))))))))))
 (Yl a (V.ptr t 8) fun L =>
 (Ya L fun M =>
 (Yw M a (V.ptr t 8) fun g i =>
 (Yi (Qq prog ((a).set g i) .neq 216 j Yn)
 (cl (call n 143 [(V.ptr t 0)] ((a).set g i)) (fun N d =>
 (Zm N fun O =>
 (Yi (Qq prog d .neq 216 O Yn)
 (bd2 (Zl d [(V.int .i64 37)] (V.ptr t 1)) fun P Q =>
 Yr [] ((d).set P Q))
 (Yl d (V.ptr t 11) fun R =>
 (Yl d (V.ptr t 15) fun S =>
 (Yi (bop prog .lss 3 R S)
 (bd2 (Zl d [(V.int .i64 20)] (V.ptr t 1)) fun T U =>
 Yr [] ((d).set T U))
 (bd2 (Zl d [(V.int .i64 40)] (V.ptr t 1)) fun W X =>
 Yr [] ((d).set W X)))))))) Yp)
 (Yl ((a).set g i) (V.ptr t 11) fun Y =>
 (Yl ((a).set g i) (V.ptr t 15) fun Z =>
 (Yi (bop prog .lss 3 Y Z)
 (bd2 (Zl ((a).set g i) [(V.int .i64 20)] (V.ptr t 1)) fun aa ab =>
 Yr [] ((((a).set g i)).set aa ab))
 (bd2 (Zl ((a).set g i) [(V.int .i64 40)] (V.ptr t 1)) fun ac ad =>
 Yr [] ((((a).set g i)).set ac ad)))))))))))) Yp)
theorem zpI(n t h):call (n+1) 122 [(V.ptr t 0)] h=zso n t h:=by kernel_rfl
noncomputable def zkL(n:Nat)(id pc rec seq wrd look cur prev nth many pass runs:Int)(bat:V)(h:ze):Option (Res×ze) :=
 (if (decide (pc ≥ 20)) then
 Yr [(V.bool (decide (pc<=39)))] h
 else
 Yr [(V.bool false)] h)
theorem zkM(n id pc rec seq wrd look cur prev nth many pass runs bat h):call (n+1) 50 [(V.agg [(V.int .i64 id),(V.int .i64 pc),(V.int .i64 rec),(V.int .i64 seq),(V.int .i64 wrd),(V.int .i64 look),(V.int .i64 cur),(V.int .i64 prev),(V.int .i64 nth),(V.int .i64 many),(V.int .i64 pass),(V.int .i64 runs),bat])] h=zkL n id pc rec seq wrd look cur prev nth many pass runs bat h:=by kernel_rfl
noncomputable def zsp(n m o:Nat)(passes id pc rec seq wrd look cur prev nth many pass runs:Int)(bat:V)(h:ze):Option (Res×ze) :=
 (bd (ZI h bat) fun c =>
 (Yg ((c.1=3\/(c.2).isEmpty=true)/\(c.2).length < lim) (cl (call n 50 [(V.agg [(V.int .i64 id),(V.int .i64 pc),(V.int .i64 rec),(V.int .i64 seq),(V.int .i64 wrd),(V.int .i64 look),(V.int .i64 cur),(V.int .i64 prev),(V.int .i64 nth),(V.int .i64 many),(V.int .i64 pass),(V.int .i64 runs),(V.row (h).length 3 0 (c.2).length)])] (h++[(HB.row 87 3 c.2 true)])) (fun x a =>
 (Zm x fun y =>
 (Yi (uop .not y)
 (Yr [(V.agg [(V.int .i64 id),(V.int .i64 pc),(V.int .i64 rec),(V.int .i64 seq),(V.int .i64 wrd),(V.int .i64 look),(V.int .i64 cur),(V.int .i64 prev),(V.int .i64 nth),(V.int .i64 many),(V.int .i64 pass),(V.int .i64 runs),(V.row (h).length 3 0 (c.2).length)]),(V.row (a).length 3 0 0)] (a++[(HB.row 87 3 [] true)]))
 (clH (call n 79 [(V.ptr (a).length 0)] (a++[(HB.box 17 [(V.int .i64 id),(V.int .i64 pc),(V.int .i64 rec),(V.int .i64 seq),(V.int .i64 wrd),(V.int .i64 look),(V.int .i64 cur),(V.int .i64 prev),(V.int .i64 nth),(V.int .i64 many),(V.int .i64 pass),(V.int .i64 runs),(V.row (h).length 3 0 (c.2).length),(V.ptr m 0),(V.ptr o 0),(V.int .i64 passes),(V.sl 0 [] true)])])) fun z b =>
 (Zm z fun A =>
 (bdS (Yy b A) fun v =>
 (bd (kds prog 12 3) fun w=>bdS (Qp w (V.int .i64 pc) v 0) fun B=>bd (J1 v (V.val .nilFunc) B) fun C=>if (((V.int .i64 pc)).one=!false/\((V.int .i64 pc)).cells.length=w.length/\false=false) then
 (fbK C (fun d j=>if (okV prog 0 d=true) then(if Yd d then(if QI d then
 (clS (call n d ([]++j) []) fun k =>
 (bd3 (Zv b (V.ptr (a).length 0)) fun l D e=>if (e+13<=D/\0 < 13) then
 (Yl b (V.ptr (a).length 16) fun E =>
 (if (((l).drop e |>.take 13)).length=13 then
 (Yg ((((l).drop e |>.take 13)).length<=13) (Yr [(V.agg (((setR zbd 0 ((l).drop e |>.take 13))).drop 0 |>.take 13)),E] b)) else none)) else none))
 else
 (clS (call n d ([]++j) []) fun k=>if V.simple.simpleL k then
 (bd3 (Zv b (V.ptr (a).length 0)) fun p F f=>if (f+13<=F/\0 < 13) then
 (Yl b (V.ptr (a).length 16) fun G =>
 (if (((p).drop f |>.take 13)).length=13 then
 (Yg ((((p).drop f |>.take 13)).length<=13) (Yr [(V.agg (((setR zbd 0 ((p).drop f |>.take 13))).drop 0 |>.take 13)),G] b)) else none)) else none) else none))
 else if QI d then
 (clH (call n d ([]++j) b) fun k q =>
 (bd3 (Zv q (V.ptr (a).length 0)) fun r H g=>if (g+13<=H/\0 < 13) then
 (Yl q (V.ptr (a).length 16) fun I =>
 (if (((r).drop g |>.take 13)).length=13 then
 (Yg ((((r).drop g |>.take 13)).length<=13) (Yr [(V.agg (((setR zbd 0 ((r).drop g |>.take 13))).drop 0 |>.take 13)),I] q)) else none)) else none))
 else none) else none) (fun s J=>if (QI s=true/\okV prog 0 s=true) then
 (clH (call n s (J++[]) b) fun M t =>
 (bd3 (Zv t (V.ptr (a).length 0)) fun u K i=>if (i+13<=K/\0 < 13) then
 (Yl t (V.ptr (a).length 16) fun L =>
 (if (((u).drop i |>.take 13)).length=13 then
 (Yg ((((u).drop i |>.take 13)).length<=13) (Yr [(V.agg (((setR zbd 0 ((u).drop i |>.take 13))).drop 0 |>.take 13)),L] t)) else none)) else none)) else none)) else none))))))) Yp)))
theorem zpJ(n m o passes id pc rec seq wrd look cur prev nth many pass runs bat h):call (n+1) 38 [(V.ptr m 0),(V.ptr o 0),(V.int .i64 passes),(V.agg [(V.int .i64 id),(V.int .i64 pc),(V.int .i64 rec),(V.int .i64 seq),(V.int .i64 wrd),(V.int .i64 look),(V.int .i64 cur),(V.int .i64 prev),(V.int .i64 nth),(V.int .i64 many),(V.int .i64 pass),(V.int .i64 runs),bat])] h=zsp n m o passes id pc rec seq wrd look cur prev nth many pass runs bat h:=by kernel_rfl
end Go.Proofs.Tryz
namespace Go.Cm
open Go.L
def Zp(x:Int):Int:=IntKind.i64.wrap x
def mnN(l:List Int):Int:=(((l.length - 3) / 5:Nat):Int)
def bsN(k:Int):Int:=if k < 0 then 0 else if k > 1000 then 0 else Zp (3+Zp (5 * k))
def pkW(k v:Int):Int:=Zp ((Zp ((Zp ((Zp ((Zp v)+2147483648)) * 256))+(Zp k)))+1)
def okW(x:Int):Bool:=!(decide (x < 1)) && !(decide (x > 1099511627776))
def ofK(x:Int):Int:=if okW x then IntKind.u8.wrap (Int.tmod (Zp (x - 1)) 256) else 0
def ofV(x:Int):Int:=if okW x then IntKind.i32.wrap (Zp ((Zp (Int.tdiv (Zp (x - 1)) 256)) - 2147483648)) else 0
structure Th where
 id:Int
 pc:Int
 rc:Int
 sq:Int
 wd:Int
 lk:Int
 cu:Int
 pv:Int
 nt:Int
 mn:Int
 ps:Int
 rn:Int
structure It where
 r:Int
 w:Int
 s:Int
def It.c(x:It):List V:=[.int .i64 x.r,.int .i64 x.w,.int .i64 x.s]
def Th.v(T:Th)(bv:V):List V:=[.int .i64 T.id,.int .i64 T.pc,.int .i64 T.rc,.int .i64 T.sq,.int .i64 T.wd,.int .i64 T.lk,.int .i64 T.cu,.int .i64 T.pv,.int .i64 T.nt,.int .i64 T.mn,.int .i64 T.ps,.int .i64 T.rn,bv]
def tcl(T:Th)(bv:V)(m o:Nat)(pp:Int)(dn:V):List V:=[.int .i64 T.id,.int .i64 T.pc,.int .i64 T.rc,.int .i64 T.sq,.int .i64 T.wd,.int .i64 T.lk,.int .i64 T.cu,.int .i64 T.pv,.int .i64 T.nt,.int .i64 T.mn,.int .i64 T.ps,.int .i64 T.rn,bv,.ptr m 0,.ptr o 0,.int .i64 pp,dn]
structure Ps where
 T:Th
 xs:List It
 l:List Int
 st:Int
def Ps.pc(s:Ps)(p:Int):Ps:={ s with T:={ s.T with pc:=p } }
def Ps.load(s:Ps)(a p:Int):Ps:={ s with T:={ s.T with lk:=ldV s.l a,pc:=p },st:=ldS s.l a s.st }
def Ps.store(s:Ps)(a v p:Int):Ps:={ s with T:={ s.T with pc:=p },l:=stL s.l a v,st:=ldS s.l a s.st }
def Ps.swap(s:Ps)(a u v y z:Int):Ps:={ s with T:={ s.T with pc:=if (XZ s.l a == some u)=true then y else z },l:=if (XZ s.l a == some u)=true then stL s.l a v else s.l,st:=ldS s.l a s.st }
def Ps.on(s:Ps):Ps:={ s with T:={ s.T with nt:=Zp (s.T.nt+1),pc:=if Zp (s.T.nt+1) < s.T.mn then 23 else 33 } }
def Ps.unless(s:Ps)(b:Bool):Ps:=if b then s else s.on
def QS(bb:Option Nat)(n:Nat):V:=match bb with|none=>.sl 0 [] true|some b=>.row b 3 0 n
end Go.Cm
namespace Go.Proofs.Tryz
open Go.L Go.Rp Go.Cm
set_option maxRecDepth 100000
theorem zkN(n:Nat){h:ze}{m rb:Nat}{sz:Int}{l:List Int}{st:Int}(A:MemAt h m rb sz l st)(hl:l.length < lim):call (n+1) 34 [.ptr m 0] h=some (.ret [.sl 1 (l.map cel) false],h):=by
 obtain⟨h1,h2,z,h3⟩:=A;have hll:(l.map cel).length=l.length:=zp ..;rw[zlC];unfold zm8 Yl Yi Yg Yr Yn;rw[KV,za,zm,if_neg (by decide),zI h2,zo,if_pos (by decide)];simp only[zb,zh,za];rw[<- hll,Jh h3,za,if_pos ⟨.inl rfl,by rw[hll];exact hl⟩]
theorem zvC(n:Nat){h:ze}{m rb:Nat}{sz:Int}{l:List Int}{st:Int}(A:MemAt h m rb sz l st)(hl:l.length < lim):call (n+2) 146 [.ptr m 0] h=some (.ret [.int .i64 (l.length:Int)],h):=by
 rw[show n+2=(n+1)+1 from rfl,zqE];unfold zuH Yr Yp;rw[zkN n A hl,zH,zC];simp only[ZI,za,zp]
theorem zb7(a:Int):bop prog .quo 3 (.int .i64 a) (.int .i64 5)=some (.int .i64 (IntKind.i64.wrap (a.tdiv 5))):=by kernel_rfl
theorem ztV(n:Nat){h:ze}{m rb:Nat}{sz:Int}{l:List Int}{st:Int}(A:MemAt h m rb sz l st)(hl:l.length < lim):call (n+3) 135 [.ptr m 0] h=some (.ret [.int .i64 (mnN l)],h):=by
 rw[show n+3=(n+2)+1 from rfl,zoK];unfold zqF Yr Yp;rw[zvC n A hl,zH,zC,ZF,za];unfold lim at hl;rw[w64 (by omega) (by omega)];have e:WI [(some (V.int .i64 0)),(Wp h (V.int .i64 ((l.length:Int) - 3)))]=some [V.int .i64 0,V.int .i64 ((l.length:Int) - 3)]:=rfl;rw[e,za];have e2:mm true [V.int .i64 0,V.int .i64 ((l.length:Int) - 3)]=some (V.int .i64 (((l.length - 3:Nat)):Int)):=by
  simp only[mm,if_true];by_cases h0:3 < l.length
  . rw[if_pos (by omega)];congr 2;omega
  . rw[if_neg (by omega)];congr 2;omega
 rw[e2,za,zb7,za];have e3:(((l.length - 3:Nat):Int)).tdiv 5=((((l.length - 3) / 5:Nat)):Int):=by
  rw[Wa (by omega)];omega
 rw[e3,w64 (by omega) (by omega)];rfl
theorem ztW(n:Nat)(k:Int)(h:ze):call (n+1) 137 [.int .i64 k] h=some (.ret [.int .i64 (bsN k)],h):=by
 rw[zoL];unfold zqG bsN Yr;by_cases h1:k < 0
 . rw[if_pos (by simpa using h1),if_pos h1]
 . rw[if_neg (by simpa using h1),if_neg h1];by_cases h2:k > 1000
   . rw[if_pos (by simpa using h2),if_pos h2]
   . rw[if_neg (by simpa using h2),if_neg h2];rfl
theorem znV(n:Nat)(x:Int)(h:ze):call (n+1) 139 [.int .i64 x] h=some (.ret [.bool (decide (x > 0))],h):=zoM n x h
theorem zvD(n:Nat)(c v:Int)(h:ze):call (n+2) 142 [.agg [.int .u8 c,.int .i32 v]] h=some (.ret [.int .i64 (pkW c v)],h):=by
 rw[show n+2=(n+1)+1 from rfl,zqI];unfold zuI Yr Yp;rw[zoN];unfold zqH Yr;rw[zH,zC];exact Y0 (by rfl) (by rfl)
theorem ztX(n:Nat)(x:Int)(h:ze):call (n+3) 141 [.int .i64 x] h=some (.ret [.agg [.int .u8 (ofK x),.int .i32 (ofV x)],.bool (okW x)],h):=by
 rw[show n+3=(n+2)+1 from rfl,zoO];unfold zqK Yc Yr Yp;rw[show n+2=(n+1)+1 from rfl,zi8];unfold zi7 ofK ofV okW Yc Yr Yp;by_cases h1:x < 1
 . rw[if_pos (by simpa using h1),zH];simp only[h1];rfl
 . rw[if_neg (by simpa using h1)];by_cases h2:x > 1099511627776
   . rw[if_pos (by simpa using h2),zH];simp only[h1,h2];rfl
   . rw[if_neg (by simpa using h2),zqJ];unfold zuJ Yr;rw[zH,zC];simp only[V.cells,zD,zP,zq,Nat.reduceAdd,if_true,zn];rw[zH];simp only[h1,h2];rfl
structure TS(h:ze)(t m rb o:Nat)(pp:Int)(bb:Option Nat)(dn:V)(sz:Int)(s:Ps):Prop where
 tn:h[t]?=some (.box 17 (tcl s.T (QS bb s.xs.length) m o pp dn))
 mem:MemAt h m rb sz s.l s.st
 tm:t≠m
 tr:t≠rb
 bt:match bb with|none=>s.xs=[]|some b=>(∃ z,h[b]?=some (.row 87 3 (s.xs.map It.c) z))/\b≠t/\b≠m/\b≠rb
structure Fx(h h':ze)(t m rb:Nat)(bb bb':Option Nat):Prop where
 len:h.length<=h'.length
 old:∀ i,i < h.length->i≠t->i≠m->i≠rb->bb≠some i->h'[i]?=h[i]?
 own:∀ b,bb'=some b->bb=some b\/h.length<=b
section
variable {h:ze} {t m rb o:Nat} {pp:Int} {bb:Option Nat} {dn:V} {sz:Int} {s:Ps}
theorem Fx.refl:Fx h h t m rb bb bb:=⟨zn _,fun _ _ _ _ _ _=>rfl,fun _ h=>.inl h⟩
theorem Fx.trans{h' h'':ze}{bb' bb'':Option Nat}(a:Fx h h' t m rb bb bb')(b:Fx h' h'' t m rb bb' bb''):Fx h h'' t m rb bb bb'' :=
 ⟨ZY a.len b.len,fun i h1 h2 h3 h4 h5=>(b.old i (by have:=a.len;omega) h2 h3 h4 fun e=>by rcases a.own i e with h|h;exact h5 h;omega).trans (a.old i h1 h2 h3 h4 h5),fun x hx=>by
  rcases b.own x hx with h|h
  . exact a.own x h
  . exact .inr (by have:=a.len;omega)⟩
theorem Fx.ofFr{h':ze}{w:List Nat}(a:Fr h h' w)(hw:∀ i∈w,i=t\/i=m\/i=rb):Fx h h' t m rb bb bb :=
 ⟨a.len,fun i h1 h2 h3 h4 _=>a.old i h1 fun e=>by rcases hw i e with h|h|h <;> contradiction,fun _ h=>.inl h⟩
theorem TS.lt(A:TS h t m rb o pp bb dn sz s):t < h.length:=zQ A.tn
theorem TS.rd (A : TS h t m rb o pp bb dn sz s) {R : Type} {k : Nat} (hk : k < 17) (K : V -> Option R) :
    (bd3 (Zv h (V.ptr t k)) fun cs m o=>if (o+1<=m/\0 < 1) then(bd (cs)[o]? fun v=>K v) else none)=K (gv (tcl s.T (QS bb s.xs.length) m o pp dn) k):=by
 rw[zI A.tn,zo,if_pos ⟨by omega,by decide⟩];have hl:(tcl s.T (QS bb s.xs.length) m o pp dn).length=17:=rfl;rw[zf (by omega),za];unfold gv;rw[zO,zf (by omega),Wk]
theorem TS.wr (A : TS h t m rb o pp bb dn sz s) {R : Type} {k : Nat} (hk : k < 17) (v : V) (K : Nat -> HB -> Option R) :
    (bd2 (Zl h [v] (V.ptr t k)) K)=K t (.box 17 ((tcl s.T (QS bb s.xs.length) m o pp dn).set k v)):=by
 rw[Zx A.tn (by simp;omega),zZ];rfl
theorem TS.upd(A:TS h t m rb o pp bb dn sz s)(T:Th):TS (h.set t (.box 17 (tcl T (QS bb s.xs.length) m o pp dn))) t m rb o pp bb dn sz { s with T:=T } where
 tn:=ZU A.lt _
 mem:=A.mem.keep (zd A.tm) (zd A.tr)
 tm:=A.tm
 tr:=A.tr
 bt:=by
  have:=A.bt;cases bb with
  | none=>exact this
  | some b =>
    obtain⟨⟨z,h1⟩,h2,h3,h4⟩:=this;exact⟨⟨z,(zd (Ne.symm h2)).trans h1⟩,h2,h3,h4⟩
theorem Fx.set(x:HB):Fx h (h.set t x) t m rb bb bb:=⟨by simp,fun i _ h2 _ _ _=>zd (Ne.symm h2),fun _ h=>.inl h⟩
theorem TS.fr(A:TS h t m rb o pp bb dn sz s){h':ze}(F:Fr h h' [m,rb]){l:List Int}{st:Int}(M:MemAt h' m rb sz l st):TS h' t m rb o pp bb dn sz { s with l:=l,st:=st } where
 tn:=(F.old _ A.lt (by simp[A.tm,A.tr])).trans A.tn
 mem:=M
 tm:=A.tm
 tr:=A.tr
 bt:=by
  have:=A.bt;cases bb with
  | none=>exact this
  | some b =>
    obtain⟨⟨z,h1⟩,h2,h3,h4⟩:=this;exact⟨⟨z,(F.old _ (zQ h1) (by simp[h3,h4])).trans h1⟩,h2,h3,h4⟩
theorem K2(n:Nat)(A:TS h t m rb o pp bb dn sz s)(a p:Int):∃ h',call (n+3) 133 [.ptr t 0,.int .i64 a,.int .i64 p] h=some (.ret [],h')/\TS h' t m rb o pp bb dn sz (s.load a p)/\Fx h h' t m rb bb bb:=by
 rw[show n+3=(n+2)+1 from rfl,zpt];unfold zr6 Yl Yw Yr Yp;rw[A.rd (by decide)];obtain⟨h1,e,c1,M,F⟩:=ztq n A.mem a;have A1:=A.fr (F.mono (by simp)) M;rw[show gv (tcl s.T (QS bb s.xs.length) m o pp dn) 13=V.ptr m 0 from rfl,c1,zH];simp only[zb,zh,za,V.cells,zD,zP,zq,if_true];rw[A1.wr (by decide)];have A2:=A1.upd { s.T with lk:=ldV s.l a };rw[show ((tcl s.T (QS bb s.xs.length) m o pp dn).set 5 (.int .i64 (ldV s.l a)))=tcl { s.T with lk:=ldV s.l a } (QS bb s.xs.length) m o pp dn from rfl];rw[A2.wr (by decide)];exact⟨_,rfl,A2.upd { s.T with lk:=ldV s.l a,pc:=p },(Fx.ofFr F (by simp)).trans ((Fx.set _).trans (Fx.set _))⟩
theorem zak(n:Nat)(A:TS h t m rb o pp bb dn sz s)(a v p:Int):∃ h',call (n+3) 134 [.ptr t 0,.int .i64 a,.int .i64 v,.int .i64 p] h=some (.ret [],h')/\TS h' t m rb o pp bb dn sz (s.store a v p)/\Fx h h' t m rb bb bb:=by
 rw[show n+3=(n+2)+1 from rfl,zmv];unfold znR Yl Yr Yp;rw[A.rd (by decide)];obtain⟨h1,e,c1,M,F⟩:=qX n A.mem a v;have A1:=A.fr F M;rw[show gv (tcl s.T (QS bb s.xs.length) m o pp dn) 13=V.ptr m 0 from rfl,c1,zH,zC,A1.wr (by decide)];exact⟨_,rfl,A1.upd { s.T with pc:=p },(Fx.ofFr F (by simp)).trans (Fx.set _)⟩
theorem znW(n:Nat)(A:TS h t m rb o pp bb dn sz s)(a u v y z:Int):∃ h',call (n+3) 140 [.ptr t 0,.int .i64 a,.int .i64 u,.int .i64 v,.int .i64 y,.int .i64 z] h=some (.ret [],h')/\TS h' t m rb o pp bb dn sz (s.swap a u v y z)/\Fx h h' t m rb bb bb:=by
 rw[show n+3=(n+2)+1 from rfl,zpu];unfold zr7 Yl Yr Yp;rw[A.wr (by decide)];have A0:=A.upd { s.T with pc:=z };rw[show ((tcl s.T (QS bb s.xs.length) m o pp dn).set 1 (.int .i64 z))=tcl { s.T with pc:=z } (QS bb s.xs.length) m o pp dn from rfl];rw[A0.rd (by decide)];obtain⟨h1,e,c1,M,F⟩:=ztr n A0.mem a u v;have A1:=A0.fr F M;rw[show gv (tcl { s.T with pc:=z } (QS bb s.xs.length) m o pp dn) 13=V.ptr m 0 from rfl,c1,zH];simp only[zb,zh,za];rw[zm];unfold Ps.swap;cases hb:(XZ s.l a == some u) with
 | true =>
   simp only[hb,if_true] at A1 ⊢;rw[A1.wr (by decide)];exact⟨_,rfl,A1.upd { s.T with pc:=y },((Fx.set _).trans (Fx.ofFr F (by simp))).trans (Fx.set _)⟩
 | false =>
   simp only[hb,zt,if_false] at A1 ⊢;exact⟨_,rfl,A1,(Fx.set _).trans (Fx.ofFr F (by simp))⟩
theorem zsq(n:Nat)(A:TS h t m rb o pp bb dn sz s):∃ h',call (n+1) 136 [.ptr t 0] h=some (.ret [],h')/\TS h' t m rb o pp bb dn sz s.on/\Fx h h' t m rb bb bb:=by
 rw[ztT];unfold zwu Yl Yi Yw Ya Yr;rw[A.rd (by decide),show gv (tcl s.T (QS bb s.xs.length) m o pp dn) 8=V.int .i64 s.T.nt from rfl,zA,za];simp only[V.cells,zD,zP,zq,if_true];rw[A.wr (by decide)];have A1:=A.upd { s.T with nt:=Zp (s.T.nt+1) };rw[show ((tcl s.T (QS bb s.xs.length) m o pp dn).set 8 (.int .i64 (IntKind.i64.wrap (s.T.nt+1))))=tcl { s.T with nt:=Zp (s.T.nt+1) } (QS bb s.xs.length) m o pp dn from rfl];rw[A1.wr (by decide)];have A2:=A1.upd { s.T with nt:=Zp (s.T.nt+1),pc:=33 };rw[show ((tcl { s.T with nt:=Zp (s.T.nt+1) } (QS bb s.xs.length) m o pp dn).set 1 (.int .i64 33))=tcl { s.T with nt:=Zp (s.T.nt+1),pc:=33 } (QS bb s.xs.length) m o pp dn from rfl];rw[A2.rd (by decide),A2.rd (by decide)];rw[show gv (tcl { s.T with nt:=Zp (s.T.nt+1),pc:=33 } (QS bb s.xs.length) m o pp dn) 8=V.int .i64 (Zp (s.T.nt+1)) from rfl,show gv (tcl { s.T with nt:=Zp (s.T.nt+1),pc:=33 } (QS bb s.xs.length) m o pp dn) 9=V.int .i64 s.T.mn from rfl,zy,za,zm];unfold Ps.on;by_cases hc:Zp (s.T.nt+1) < s.T.mn
 . rw[if_pos (by simpa using hc),if_pos hc,A2.wr (by decide)];exact⟨_,rfl,A2.upd { s.T with nt:=Zp (s.T.nt+1),pc:=23 },((Fx.set _).trans (Fx.set _)).trans (Fx.set _)⟩
 . rw[if_neg (by simpa using hc),if_neg hc];exact⟨_,rfl,A2,(Fx.set _).trans (Fx.set _)⟩
theorem zcO(n:Nat)(A:TS h t m rb o pp bb dn sz s)(b:Bool):∃ h',call (n+2) 138 [.ptr t 0,.bool b] h=some (.ret [],h')/\TS h' t m rb o pp bb dn sz (s.unless b)/\Fx h h' t m rb bb bb:=by
 rw[show n+2=(n+1)+1 from rfl,zkK];unfold zkJ Ps.unless Yr Yp;cases b with
 | true=>exact⟨h,rfl,A,.refl⟩
 | false =>
   obtain⟨h',c1,A1,F⟩:=zsq n A;rw[if_pos (show (!false)=true from rfl),c1,zH];exact⟨h',rfl,A1,F⟩
end
end Go.Proofs.Tryz
namespace Go.Cm
open Go.L
def zsr(s:Ps):Ps:=s.load 2 21
def zmz(s:Ps):Ps:=Ps.store { s with T:={ s.T with ps:=Zp (s.T.lk+1),rn:=Zp (s.T.rn+1) } } 2 (Zp (s.T.lk+1)) 22
def zu1(s:Ps):Ps:=Ps.on { s with T:={ s.T with mn:=mnN s.l,nt:=-1 },xs:=[] }
def zb8(s:Ps):Ps:=Ps.load { s with T:={ s.T with cu:=bsN s.T.nt } } (Zp (bsN s.T.nt+1)) 24
def zss(s:Ps):Ps:=(zb8 s).unless ((zb8 s).T.lk == 0)
def zb9(s:Ps):Ps:=s.load (Zp (s.T.cu+0)) 25
def zst(s:Ps):Ps:=(zb9 s).unless (decide ((zb9 s).T.lk > 0))
def help1(s:Ps):Ps:=s.swap (Zp (s.T.cu+1)) 0 2 26 23
def zsu(s:Ps):Ps:=(help1 s).unless ((help1 s).T.pc == 26)
def WC(s:Ps):Ps:=s.load 1 27
def zie(s:Ps):Ps:=if (WC s).T.lk != 0 then { (WC s) with T:={ (WC s).T with pv:=(WC s).T.lk,pc:=29 } } else WC s
def zsv(s:Ps):Ps:=s.store (Zp (s.T.cu+3)) 0 28
def zsw(s:Ps):Ps:=s.swap 1 0 s.T.cu 32 26
def zmA(s:Ps):Ps:=s.load (Zp (s.T.pv+3)) 30
def zvE(s:Ps):Ps:=s.store (Zp (s.T.cu+3)) s.T.lk 31
def zvF(s:Ps):Ps:=s.store (Zp (s.T.pv+3)) s.T.cu 32
def zsx(s:Ps):Ps:=(s.store (Zp (s.T.cu+1)) 1 23).on
def KL(s:Ps):Ps:=s.load 1 40
def znX(s:Ps):Ps:=if (KL s).T.lk != 0 then { (KL s) with T:={ (KL s).T with cu:=(KL s).T.lk,pc:=34 } } else KL s
def K3(s:Ps):Ps:=s.load (Zp (s.T.cu+0)) 35
def zfl(s:Ps):Ps:=if (K3 s).T.lk > 0 then { (K3 s) with xs:=s.xs++[⟨s.T.cu,(K3 s).T.lk,0⟩] } else K3 s
def WO(s:Ps):Ps:=s.load (Zp (s.T.cu+3)) 36
def zaY(s:Ps):Ps:=if (WO s).T.lk != 0 then { (WO s) with T:={ (WO s).T with cu:=(WO s).T.lk,pc:=34 } } else if s.xs.length=0 then(WO s).pc 40 else WO s
def zaJ(s:Ps):Option It:=if s.T.nt < 0 then none else s.xs[s.T.nt.toNat]?
def zgR(s:Ps):Ps:=match zaJ s with|some x=>s.store (Zp (x.r+4)) x.s 38|none=>s.pc 38
def zpK(s:Ps):Ps:=match zaJ s with|some x=>s.store (Zp (x.r+2)) s.T.ps 39|none=>s.pc 39
def zca(s:Ps):Ps:=match zaJ s with|some x=>s.store (Zp (x.r+0)) 0 s.T.pc|none=>s
def W5(s:Ps):Ps:={ (zca s) with T:={ (zca s).T with nt:=Zp ((zca s).T.nt+1) } }
def zgS(pp:Int)(s:Ps):Ps:=(W5 s).pc (if (zaJ s).isSome && (zaJ (W5 s)).isSome then 37 else if (W5 s).T.rn < pp then 20 else 40)
end Go.Cm
namespace Go.Proofs.Tryz
open Go.L Go.Rp Go.Cm
set_option maxRecDepth 100000
section
variable {T:Th} {bv:V} {m o:Nat} {pp:Int} {dn:V}
theorem gv1:gv (tcl T bv m o pp dn) 1=.int .i64 T.pc:=rfl
theorem gv5:gv (tcl T bv m o pp dn) 5=.int .i64 T.lk:=rfl
theorem gv6:gv (tcl T bv m o pp dn) 6=.int .i64 T.cu:=rfl
theorem gv7:gv (tcl T bv m o pp dn) 7=.int .i64 T.pv:=rfl
theorem gv8:gv (tcl T bv m o pp dn) 8=.int .i64 T.nt:=rfl
theorem zww:gv (tcl T bv m o pp dn) 10=.int .i64 T.ps:=rfl
theorem zvG:gv (tcl T bv m o pp dn) 11=.int .i64 T.rn:=rfl
theorem zif:gv (tcl T bv m o pp dn) 12=bv:=rfl
theorem ztY:gv (tcl T bv m o pp dn) 13=.ptr m 0:=rfl
theorem zwZ:gv (tcl T bv m o pp dn) 14=.ptr o 0:=rfl
theorem zwx:gv (tcl T bv m o pp dn) 15=.int .i64 pp:=rfl
end
theorem zw0(k:IntKind)(x:Int):(V.cells (.int k x)).length=1:=rfl
section
variable {h:ze} {t m rb o:Nat} {pp:Int} {bb:Option Nat} {dn:V} {sz:Int} {s:Ps}
theorem TS.wr1 (A : TS h t m rb o pp bb dn sz s) {R : Type} {k : Nat} (hk : k < 17) (kk : IntKind) (x : Int) (K : Nat -> HB -> Option R) (T : Th) (hT : (tcl s.T (QS bb s.xs.length) m o pp dn).set k (.int kk x) = tcl T (QS bb s.xs.length) m o pp dn) :
    (if ((V.cells (.int kk x))).length=1 then bd2 (Zl h (V.cells (.int kk x)) (V.ptr t k)) K else none)=K t (.box 17 (tcl T (QS bb s.xs.length) m o pp dn)):=by
 rw[if_pos (zw0 kk x),show V.cells (.int kk x)=[.int kk x] from rfl,A.wr hk,hT]
theorem TS.wr0 (A : TS h t m rb o pp bb dn sz s) {R : Type} {k : Nat} (hk : k < 17) (kk : IntKind) (x : Int) (K : Nat -> HB -> Option R) (T : Th) (hT : (tcl s.T (QS bb s.xs.length) m o pp dn).set k (.int kk x) = tcl T (QS bb s.xs.length) m o pp dn) :
    (bd2 (Zl h [.int kk x] (V.ptr t k)) K)=K t (.box 17 (tcl T (QS bb s.xs.length) m o pp dn)):=by
 rw[A.wr hk,hT]
theorem ztZ(n:Nat)(A:TS h t m rb o pp bb dn sz s):∃ h',call (n+4) 103 [.ptr t 0] h=some (.ret [],h')/\TS h' t m rb o pp bb dn sz (zsr s)/\Fx h h' t m rb bb bb:=by
 rw[show n+4=(n+3)+1 from rfl,zpw];unfold zr9 Yr Yp;obtain⟨h1,c1,A1,F1⟩:=K2 n A 2 21;rw[c1,zH];exact⟨_,rfl,A1,F1⟩
theorem zsy(n:Nat)(A:TS h t m rb o pp bb dn sz s):∃ h',call (n+4) 104 [.ptr t 0] h=some (.ret [],h')/\TS h' t m rb o pp bb dn sz (zmz s)/\Fx h h' t m rb bb bb:=by
 rw[show n+4=(n+3)+1 from rfl,zmw];unfold znS Yl Yw Ya Yr Yp;rw[A.rd (by decide),gv5,zjq,za,A.wr1 (by decide) _ _ _ { s.T with ps:=Zp (s.T.lk+1) } rfl];have A1:=A.upd { s.T with ps:=Zp (s.T.lk+1) };rw[A1.rd (by decide),zvG,zA,za,A1.wr1 (by decide) _ _ _ { s.T with ps:=Zp (s.T.lk+1),rn:=Zp (s.T.rn+1) } rfl];have A2:=A1.upd { s.T with ps:=Zp (s.T.lk+1),rn:=Zp (s.T.rn+1) };rw[A2.rd (by decide),zww];obtain⟨h1,c1,A3,F3⟩:=zak n A2 2 (Zp (s.T.lk+1)) 22;rw[c1,zH];exact⟨_,rfl,A3,((Fx.set _).trans (Fx.set _)).trans F3⟩
theorem zt0(n:Nat)(A:TS h t m rb o pp bb dn sz s)(hl:s.l.length < lim):∃ h',call (n+4) 105 [.ptr t 0] h=some (.ret [],h')/\TS h' t m rb o pp none dn sz (zu1 s)/\Fx h h' t m rb bb none:=by
 rw[show n+4=(n+3)+1 from rfl,zpx];unfold zsa Yl Yw Yr Yp;rw[A.rd (by decide),ztY,ztV n A.mem hl,zH,zC,A.wr1 (by decide) _ _ _ { s.T with mn:=mnN s.l } rfl];have A1:=A.upd { s.T with mn:=mnN s.l };rw[A1.wr0 (by decide) _ _ _ { s.T with mn:=mnN s.l,nt:=-1 } rfl];have A2:=A1.upd { s.T with mn:=mnN s.l,nt:=-1 };rw[A2.wr (by decide),show ((tcl { s.T with mn:=mnN s.l,nt:=-1 } (QS bb s.xs.length) m o pp dn).set 12 (.sl 0 [] true))=tcl { s.T with mn:=mnN s.l,nt:=-1 } (QS none 0) m o pp dn from rfl];generalize hg:((h.set t (.box 17 (tcl { s.T with mn:=mnN s.l } (QS bb s.xs.length) m o pp dn))).set t (.box 17 (tcl { s.T with mn:=mnN s.l,nt:=-1 } (QS bb s.xs.length) m o pp dn)))=g at A2 ⊢;have A3:TS (g.set t (.box 17 (tcl { s.T with mn:=mnN s.l,nt:=-1 } (QS none 0) m o pp dn))) t m rb o pp none dn sz { s with T:={ s.T with mn:=mnN s.l,nt:=-1 },xs:=[] } :=
  ⟨ZU A2.lt _,A2.mem.keep (zd A.tm) (zd A.tr),A.tm,A.tr,rfl⟩
 have F3:Fx h (g.set t (.box 17 (tcl { s.T with mn:=mnN s.l,nt:=-1 } (QS none 0) m o pp dn))) t m rb bb none:=by
  have F2:Fx h (g.set t (.box 17 (tcl { s.T with mn:=mnN s.l,nt:=-1 } (QS none 0) m o pp dn))) t m rb bb bb:=by
   rw[<- hg];exact((Fx.set _).trans (Fx.set _)).trans (Fx.set _)
  exact⟨F2.len,F2.old,fun b hb=>by cases hb⟩
 obtain⟨h1,c1,A4,F4⟩:=zsq (n+2) A3;rw[show n+3=(n+2)+1 from rfl,c1,zH];exact⟨_,rfl,A4,F3.trans F4⟩
theorem zt1(n:Nat)(A:TS h t m rb o pp bb dn sz s):∃ h',call (n+4) 106 [.ptr t 0] h=some (.ret [],h')/\TS h' t m rb o pp bb dn sz (zss s)/\Fx h h' t m rb bb bb:=by
 rw[show n+4=(n+3)+1 from rfl,zpy];unfold zsb Yl Yw Ya Yr Yp;rw[A.rd (by decide),gv8,ztW (n+2),zH,zC,A.wr1 (by decide) _ _ _ { s.T with cu:=bsN s.T.nt } rfl];have A1:=A.upd { s.T with cu:=bsN s.T.nt };rw[A1.rd (by decide),gv6,zA,za];obtain⟨h1,c1,A2,F2⟩:=K2 n A1 (Zp (bsN s.T.nt+1)) 24;rw[show IntKind.i64.wrap (bsN s.T.nt+1)=Zp (bsN s.T.nt+1) from rfl,c1,zH,A2.rd (by decide),gv5,KW,za];obtain⟨h3,c3,A3,F3⟩:=zcO (n+1) A2 ((zb8 s).T.lk == 0);rw[show n+3=(n+1)+2 from rfl];refine⟨h3,?_,A3,((Fx.set _).trans F2).trans F3⟩;rw[show ((Ps.load { s with T:={ s.T with cu:=bsN s.T.nt } } (Zp (bsN s.T.nt+1)) 24).T.lk == 0)=((zb8 s).T.lk == 0) from rfl,c3,zH]
theorem zt2(n:Nat)(A:TS h t m rb o pp bb dn sz s):∃ h',call (n+4) 107 [.ptr t 0] h=some (.ret [],h')/\TS h' t m rb o pp bb dn sz (zst s)/\Fx h h' t m rb bb bb:=by
 rw[show n+4=(n+3)+1 from rfl,zpz];unfold zsc Yl Yr Yp;rw[A.rd (by decide),gv6,zA,za];obtain⟨h1,c1,A2,F2⟩:=K2 n A (Zp (s.T.cu+0)) 25;rw[show IntKind.i64.wrap (s.T.cu+0)=Zp (s.T.cu+0) from rfl,c1,zH,A2.rd (by decide),gv5,znV (n+2),zH,zC];obtain⟨h3,c3,A3,F3⟩:=zcO (n+1) A2 (decide ((zb9 s).T.lk > 0));refine⟨h3,?_,A3,F2.trans F3⟩;rw[show n+3=(n+1)+2 from rfl,show (s.load (Zp (s.T.cu+0)) 25).T.lk=(zb9 s).T.lk from rfl,c3,zH]
theorem zt3(n:Nat)(A:TS h t m rb o pp bb dn sz s):∃ h',call (n+4) 108 [.ptr t 0] h=some (.ret [],h')/\TS h' t m rb o pp bb dn sz (zsu s)/\Fx h h' t m rb bb bb:=by
 rw[show n+4=(n+3)+1 from rfl,zpA];unfold zsd Yl Ya Yr Yp;rw[A.rd (by decide),gv6,zA,za];obtain⟨h1,c1,A2,F2⟩:=znW n A (Zp (s.T.cu+1)) 0 2 26 23;rw[show IntKind.i64.wrap (s.T.cu+1)=Zp (s.T.cu+1) from rfl,c1,zH,A2.rd (by decide),gv1,ZT,za];obtain⟨h3,c3,A3,F3⟩:=zcO (n+1) A2 ((help1 s).T.pc == 26);refine⟨h3,?_,A3,F2.trans F3⟩;rw[show n+3=(n+1)+2 from rfl,show (s.swap (Zp (s.T.cu+1)) 0 2 26 23).T.pc=(help1 s).T.pc from rfl,c3,zH]
theorem zsz(n:Nat)(A:TS h t m rb o pp bb dn sz s):∃ h',call (n+4) 109 [.ptr t 0] h=some (.ret [],h')/\TS h' t m rb o pp bb dn sz (zie s)/\Fx h h' t m rb bb bb:=by
 rw[show n+4=(n+3)+1 from rfl,zmx];unfold znT Yl Yi Yw Yr Yp;obtain⟨h1,c1,A2,F2⟩:=K2 n A 1 27;rw[c1,zH,A2.rd (by decide),gv5,QV,za,zm];unfold zie;rw[show (s.load 1 27)=WC s from rfl] at A2 ⊢;cases hc:((WC s).T.lk != 0) with
 | true =>
   rw[if_pos rfl,if_pos rfl,A2.rd (by decide),gv5,A2.wr1 (by decide) _ _ _ { (WC s).T with pv:=(WC s).T.lk } rfl];have A3:=A2.upd { (WC s).T with pv:=(WC s).T.lk };rw[A3.wr0 (by decide) _ _ _ { (WC s).T with pv:=(WC s).T.lk,pc:=29 } rfl];exact⟨_,rfl,A3.upd { (WC s).T with pv:=(WC s).T.lk,pc:=29 },(F2.trans (Fx.set _)).trans (Fx.set _)⟩
 | false =>
   rw[if_neg (by decide),if_neg (by decide)];exact⟨_,rfl,A2,F2⟩
theorem zt4(n:Nat)(A:TS h t m rb o pp bb dn sz s):∃ h',call (n+4) 110 [.ptr t 0] h=some (.ret [],h')/\TS h' t m rb o pp bb dn sz (zsv s)/\Fx h h' t m rb bb bb:=by
 rw[show n+4=(n+3)+1 from rfl,zpB];unfold zse Yl Yr Yp;rw[A.rd (by decide),gv6,zA,za];obtain⟨h1,c1,A1,F1⟩:=zak n A (Zp (s.T.cu+3)) 0 28;rw[show IntKind.i64.wrap (s.T.cu+3)=Zp (s.T.cu+3) from rfl,c1,zH];exact⟨_,rfl,A1,F1⟩
theorem zt5(n:Nat)(A:TS h t m rb o pp bb dn sz s):∃ h',call (n+4) 111 [.ptr t 0] h=some (.ret [],h')/\TS h' t m rb o pp bb dn sz (zsw s)/\Fx h h' t m rb bb bb:=by
 rw[show n+4=(n+3)+1 from rfl,zpC];unfold zsf Yl Yr Yp;rw[A.rd (by decide),gv6];obtain⟨h1,c1,A1,F1⟩:=znW n A 1 0 s.T.cu 32 26;rw[c1,zH];exact⟨_,rfl,A1,F1⟩
theorem zsA(n:Nat)(A:TS h t m rb o pp bb dn sz s):∃ h',call (n+4) 112 [.ptr t 0] h=some (.ret [],h')/\TS h' t m rb o pp bb dn sz (zmA s)/\Fx h h' t m rb bb bb:=by
 rw[show n+4=(n+3)+1 from rfl,zmy];unfold znU Yl Yr Yp;rw[A.rd (by decide),gv7,zA,za];obtain⟨h1,c1,A1,F1⟩:=K2 n A (Zp (s.T.pv+3)) 30;rw[show IntKind.i64.wrap (s.T.pv+3)=Zp (s.T.pv+3) from rfl,c1,zH];exact⟨_,rfl,A1,F1⟩
theorem zvH(n:Nat)(A:TS h t m rb o pp bb dn sz s):∃ h',call (n+4) 113 [.ptr t 0] h=some (.ret [],h')/\TS h' t m rb o pp bb dn sz (zvE s)/\Fx h h' t m rb bb bb:=by
 rw[show n+4=(n+3)+1 from rfl,zsg];unfold zuY Yl Yr;rw[A.rd (by decide),gv6,zA,za,A.rd (by decide),gv5];obtain⟨h1,c1,A1,F1⟩:=zak n A (Zp (s.T.cu+3)) s.T.lk 31;rw[show IntKind.i64.wrap (s.T.cu+3)=Zp (s.T.cu+3) from rfl,c1,Q5];exact⟨_,rfl,A1,F1⟩
theorem zvI(n:Nat)(A:TS h t m rb o pp bb dn sz s):∃ h',call (n+4) 114 [.ptr t 0] h=some (.ret [],h')/\TS h' t m rb o pp bb dn sz (zvF s)/\Fx h h' t m rb bb bb:=by
 rw[show n+4=(n+3)+1 from rfl,zsh];unfold zuZ Yl Yr;rw[A.rd (by decide),gv7,zA,za,A.rd (by decide),gv6];obtain⟨h1,c1,A1,F1⟩:=zak n A (Zp (s.T.pv+3)) s.T.cu 32;rw[show IntKind.i64.wrap (s.T.pv+3)=Zp (s.T.pv+3) from rfl,c1,Q5];exact⟨_,rfl,A1,F1⟩
theorem zt6(n:Nat)(A:TS h t m rb o pp bb dn sz s):∃ h',call (n+4) 115 [.ptr t 0] h=some (.ret [],h')/\TS h' t m rb o pp bb dn sz (zsx s)/\Fx h h' t m rb bb bb:=by
 rw[show n+4=(n+3)+1 from rfl,zpD];unfold zsi Yl Ya Yr Yp;rw[A.rd (by decide),gv6,zA,za];obtain⟨h1,c1,A1,F1⟩:=zak n A (Zp (s.T.cu+1)) 1 23;obtain⟨h2,c2,A2,F2⟩:=zsq (n+2) A1;rw[show IntKind.i64.wrap (s.T.cu+1)=Zp (s.T.cu+1) from rfl,c1,zH,show n+3=(n+2)+1 from rfl,c2,zH];exact⟨_,rfl,A2,F1.trans F2⟩
theorem zt7(n:Nat)(A:TS h t m rb o pp bb dn sz s):∃ h',call (n+4) 116 [.ptr t 0] h=some (.ret [],h')/\TS h' t m rb o pp bb dn sz (znX s)/\Fx h h' t m rb bb bb:=by
 rw[show n+4=(n+3)+1 from rfl,zpE];unfold zsj Yl Yi Yw Yr Yp;obtain⟨h1,c1,A2,F2⟩:=K2 n A 1 40;rw[c1,zH,A2.rd (by decide),gv5,QV,za,zm];unfold znX;rw[show (s.load 1 40)=KL s from rfl] at A2 ⊢;cases hc:((KL s).T.lk != 0) with
 | true =>
   rw[if_pos rfl,if_pos rfl,A2.rd (by decide),gv5,A2.wr1 (by decide) _ _ _ { (KL s).T with cu:=(KL s).T.lk } rfl];have A3:=A2.upd { (KL s).T with cu:=(KL s).T.lk };rw[A3.wr0 (by decide) _ _ _ { (KL s).T with cu:=(KL s).T.lk,pc:=34 } rfl];exact⟨_,rfl,A3.upd { (KL s).T with cu:=(KL s).T.lk,pc:=34 },(F2.trans (Fx.set _)).trans (Fx.set _)⟩
 | false =>
   rw[if_neg (by decide),if_neg (by decide)];exact⟨_,rfl,A2,F2⟩
theorem TS.bat(A:TS h t m rb o pp bb dn sz s):∃ z,ZI h (QS bb s.xs.length)=some (z,s.xs.map It.c)/\(z=3\/s.xs=[]):=by
 have:=A.bt;cases bb with
 | none=>exact⟨0,by rw[show s.xs=[] from this];rfl,.inr this⟩
 | some b =>
   obtain⟨⟨z,h1⟩,_⟩:=this;refine⟨3,?_,.inl rfl⟩;unfold QS;have:=Jh h1;rwa[zp] at this
theorem zt8(n:Nat)(A:TS h t m rb o pp bb dn sz s):∃ h',call (n+4) 118 [.ptr t 0] h=some (.ret [],h')/\TS h' t m rb o pp bb dn sz (zaY s)/\Fx h h' t m rb bb bb:=by
 rw[show n+4=(n+3)+1 from rfl,zpG];unfold zsl Yl Yi Yw Yr Yp;rw[A.rd (by decide),gv6,zA,za];obtain⟨h1,c1,A2,F2⟩:=K2 n A (Zp (s.T.cu+3)) 36;rw[show IntKind.i64.wrap (s.T.cu+3)=Zp (s.T.cu+3) from rfl,c1,zH,A2.rd (by decide),gv5,QV,za,zm];unfold zaY;rw[show (s.load (Zp (s.T.cu+3)) 36)=WO s from rfl] at A2 ⊢;have hxs:(WO s).xs=s.xs:=rfl;cases hc:((WO s).T.lk != 0) with
 | true =>
   rw[if_pos rfl,if_pos rfl,A2.rd (by decide),gv5,A2.wr1 (by decide) _ _ _ { (WO s).T with cu:=(WO s).T.lk } rfl];have A3:=A2.upd { (WO s).T with cu:=(WO s).T.lk };rw[A3.wr0 (by decide) _ _ _ { (WO s).T with cu:=(WO s).T.lk,pc:=34 } rfl];exact⟨_,rfl,A3.upd { (WO s).T with cu:=(WO s).T.lk,pc:=34 },(F2.trans (Fx.set _)).trans (Fx.set _)⟩
 | false =>
   obtain⟨z,hb,_⟩:=A2.bat
   rw[if_neg (by decide),if_neg (by decide),A2.rd (by decide),zif,hb,za];simp only[zp,hxs];by_cases h0:s.xs.length=0
   . rw[if_pos (by simp[h0]),if_pos h0,A2.wr0 (by decide) _ _ _ { (WO s).T with pc:=40 } rfl];exact⟨_,rfl,A2.upd { (WO s).T with pc:=40 },F2.trans (Fx.set _)⟩
   . rw[if_neg (by simpa using h0),if_neg h0];exact⟨_,rfl,A2,F2⟩
def itV(bb:Option Nat)(s:Ps):V:=match zaJ s,bb with|some _,some b=>.rptr b 3 s.T.nt.toNat 0|_,_=>.val (.pointer none)
theorem zdW(n:Nat)(A:TS h t m rb o pp bb dn sz s):call (n+1) 143 [.ptr t 0] h=some (.ret [itV bb s],h):=by
 rw[zpv];unfold zr8 itV zaJ Yl Yi Yx Yr Yn;rw[A.rd (by decide),gv8,zy,za,zm];by_cases h0:s.T.nt < 0
 . rw[if_pos (by simpa using h0),if_pos h0]
 . rw[if_neg (by simpa using h0),if_neg h0,A.rd (by decide),gv8,A.rd (by decide),zif];obtain⟨z,hb,hz⟩:=A.bat
   rw[hb,za,Z7,za,zm];by_cases h1:(s.xs.length:Int)<=s.T.nt
   . rw[if_pos (by simpa using h1),zS (by omega)]
   . rw[if_neg (by simpa using h1),A.rd (by decide),zif,A.rd (by decide),gv8,Go.L.nv_int (by omega),zB,zf (by omega)];have:=A.bt;cases bb with
     | none=>exact absurd (show s.xs.length=0 by rw[show s.xs=[] from this];rfl) (by omega)
     | some b =>
       unfold QS;simp only;rw[Z3 (by omega),za,zq];rfl
theorem KM(h:ze)(b i c:Nat):Qq prog h .neq 216 (V.rptr b 3 i c) (V.val (.pointer none))=some (.bool true):=by kernel_rfl
theorem jK(h:ze):Qq prog h .neq 216 (V.val (.pointer none)) (V.val (.pointer none))=some (.bool false):=by kernel_rfl
theorem TS.at(A:TS h t m rb o pp bb dn sz s){x:It}(hx:zaJ s=some x):∃ b z,bb=some b/\itV bb s=.rptr b 3 s.T.nt.toNat 0/\h[b]?=some (.row 87 3 (s.xs.map It.c) z)/\(s.xs.map It.c)[s.T.nt.toNat]?=some x.c:=by
 have:=A.bt;have hx':=hx;unfold zaJ at hx;split at hx
 . cases hx
 . cases bb with
   | none=>rw[show s.xs=[] from this] at hx;simp at hx
   | some b =>
     obtain⟨⟨z,h1⟩,_⟩:=this;exact⟨b,z,rfl,by unfold itV;rw[hx'],h1,by rw[zF,hx];rfl⟩
theorem zcb{s:Ps}(hx:zaJ s=none):itV bb s=.val (.pointer none):=by unfold itV;rw[hx]
theorem zsB(b i c:Nat):ZD 0 (V.rptr b 3 i c)=some (V.rptr b 3 i c):=rfl
theorem zt9(n:Nat)(A:TS h t m rb o pp bb dn sz s):∃ h',call (n+4) 120 [.ptr t 0] h=some (.ret [],h')/\TS h' t m rb o pp bb dn sz (zgR s)/\Fx h h' t m rb bb bb:=by
 rw[show n+4=(n+3)+1 from rfl,zpH];unfold zsm zgR Yl Yi Yr Yn Yp;rw[show n+3=(n+2)+1 from rfl,zdW (n+2) A,zH,zC];cases hx:zaJ s with
 | none =>
   rw[zcb hx,jK,za,zm,if_neg (by decide),A.wr0 (by decide) _ _ _ { s.T with pc:=38 } rfl];exact⟨_,rfl,A.upd { s.T with pc:=38 },Fx.set _⟩
 | some x =>
   obtain⟨b,z,rfl,e1,e2,e3⟩:=A.at hx;rw[e1,KM,za,zm,if_pos rfl,A.rd (by decide),ztY];simp only[zsB,za];rw[ZJ e2 (by decide) e3,zo,if_pos (by decide),show (It.c x)[0]?=some (V.int .i64 x.r) from rfl,za,zA,za];rw[show ZD 2 (V.rptr b 3 s.T.nt.toNat 0)=some (V.rptr b 3 s.T.nt.toNat 2) from rfl,za,ZJ e2 (by decide) e3,zo,if_pos (by decide),show (It.c x)[2]?=some (V.int .i64 x.s) from rfl,za];obtain⟨h1,e,c1,M,F⟩:=qX (n+1) A.mem (Zp (x.r+4)) x.s;have A1:=A.fr F M;rw[show IntKind.i64.wrap (x.r+4)=Zp (x.r+4) from rfl,show n+2+1=(n+1)+2 from rfl,c1,Q5,zC,A1.wr0 (by decide) _ _ _ { s.T with pc:=38 } rfl];exact⟨_,rfl,A1.upd { s.T with pc:=38 },(Fx.ofFr F (by simp)).trans (Fx.set _)⟩
theorem zvJ(n:Nat)(A:TS h t m rb o pp bb dn sz s):∃ h',call (n+4) 121 [.ptr t 0] h=some (.ret [],h')/\TS h' t m rb o pp bb dn sz (zpK s)/\Fx h h' t m rb bb bb:=by
 rw[show n+4=(n+3)+1 from rfl,zsn];unfold zu0 zpK Yl Yi Yr Yn Yp;rw[show n+3=(n+2)+1 from rfl,zdW (n+2) A,zH,zC];cases hx:zaJ s with
 | none =>
   rw[zcb hx,jK,za,zm,if_neg (by decide),A.wr0 (by decide) _ _ _ { s.T with pc:=39 } rfl];exact⟨_,rfl,A.upd { s.T with pc:=39 },Fx.set _⟩
 | some x =>
   obtain⟨b,z,rfl,e1,e2,e3⟩:=A.at hx;rw[e1,KM,za,zm,if_pos rfl,A.rd (by decide),ztY];simp only[zsB,za];rw[ZJ e2 (by decide) e3,zo,if_pos (by decide),show (It.c x)[0]?=some (V.int .i64 x.r) from rfl,za,zA,za,A.rd (by decide),zww];obtain⟨h1,e,c1,M,F⟩:=qX (n+1) A.mem (Zp (x.r+2)) s.T.ps;have A1:=A.fr F M;rw[show IntKind.i64.wrap (x.r+2)=Zp (x.r+2) from rfl,show n+2+1=(n+1)+2 from rfl,c1,Q5,zC,A1.wr0 (by decide) _ _ _ { s.T with pc:=39 } rfl];exact⟨_,rfl,A1.upd { s.T with pc:=39 },(Fx.ofFr F (by simp)).trans (Fx.set _)⟩
theorem zvK(a b:Int):Wz prog 87 [(0,.int .i64 a),(1,.int .i64 b)]=some [.int .i64 a,.int .i64 b,.int .i64 0]:=by kernel_rfl
theorem zvL(a b c:Int):K6 prog 63 1 [(0,.agg [.int .i64 a,.int .i64 b,.int .i64 c])]=some (3,[[.int .i64 a,.int .i64 b,.int .i64 c]]):=by kernel_rfl
theorem zua(n:Nat)(A:TS h t m rb o pp bb dn sz s)(hlim:s.xs.length+1 < lim):∃ h' bb',call (n+4) 117 [.ptr t 0] h=some (.ret [],h')/\TS h' t m rb o pp bb' dn sz (zfl s)/\Fx h h' t m rb bb bb':=by
 rw[show n+4=(n+3)+1 from rfl,zpF];unfold zsk Yl Yw Yr Yp;rw[A.rd (by decide),gv6,zA,za];obtain⟨h1,c1,A2,F2⟩:=K2 n A (Zp (s.T.cu+0)) 35;rw[show IntKind.i64.wrap (s.T.cu+0)=Zp (s.T.cu+0) from rfl,c1,zH,A2.rd (by decide),gv5,znV (n+2),zH,zC,zm];unfold zfl;rw[show (s.load (Zp (s.T.cu+0)) 35)=K3 s from rfl] at A2 ⊢;have hxs:(K3 s).xs=s.xs:=rfl;by_cases hc:(K3 s).T.lk > 0
 . rw[if_pos (by simpa using hc),if_pos hc,A2.rd (by decide),zif,A2.rd (by decide),gv6,A2.rd (by decide),gv5,zvK,za,zvL,za];have hcu:(K3 s).T.cu=s.T.cu:=rfl;rw[hcu];generalize hit:([.int .i64 s.T.cu,.int .i64 (K3 s).T.lk,.int .i64 0]:List V)=ic;have hic:ic=It.c ⟨s.T.cu,(K3 s).T.lk,0⟩:=hit.symm;have key:∃ g,Ws 87 3 h1 [ic] (QS bb (K3 s).xs.length)=some (.row h1.length 3 0 (s.xs.length+1),g)/\(∃ z,g[h1.length]?=some (.row 87 3 (s.xs.map It.c++[ic]) z))/\h1.length < g.length/\∀ i,i < h1.length->bb≠some i->g[i]?=h1[i]?:=by
    have hbt:=A2.bt;cases bb with
    | none =>
      have h0:s.xs=[]:=hbt;refine⟨h1++[.row 87 3 [ic] true],?_,⟨true,?_⟩,by simp,fun i q1 _=>zk q1⟩
      . rw[hxs,h0];rfl
      . rw[h0];exact zx
    | some b =>
      obtain⟨⟨z,q1⟩,_⟩:=hbt;rw[hxs] at q1;refine⟨h1.set b .dead++[.row 87 3 (s.xs.map It.c++[ic]) (z && 0 == 0)],?_,⟨(z && 0 == 0),?_⟩,by simp,fun i p1 p2=>?_⟩
      . unfold QS;rw[hxs];simp only[Ws,q1];rw[if_pos (by refine⟨⟨?_,?_,?_⟩,⟨by omega,by simp⟩,by simp;omega⟩ <;> first|trivial|rfl)];simp[zU]
      . rw[zJ (by simp)];simp
      . rw[zk (by simpa using p1),zd (fun e=>p2 (by rw[e]))]
   obtain⟨g,e1,⟨z,e2⟩,e3,e4⟩:=key;rw[e1,zZ,if_pos (show (V.cells (.row h1.length 3 0 (s.xs.length+1))).length=1 from rfl),show V.cells (.row h1.length 3 0 (s.xs.length+1))=[.row h1.length 3 0 (s.xs.length+1)] from rfl];have ht1:=A2.lt;have hbne:∀ x,(∀ b,bb=some b->b≠x)->bb≠some x:=fun x hx e=>hx x e rfl;have hbt:∀ b,bb=some b->b≠t/\b≠m/\b≠rb:=fun b hb=>by
    subst hb;exact A2.bt.2
   have gt:g[t]?=some (.box 17 (tcl (K3 s).T (QS bb (K3 s).xs.length) m o pp dn)):=(e4 t ht1 (hbne t fun b hb=>(hbt b hb).1)).trans A2.tn;rw[Zx gt (by simp),zZ];refine⟨_,some h1.length,rfl,⟨(ZU (zQ gt) _).trans (by unfold QS;simp only[zL,ZG];rfl),?_,A2.tm,A2.tr,⟨⟨z,?_⟩,?_,?_,?_⟩⟩,?_⟩
   . refine A2.mem.keep ?_ ?_
     . exact(zd A2.tm).trans (e4 m A2.mem.lt.1 (hbne m fun b hb=>(hbt b hb).2.1))
     . exact(zd A2.tr).trans (e4 rb A2.mem.lt.2 (hbne rb fun b hb=>(hbt b hb).2.2))
   . rw[zd (by omega),e2,hic];simp
   . omega
   . have:=A2.mem.lt.1;omega
   . have:=A2.mem.lt.2;omega
   . refine⟨?_,fun i q1 q2 q3 q4 q5=>?_,fun b hb=>by cases hb;exact .inr F2.len⟩
     . have:=F2.len;rw[zw];omega
     . rw[zd (Ne.symm q2),e4 i (by have:=F2.len;omega) q5];exact F2.old i q1 q2 q3 q4 q5
 . rw[if_neg (by simpa using hc),if_neg hc];exact⟨_,bb,rfl,A2,F2⟩
theorem zub(n:Nat)(A:TS h t m rb o pp bb dn sz s):∃ h',call (n+4) 122 [.ptr t 0] h=some (.ret [],h')/\TS h' t m rb o pp bb dn sz (zgS pp s)/\Fx h h' t m rb bb bb:=by
 rw[show n+4=(n+3)+1 from rfl,zpI];unfold zso zgS Yl Yi Yw Ya Yr Yn Yp;rw[show n+3=(n+2)+1 from rfl,zdW (n+2) A,zH,zC];cases hx:zaJ s with
 | none =>
   have e1:zca s=s:=by unfold zca;rw[hx]
   have e2:W5 s={ s with T:={ s.T with nt:=Zp (s.T.nt+1) } }:=by unfold W5;rw[e1]
   rw[zcb hx,jK,za,zm,if_neg (by decide),A.rd (by decide),gv8,zA,za,A.wr1 (by decide) _ _ _ { s.T with nt:=Zp (s.T.nt+1) } rfl];have A1:=A.upd { s.T with nt:=Zp (s.T.nt+1) };rw[jK,za,zm,if_neg (by decide),A1.rd (by decide),zvG,A1.rd (by decide),zwx,zy,za,zm,e2];simp only[Option.isSome_none,Bool.false_and,zt,if_false];by_cases hc:s.T.rn < pp
   . rw[if_pos (by simpa using hc),if_pos hc,A1.wr0 (by decide) _ _ _ { s.T with nt:=Zp (s.T.nt+1),pc:=20 } rfl];exact⟨_,rfl,A1.upd { s.T with nt:=Zp (s.T.nt+1),pc:=20 },(Fx.set _).trans (Fx.set _)⟩
   . rw[if_neg (by simpa using hc),if_neg hc,A1.wr0 (by decide) _ _ _ { s.T with nt:=Zp (s.T.nt+1),pc:=40 } rfl];exact⟨_,rfl,A1.upd { s.T with nt:=Zp (s.T.nt+1),pc:=40 },(Fx.set _).trans (Fx.set _)⟩
 | some x =>
   obtain⟨b,z,rfl,q1,q2,q3⟩:=A.at hx;rw[q1,KM,za,zm,if_pos rfl,A.rd (by decide),ztY];simp only[zsB,za];rw[ZJ q2 (by decide) q3,zo,if_pos (by decide),show (It.c x)[0]?=some (V.int .i64 x.r) from rfl,za,zA,za];obtain⟨h1,e,c1,M,F⟩:=qX (n+1) A.mem (Zp (x.r+0)) 0;have A1:=A.fr F M;have e1:zca s={ s with l:=stL s.l (Zp (x.r+0)) 0,st:=ldS s.l (Zp (x.r+0)) s.st }:=by unfold zca;rw[hx];rfl
   have e2:W5 s={ s with l:=stL s.l (Zp (x.r+0)) 0,st:=ldS s.l (Zp (x.r+0)) s.st,T:={ s.T with nt:=Zp (s.T.nt+1) } }:=by unfold W5;rw[e1]
   rw[show IntKind.i64.wrap (x.r+0)=Zp (x.r+0) from rfl,show n+2+1=(n+1)+2 from rfl,c1,Q5,zC,A1.rd (by decide),gv8,zA,za,A1.wr1 (by decide) _ _ _ { s.T with nt:=Zp (s.T.nt+1) } rfl];have A2:=A1.upd { s.T with nt:=Zp (s.T.nt+1) };rw[<- e2] at A2;rw[KM,za,zm,if_pos rfl,show (n+1)+2=(n+2)+1 from rfl];have F2:Fx h (h1.set t (.box 17 (tcl { s.T with nt:=Zp (s.T.nt+1) } (QS (some b) s.xs.length) m o pp dn))) t m rb (some b) (some b):=(Fx.ofFr F (by simp)).trans (Fx.set _);have hT2:(W5 s).T={ s.T with nt:=Zp (s.T.nt+1) }:=by rw[e2]
   have hx2:(W5 s).xs=s.xs:=by rw[e2]
   generalize hg:h1.set t (.box 17 (tcl { s.T with nt:=Zp (s.T.nt+1) } (QS (some b) s.xs.length) m o pp dn))=g at A2 F2;rw[zdW (n+2) A2,zH,zC];cases hx3:zaJ (W5 s) with
   | some y =>
     obtain⟨b',z',hb',p1,p2,p3⟩:=A2.at hx3;rw[p1,KM,za,zm,if_pos rfl,A2.wr0 (by decide) _ _ _ { (W5 s).T with pc:=37 } rfl];exact⟨_,rfl,A2.upd { (W5 s).T with pc:=37 },F2.trans (Fx.set _)⟩
   | none =>
     rw[zcb hx3,jK,za,zm,if_neg (by decide),A2.rd (by decide),zvG,A2.rd (by decide),zwx,zy,za,zm];simp only[Option.isSome_none,Option.isSome_some,Bool.and_false,zt,if_false];by_cases hc:(W5 s).T.rn < pp
     . rw[if_pos (by simpa using hc),if_pos hc,A2.wr0 (by decide) _ _ _ { (W5 s).T with pc:=20 } rfl];exact⟨_,rfl,A2.upd { (W5 s).T with pc:=20 },F2.trans (Fx.set _)⟩
     . rw[if_neg (by simpa using hc),if_neg hc,A2.wr0 (by decide) _ _ _ { (W5 s).T with pc:=40 } rfl];exact⟨_,rfl,A2.upd { (W5 s).T with pc:=40 },F2.trans (Fx.set _)⟩
end
end Go.Proofs.Tryz
