/- To Tq Ta Tf Tg Tb Th Kt Ks Ku Kl Ti Kb Lso: what the law needs of these -/import Derived.Test.YtclhmdhdpejhhaaGreatJsv13
set_option linter.unusedVariables false
set_option linter.unusedSimpArgs false
namespace Go.Sk
open Go.L Go.Rp
def zj0(most:Int)(o:O)(xs:List Int):R:=⟨(Qh most o.k o.v xs).1.1,(Qh most o.k o.v xs).1.2⟩
def Jk (most : Int) : List O -> List Int -> List R × List Int
 | [],xs=>([],xs)
 | o :: r,xs=>(zj0 most o xs :: (Jk most r (Qh most o.k o.v xs).2).1,(Jk most r (Qh most o.k o.v xs).2).2)
theorem ze3 (most : Int) : ∀ (l : List O) (xs : List Int), (Jk most l xs).1.length = l.length
 | [],_=>rfl
 | o :: r,xs=>by simp[Jk,ze3 most r]
theorem zj1(most c x:Int)(xs:List Int):(Qh most c x xs).2.length<=xs.length+1:=by
 unfold Qh;split
 . split <;> simp
 . split
   . split <;> simp <;> omega
   . simp
end Go.Sk
namespace Go.Proofs.Tryz
open Go.L Go.Rp Go.Sk
set_option maxRecDepth 100000
theorem zhN(n s:Nat)(osb:Bool)(most:Int)(os:List O)(hk:∀ o∈os,0<=o.k/\o.k < 256)(hos:os.length < lim):∀ (d i N:Nat) (h:ze) (sb:Option Nat) (xs:List Int) (done:List R),StkAt h s sb most xs->i+d=os.length->done.length=i->d < N->xs.length+d < lim →
    ∃ h' sb',zV N (KH (n+5) s (os.map O.w) osb) [.sl 2 [] false,.sl 2 (done.map R.w++List.replicate d [.int .u8 0,.int .i32 0]) false,.bool false,.int .i64 (i:Int)] h=some (.ret [.row h'.length 2 0 os.length],h'++[.row 35 2 ((done++(Jk most (os.drop i) xs).1).map R.w) true])/\StkAt h' s sb' most (Jk most (os.drop i) xs).2/\Fed h h' s sb sb':=by
 intro d
 induction d with
 | zero =>
   intro i N h sb xs done hb h1 h2 h3 h4;obtain⟨N,rfl⟩:∃ N',N=N'+1:=⟨N - 1,by omega⟩;rw[zK];unfold KH Yi Yx Ya Yg Yr Yp;simp only[gv,zg,zi];rw[zy,za,zm,if_neg (by simp;omega),Z2 (by omega)];refine⟨h,sb,?_,hb,Fed.refl ..⟩;simp only[lsl,Jk,z6,Jx,zp];rw[show done.length=os.length by omega]
 | succ d ih =>
   intro i N h sb xs done hb h1 h2 h3 h4;obtain⟨N,rfl⟩:∃ N',N=N'+1:=⟨N - 1,by omega⟩;have hi:i < os.length:=by omega
   obtain⟨h',sb',e,b1,b2⟩:=zju n hb (by omega) os[i].k os[i].v (hk _ (ZN hi)).1 (hk _ (ZN hi)).2;obtain⟨h'',sb'',e',d1,d2⟩:=ih (i+1) N h' sb' _ (done++[zj0 most os[i] xs]) b1 (by omega) (by simp;omega) (by omega) (by have:=zj1 most os[i].k os[i].v xs;omega);have hd:os.drop i=os[i] :: os.drop (i+1):=Zb hi;refine⟨h'',sb'',?_,by rw[hd];exact d1,b2.trans d2⟩;rw[hd];simp only[Jk];rw[show done++(zj0 most os[i] xs :: (Jk most (os.drop (i+1)) (Qh most os[i].k os[i].v xs).2).1)=done++[zj0 most os[i] xs]++(Jk most (os.drop (i+1)) (Qh most os[i].k os[i].v xs).2).1 by simp,<- e',zK];have hix:Jz 2 i (.sl 2 (os.map O.w) osb)=some (.iptr 2 (O.w os[i]) 0):=by
    simp[Jz,zf hi]
   have key:∀ next,KH (n+5) s (os.map O.w) osb [.sl 2 [] false,.sl 2 (done.map R.w++List.replicate (d+1) [.int .u8 0,.int .i32 0]) false,.bool false,.int .i64 (i:Int)] h next=next [.sl 2 [] false,.sl 2 ((done++[zj0 most os[i] xs]).map R.w++List.replicate d [.int .u8 0,.int .i32 0]) false,.bool false,.int .i64 ((i+1:Nat):Int)] h':=by
    intro next
    unfold KH Yi Yx Ya Yg Yr Yp;simp only[gv,zg,zi];rw[zy,za,zm,if_pos (by simp;omega),z3,zB,hix,za];simp only[Zv];rw[zo,if_pos (by decide),zR,Jn,if_pos (Qz _),if_pos (by rw[Qz];decide),KB,zR,Jn];show cl (call (n+5) _ [.ptr s 0,.agg [.int .u8 os[i].k,.int .i32 os[i].v]] h) _ _=_;rw[e,zH,zC,zB];have hlen:i < (done.map R.w++List.replicate (d+1) [V.int .u8 0,V.int .i32 0]).length:=by simp;omega
    have hget:(done.map R.w++List.replicate (d+1) [V.int .u8 0,V.int .i32 0])[i]?=some [.int .u8 0,.int .i32 0]:=by
     rw[zJ (by simp;omega)];simp[h2]
    rw[if_pos (by refine⟨?_,hlen,by decide⟩;first|trivial|rfl),if_pos (by rfl),if_pos (by refine⟨?_,by decide,zn 2⟩;first|trivial|rfl)];simp only[lsl,zjt,V.cells];rw[hget,za,zA,za,Xl (by omega)];have hset:(done.map R.w++List.replicate (d+1) [V.int .u8 0,V.int .i32 0]).set i (setR [V.int .u8 0,V.int .i32 0] 0 [V.int .u8 (Qh most os[i].k os[i].v xs).1.1,V.int .i32 (Qh most os[i].k os[i].v xs).1.2])=(done++[zj0 most os[i] xs]).map R.w++List.replicate d [V.int .u8 0,V.int .i32 0]:=by
     rw[Zi _ _ (by simp;omega)];simp[h2,XP,R.w,setR,zj0]
    rw[hset]
   rw[key]
theorem zhO (n s : Nat) {h : ze} {sb : Option Nat} {most : Int} {xs : List Int} (hb : StkAt h s sb most xs) (os : List O) (osb : Bool) (hk : ∀ o ∈ os, 0 <= o.k /\ o.k < 256) (hos : xs.length + os.length < lim) (hn : os.length < n) :
    ∃ h' sb',call (n+6) 176 [.bf 177 [.ptr s 0],.sl 2 (os.map O.w) osb] h=some (.ret [.row h'.length 2 0 os.length],h'++[.row 35 2 ((Jk most os xs).1.map R.w) true])/\StkAt h' s sb' most (Jk most os xs).2/\Fed h h' s sb sb':=by
 obtain⟨h',sb',e,b1,b2⟩:=zhN n s osb most os hk (by omega) os.length 0 (n+5) h sb xs [] hb (by omega) rfl (by omega) hos;refine⟨h',sb',(zl2 (n+5) s _ osb h).trans ?_,b1,b2⟩;unfold znu Yg;rw[zp,z3,zB,zB,if_pos ⟨zn _,by omega,rfl⟩];exact e
end Go.Proofs.Tryz
namespace Go.Sk
open Go.L Go.Rp
def Jb(most:Int)(vals:Nat->Int)(i:Nat)(c:Int)(ws:List Nat)(xs:List Int):(Int×Int)×List Nat×List Int :=
 if c=1 then(if ((xs.length+ws.length:Nat):Int) < most then((1,0),ws++[i],xs) else((3,0),ws,xs))
 else if c=2 then(match ws.getLast? with
  | some w=>((2,vals w),ws.dropLast,xs)
  | none=>(match xs.getLast? with|some y=>((2,y),ws,xs.dropLast)|none=>((4,0),ws,xs)))
 else((5,0),ws,xs)
theorem zo8 (most : Int) (vals : Nat -> Int) (i : Nat) (c : Int) (ws : List Nat) (xs : List Int) :
    Qh most c (vals i) (xs++ws.map vals)=((Jb most vals i c ws xs).1,(Jb most vals i c ws xs).2.2++(Jb most vals i c ws xs).2.1.map vals):=by
 unfold Qh Jb;by_cases h1:c=1
 . rw[if_pos h1,if_pos h1,zL,zp];by_cases h:((xs.length+ws.length:Nat):Int) < most
   . rw[if_pos h,if_pos h];simp
   . rw[if_neg h,if_neg h]
 . rw[if_neg h1,if_neg h1];by_cases h2:c=2
   . rw[if_pos h2,if_pos h2];rcases ZH ws with rfl|⟨w0,w,rfl⟩
     . rcases ZH xs with rfl|⟨x0,x,rfl⟩
       . simp
       . simp
     . simp[<- List.append_assoc]
   . rw[if_neg h2,if_neg h2]
end Go.Sk
namespace Go.Sk
open Go.L Go.Rp
def cdC(t:R):List V:=[.int .u8 t.c,.int .i32 0]
def vlC(t:R):List V:=[.int .i32 t.v]
def qt (most : Int) (vals : Nat -> Int) : List O -> Nat -> List Nat -> List Int -> List R × List Nat × List Int
 | [],i,ws,xs=>([],ws,xs)
 | o :: l,i,ws,xs =>
   let t:=Jb most vals i o.k ws xs
   let z:=qt most vals l (i+1) t.2.1 t.2.2
   (⟨t.1.1,t.1.2⟩ :: z.1,z.2)
theorem zj2 (most : Int) (vals : Nat -> Int) : ∀ (l : List O) (i : Nat) (ws : List Nat) (xs : List Int), (qt most vals l i ws xs).1.length = l.length
 | [],_,_,_=>rfl
 | o :: l,i,ws,xs=>by simp[qt,zj2 most vals l]
theorem zj3(most:Int)(vals:Nat->Int):∀ (l:List O) (i:Nat) (ws:List Nat) (xs:List Int),(∀ j o,l[j]?=some o->vals (i+j)=o.v) →
    Jk most l (xs++ws.map vals)=((qt most vals l i ws xs).1,(qt most vals l i ws xs).2.2++(qt most vals l i ws xs).2.1.map vals)
 | [],i,ws,xs,hv=>rfl
 | o :: l,i,ws,xs,hv=>by
   have h0:vals i=o.v:=hv 0 o rfl;have hs:=zo8 most vals i o.k ws xs;rw[h0] at hs;have ih:=zj3 most vals l (i+1) (Jb most vals i o.k ws xs).2.1 (Jb most vals i o.k ws xs).2.2 (fun j p hj=>by rw[show i+1+j=i+(j+1) by omega];exact hv (j+1) p hj);simp only[Jk,qt,zj0,hs,ih]
theorem zj4(most:Int)(vals:Nat->Int)(i:Nat)(c:Int)(ws:List Nat)(xs:List Int)(h:∀ w∈ws,w < i):∀ w∈(Jb most vals i c ws xs).2.1,w < i+1:=by
 have h':∀ w∈ws,w < i+1:=fun w hw=>Nat.lt_succ_of_lt (h w hw);unfold Jb;split
 . split
   . intro w hw;rcases Zn.1 hw with hw|hw
     . exact h' w hw
     . rw[ZE.1 hw];exact Nat.lt_succ_self i
   . exact h'
 . split
   . split
     . exact fun w hw=>h' w (List.dropLast_subset _ hw)
     . split <;> exact h'
   . exact h'
theorem zo9(most:Int)(vals:Nat->Int)(i:Nat)(c:Int)(ws:List Nat)(xs:List Int):(Jb most vals i c ws xs).2.1.length+(Jb most vals i c ws xs).2.2.length<=ws.length+xs.length+1:=by
 unfold Jb;split
 . split <;> simp <;> omega
 . split
   . split
     . simp;omega
     . split <;> simp;omega
   . simp
structure Lay(B s q bo bs r:Nat)(qb:Option Nat):Prop where
 s1:s < B
 q1:q < B
 o1:bo < B
 b1:bs < B
 r1:r < B
 sq:s≠q
 so:s≠bo
 sb:s≠bs
 sr:s≠r
 qo:q≠bo
 qb':q≠bs
 qr:q≠r
 ro:r≠bo
 rb:r≠bs
 own:∀ b,qb=some b->b < B/\b≠s/\b≠q/\b≠r
end Go.Sk
namespace Go.Proofs.Tryz
open Go.L Go.Rp Go.Sk
set_option maxRecDepth 100000
structure MInv(B s q r:Nat)(qb:Option Nat)(m:Nat)(h0 h:ze)(sb:Option Nat)(ws:List Nat)(xs:List Int)(done:List R)(d:Nat):Prop where
 mt:MatAt h s sb xs.length m ws
 fr:∀ b,sb=some b->B<=b
 le:B<=h.length
 st:StkAt h q qb (m:Int) xs
 row:h[r]?=some (.row 21 1 (done.map vlC++List.replicate d [.int .i32 0]) true)
 rest:∀ j,j < B->j≠s->j≠q->j≠r->h[j]?=h0[j]?
theorem MInv.meet {B s q bo bs r : Nat} {qb : Option Nat} {m : Nat} {h0 h h' : ze} {sb sb' : Option Nat} {ws ws' : List Nat} {xs : List Int} {done : List R} {d : Nat} (L : Lay B s q bo bs r qb) (I : MInv B s q r qb m h0 h sb ws xs done d)
    (b1:MatAt h' s sb' xs.length m ws') (b2:Fed h h' s sb sb'):MInv B s q r qb m h0 h' sb' ws' xs done d:=by
 have hk:∀ j,j < B->j≠s->h'[j]?=h[j]?:=fun j h1 h2=>b2.old j (Z1 h1 I.le) h2 (fun e=>by have:=I.fr j e;omega);exact⟨b1,fun b hb=>by rcases b2.own b hb with e|e;exact I.fr b e;exact ZY I.le e,ZY I.le b2.len,I.st.keep (hk q L.q1 L.sq.symm) (fun b hb=>hk b (L.own b hb).1 (L.own b hb).2.1),(hk r L.r1 L.sr.symm).trans I.row,fun j h1 h2 h3 h4=>(hk j h1 h2).trans (I.rest j h1 h2 h3 h4)⟩
theorem MInv.told{B s q r:Nat}{qb:Option Nat}{m:Nat}{h0 h:ze}{sb:Option Nat}{ws:List Nat}{xs:List Int}{done:List R}{d:Nat}(I:MInv B s q r qb m h0 h sb ws xs done (d+1))(c:Int):MInv B s q r qb m h0 h sb ws xs (done++[⟨c,0⟩]) d :=
 ⟨I.mt,I.fr,I.le,I.st,by rw[I.row];simp[XP,vlC],I.rest⟩
theorem zbN{done:List R}{d:Nat}:∀ es∈done.map vlC++List.replicate d [V.int .i32 0],es.length=1:=by
 intro es hes;rcases Zn.1 hes with h|h
 . obtain⟨t,_,rfl⟩:=ZL.1 h;rfl
 . rw[(List.mem_replicate.1 h).2];rfl
theorem zdM(done:List R)(d:Nat)(c v:Int):(done.map vlC++List.replicate (d+1) [V.int .i32 0]).set done.length [.int .i32 v]=(done++[(⟨c,v⟩:R)]).map vlC++List.replicate d [.int .i32 0]:=by
 rw[Zi _ _ (by simp)];simp[XP,vlC]
theorem QJ(done:List R)(d:Nat)(a:Int):(done.map cdC++([V.int .u8 a,V.int .i32 0] :: List.replicate d [V.int .u8 0,V.int .i32 0]))[done.length]?=some [.int .u8 a,.int .i32 0]:=by
 rw[zJ (by simp)];simp
theorem Ql(done:List R)(d:Nat)(c a:Int):(done.map cdC++([V.int .u8 a,V.int .i32 0] :: List.replicate d [V.int .u8 0,V.int .i32 0])).set done.length (setR [V.int .u8 a,.int .i32 0] 0 [V.int .u8 c])=done.map cdC++([V.int .u8 c,V.int .i32 0] :: List.replicate d [V.int .u8 0,V.int .i32 0]):=by
 rw[Zi _ _ (by simp)];simp[setR]
theorem JD(done:List R)(d:Nat)(c v:Int):done.map cdC++([V.int .u8 c,V.int .i32 0] :: List.replicate d [V.int .u8 0,V.int .i32 0])=(done++[(⟨c,v⟩:R)]).map cdC++List.replicate d [.int .u8 0,.int .i32 0]:=by simp[cdC]
def valsOf(os:List O)(j:Nat):Int:=(os[j]?.map O.v).getD 0
theorem zhP (n s q bo bs r B : Nat) (osb : Bool) (m : Nat) (os : List O) {qb sb : Option Nat} {h0 h : ze} {ws : List Nat} {xs : List Int} {done : List R} {d : Nat} (L : Lay B s q bo bs r qb) (I : MInv B s q r qb m h0 h sb ws xs done (d + 1))
    (hbo:h0[bo]?=some (.box 1 [.sl 2 (os.map O.w) osb])) (hbs:h0[bs]?=some (.box 1 [.ptr q 0])) (hd:done.length+(d+1)=os.length) (hw:∀ w∈ws,w < done.length) (hl:ws.length+xs.length+1 < lim) (hos:os.length < lim) (o:O) (ho:os[done.length]?=some o) :
    ∃ h' sb' t,t=Jb (m:Int) (valsOf os) done.length o.k ws xs/\(∀ next,Jl (n+3) s (os.map O.w) osb bo bs r os.length [.sl 2 [] false,.sl 2 (done.map cdC++List.replicate (d+1) [.int .u8 0,.int .i32 0]) false,.bool false,.int .i64 (done.length:Int)] h next=next [.sl 2 [] false,.sl 2 ((done++[(⟨t.1.1,t.1.2⟩:R)]).map cdC++List.replicate d [.int .u8 0,.int .i32 0]) false,.bool false,.int .i64 ((done.length+1:Nat):Int)] h')/\MInv B s q r qb m h0 h' sb' t.2.1 t.2.2 (done++[⟨t.1.1,t.1.2⟩]) d:=by
 have hlt:done.length < os.length:=by omega
 have hix:Jz 2 done.length (.sl 2 (os.map O.w) osb)=some (.iptr 2 (O.w o) 0):=by simp[Jz,ho]
 have hbo':=(I.rest bo L.o1 L.so.symm L.qo.symm L.ro.symm).trans hbo;have hbs':=(I.rest bs L.b1 L.sb.symm L.qb'.symm L.rb.symm).trans hbs;have hwrap:IntKind.i64.wrap ((done.length:Int)+1)=((done.length+1:Nat):Int):=Xl (by omega);have front:∀ next,Jl (n+3) s (os.map O.w) osb bo bs r os.length [.sl 2 [] false,.sl 2 (done.map cdC++List.replicate (d+1) [.int .u8 0,.int .i32 0]) false,.bool false,.int .i64 (done.length:Int)] h next=Jl (n+3) s (os.map O.w) osb bo bs r os.length [.sl 2 [] false,.sl 2 (done.map cdC++([.int .u8 0,.int .i32 0] :: List.replicate d [.int .u8 0,.int .i32 0])) false,.bool false,.int .i64 (done.length:Int)] h next:=fun next=>by rw[XP]
 have hlen:done.length < (done.map cdC++([V.int .u8 0,V.int .i32 0] :: List.replicate d [V.int .u8 0,V.int .i32 0])).length:=by simp
 have hput:∀ k:Int,setR [V.int .u8 0,V.int .i32 0] 0 (O.w o)=O.w o:=fun _=>rfl;have hll:(done.map vlC++List.replicate (d+1) [V.int .i32 0]).length=os.length:=by simp;omega
 by_cases k1:o.k=1
 . by_cases hm:xs.length+ws.length < m
   . obtain⟨h',sb',e,c1,c2⟩:=zfJ (n+2) I.mt done.length hm (by omega);have ht:Jb (m:Int) (valsOf os) done.length o.k ws xs=((1,0),ws++[done.length],xs):=by unfold Jb;rw[if_pos k1,if_pos (by omega)]
     refine⟨h',sb',_,rfl,?_,?_⟩
     . intro next
       rw[ht];rw[front];unfold Jl Yi Yx Ya Yg Yr Yp;simp only[gv,zg,zi,lsl];rw[zy,za,zm,if_pos (by simp;omega),z3,zB,hix,za];simp only[Zv];rw[zo,if_pos (by decide),zR,Jn,if_pos (Qz _),if_pos (by rw[Qz];decide),zB,if_pos ⟨trivial,hlen,by decide⟩,KB];simp only[O.w,zb,za];rw[Jt,za,zm,if_pos (by simp[k1]),QJ,za,e,zH,zC,zm,if_pos rfl,Ql,QJ,za,zA,za,hwrap,Ql,JD (v:=0)]
     . rw[ht];exact(I.meet L c1 c2).told 1
   . have e:=zfI (n+2) I.mt (done.length:Int) (by omega) (by omega);have ht:Jb (m:Int) (valsOf os) done.length o.k ws xs=((3,0),ws,xs):=by unfold Jb;rw[if_pos k1,if_neg (by omega)]
     refine⟨h,sb,_,rfl,?_,?_⟩
     . intro next
       rw[ht];rw[front];unfold Jl Yi Yx Ya Yg Yr Yp;simp only[gv,zg,zi,lsl];rw[zy,za,zm,if_pos (by simp;omega),z3,zB,hix,za];simp only[Zv];rw[zo,if_pos (by decide),zR,Jn,if_pos (Qz _),if_pos (by rw[Qz];decide),zB,if_pos ⟨trivial,hlen,by decide⟩,KB];simp only[O.w,zb,za];rw[Jt,za,zm,if_pos (by simp[k1]),QJ,za,e,zH,zC,zm,if_neg (by decide),zA,za,hwrap,Ql,JD (v:=0)]
     . rw[ht];exact I.told 3
 by_cases k2:o.k=2
 . rcases ZH ws with rfl|⟨w0,w,rfl⟩
   . have e:=zhE (n+2) I.mt;rcases ZH xs with rfl|⟨x0,x,rfl⟩
     . have e2:=zeR (n+2) I.mt;have ht:Jb (m:Int) (valsOf os) done.length o.k [] []=((4,0),[],[]):=by unfold Jb;rw[if_neg k1,if_pos k2];rfl
       refine⟨h,sb,_,rfl,?_,?_⟩
       . intro next
         rw[ht];rw[front];unfold Jl Yi Yx Ya Yg Yr Yp;simp only[gv,zg,zi,lsl];rw[zy,za,zm,if_pos (by simp;omega),z3,zB,hix,za];simp only[Zv];rw[zo,if_pos (by decide),zR,Jn,if_pos (Qz _),if_pos (by rw[Qz];decide),zB,if_pos ⟨trivial,hlen,by decide⟩,KB];simp only[O.w,zb,za];rw[Jt,za,zm,if_neg (by simp[k1]),Jt,za,zm,if_pos (by simp[k2]),QJ,za,e,zH];simp only[zb,zh,za];rw[zm,if_neg (by decide),e2,zH,zC,zm,if_neg (by decide),Ql,QJ,za,zA,za,hwrap,Ql,JD (v:=0)]
       . rw[ht];exact I.told 4
     . rw[QK] at I hl ⊢;have hmt:=I.mt;rw[zL,ZG] at hmt;obtain⟨h1,e2,c1,c2,c3⟩:=zeS (n+2) hmt (by simp at hl;omega);have hq1:StkAt h1 q qb (m:Int) (x0++[x]):=I.st.keep (c3 q L.sq.symm) (fun b hb=>c3 b (L.own b hb).2.1);have hr1:=(c3 r L.sr.symm).trans I.row;obtain⟨h2,e3,d1,d2,d3,d4⟩:=zjy n (i:=done.length) ((c3 bs L.sb.symm).trans hbs') hq1 (by simp at hl;omega) hr1 L.qr.symm (fun e=>(L.own r e).2.2.2 rfl) zbN (by rw[hll];exact hlt);rw[hll] at e3;have ht:Jb (m:Int) (valsOf os) done.length o.k [] (x0++[x])=((2,x),[],x0):=by unfold Jb;rw[if_neg k1,if_pos k2];simp
       refine⟨h2,sb,_,rfl,?_,?_⟩
       . intro next
         rw[ht];rw[front];unfold Jl Yi Yx Ya Yg Yr Yp;simp only[gv,zg,zi,lsl];rw[zy,za,zm,if_pos (by simp;omega),z3,zB,hix,za];simp only[Zv];rw[zo,if_pos (by decide),zR,Jn,if_pos (Qz _),if_pos (by rw[Qz];decide),zB,if_pos ⟨trivial,hlen,by decide⟩,KB];simp only[O.w,zb,za];rw[Jt,za,zm,if_neg (by simp[k1]),Jt,za,zm,if_pos (by simp[k2]),QJ,za,e,zH];simp only[zb,zh,za];rw[zm,if_neg (by decide),e2,zH,zC,zm,if_pos rfl,e3,zH,zA,za,hwrap,Ql,JD (v:=x)]
       . rw[ht];refine⟨c1.keep (d4 s L.sq L.sr) (fun b hb=>d4 b (fun e=>by have:=I.fr b hb;have:=L.q1;omega) (fun e=>by have:=I.fr b hb;have:=L.r1;omega)),I.fr,by rw[d3,c2];exact I.le,d1,by rw[d2,zdM done d 2 x],fun j j1 j2 j3 j4=>(d4 j j3 j4).trans ((c3 j j2).trans (I.rest j j1 j2 j3 j4))⟩
   . rw[QK] at I hl hw ⊢;obtain⟨h1,e,c1,c2,c3⟩:=zhF (n+2) I.mt (by simp at hl;omega);have hwl:w < os.length:=by have:=hw w (by simp);omega
     have I1:=I.meet L c1 ⟨by omega,fun j _ j2 _=>c3 j j2,fun b hb=>.inl hb⟩;have e2:=zjx (n+2) (j:=w) (i:=done.length) ((c3 bo L.so.symm).trans hbo') I1.row zbN (by rw[hll];exact hlt) hwl;rw[hll] at e2;have hv:valsOf os w=os[w].v:=by simp[valsOf,zf hwl]
     have ht:Jb (m:Int) (valsOf os) done.length o.k (w0++[w]) xs=((2,os[w].v),w0,xs):=by unfold Jb;rw[if_neg k1,if_pos k2,<- hv];simp
     refine⟨h1.set r (.row 21 1 ((done.map vlC++List.replicate (d+1) [V.int .i32 0]).set done.length [.int .i32 os[w].v]) true),sb,_,rfl,?_,?_⟩
     . intro next
       rw[ht];rw[front];unfold Jl Yi Yx Ya Yg Yr Yp;simp only[gv,zg,zi,lsl];rw[zy,za,zm,if_pos (by simp;omega),z3,zB,hix,za];simp only[Zv];rw[zo,if_pos (by decide),zR,Jn,if_pos (Qz _),if_pos (by rw[Qz];decide),zB,if_pos ⟨trivial,hlen,by decide⟩,KB];simp only[O.w,zb,za];rw[Jt,za,zm,if_neg (by simp[k1]),Jt,za,zm,if_pos (by simp[k2]),QJ,za,e,zH];simp only[zb,zh,za];rw[zm,if_pos rfl,e2,zH,zA,za,hwrap,Ql,JD (v:=os[w].v)]
     . rw[ht];refine⟨I1.mt.keep (zd L.sr.symm) (fun b hb=>zd (fun e=>by have:=I1.fr b hb;have:=L.r1;omega)),I1.fr,by rw[zw];exact I1.le,I1.st.keep (zd L.qr.symm) (fun b hb=>zd (L.own b hb).2.2.2.symm),?_,fun j j1 j2 j3 j4=>(zd j4.symm).trans (I1.rest j j1 j2 j3 j4)⟩;rw[ZU (zQ I1.row),zdM done d 2]
 . have ht:Jb (m:Int) (valsOf os) done.length o.k ws xs=((5,0),ws,xs):=by unfold Jb;rw[if_neg k1,if_neg k2]
   refine⟨h,sb,_,rfl,?_,?_⟩
   . intro next
     rw[ht];rw[front];unfold Jl Yi Yx Ya Yg Yr Yp;simp only[gv,zg,zi,lsl];rw[zy,za,zm,if_pos (by simp;omega),z3,zB,hix,za];simp only[Zv];rw[zo,if_pos (by decide),zR,Jn,if_pos (Qz _),if_pos (by rw[Qz];decide),zB,if_pos ⟨trivial,hlen,by decide⟩,KB];simp only[O.w,zb,za];rw[Jt,za,zm,if_neg (by simp[k1]),Jt,za,zm,if_neg (by simp[k2]),QJ,za,zA,za,hwrap,Ql,JD (v:=0)]
   . rw[ht];exact I.told 5
theorem zhQ (n s q bo bs r B : Nat) (osb : Bool) (m : Nat) (os : List O) {qb : Option Nat} {h0 : ze} (L : Lay B s q bo bs r qb)
    (hbo:h0[bo]?=some (.box 1 [.sl 2 (os.map O.w) osb])) (hbs:h0[bs]?=some (.box 1 [.ptr q 0])) (hos:os.length < lim):∀ (d N:Nat) (h:ze) (sb:Option Nat) (ws:List Nat) (xs:List Int) (done:List R),MInv B s q r qb m h0 h sb ws xs done d->done.length+d=os.length->d < N->(∀ w∈ws,w < done.length)->ws.length+xs.length+d < lim →
    ∃ h' sb' z,z=qt (m:Int) (valsOf os) (os.drop done.length) done.length ws xs/\zV N (Jl (n+3) s (os.map O.w) osb bo bs r os.length) [.sl 2 [] false,.sl 2 (done.map cdC++List.replicate d [.int .u8 0,.int .i32 0]) false,.bool false,.int .i64 (done.length:Int)] h=some (.ret [.row h'.length 2 0 os.length],h'++[.row 35 2 ((done++z.1).map cdC) true])/\MInv B s q r qb m h0 h' sb' z.2.1 z.2.2 (done++z.1) 0:=by
 intro d
 induction d with
 | zero =>
   intro N h sb ws xs done I h1 h2 hw hl;obtain⟨N,rfl⟩:∃ N',N=N'+1:=⟨N - 1,by omega⟩;refine⟨h,sb,_,rfl,?_,?_⟩
   . rw[zK];unfold Jl Yi Yx Ya Yg Yr Yp;simp only[gv,zg,zi];rw[zy,za,zm,if_neg (by simp;omega),Z2 (by omega)];simp only[lsl,qt,z6,Jx,zp];rw[show done.length=os.length by omega]
   . rw[Z2 (by omega)];simp only[qt,z6];exact I
 | succ d ih =>
   intro N h sb ws xs done I h1 h2 hw hl;obtain⟨N,rfl⟩:∃ N',N=N'+1:=⟨N - 1,by omega⟩;have hi:done.length < os.length:=by omega
   obtain⟨h',sb',t,rfl,key,I'⟩:=zhP n s q bo bs r B osb m os L I hbo hbs h1 hw (by omega) hos os[done.length] (zf hi);have hlen:=zo9 (m:Int) (valsOf os) done.length os[done.length].k ws xs;have hws:=zj4 (m:Int) (valsOf os) done.length os[done.length].k ws xs hw;obtain⟨h'',sb'',z,hz,e',I''⟩:=ih N h' sb' _ _ _ I' (by simp;omega) (by omega) (by simpa using hws) (by omega);have hd:os.drop done.length=os[done.length] :: os.drop (done.length+1):=Zb hi;rw[zL,ZG] at hz e';refine⟨h'',sb'',_,rfl,?_,?_⟩
   . rw[hd,zK,key,e',hz];simp[qt]
   . rw[hd];rw[hz] at I'';simpa[qt] using I''
theorem zhR (n s q bo bs r B : Nat) (osb : Bool) (m : Nat) (os : List O) {qb : Option Nat} {h : ze} (L : Lay B s q bo bs r qb)
    (hbo:h[bo]?=some (.box 1 [.sl 2 (os.map O.w) osb])) (hbs:h[bs]?=some (.box 1 [.ptr q 0])) {xs:List Int} (hos:os.length+xs.length < lim) (hn:os.length < n) (I:MInv B s q r qb m h h none [] xs [] os.length) :
    ∃ h' sb' z,z=qt (m:Int) (valsOf os) os 0 [] xs/\call (n+4) 181 [.ptr s 0,.sl 2 (os.map O.w) osb,.fn 182 [.ptr bo 0,.iptr 1 [.row r 1 0 os.length] 0],.fn 183 [.ptr bs 0,.iptr 1 [.row r 1 0 os.length] 0]] h=some (.ret [.row h'.length 2 0 os.length],h'++[.row 35 2 (z.1.map cdC) true])/\MInv B s q r qb m h h' sb' z.2.1 z.2.2 z.1 0:=by
 obtain⟨h',sb',z,hz,e,I'⟩:=zhQ n s q bo bs r B osb m os L hbo hbs (by omega) os.length (n+3) h none [] xs [] I (by simp) (by omega) (by simp) (by simp;omega);refine⟨h',sb',z,by simpa using hz,(zo3 (n+3) s _ osb bo bs r _ h).trans ?_,by simpa using I'⟩;unfold zq3 Yg;rw[zp,z3,zB,zB,if_pos ⟨zn _,by omega,rfl⟩];simpa using e
end Go.Proofs.Tryz
namespace Go.Sk
open Go.L Go.Rp
def KX(d:Nat)(xs:List Int):Option (Int×List Int) :=
 if d=0 then(match xs with|y :: r=>some (y,r)|[]=>none) else(match xs.getLast? with|some y=>some (y,xs.dropLast)|none=>none)
def YS(most:Int)(i d:Nat)(ws:Nat->List Nat)(xs:List Int):(Int×Int)×(Nat->List Nat)×List Int :=
 if ((xs.length+(ws 0).length+(ws 1).length:Nat):Int) < most then((1,0),WR d (ws d++[i]) ws,xs) else((3,0),ws,xs)
def zbO(vals:Nat->Int)(d:Nat)(ws:Nat->List Nat)(xs:List Int):(Int×Int)×(Nat->List Nat)×List Int :=
 match (ws d).getLast? with
 | some w=>((2,vals w),WR d (ws d).dropLast ws,xs)
 | none=>(match KX d xs with
   | some p=>((2,p.1),ws,p.2)
   | none=>(match ws (1 - d) with|w :: r=>((2,vals w),WR (1 - d) r ws,xs)|[]=>((4,0),ws,xs)))
def WL(most:Int)(vals:Nat->Int)(i:Nat)(c:Int)(ws:Nat->List Nat)(xs:List Int):(Int×Int)×(Nat->List Nat)×List Int :=
 if c=1 then YS most i 0 ws xs else if c=2 then YS most i 1 ws xs else if c=3 then zbO vals 0 ws xs else if c=4 then zbO vals 1 ws xs else((5,0),ws,xs)
def qe(vals:Nat->Int)(ws:Nat->List Nat)(xs:List Int):List Int:=(ws 0).reverse.map vals++xs++(ws 1).map vals
theorem zpa (most : Int) (vals : Nat -> Int) (i : Nat) (c : Int) (ws : Nat -> List Nat) (xs : List Int) :
    XN most c (vals i) (qe vals ws xs)=((WL most vals i c ws xs).1,qe vals (WL most vals i c ws xs).2.1 (WL most vals i c ws xs).2.2):=by
 have hl:(qe vals ws xs).length=xs.length+(ws 0).length+(ws 1).length:=by simp[qe];omega
 unfold XN WL;by_cases h1:c=1
 . rw[if_pos h1,if_pos h1,hl];unfold YS;by_cases h:((xs.length+(ws 0).length+(ws 1).length:Nat):Int) < most
   . rw[if_pos h,if_pos h];simp[qe,WR]
   . rw[if_neg h,if_neg h]
 rw[if_neg h1,if_neg h1];by_cases h2:c=2
 . rw[if_pos h2,if_pos h2,hl];unfold YS;by_cases h:((xs.length+(ws 0).length+(ws 1).length:Nat):Int) < most
   . rw[if_pos h,if_pos h];simp[qe,WR]
   . rw[if_neg h,if_neg h]
 rw[if_neg h2,if_neg h2];by_cases h3:c=3
 . rw[if_pos h3,if_pos h3];unfold zbO;rcases ZH (ws 0) with e0|⟨w0,w,e0⟩
   . cases xs with
     | nil =>
       cases e1:ws 1 with
       | nil=>simp[qe,e0,e1,KX]
       | cons w r=>simp[qe,e0,e1,KX,WR]
     | cons y r=>simp[qe,e0,KX]
   . simp[qe,e0,WR]
 rw[if_neg h3,if_neg h3];by_cases h4:c=4
 . rw[if_pos h4,if_pos h4];unfold zbO;rcases ZH (ws 1) with e0|⟨w0,w,e0⟩
   . rcases ZH xs with rfl|⟨x0,x,rfl⟩
     . cases e1:ws 0 with
       | nil=>simp[qe,e0,e1,KX]
       | cons w r=>simp[qe,e0,e1,KX,WR]
     . simp[qe,e0,KX,<- List.append_assoc]
   . simp[qe,e0,WR,<- List.append_assoc]
 rw[if_neg h4,if_neg h4]
def zaH (most : Int) (vals : Nat -> Int) : List O -> Nat -> (Nat -> List Nat) -> List Int -> List R × (Nat -> List Nat) × List Int
 | [],i,ws,xs=>([],ws,xs)
 | o :: l,i,ws,xs =>
   let t:=WL most vals i o.k ws xs
   let z:=zaH most vals l (i+1) t.2.1 t.2.2
   (⟨t.1.1,t.1.2⟩ :: z.1,z.2)
theorem zj5 (most : Int) (vals : Nat -> Int) : ∀ (l : List O) (i : Nat) (ws : Nat -> List Nat) (xs : List Int), (zaH most vals l i ws xs).1.length = l.length
 | [],_,_,_=>rfl
 | o :: l,i,ws,xs=>by simp[zaH,zj5 most vals l]
def zj6(most:Int)(o:O)(xs:List Int):R:=⟨(XN most o.k o.v xs).1.1,(XN most o.k o.v xs).1.2⟩
def Ju (most : Int) : List O -> List Int -> List R × List Int
 | [],xs=>([],xs)
 | o :: r,xs=>(zj6 most o xs :: (Ju most r (XN most o.k o.v xs).2).1,(Ju most r (XN most o.k o.v xs).2).2)
theorem ze4 (most : Int) : ∀ (l : List O) (xs : List Int), (Ju most l xs).1.length = l.length
 | [],_=>rfl
 | o :: r,xs=>by simp[Ju,ze4 most r]
theorem zj7(most:Int)(vals:Nat->Int):∀ (l:List O) (i:Nat) (ws:Nat->List Nat) (xs:List Int),(∀ j o,l[j]?=some o->vals (i+j)=o.v) →
    Ju most l (qe vals ws xs)=((zaH most vals l i ws xs).1,qe vals (zaH most vals l i ws xs).2.1 (zaH most vals l i ws xs).2.2)
 | [],i,ws,xs,hv=>rfl
 | o :: l,i,ws,xs,hv=>by
   have h0:vals i=o.v:=hv 0 o rfl;have hs:=zpa most vals i o.k ws xs;rw[h0] at hs;have ih:=zj7 most vals l (i+1) (WL most vals i o.k ws xs).2.1 (WL most vals i o.k ws xs).2.2 (fun j p hj=>by rw[show i+1+j=i+(j+1) by omega];exact hv (j+1) p hj);simp only[Ju,zaH,zj6,hs,ih]
def Below2(i:Nat)(ws:Nat->List Nat):Prop:=∀ d,d < 2->∀ w∈ws d,w < i
def tot(ws:Nat->List Nat)(xs:List Int):Nat:=xs.length+(ws 0).length+(ws 1).length
theorem Below2.mono{i j:Nat}{ws:Nat->List Nat}(h:Below2 i ws)(hij:i<=j):Below2 j ws:=fun d hd w hw=>Z1 (h d hd w hw) hij
theorem Below2.put{i:Nat}{ws:Nat->List Nat}(h:Below2 i ws)(d:Nat){l:List Nat}(hl:∀ w∈l,w < i):Below2 i (WR d l ws):=fun e he w hw=>by
 unfold WR at hw;split at hw
 . exact hl w hw
 . exact h e he w hw
theorem zhS{d:Nat}(hd:d < 2)(l:List Nat)(ws:Nat->List Nat)(xs:List Int):tot (WR d l ws) xs+(ws d).length=tot ws xs+l.length:=by
 obtain rfl|rfl:d=0\/d=1:=by omega
 . simp only[tot,Wi,Y1 l ws (show (1:Nat)≠0 by decide)];omega
 . simp only[tot,Wi,Y1 l ws (show (0:Nat)≠1 by decide)];omega
theorem zgA{d:Nat}{xs:List Int}{p:Int×List Int}(h:KX d xs=some p):p.2.length+1=xs.length:=by
 unfold KX at h;split at h
 . cases xs with
   | nil=>cases h
   | cons y r=>cases h;rfl
 . rcases ZH xs with rfl|⟨x0,x,rfl⟩
   . cases h
   . simp at h;subst h;simp
theorem znw(vals:Nat->Int){d:Nat}(hd:d < 2){i:Nat}{ws:Nat->List Nat}{xs:List Int}(h:Below2 i ws):Below2 i (zbO vals d ws xs).2.1/\tot (zbO vals d ws xs).2.1 (zbO vals d ws xs).2.2<=tot ws xs:=by
 unfold zbO;split
 . rename_i w e;refine⟨h.put d (fun w hw=>h d hd w (List.dropLast_subset _ hw)),?_⟩;have:=zhS hd (ws d).dropLast ws xs;simp at this ⊢;omega
 . split
   . rename_i p e;have:=zgA e;exact⟨h,by simp only[tot];omega⟩
   . split
     . rename_i w r e;refine⟨h.put (1 - d) (fun x hx=>h (1 - d) (by omega) x (by rw[e];exact zu _ hx)),?_⟩;have:=zhS (d:=1 - d) (by omega) r ws xs;rw[e] at this;simp at this ⊢;omega
     . exact⟨h,zn _⟩
theorem zj8(most:Nat){d:Nat}(hd:d < 2){i:Nat}{ws:Nat->List Nat}{xs:List Int}(h:Below2 i ws)(hm:tot ws xs<=most):Below2 (i+1) (YS (most:Int) i d ws xs).2.1/\tot (YS (most:Int) i d ws xs).2.1 (YS (most:Int) i d ws xs).2.2<=most/\tot (YS (most:Int) i d ws xs).2.1 (YS (most:Int) i d ws xs).2.2<=tot ws xs+1:=by
 unfold YS;split
 . rename_i e;refine⟨(h.mono (WP i)).put d (fun w hw=>?_),?_⟩
   . rcases Zn.1 hw with hw|hw
     . exact Nat.lt_succ_of_lt (h d hd w hw)
     . rw[ZE.1 hw];exact Nat.lt_succ_self i
   . have:=zhS hd (ws d++[i]) ws xs;simp only[zL,ZG] at this;unfold tot at this hm ⊢;simp only;omega
 . exact⟨h.mono (WP i),hm,WP _⟩
theorem zj9(most:Nat)(vals:Nat->Int)(i:Nat)(c:Int){ws:Nat->List Nat}{xs:List Int}(h:Below2 i ws)(hm:tot ws xs<=most):Below2 (i+1) (WL (most:Int) vals i c ws xs).2.1/\tot (WL (most:Int) vals i c ws xs).2.1 (WL (most:Int) vals i c ws xs).2.2<=most/\tot (WL (most:Int) vals i c ws xs).2.1 (WL (most:Int) vals i c ws xs).2.2<=tot ws xs+1:=by
 unfold WL;split
 . exact zj8 most (by decide) h hm
 split
 . exact zj8 most (by decide) h hm
 split
 . have:=znw vals (d:=0) (by decide) (xs:=xs) h;exact⟨this.1.mono (WP i),by omega,by omega⟩
 split
 . have:=znw vals (d:=1) (by decide) (xs:=xs) h;exact⟨this.1.mono (WP i),by omega,by omega⟩
 . exact⟨h.mono (WP i),hm,WP _⟩
theorem znx (most : Nat) (vals : Nat -> Int) : ∀ (l : List O) (i : Nat) (ws : Nat -> List Nat) (xs : List Int), Below2 i ws -> tot ws xs <= most -> Below2 (i + l.length) (zaH (most : Int) vals l i ws xs).2.1 /\ tot (zaH (most : Int) vals l i ws xs).2.1 (zaH (most : Int) vals l i ws xs).2.2 <= most
 | [],_,_,_,h,hm=>⟨h,hm⟩
 | o :: l,i,ws,xs,h,hm=>by
   have h1:=zj9 most vals i o.k h hm;have h2:=znx most vals l (i+1) _ _ h1.1 h1.2.1;refine⟨h2.1.mono (by simp;omega),h2.2⟩
structure ELay(B s q qb r mp:Nat):Prop where
 s1:s < B
 q1:q < B
 b1:qb < B
 r1:r < B
 m1:mp < B
 sq:s≠q
 sb:s≠qb
 sr:s≠r
 sm:s≠mp
 qr:q≠r
 qm:q≠mp
 br:qb≠r
 bm:qb≠mp
 rm:r≠mp
end Go.Sk
namespace Go.Proofs.Tryz
open Go.L Go.Rp Go.Sk
set_option maxRecDepth 100000
def jB:List (V×V):=[(.int .u8 1,.agg [.bool true,.int .i64 0]),(.int .u8 2,.agg [.bool true,.int .i64 1]),(.int .u8 3,.agg [.bool false,.int .i64 0]),(.int .u8 4,.agg [.bool false,.int .i64 1])]
theorem q8:kds prog 12 5=some [0]:=by kernel_rfl
theorem zri(a n:Int):keq [0] (.int .u8 a) (.int .u8 n)=some (a == n):=by
 show some (a == n && true)=_;rw[Bool.and_true]
theorem zrj(n:Nat)(h:ze):call (n+1) 212 [] h=some (.ret [.map h.length],h++[.map jB]):=by
 rw[zlY];unfold znq Yr;have g:∀ es,(h++[HB.map es])[h.length]?=some (.map es):=fun es=>zx;have st:∀ es es',(h++[HB.map es]).set h.length (HB.map es')=h++[HB.map es']:=fun es es'=>by rw[Zi _ _ (zn _)];simp
 simp only[g,st,Kf];rw[q8,za];simp only[Qp,za];rw[if_pos (by decide)];simp only[g,st,Kf,upd,zX,Qp,zri];rfl
theorem zrk(c:Int):Qp [0] (.int .u8 c) jB 0=some (if c=1 then some 0 else if c=2 then some 1 else if c=3 then some 2 else if c=4 then some 3 else none):=by
 unfold jB;simp only[Qp,zri];by_cases h1:c=1
 . simp[h1]
 by_cases h2:c=2
 . simp[h2]
 by_cases h3:c=3
 . simp[h3]
 by_cases h4:c=4
 . simp[h4]
 have e1:(c == 1)=false:=by simpa using h1
 have e2:(c == 2)=false:=by simpa using h2
 have e3:(c == 3)=false:=by simpa using h3
 have e4:(c == 4)=false:=by simpa using h4
 simp only[e1,e2,e3,e4,if_neg h1,if_neg h2,if_neg h3,if_neg h4]
structure EInv(B s q qb r:Nat)(m:Nat)(h0 h:ze)(sb:Nat->Option Nat)(ws:Nat->List Nat)(v:Nat->V)(xs:List Int)(done:List R)(d:Nat):Prop where
 mt:EndAt h s sb xs.length m ws v
 fr:∀ e b,e < 2->sb e=some b->B<=b
 le:B<=h.length
 st:RngAt h q qb m xs
 row:h[r]?=some (.row 21 1 (done.map vlC++List.replicate d [.int .i32 0]) true)
 rest:∀ j,j < B->j≠s->j≠q->j≠qb->j≠r->h[j]?=h0[j]?
theorem EInv.meet {B s q qb r mp : Nat} {m : Nat} {h0 h h' : ze} {sb sb' : Nat -> Option Nat} {ws ws' : Nat -> List Nat} {v v' : Nat -> V} {xs : List Int} {done : List R} {d : Nat} (L : ELay B s q qb r mp) (I : EInv B s q qb r m h0 h sb ws v xs done d)
    (b1:EndAt h' s sb' xs.length m ws' v') (b2:EFed h h' s sb sb'):EInv B s q qb r m h0 h' sb' ws' v' xs done d:=by
 have hk:∀ j,j < B->j≠s->h'[j]?=h[j]?:=fun j h1 h2=>b2.old j (Z1 h1 I.le) h2 (fun e=>by have:=I.fr 0 j (by decide) e;omega) (fun e=>by have:=I.fr 1 j (by decide) e;omega);exact⟨b1,fun e b he hb=>by rcases b2.new e b he hb with k|k;exact I.fr e b he k;exact ZY I.le k,ZY I.le b2.len,I.st.keep (hk q L.q1 L.sq.symm) (hk qb L.b1 L.sb.symm),(hk r L.r1 L.sr.symm).trans I.row,fun j h1 h2 h3 h4 h5=>(hk j h1 h2).trans (I.rest j h1 h2 h3 h4 h5)⟩
theorem EInv.told{B s q qb r:Nat}{m:Nat}{h0 h:ze}{sb:Nat->Option Nat}{ws:Nat->List Nat}{v:Nat->V}{xs:List Int}{done:List R}{d:Nat}(I:EInv B s q qb r m h0 h sb ws v xs done (d+1))(c:Int):EInv B s q qb r m h0 h sb ws v xs (done++[⟨c,0⟩]) d :=
 ⟨I.mt,I.fr,I.le,I.st,by rw[I.row];simp[XP,vlC],I.rest⟩
theorem EInv.num{B s q qb r mp:Nat}{m:Nat}{h0 h h':ze}{sb:Nat->Option Nat}{ws:Nat->List Nat}{v:Nat->V}{xs xs':List Int}{done:List R}{d:Nat}(L:ELay B s q qb r mp)(I:EInv B s q qb r m h0 h sb ws v xs done (d+1))(c x:Int)(b1:EndAt h' s sb xs'.length m ws v)(b2:RngAt h' q qb m xs')(b3:h'.length=h.length)(b4:h'[r]?=some (.row 21 1 ((done.map vlC++List.replicate (d+1) [V.int .i32 0]).set done.length [.int .i32 x]) true))(b5:∀ j,j≠q->j≠qb->j≠r->h'[j]?=h[j]?):EInv B s q qb r m h0 h' sb ws v xs' (done++[⟨c,x⟩]) d :=
 ⟨b1,I.fr,by rw[b3];exact I.le,b2,by rw[b4,zdM done d c x],fun j h1 h2 h3 h4 h5=>(b5 j h3 h4 h5).trans (I.rest j h1 h2 h3 h4 h5)⟩
theorem EndAt.keep{h h':ze}{s:Nat}{sb:Nat->Option Nat}{u m:Nat}{ws:Nat->List Nat}{v:Nat->V}(E:EndAt h s sb u m ws v)(h1:h'[s]?=h[s]?)(h2:∀ e b,e < 2->sb e=some b->h'[b]?=h[b]?):EndAt h' s sb u m ws v :=
 ⟨h1.trans E.box,fun e he=>(E.side e he).keep (fun b hb=>h2 e b he hb),E.own,E.apart⟩
theorem zgB (n : Nat) {h : ze} {q r d : Nat} {os : List O} {osb : Bool} {l : List (List V)} {z : Bool} {i j : Nat} (hd : d < 2) (hr : h[r]? = some (.row 21 1 l z)) (hl : ∀ es ∈ l, es.length = 1) (hi : i < l.length) (hj : j < os.length) :
    call (n+1) 208 [.int .i64 (i:Int),.int .i64 (d:Int),.int .i64 (j:Int),.iptr 2 [.bf 203 [.ptr q 0],.bf 204 [.ptr q 0]] 0,.iptr 1 [.row r 1 0 l.length] 0,.iptr 1 [.sl 2 (os.map O.w) osb] 0] h=some (.ret [],h.set r (.row 21 1 (l.set i [.int .i32 os[j].v]) z)):=by
 have hx:l[i]?=some l[i]:=zf hi;have hw:Zl h [V.int .i32 os[j].v] (.rptr r 1 i 0)=some (r,.row 21 1 (l.set i [.int .i32 os[j].v]) z):=by
  obtain⟨e,he⟩:∃ e,l[i]=[e]:=ZS.1 (hl _ (ZN hi));simp[Zl,hr,hx,he,setR]
 obtain rfl|rfl:d=0\/d=1:=by omega
 . refine(zjG n _ _ q r _ _ osb h).trans ?_;unfold zrd Yl Yw Yx Yr;rw[if_neg (by simp),z3,zB,XJ (es:=O.w os[j]) (by rw[zF,zf hj];rfl),za];simp only[ZD,za];rw[Zq,zo,if_pos (by decide)];simp only[O.w,zq,zh,zb,za];rw[z3,zB,Z3 (by omega),za,zq];simp only[V.cells,zD,zP,zq,if_true];rw[hw,zZ]
 . refine(zjH n _ _ q r _ _ osb h).trans ?_;unfold zre Yl Yw Yx Yr;rw[if_neg (by simp),z3,zB,XJ (es:=O.w os[j]) (by rw[zF,zf hj];rfl),za];simp only[ZD,za];rw[Zq,zo,if_pos (by decide)];simp only[O.w,zq,zh,zb,za];rw[z3,zB,Z3 (by omega),za,zq];simp only[V.cells,zD,zP,zq,if_true];rw[hw,zZ]
theorem zfP (n : Nat) {h : ze} {q qb c d : Nat} {xs : List Int} (hb : RngAt h q qb c xs) (hc : c < 100000) {p : Int × List Int} (hp : KX d xs = some p) :
    ∃ h',call (n+2) (if d=0 then 203 else 204) [.ptr q 0] h=some (.ret [.int .i32 p.1,.bool true],h')/\RngAt h' q qb c p.2/\RFed h h' q qb:=by
 unfold KX at hp;split at hp
 . rename_i hd;rw[if_pos hd];cases xs with
   | nil=>cases hp
   | cons y r=>cases hp;exact zaR n hb hc
 . rename_i hd;rw[if_neg hd];rcases ZH xs with rfl|⟨x0,x,rfl⟩
   . cases hp
   . simp at hp;subst hp;rw[QK] at hb;exact zaS n hb hc
theorem zl4 (n : Nat) {h : ze} {q qb r c d : Nat} {os : List (List V)} {osb : Bool} {l : List (List V)} {z : Bool} {i : Nat} {xs : List Int} (hd : d < 2) (hr : h[r]? = some (.row 21 1 l z)) (hl : ∀ es ∈ l, es.length = 1) (hi : i < l.length) (hb : RngAt h q qb c xs) (hc : c < 100000) (qr : r ≠ q) (br : r ≠ qb) {p : Int × List Int} (hp : KX d xs = some p) :
    ∃ h',call (n+3) 208 [.int .i64 (i:Int),.int .i64 (d:Int),.int .i64 (-1),.iptr 2 [.bf 203 [.ptr q 0],.bf 204 [.ptr q 0]] 0,.iptr 1 [.row r 1 0 l.length] 0,.iptr 1 [.sl 2 os osb] 0] h=some (.ret [],h')/\RngAt h' q qb c p.2/\h'[r]?=some (.row 21 1 (l.set i [.int .i32 p.1]) z)/\h'.length=h.length/\∀ j,j≠q->j≠qb->j≠r->h'[j]?=h[j]?:=by
 obtain⟨h1,e,b1,b2⟩:=zfP n hb hc hp;have hr1:h1[r]?=some (.row 21 1 l z):=(b2.old r qr br).trans hr;have hx:l[i]?=some l[i]:=zf hi;have hw:Zl h1 [V.int .i32 p.1] (.rptr r 1 i 0)=some (r,.row 21 1 (l.set i [.int .i32 p.1]) z):=by
  obtain⟨e,he⟩:∃ e,l[i]=[e]:=ZS.1 (hl _ (ZN hi));simp[Zl,hr1,hx,he,setR]
 refine⟨h1.set r (.row 21 1 (l.set i [.int .i32 p.1]) z),?_,b1.keep (zd qr) (zd br),ZU (zQ hr1) _,by rw[zw];exact b2.len,fun j h1 h2 h3=>(zd (Ne.symm h3)).trans (b2.old j h1 h2)⟩;obtain rfl|rfl:d=0\/d=1:=by omega
 . rw[if_pos rfl] at e;refine(zjG (n+2) _ _ q r _ _ osb h).trans ?_;unfold zrd Yl Yw Yx Yr;rw[if_pos (by decide),e];simp only[clH,zb,zh,za];rw[z3,zB,Z3 (by omega),za,zq];simp only[V.cells,ixP,zD,zP,zq,if_true];rw[hw,zZ]
 . rw[if_neg (by decide)] at e;refine(zjH (n+2) _ _ q r _ _ osb h).trans ?_;unfold zre Yl Yw Yx Yr;rw[if_pos (by decide),e];simp only[clH,zb,zh,za];rw[z3,zB,Z3 (by omega),za,zq];simp only[V.cells,ixP,zD,zP,zq,if_true];rw[hw,zZ]
end Go.Proofs.Tryz
namespace Go.Proofs.Tryz
open Go.L Go.Rp Go.Sk
set_option maxRecDepth 100000
def zrl(n s q r mp:Nat)(osb:Bool)(os:List O)(h:ze)(done:List R)(d:Nat)(t:(Int×Int))(h':ze):Prop :=
 ∀ next,JB n s (os.map O.w) osb q r os.length (.map mp) [.sl 2 [] false,.sl 2 (done.map cdC++([.int .u8 0,.int .i32 0] :: List.replicate d [.int .u8 0,.int .i32 0])) false,.bool false,.int .i64 (done.length:Int)] h next=next [.sl 2 [] false,.sl 2 ((done++[(⟨t.1,t.2⟩:R)]).map cdC++List.replicate d [.int .u8 0,.int .i32 0]) false,.bool false,.int .i64 ((done.length+1:Nat):Int)] h'
theorem Wv(done:List R)(d:Nat)(a:Int):done.length < (done.map cdC++([V.int .u8 a,V.int .i32 0] :: List.replicate d [V.int .u8 0,V.int .i32 0])).length:=by simp
theorem zaT (n s q qb r mp B : Nat) (osb : Bool) (m : Nat) (os : List O) {sb : Nat -> Option Nat} {h0 h : ze} {ws : Nat -> List Nat} {v : Nat -> V} {xs : List Int} {done : List R} {d : Nat} (L : ELay B s q qb r mp) (I : EInv B s q qb r m h0 h sb ws v xs done (d + 1))
    (hmp0:h0[mp]?=some (.map jB)) (hd:done.length+(d+1)=os.length) (hl:tot ws xs+1 < lim) (hos:os.length < lim) (o:O) (ho:os[done.length]?=some o) (e:Nat) (e2:e < 2) (hf:Qp [0] (.int .u8 o.k) jB 0=some (some e)) (he:J1 jB (.agg [.bool false,.int .i64 0]) (some e)=some (.agg [.bool true,.int .i64 (e:Int)])) :
    ∃ h' sb' v',zrl (n+3) s q r mp osb os h done d (YS (m:Int) done.length e ws xs).1 h'/\EInv B s q qb r m h0 h' sb' (YS (m:Int) done.length e ws xs).2.1 v' (YS (m:Int) done.length e ws xs).2.2 (done++[⟨(YS (m:Int) done.length e ws xs).1.1,(YS (m:Int) done.length e ws xs).1.2⟩]) d:=by
 have hlt:done.length < os.length:=by omega
 have hix:Jz 2 done.length (.sl 2 (os.map O.w) osb)=some (.iptr 2 (O.w o) 0):=by simp[Jz,ho]
 have hmp:Yy h (.map mp)=some jB:=zcA ((I.rest mp L.m1 L.sm.symm L.qm.symm L.bm.symm L.rm.symm).trans hmp0);have hwrap:IntKind.i64.wrap ((done.length:Int)+1)=((done.length+1:Nat):Int):=Xl (by omega);have g0:(setR [V.bool false,V.int .i64 0] 0 (V.cells (V.agg [V.bool true,V.int .i64 (e:Int)])))[0]?=some (.bool true):=rfl;have g1:(setR [V.bool false,V.int .i64 0] 0 (V.cells (V.agg [V.bool true,V.int .i64 (e:Int)])))[1]?=some (.int .i64 (e:Int)):=rfl;unfold tot at hl;unfold YS;by_cases hm:((xs.length+(ws 0).length+(ws 1).length:Nat):Int) < (m:Int)
 . rw[if_pos hm];obtain⟨h',v',ec,c1,c2⟩:=zfO (n+2) I.mt e2 done.length (by omega) (by omega);refine⟨h',_,v',?_,(I.meet L c1 c2).told 1⟩;intro next
   unfold JB Yc Yi Yx Ya Yg Yr Yp;simp only[gv,zg,zi,lsl];rw[zy,za,zm,if_pos (by simp;omega),z3,zB,hix,za];simp only[Zv];rw[zo,if_pos (by decide),zR,Jn,if_pos (Qz _),if_pos (by rw[Qz];decide),KB];simp only[O.w,zb,za];rw[hmp,zB,q8,za,hf,zB,he,za,if_pos (by refine⟨?_,?_,?_⟩ <;> first|trivial|rfl),if_pos (by rfl),if_pos (by exact zn 2)];rw[if_neg (by simp),g0,za,zm,if_pos rfl,g1,za,ec,zH,zC,zm,if_pos rfl,zB,if_pos (by refine⟨?_,Wv _ _ _,by decide⟩;first|trivial|rfl),QJ,za,zA,za,hwrap,Ql,JD (v:=0)]
 . rw[if_neg hm];have ec:=zfN (n+2) I.mt (e:Int) (done.length:Int) (by omega) (by omega);refine⟨h,sb,v,?_,I.told 3⟩;intro next
   unfold JB Yc Yi Yx Ya Yg Yr Yp;simp only[gv,zg,zi,lsl];rw[zy,za,zm,if_pos (by simp;omega),z3,zB,hix,za];simp only[Zv];rw[zo,if_pos (by decide),zR,Jn,if_pos (Qz _),if_pos (by rw[Qz];decide),KB];simp only[O.w,zb,za];rw[hmp,zB,q8,za,hf,zB,he,za,if_pos (by refine⟨?_,?_,?_⟩ <;> first|trivial|rfl),if_pos (by rfl),if_pos (by exact zn 2)];rw[if_neg (by simp),g0,za,zm,if_pos rfl,g1,za,ec,zH,zC,zm,if_neg (by decide),za,zm,if_pos rfl,zB,if_pos (by refine⟨?_,Wv _ _ _,by decide⟩;first|trivial|rfl),QJ,za,zA,za,hwrap,Ql,JD (v:=0)]
theorem zbP (n s q qb r mp B : Nat) (osb : Bool) (m : Nat) (os : List O) {sb : Nat -> Option Nat} {h0 h : ze} {ws : Nat -> List Nat} {v : Nat -> V} {xs : List Int} {done : List R} {d : Nat} (L : ELay B s q qb r mp) (I : EInv B s q qb r m h0 h sb ws v xs done (d + 1))
    (hmp0:h0[mp]?=some (.map jB)) (hd:done.length+(d+1)=os.length) (hw:Below2 done.length ws) (hl:tot ws xs+1 < lim) (hm:m < 100000) (hos:os.length < lim) (o:O) (ho:os[done.length]?=some o) (e k:Nat) (e2:e < 2) (hf:Qp [0] (.int .u8 o.k) jB 0=some (some k)) (he:J1 jB (.agg [.bool false,.int .i64 0]) (some k)=some (.agg [.bool false,.int .i64 (e:Int)])) :
    ∃ h' sb' v',zrl (n+3) s q r mp osb os h done d (zbO (valsOf os) e ws xs).1 h'/\EInv B s q qb r m h0 h' sb' (zbO (valsOf os) e ws xs).2.1 v' (zbO (valsOf os) e ws xs).2.2 (done++[⟨(zbO (valsOf os) e ws xs).1.1,(zbO (valsOf os) e ws xs).1.2⟩]) d:=by
 have hlt:done.length < os.length:=by omega
 have hix:Jz 2 done.length (.sl 2 (os.map O.w) osb)=some (.iptr 2 (O.w o) 0):=by simp[Jz,ho]
 have hmp:Yy h (.map mp)=some jB:=zcA ((I.rest mp L.m1 L.sm.symm L.qm.symm L.bm.symm L.rm.symm).trans hmp0);have hwrap:IntKind.i64.wrap ((done.length:Int)+1)=((done.length+1:Nat):Int):=Xl (by omega);have g0:(setR [V.bool false,V.int .i64 0] 0 (V.cells (V.agg [V.bool false,V.int .i64 (e:Int)])))[0]?=some (.bool false):=rfl;have g1:(setR [V.bool false,V.int .i64 0] 0 (V.cells (V.agg [V.bool false,V.int .i64 (e:Int)])))[1]?=some (.int .i64 (e:Int)):=rfl;have hll:(done.map vlC++List.replicate (d+1) [V.int .i32 0]).length=os.length:=by simp;omega
 have hwd:∀ a,a < 2->(ws a).length<=(ws 0).length+(ws 1).length:=fun a ha=>by
  obtain rfl|rfl:a=0\/a=1:=by omega
  . omega
  . omega
 unfold tot at hl;have hw1:=hwd e e2;unfold zbO;rcases ZH (ws e) with hn|⟨w0,w,hc⟩
 . rw[hn];simp only[List.getLast?_nil];cases hp:KX e xs with
   | some p =>
     simp only[];have hxl:=zgA hp;have hmt:=I.mt;rw[<- hxl] at hmt;obtain⟨h1,v1,ec,c1,c2,c3⟩:=zjK (n+1) hmt e2 hn (by omega);have hst:RngAt h1 q qb m xs:=I.st.keep (c3 q L.sq.symm) (c3 qb L.sb.symm);obtain⟨h2,ea,d1,d2,d3,d4⟩:=zl4 n (os:=os.map O.w) (osb:=osb) (i:=done.length) e2 ((c3 r L.sr.symm).trans I.row) zbN (by rw[hll];exact hlt) hst hm L.qr.symm L.br.symm hp;rw[hll] at ea;have hB:∀ a b,a < 2->sb a=some b->h2[b]?=h1[b]?:=fun a b ha hb=>by
      have:=I.fr a b ha hb;have:=L.q1;have:=L.b1;have:=L.r1;exact d4 b (by omega) (by omega) (by omega)
     refine⟨h2,sb,v1,?_,⟨c1.keep (d4 s L.sq L.sb L.sr) hB,I.fr,by rw[d3,c2];exact I.le,d1,by rw[d2,zdM done d 2 p.1],fun j j1 j2 j3 j4 j5=>(d4 j j3 j4 j5).trans ((c3 j j2).trans (I.rest j j1 j2 j3 j4 j5))⟩⟩;intro next
     unfold JB Yc Yi Yx Ya Yg Yr Yp;simp only[gv,zg,zi,lsl];rw[zy,za,zm,if_pos (by simp;omega),z3,zB,hix,za];simp only[Zv];rw[zo,if_pos (by decide),zR,Jn,if_pos (Qz _),if_pos (by rw[Qz];decide),KB];simp only[O.w,zb,za];rw[hmp,zB,q8,za,hf,zB,he,za,if_pos (by refine⟨?_,?_,?_⟩ <;> first|trivial|rfl),if_pos (by rfl),if_pos (by exact zn 2)];rw[if_neg (by simp),g0,za,zm,if_neg (by decide),za,zm,if_neg (by decide),zB,if_pos (by refine⟨?_,Wv _ _ _,by decide⟩;first|trivial|rfl),QJ,za,g1,za,ec,zH];simp only[zb,zh,za];rw[zm,if_pos rfl,zB,Ql,if_pos (by refine⟨?_,Wv _ _ _,by decide⟩;first|trivial|rfl),QJ,za,ea,zH,zA,za,hwrap,Ql,JD (v:=p.1)]
   | none =>
     simp only[];have hx0:xs=[]:=by
      unfold KX at hp;split at hp
      . cases xs with
        | nil=>rfl
        | cons y r=>cases hp
      . rcases ZH xs with rfl|⟨x0,x,rfl⟩
        . rfl
        . simp at hp
     subst hx0;cases hf2:ws (1 - e) with
     | nil =>
       simp only[];have ec:=zhM (n+1) I.mt e2 hn hf2;refine⟨h,sb,v,?_,I.told 4⟩;intro next
       unfold JB Yc Yi Yx Ya Yg Yr Yp;simp only[gv,zg,zi,lsl];rw[zy,za,zm,if_pos (by simp;omega),z3,zB,hix,za];simp only[Zv];rw[zo,if_pos (by decide),zR,Jn,if_pos (Qz _),if_pos (by rw[Qz];decide),KB];simp only[O.w,zb,za];rw[hmp,zB,q8,za,hf,zB,he,za,if_pos (by refine⟨?_,?_,?_⟩ <;> first|trivial|rfl),if_pos (by rfl),if_pos (by exact zn 2)];rw[if_neg (by simp),g0,za,zm,if_neg (by decide),za,zm,if_neg (by decide),zB,if_pos (by refine⟨?_,Wv _ _ _,by decide⟩;first|trivial|rfl),QJ,za,g1,za,ec,zH];simp only[zb,zh,za];rw[zm,if_neg (by decide),zA,za,hwrap,Ql,JD (v:=0)]
     | cons w r' =>
       simp only[];obtain⟨h1,v1,ec,c1,c2,c3⟩:=zjL (n+1) I.mt e2 hn hf2;have hwl:w < os.length:=by have:=hw (1 - e) (by omega) w (by rw[hf2];simp);omega
       have I1:=I.meet L c1 (EFed.of c2 c3);have ea:=zgB (n+2) (q:=q) (osb:=osb) (i:=done.length) (os:=os) e2 I1.row zbN (by rw[hll];exact hlt) hwl;rw[hll] at ea;have hv:valsOf os w=os[w].v:=by simp[valsOf,zf hwl]
       rw[hv];have hrB:∀ a b,a < 2->sb a=some b->r≠b:=fun a b ha hb k=>by have:=I.fr a b ha hb;have:=L.r1;omega
       refine⟨_,sb,v1,?_,I1.num L 2 os[w].v (I1.mt.keep (zd L.sr.symm) (fun a b ha hb=>zd (hrB a b ha hb))) (I1.st.keep (zd L.qr.symm) (zd L.br.symm)) (zw ..) (ZU (zQ I1.row) _) (fun j _ _ h3=>zd (Ne.symm h3))⟩;intro next
       unfold JB Yc Yi Yx Ya Yg Yr Yp;simp only[gv,zg,zi,lsl];rw[zy,za,zm,if_pos (by simp;omega),z3,zB,hix,za];simp only[Zv];rw[zo,if_pos (by decide),zR,Jn,if_pos (Qz _),if_pos (by rw[Qz];decide),KB];simp only[O.w,zb,za];rw[hmp,zB,q8,za,hf,zB,he,za,if_pos (by refine⟨?_,?_,?_⟩ <;> first|trivial|rfl),if_pos (by rfl),if_pos (by exact zn 2)];rw[if_neg (by simp),g0,za,zm,if_neg (by decide),za,zm,if_neg (by decide),zB,if_pos (by refine⟨?_,Wv _ _ _,by decide⟩;first|trivial|rfl),QJ,za,g1,za,ec,zH];simp only[zb,zh,za];rw[zm,if_pos rfl,zB,Ql,if_pos (by refine⟨?_,Wv _ _ _,by decide⟩;first|trivial|rfl),QJ,za,ea,zH,zA,za,hwrap,Ql,JD (v:=os[w].v)]
 . rw[QK] at hc;have hgl:(ws e).getLast?=some w:=by rw[hc];simp
   have hdl:(ws e).dropLast=w0:=by rw[hc];simp
   rw[hgl,hdl];simp only[];have hwl0:(ws e).length=w0.length+1:=by rw[hc];simp
   obtain⟨h1,v1,ec,c1,c2,c3⟩:=zhL (n+1) I.mt e2 hc (by omega);have hwl:w < os.length:=by have:=hw e e2 w (by rw[hc];simp);omega
   have I1:=I.meet L c1 (EFed.of c2 c3);have ea:=zgB (n+2) (q:=q) (osb:=osb) (i:=done.length) (os:=os) e2 I1.row zbN (by rw[hll];exact hlt) hwl;rw[hll] at ea;have hv:valsOf os w=os[w].v:=by simp[valsOf,zf hwl]
   rw[hv];have hrB:∀ a b,a < 2->sb a=some b->r≠b:=fun a b ha hb k=>by have:=I.fr a b ha hb;have:=L.r1;omega
   refine⟨_,sb,v1,?_,I1.num L 2 os[w].v (I1.mt.keep (zd L.sr.symm) (fun a b ha hb=>zd (hrB a b ha hb))) (I1.st.keep (zd L.qr.symm) (zd L.br.symm)) (zw ..) (ZU (zQ I1.row) _) (fun j _ _ h3=>zd (Ne.symm h3))⟩;intro next
   unfold JB Yc Yi Yx Ya Yg Yr Yp;simp only[gv,zg,zi,lsl];rw[zy,za,zm,if_pos (by simp;omega),z3,zB,hix,za];simp only[Zv];rw[zo,if_pos (by decide),zR,Jn,if_pos (Qz _),if_pos (by rw[Qz];decide),KB];simp only[O.w,zb,za];rw[hmp,zB,q8,za,hf,zB,he,za,if_pos (by refine⟨?_,?_,?_⟩ <;> first|trivial|rfl),if_pos (by rfl),if_pos (by exact zn 2)];rw[if_neg (by simp),g0,za,zm,if_neg (by decide),za,zm,if_neg (by decide),zB,if_pos (by refine⟨?_,Wv _ _ _,by decide⟩;first|trivial|rfl),QJ,za,g1,za,ec,zH];simp only[zb,zh,za];rw[zm,if_pos rfl,zB,Ql,if_pos (by refine⟨?_,Wv _ _ _,by decide⟩;first|trivial|rfl),QJ,za,ea,zH,zA,za,hwrap,Ql,JD (v:=os[w].v)]
theorem zhT (n s q qb r mp B : Nat) (osb : Bool) (m : Nat) (os : List O) {sb : Nat -> Option Nat} {h0 h : ze} {ws : Nat -> List Nat} {v : Nat -> V} {xs : List Int} {done : List R} {d : Nat} (L : ELay B s q qb r mp) (I : EInv B s q qb r m h0 h sb ws v xs done (d + 1))
    (hmp0:h0[mp]?=some (.map jB)) (hd:done.length+(d+1)=os.length) (hw:Below2 done.length ws) (hl:tot ws xs+1 < lim) (hm:m < 100000) (hos:os.length < lim) (o:O) (ho:os[done.length]?=some o) :
    ∃ h' sb' v' t,t=WL (m:Int) (valsOf os) done.length o.k ws xs/\zrl (n+3) s q r mp osb os h done d t.1 h'/\EInv B s q qb r m h0 h' sb' t.2.1 v' t.2.2 (done++[⟨t.1.1,t.1.2⟩]) d:=by
 have hfa:=zrk o.k;by_cases k1:o.k=1
 . obtain⟨h',sb',v',a,b⟩:=zaT n s q qb r mp B osb m os L I hmp0 hd hl hos o ho 0 (by decide) (by rw[hfa,if_pos k1]) rfl;exact⟨h',sb',v',_,rfl,by unfold WL;rw[if_pos k1];exact⟨a,b⟩⟩
 by_cases k2:o.k=2
 . obtain⟨h',sb',v',a,b⟩:=zaT n s q qb r mp B osb m os L I hmp0 hd hl hos o ho 1 (by decide) (by rw[hfa,if_neg k1,if_pos k2]) rfl;exact⟨h',sb',v',_,rfl,by unfold WL;rw[if_neg k1,if_pos k2];exact⟨a,b⟩⟩
 by_cases k3:o.k=3
 . obtain⟨h',sb',v',a,b⟩:=zbP n s q qb r mp B osb m os L I hmp0 hd hw hl hm hos o ho 0 2 (by decide) (by rw[hfa,if_neg k1,if_neg k2,if_pos k3]) rfl;exact⟨h',sb',v',_,rfl,by unfold WL;rw[if_neg k1,if_neg k2,if_pos k3];exact⟨a,b⟩⟩
 by_cases k4:o.k=4
 . obtain⟨h',sb',v',a,b⟩:=zbP n s q qb r mp B osb m os L I hmp0 hd hw hl hm hos o ho 1 3 (by decide) (by rw[hfa,if_neg k1,if_neg k2,if_neg k3,if_pos k4]) rfl;exact⟨h',sb',v',_,rfl,by unfold WL;rw[if_neg k1,if_neg k2,if_neg k3,if_pos k4];exact⟨a,b⟩⟩
 refine⟨h,sb,v,_,rfl,?_⟩;have ht:WL (m:Int) (valsOf os) done.length o.k ws xs=((5,0),ws,xs):=by unfold WL;rw[if_neg k1,if_neg k2,if_neg k3,if_neg k4]
 rw[ht];refine⟨?_,I.told 5⟩;have hlt:done.length < os.length:=by omega
 have hix:Jz 2 done.length (.sl 2 (os.map O.w) osb)=some (.iptr 2 (O.w o) 0):=by simp[Jz,ho]
 have hmp:Yy h (.map mp)=some jB:=zcA ((I.rest mp L.m1 L.sm.symm L.qm.symm L.bm.symm L.rm.symm).trans hmp0);have hwrap:IntKind.i64.wrap ((done.length:Int)+1)=((done.length+1:Nat):Int):=Xl (by omega);have hf:Qp [0] (.int .u8 o.k) jB 0=some none:=by rw[hfa,if_neg k1,if_neg k2,if_neg k3,if_neg k4]
 have he:J1 jB (.agg [.bool false,.int .i64 0]) none=some (.agg [.bool false,.int .i64 0]):=rfl;intro next
 unfold JB Yc Yi Yx Ya Yg Yr Yp;simp only[gv,zg,zi,lsl];rw[zy,za,zm,if_pos (by simp;omega),z3,zB,hix,za];simp only[Zv];rw[zo,if_pos (by decide),zR,Jn,if_pos (Qz _),if_pos (by rw[Qz];decide),KB];simp only[O.w,zb,za];rw[hmp,zB,q8,za,hf,zB,he,za,if_pos (by refine⟨?_,?_,?_⟩ <;> first|trivial|rfl),if_pos (by rfl),if_pos (by exact zn 2)];rw[if_pos (by rfl),zB,if_pos (by refine⟨?_,Wv _ _ _,by decide⟩;first|trivial|rfl),QJ,za,zA,za,hwrap,Ql,JD (v:=0)]
theorem zhU(n s q qb r mp B:Nat)(osb:Bool)(m:Nat)(os:List O){h0:ze}(L:ELay B s q qb r mp)(hmp0:h0[mp]?=some (.map jB))(hm:m < 100000)(hos:os.length < lim):∀ (d N:Nat) (h:ze) (sb:Nat->Option Nat) (ws:Nat->List Nat) (v:Nat->V) (xs:List Int) (done:List R),EInv B s q qb r m h0 h sb ws v xs done d->done.length+d=os.length->d < N->Below2 done.length ws->tot ws xs<=m →
    ∃ h' sb' v' z,z=zaH (m:Int) (valsOf os) (os.drop done.length) done.length ws xs/\zV N (JB (n+3) s (os.map O.w) osb q r os.length (.map mp)) [.sl 2 [] false,.sl 2 (done.map cdC++List.replicate d [.int .u8 0,.int .i32 0]) false,.bool false,.int .i64 (done.length:Int)] h=some (.ret [.row h'.length 2 0 os.length],h'++[.row 35 2 ((done++z.1).map cdC) true])/\EInv B s q qb r m h0 h' sb' z.2.1 v' z.2.2 (done++z.1) 0:=by
 intro d
 induction d with
 | zero =>
   intro N h sb ws v xs done I h1 h2 hw hl;obtain⟨N,rfl⟩:∃ N',N=N'+1:=⟨N - 1,by omega⟩;refine⟨h,sb,v,_,rfl,?_,?_⟩
   . rw[zK];unfold JB Yc Yi Yx Ya Yg Yr Yp;simp only[gv,zg,zi];rw[zy,za,zm,if_neg (by simp;omega),Z2 (by omega)];simp only[lsl,zaH,z6,Jx,zp];rw[show done.length=os.length by omega]
   . rw[Z2 (by omega)];simp only[zaH,z6];exact I
 | succ d ih =>
   intro N h sb ws v xs done I h1 h2 hw hl;obtain⟨N,rfl⟩:∃ N',N=N'+1:=⟨N - 1,by omega⟩;have hi:done.length < os.length:=by omega
   have hlim:m+1 < lim:=by unfold lim;omega
   obtain⟨h',sb',v',t,rfl,key,I'⟩:=zhT n s q qb r mp B osb m os L I hmp0 h1 hw (by omega) hm hos os[done.length] (zf hi);have hok:=zj9 m (valsOf os) done.length os[done.length].k hw hl;obtain⟨h'',sb'',v'',z,hz,e',I''⟩:=ih N h' sb' _ v' _ _ I' (by simp;omega) (by omega) (by simpa using hok.1) hok.2.1;have hd:os.drop done.length=os[done.length] :: os.drop (done.length+1):=Zb hi;rw[zL,ZG] at hz e';refine⟨h'',sb'',v'',_,rfl,?_,?_⟩
   . rw[hd,zK,XP,key,e',hz];simp[zaH]
   . rw[hd];rw[hz] at I'';simpa[zaH] using I''
theorem zhV (n s q qb r : Nat) (osb : Bool) (m : Nat) (os : List O) {h : ze} {v : Nat -> V} {xs : List Int} (L : ELay (h.length + 1) s q qb r h.length) (hm : m < 100000) (hx : xs.length <= m) (hos : os.length < lim) (hn : os.length < n) (E : EndAt h s (fun _ => none) xs.length m (fun _ => []) v) (hb : RngAt h q qb m xs) (hr : h[r]? = some (.row 21 1 (List.replicate os.length [.int .i32 0]) true)) :
    ∃ h' sb' v' z,z=zaH (m:Int) (valsOf os) os 0 (fun _=>[]) xs/\call (n+4) 207 [.ptr s 0,.sl 2 (os.map O.w) osb,.fn 208 [.iptr 2 [.bf 203 [.ptr q 0],.bf 204 [.ptr q 0]] 0,.iptr 1 [.row r 1 0 os.length] 0,.iptr 1 [.sl 2 (os.map O.w) osb] 0]] h=some (.ret [.row h'.length 2 0 os.length],h'++[.row 35 2 (z.1.map cdC) true])/\EInv (h.length+1) s q qb r m (h++[.map jB]) h' sb' z.2.1 v' z.2.2 z.1 0:=by
 have ap:∀ j,j < h.length->(h++[HB.map jB])[j]?=h[j]?:=fun j hj=>zk hj;have hrl:=zQ hr;have hsl:=zQ E.box;have I:EInv (h.length+1) s q qb r m (h++[.map jB]) (h++[.map jB]) (fun _=>none) (fun _=>[]) v xs [] os.length:=⟨E.keep (ap s hsl) (fun _ _ _ e=>nomatch e),(fun _ _ _ e=>nomatch e),by simp,hb.keep (ap q (by have:=L.q1;have:=L.qm;omega)) (ap qb (by have:=L.b1;have:=L.bm;omega)),by rw[ap r hrl];exact hr,fun _ _ _ _ _ _=>rfl⟩;obtain⟨h',sb',v',z,hz,e,I'⟩:=zhU n s q qb r h.length (h.length+1) osb m os L zx hm (by omega) os.length (n+3) _ _ _ _ xs [] I (by simp) (by omega) (fun _ _ _ h=>(nomatch h)) (by simpa[tot] using hx);refine⟨h',sb',v',z,by simpa using hz,(zo7 (n+3) s _ osb q r _ h).trans ?_,by simpa using I'⟩;unfold zrf Yg Yp;rw[zp,z3,zB,zB,if_pos ⟨zn _,by omega,rfl⟩,zrj (n+2),zH,zC];simpa using e
end Go.Proofs.Tryz
namespace Go.Sk
open Go.L Go.Rp
theorem zrm(most:Nat)(vals:Nat->Int)(i:Nat)(c:Int)(ws:List Nat)(xs:List Int)(h:xs.length+ws.length<=most):(Jb (most:Int) vals i c ws xs).2.2.length+(Jb (most:Int) vals i c ws xs).2.1.length<=most:=by
 unfold Jb;split
 . split
   . simp;omega
   . exact h
 . split
   . split
     . simp;omega
     . split
       . simp;omega
       . exact h
   . exact h
theorem zny (most : Nat) (vals : Nat -> Int) : ∀ (l : List O) (i : Nat) (ws : List Nat) (xs : List Int), xs.length + ws.length <= most -> (qt (most : Int) vals l i ws xs).2.2.length + (qt (most : Int) vals l i ws xs).2.1.length <= most
 | [],_,_,_,h=>h
 | o :: l,i,ws,xs,h=>zny most vals l (i+1) _ _ (zrm most vals i o.k ws xs h)
theorem zrn(most:Int)(vals:Nat->Int)(i:Nat)(c:Int)(ws:List Nat)(xs:List Int):(Jb most vals i c ws xs).2.1.length<=ws.length+1:=by
 unfold Jb;split
 . split <;> simp
 . split
   . split
     . simp;omega
     . split <;> simp
   . simp
theorem znz (most : Int) (vals : Nat -> Int) : ∀ (l : List O) (i : Nat) (ws : List Nat) (xs : List Int), (qt most vals l i ws xs).2.1.length <= ws.length + l.length
 | [],_,_,_=>zn _
 | o :: l,i,ws,xs=>by
   have h1:=znz most vals l (i+1) (Jb most vals i o.k ws xs).2.1 (Jb most vals i o.k ws xs).2.2;have h2:=zrn most vals i o.k ws xs;simp only[qt,zD];omega
theorem znA (most : Int) (vals : Nat -> Int) : ∀ (l : List O) (i : Nat) (ws : List Nat) (xs : List Int), (∀ w ∈ ws, w < i) -> ∀ w ∈ (qt most vals l i ws xs).2.1, w < i + l.length
 | [],_,_,_,h=>h
 | o :: l,i,ws,xs,h=>fun w hw=>by
   have:=znA most vals l (i+1) _ _ (zj4 most vals i o.k ws xs h) w hw;simp;omega
end Go.Sk
namespace Go.Proofs.Tryz
open Go.L Go.Rp Go.Sk
set_option maxRecDepth 100000
theorem zka (n : Nat) {h1 : ze} {q bo bs : Nat} {qb : Option Nat} {m : Nat} {xs : List Int} {os : List O} {osb : Bool} {v9 : V} {sz : Nat} {ws : List Nat} (hbo : h1[bo]? = some (.box 1 [.sl 2 (os.map O.w) osb])) (hbs : h1[bs]? = some (.box 1 [.ptr q 0])) (qbo : bo ≠ q /\ qb ≠ some bo) (qbs : bs ≠ q /\ qb ≠ some bs)
    (hv:∀ h',(∀ j,j < h1.length->j≠q->qb≠some j->h'[j]?=h1[j]?)->∀ i (hi:i < ws.length),∃ p,Jz 1 i v9=some p/\∃ cs m' o,Zv h' p=some (cs,m',o)/\(o+1<=m'/\0 < 1)/\cs[o]?=some (.int .i64 (ws[i]:Int)))
    (hw:∀ w∈ws,w < os.length) (hm:xs.length+ws.length<=m) (hl:m+1 < lim) :
    ∀ (d i N:Nat) (h:ze) (qc:Option Nat),i+d=ws.length->d < N->StkAt h q qc (m:Int) (xs++(ws.take i).map (valsOf os))->Fed h1 h q qb qc →
    ∃ h' qc',zV N (jA (n+1) bs bo v9 (sz,ws.map WQ)) [.int .i64 (i:Int)] h=some (h',false)/\StkAt h' q qc' (m:Int) (xs++ws.map (valsOf os))/\Fed h1 h' q qb qc':=by
 intro d
 induction d with
 | zero =>
   intro i N h qc hi hN hb hf;obtain⟨N,rfl⟩:∃ N',N=N'+1:=⟨N - 1,by omega⟩;rw[zK];unfold jA Yl Yi Yx Ya;simp only[gv,zg];rw[zy,za,zm,if_neg (by simp;omega)];rw[zU (by omega)] at hb;exact⟨h,qc,rfl,hb,hf⟩
 | succ d ih =>
   intro i N h qc hi hN hb hf;obtain⟨N,rfl⟩:∃ N',N=N'+1:=⟨N - 1,by omega⟩;have hlt:i < ws.length:=by omega
   have hwi:ws[i] < os.length:=hw _ (ZN hlt);have h1l:=zQ hbo;have h2l:=zQ hbs;obtain⟨p,e1,cs,m',o,e2,e3,e4⟩:=hv h (fun j k1 k2 k3=>hf.old j k1 k2 k3) i hlt;have hx:(xs++(ws.take i).map (valsOf os)).length=xs.length+i:=by simp;omega
   obtain⟨h',qc',e5,c1,c2⟩:=zaP n hb os[ws[i]].v (by rw[hx];omega) (by rw[hx];omega);have hvv:valsOf os ws[i]=os[ws[i]].v:=by simp[valsOf,zf hwi]
   have hx2:xs++(ws.take i).map (valsOf os)++[os[ws[i]].v]=xs++(ws.take (i+1)).map (valsOf os):=by
    rw[QC hlt,Zo,List.append_assoc,<- hvv];rfl
   rw[hx2] at c1;obtain⟨h'',qc'',e6,d1,d2⟩:=ih (i+1) N h' qc' (by omega) (by omega) c1 (hf.trans c2);refine⟨h'',qc'',?_,d1,d2⟩;rw[<- e6,zK];have key:∀ next,jA (n+1) bs bo v9 (sz,ws.map WQ) [.int .i64 (i:Int)] h next=next [.int .i64 ((i+1:Nat):Int)] h':=by
    intro next
    unfold jA Yl Yi Yx Ya;simp only[gv,zg];rw[zy,za,zm,if_pos (by simp;omega),z3,zB,e1,za,e2,zo,if_pos e3,e4,za,zI ((hf.old bs h2l qbs.1 qbs.2).trans hbs),zo,if_pos (by decide)];simp only[zb,za];rw[zI ((hf.old bo h1l qbo.1 qbo.2).trans hbo),zo,if_pos (by decide)];simp only[zb,za];rw[z3,zB,XJ (es:=O.w os[ws[i]]) (by rw[zF,zf hwi];rfl),za];simp only[ZD,za];rw[Zq,zo,if_pos (by decide)];simp only[O.w,zq,zh,zb,za];rw[e5,zH,zC,zA,za,Xl (by unfold lim at hl ⊢;omega)]
   rw[key]
theorem zkb (n : Nat) {h : ze} {b s q bo bs : Nat} {qb sb : Option Nat} {u m : Nat} {xs : List Int} {os : List O} {osb : Bool} {ws : List Nat} (hbb : h[b]? = some (.box 1 [.ptr s 0])) (hm : MatAt h s sb u m ws) (hbo : h[bo]? = some (.box 1 [.sl 2 (os.map O.w) osb])) (hbs : h[bs]? = some (.box 1 [.ptr q 0])) (qbo : bo ≠ q /\ qb ≠ some bo) (qbs : bs ≠ q /\ qb ≠ some bs) (hsb : ∀ b, sb = some b -> b ≠ q /\ qb ≠ some b)
    (hb:StkAt h q qb (m:Int) xs) (hw:∀ w∈ws,w < os.length) (hmm:xs.length+ws.length<=m) (hl:m+1 < lim) (hn:ws.length < n) :
    ∃ h' qb',dcl (n+1) 179 [.ptr b 0,.ptr bs 0,.ptr bo 0] h none=some (h',false)/\StkAt h' q qb' (m:Int) (xs++ws.map (valsOf os))/\Fed h h' q qb qb':=by
 obtain⟨v,sz,k1,k2⟩:=hm.box;have hv:∀ h',(∀ j,j < h.length->j≠q->qb≠some j->h'[j]?=h[j]?)->∀ i (hi:i < ws.length),∃ p,Jz 1 i v=some p/\∃ cs m' o,Zv h' p=some (cs,m',o)/\(o+1<=m'/\0 < 1)/\cs[o]?=some (.int .i64 (ws[i]:Int)):=by
  intro h' hk i hi;cases sb with
  | none=>rw[hm.1] at hi;simp at hi
  | some r =>
    obtain⟨e1,l,z,e2,e3,e4,e5⟩:=hm;obtain rfl:v=.row r 1 0 ws.length:=by rw[e2] at k1;simpa using k1.symm
    have hx:l[i]?=some [.int .i64 (ws[i]:Int)]:=by
     have:=congrArg (fun t:List (List V)=>t[i]?) e5;simpa[WQ,Ze,hi] using this
    refine⟨_,Z3 (by omega),_,_,_,ZJ ((hk r (zQ e3) (hsb r rfl).1 (hsb r rfl).2).trans e3) (by decide) (by rw[zq];exact hx),by decide,rfl⟩
 obtain⟨h',qb',e,c1,c2⟩:=zka n (sz:=sz) (v9:=v) hbo hbs qbo qbs hv hw hmm hl ws.length 0 (n+1) h qb (by omega) (by omega) (by simpa using hb) (Fed.refl ..);refine⟨h',qb',(zq4 (n+1) b bs bo h).trans ?_,c1,c2⟩;unfold zuO Yl;rw[zI hbb,zo,if_pos (by decide)];simp only[zb,za,ZD,z8];rw[zI k1,zo,if_pos (by decide)];simp only[zb,za];rw[k2,za];exact e
theorem zfQ (n : Nat) (H : ze) (r : Nat) (s : Nat) (os : List (List V)) (osb : Bool) (h5 : ze) (cs8 : List V) (n14 : Nat) (z : List R) (hr : H[r]? = some (.row 21 1 (z.map vlC) true)) (hrr : r = (((((h5 ++ [(HB.box 3 cs8)]) ++ [(HB.box 1 [(V.ptr (h5).length 0)])]) ++ [(HB.box 1 [(V.ptr s 0)])]) ++ [(HB.box 1 [(V.sl 2 os osb)])])).length) (hn14 : n14 = z.length) (hz : z.length < lim) (h' : ze) (hD : dcl n 179 [(V.ptr ((h5 ++ [(HB.box 3 cs8)])).length 0), (V.ptr (((h5 ++ [(HB.box 3 cs8)]) ++ [(HB.box 1 [(V.ptr (h5).length 0)])])).length 0), (V.ptr ((((h5 ++ [(HB.box 3 cs8)]) ++ [(HB.box 1 [(V.ptr (h5).length 0)])]) ++ [(HB.box 1 [(V.ptr s 0)])])).length 0)] (H ++ [.row 35 2 (z.map R.w) true]) none = some (h', false)) :
    ∀ (d i N:Nat),i+d=z.length->d < N->zV N (W3 n s os osb h5 cs8 n14 (.row H.length 2 0 z.length) (1,z.map vlC)) [.sl 2 [] false,.int .i64 (i:Int)] (H++[.row 35 2 ((z.take i).map R.w++(z.drop i).map cdC) true])=some (.ret [.row H.length 2 0 z.length],h'):=by
 intro d
 induction d with
 | zero =>
   intro i N hi hN;obtain⟨N,rfl⟩:∃ N',N=N'+1:=⟨N - 1,by omega⟩;rw[zK];unfold W3 Yl Yi Yw Yx Ya Yr;simp only[gv,zg,zi];rw[zy,za,zm,if_neg (by simp;omega),zU (by omega),Z2 (by omega),Q8,z6,hD,zZ]
 | succ d ih =>
   intro i N hi hN;obtain⟨N,rfl⟩:∃ N',N=N'+1:=⟨N - 1,by omega⟩;have hlt:i < z.length:=by omega
   rw[zK,<- ih (i+1) N (by omega) (by omega)];have hrl:=zQ hr;have key:∀ next,W3 n s os osb h5 cs8 n14 (.row H.length 2 0 z.length) (1,z.map vlC) [.sl 2 [] false,.int .i64 (i:Int)] (H++[.row 35 2 ((z.take i).map R.w++(z.drop i).map cdC) true]) next=next [.sl 2 [] false,.int .i64 ((i+1:Nat):Int)] (H++[.row 35 2 ((z.take (i+1)).map R.w++(z.drop (i+1)).map cdC) true]):=by
    intro next
    unfold W3 Yl Yi Yw Yx Ya Yr;simp only[gv,zg,zi,lsl];rw[<- hrr,zy,za,zm,if_pos (by simp;omega),z3,zB,Z3 (by simp;omega),za,ZJ (es:=vlC z[i]) (by rw[zk hrl];exact hr) (by decide) (by simp[hlt]),zo,if_pos (by decide)];simp only[vlC,zb,za];rw[zB,Z3 (by omega),za];simp only[ZD,za,V.cells,zD,zP,zq,if_true];have hT:(H++[HB.row 35 2 ((z.take i).map R.w++(z.drop i).map cdC) true])[H.length]?=some (.row 35 2 ((z.take i).map R.w++(z.drop i).map cdC) true):=zx;have hTi:((z.take i).map R.w++(z.drop i).map cdC)[i]?=some (cdC z[i]):=by
     rw[zJ (by simp;omega)];simp[hlt,Q3 (Nat.le_of_lt hlt)]
    rw[QU hT (by decide) (by simp) hTi,zZ,zA,za,Xl (by omega)];have hset:((z.take i).map R.w++(z.drop i).map cdC).set i (setR (cdC z[i]) 1 [V.int .i32 z[i].v])=(z.take (i+1)).map R.w++(z.drop (i+1)).map cdC:=by
     rw[Zi _ _ (by simp;omega),Zb hlt,QC hlt,zW,show i - (List.map R.w (z.take i)).length=0 by simp;omega,Ji,Zo,List.append_assoc];rfl
    rw[hset];have:∀ x,(H++[HB.row 35 2 ((z.take i).map R.w++(z.drop i).map cdC) true]).set H.length x=H++[x]:=fun x=>by rw[Zi _ _ (zn _)];simp
    rw[this]
   rw[key]
theorem zro(a b:Int):Wz prog 249 [(1,.int .i64 a),(2,.int .i64 b)]=some [.sl 0 [] true,.int .i64 a,.int .i64 b]:=by kernel_rfl
theorem ze5 (n : Nat) {h : ze} {q : Nat} {qb : Option Nat} {m : Nat} {xs : List Int} (hb : StkAt h q qb (m : Int) xs) (os : List O) (osb : Bool) (hmm : xs.length <= m) (hl : m + 1 < lim) (hos : os.length + xs.length < lim) (hn : os.length < n) (hqb : ∀ b, qb = some b -> b < h.length) :
    ∃ h' qb' T,call (n+5) 174 [.ptr q 0,.sl 2 (os.map O.w) osb] h=some (.ret [.row T 2 0 os.length],h')/\h'[T]?=some (.row 35 2 ((Jk (m:Int) os xs).1.map R.w) true)/\h.length<=T/\qb'≠some T/\StkAt h' q qb' (m:Int) (Jk (m:Int) os xs).2/\Fed h h' q qb qb':=by
 have hqs:qb≠some q:=by
  intro e;rw[e] at hb;exact hb.1 rfl
 have hql:q < h.length:=by obtain⟨v,sz,k1,k2⟩:=hb.box;exact zQ k1
 rw[show n+5=(n+4)+1 from rfl,zjw];unfold zjv Yl Yg Yr;rw[qa (n+3) hb];simp only[clH];rw[zC,zfG (n+3) hb];simp only[];rw[zC,zro,za,if_pos (by rfl)];generalize hA:h++[HB.box 3 [V.sl 0 [] true,V.int .i64 (xs.length:Int),V.int .i64 (m:Int)]]=A;generalize hB:A++[HB.box 1 [V.ptr h.length 0]]=B;generalize hC:B++[HB.box 1 [V.ptr q 0]]=C;generalize hD:C++[HB.box 1 [V.sl 2 (os.map O.w) osb]]=D;have lA:A.length=h.length+1:=by rw[<- hA];simp
 have lB:B.length=h.length+2:=by rw[<- hB];simp;omega
 have lC:C.length=h.length+3:=by rw[<- hC];simp;omega
 have lD:D.length=h.length+4:=by rw[<- hD];simp;omega
 have aA:∀ j,j < h.length->A[j]?=h[j]?:=fun j hj=>by rw[<- hA,zk hj]
 have aB:∀ j,j < A.length->B[j]?=A[j]?:=fun j hj=>by rw[<- hB,zk hj]
 have aC:∀ j,j < B.length->C[j]?=B[j]?:=fun j hj=>by rw[<- hC,zk hj]
 have aD:∀ j,j < C.length->D[j]?=C[j]?:=fun j hj=>by rw[<- hD,zk hj]
 have eA:A[h.length]?=some (HB.box 3 [V.sl 0 [] true,V.int .i64 (xs.length:Int),V.int .i64 (m:Int)]):=by rw[<- hA];exact zx
 have eB:B[A.length]?=some (HB.box 1 [V.ptr h.length 0]):=by rw[<- hB];exact zx
 have eC:C[B.length]?=some (HB.box 1 [V.ptr q 0]):=by rw[<- hC];exact zx
 have eD:D[C.length]?=some (HB.box 1 [V.sl 2 (os.map O.w) osb]):=by rw[<- hD];exact zx
 have dA:D[h.length]?=some (HB.box 3 [V.sl 0 [] true,V.int .i64 (xs.length:Int),V.int .i64 (m:Int)]):=by rw[aD _ (by omega),aC _ (by omega),aB _ (by omega)];exact eA
 have dB:D[A.length]?=some (HB.box 1 [V.ptr h.length 0]):=by rw[aD _ (by omega),aC _ (by omega)];exact eB
 have dC:D[B.length]?=some (HB.box 1 [V.ptr q 0]):=by rw[aD _ (by omega)];exact eC
 have d0:∀ j,j < h.length->D[j]?=h[j]?:=fun j hj=>by rw[aD _ (by omega),aC _ (by omega),aB _ (by omega),aA _ hj]
 rw[zI eD,zo,if_pos (by decide)];simp only[zb,za];rw[j9,za,zp,z3,zB,zB,if_pos ⟨zn _,by omega,trivial⟩];generalize hE:D++[HB.row 21 1 (List.replicate os.length [V.int .i32 0]) true]=E;have lE:E.length=h.length+5:=by rw[<- hE];simp;omega
 have aE:∀ j,j < D.length->E[j]?=D[j]?:=fun j hj=>by rw[<- hE,zk hj]
 have eE:E[D.length]?=some (HB.row 21 1 (List.replicate os.length [V.int .i32 0]) true):=by rw[<- hE];exact zx
 have e0:∀ j,j < h.length->E[j]?=h[j]?:=fun j hj=>(aE j (by omega)).trans (d0 j hj);have fA:=(aE h.length (by omega)).trans dA;have fB:=(aE A.length (by omega)).trans dB;have fC:=(aE B.length (by omega)).trans dC;have fD:=(aE C.length (by omega)).trans eD;rw[zI fB,zo,if_pos (by decide)];simp only[zb,za];rw[zI fD,zo,if_pos (by decide)];simp only[zb,za];rw[ZZ];have L:Lay E.length h.length q C.length B.length D.length qb:=⟨by omega,by omega,by omega,by omega,by omega,by omega,by omega,by omega,by omega,by omega,by omega,by omega,by omega,by omega,fun b hb'=>⟨by have:=hqb b hb';omega,by have:=hqb b hb';omega,fun e=>hqs (e ▸ hb'),by have:=hqb b hb';omega⟩⟩;have I:MInv E.length h.length q D.length qb m E E none [] xs [] os.length:=⟨⟨rfl,fA⟩,(fun b hb'=>nomatch hb'),zn _,hb.keep (e0 q hql) (fun b hb'=>e0 b (hqb b hb')),by rw[eE];rfl,fun _ _ _ _ _=>rfl⟩;obtain⟨H,sb',z,hz,e,I'⟩:=zhR n h.length q C.length B.length D.length E.length osb m os L fD fC hos hn I;rw[e,zH,zC];have hzl:z.1.length=os.length:=by rw[hz];exact zj2 ..
 have hrl:=zQ I'.row;have hrow:H[D.length]?=some (.row 21 1 (z.1.map vlC) true):=by rw[I'.row];simp
 have hsl:ZI (H++[HB.row 35 2 (z.1.map cdC) true]) (.row D.length 1 0 os.length)=some (1,z.1.map vlC):=by
  have:(H++[HB.row 35 2 (z.1.map cdC) true])[D.length]?=some (.row 21 1 (z.1.map vlC) true):=by rw[zk hrl];exact hrow
  have h2:=Jh this;rwa[zp,hzl] at h2
 rw[hsl,za];generalize hG:H++[HB.row 35 2 (z.1.map R.w) true]=G;have aG:∀ j,j < H.length->G[j]?=H[j]?:=fun j hj=>by rw[<- hG,zk hj]
 have eG:G[H.length]?=some (HB.row 35 2 (z.1.map R.w) true):=by rw[<- hG];exact zx
 have lG:G.length=H.length+1:=by rw[<- hG];simp
 have hle:=I'.le;have rest:∀ j,j < E.length->j≠h.length->j≠q->j≠D.length->G[j]?=E[j]?:=fun j h1 h2 h3 h4=>(aG j (by omega)).trans (I'.rest j h1 h2 h3 h4);have hsl':h.length < H.length:=by omega
 have hm:MatAt G h.length sb' z.2.2.length m z.2.1:=I'.mt.keep (aG _ hsl') (fun b hb'=>by
  have hmt:=I'.mt;rw[hb'] at hmt;obtain⟨_,l,w,_,h3,_⟩:=hmt;exact aG b (zQ h3))
 have hst:StkAt G q qb (m:Int) z.2.2:=I'.st.keep (aG q (by omega)) (fun b hb'=>aG b (by have:=hqb b hb';omega));have hzz:=zj3 (m:Int) (valsOf os) os 0 [] xs (fun j o hj=>by rw[zq];simp[valsOf,hj]);rw[Q8,z6,<- hz] at hzz;have hws:∀ w∈z.2.1,w < os.length:=by
  have:=znA (m:Int) (valsOf os) os 0 [] xs (by simp);rw[<- hz] at this;simpa using this
 have hle2:z.2.2.length+z.2.1.length<=m:=by
  have:=zny m (valsOf os) os 0 [] xs (by simpa using hmm);rwa[<- hz] at this
 have hwl:z.2.1.length<=os.length:=by
  have:=znz (m:Int) (valsOf os) os 0 [] xs;rw[<- hz] at this;simpa using this
 obtain⟨h',qb',eD',b1,b2⟩:=zkb (n+3) (b:=A.length) (s:=h.length) (bo:=C.length) (bs:=B.length) ((rest _ (by omega) (by omega) (by omega) (by omega)).trans fB) hm ((rest _ (by omega) (by omega) (by omega) (by omega)).trans fD) ((rest _ (by omega) (by omega) (by omega) (by omega)).trans fC) ⟨by omega,fun e=>by have:=hqb _ e;omega⟩ ⟨by omega,fun e=>by have:=hqb _ e;omega⟩ (fun b hb'=>⟨by have:=I'.fr b hb';omega,fun e=>by have:=I'.fr b hb';have:=hqb b e;omega⟩) hst hws hle2 hl (by omega);have fin:=zfQ (n+4) H D.length q (os.map O.w) osb h [V.sl 0 [] true,V.int .i64 (xs.length:Int),V.int .i64 (m:Int)] os.length z.1 hrow (by rw[hA,hB,hC,hD]) hzl.symm (by omega) h' (by rw[hA,hB,hC,hG];exact eD') z.1.length 0 (n+4) (by omega) (by omega);rw[hzl] at fin
 have hT:G[H.length]?=some (HB.row 35 2 ((Jk (m:Int) os xs).1.map R.w) true):=by rw[hzz];exact eG
 have hqH:∀ b,qb=some b->b < H.length:=fun b hb'=>by have:=hqb b hb';omega
 refine⟨h',qb',H.length,?_,?_,by omega,?_,by rw[hzz];exact b1,?_⟩
 . simpa using fin
 . rw[b2.old H.length (by omega) (by omega) (fun e=>by have:=hqH _ e;omega)];exact hT
 . intro e;rcases b2.own _ e with e1|e1
   . have:=hqH _ e1;omega
   . omega
 . refine⟨by have:=b2.len;omega,fun j h1 h2 h3=>?_,fun b hb'=>?_⟩
   . rw[b2.old j (by omega) h2 h3,rest j (by omega) (by omega) h2 (by omega),e0 j h1]
   . rcases b2.own b hb' with e1|e1
     . exact .inl e1
     . exact .inr (by omega)
end Go.Proofs.Tryz
namespace Go.Sk
open Go.L Go.Rp
def zfR(d:Nat)(x:Int)(xs:List Int):List Int:=if d=0 then x :: xs else xs++[x]
theorem zkc(d:Nat)(x:Int)(xs:List Int):(zfR d x xs).length=xs.length+1:=by unfold zfR;split <;> simp
def zaU(vals:Nat->Int)(d:Nat)(ws:List Nat)(xs:List Int):List Int:=ws.foldl (fun xs w=>zfR d (vals w) xs) xs
theorem zrp (vals : Nat -> Int) : ∀ (ws : List Nat) (xs : List Int), zaU vals 0 ws xs = ws.reverse.map vals ++ xs
 | [],xs=>rfl
 | w :: ws,xs=>by
   show zaU vals 0 ws (zfR 0 (vals w) xs)=_;rw[zrp vals ws];simp[zfR]
theorem zrq (vals : Nat -> Int) : ∀ (ws : List Nat) (xs : List Int), zaU vals 1 ws xs = xs ++ ws.map vals
 | [],xs=>by simp[zaU]
 | w :: ws,xs=>by
   show zaU vals 1 ws (zfR 1 (vals w) xs)=_;rw[zrq vals ws];simp[zfR]
theorem zpb(vals:Nat->Int)(ws:Nat->List Nat)(xs:List Int):zaU vals 1 (ws 1) (zaU vals 0 (ws 0) xs)=qe vals ws xs:=by
 rw[zrq,zrp];rfl
theorem zgC (vals : Nat -> Int) (d : Nat) : ∀ (ws : List Nat) (xs : List Int), (zaU vals d ws xs).length = xs.length + ws.length
 | [],xs=>rfl
 | w :: ws,xs=>by
   show (zaU vals d ws (zfR d (vals w) xs)).length=_;rw[zgC vals d ws,zkc];simp;omega
end Go.Sk
namespace Go.Proofs.Tryz
open Go.L Go.Rp Go.Sk
set_option maxRecDepth 100000
theorem SideV.at{h:ze}{v:V}{ob:Option Nat}{ws:List Nat}(hv:SideV h v ob ws){i:Nat}(hi:i < ws.length):∃ p cs m o,Jz 1 i v=some p/\Zv h p=some (cs,m,o)/\(o+1<=m/\0 < 1)/\cs[o]?=some (.int .i64 (ws[i]:Int)):=by
 cases ob with
 | none=>rw[hv.2] at hi;simp at hi
 | some b =>
   obtain⟨lo,l,z,rfl,h2,h3,h4⟩:=hv;have hx:l[lo+i]?=some [.int .i64 (ws[i]:Int)]:=by
    have:=congrArg (fun t:List (List V)=>t[i]?) h4;simpa[WQ,Ze,hi] using this
   exact⟨_,_,_,_,Z3 (by omega),ZJ h2 (by decide) hx,by decide,rfl⟩
theorem SideV.slc2{h:ze}{v:V}{ob:Option Nat}{ws:List Nat}(hv:SideV h v ob ws):ZI h v=some (if ob.isSome then 1 else 0,ws.map WQ):=by
 cases ob with
 | none =>
   obtain⟨rfl,rfl⟩:=hv;exact j9 ..
 | some b =>
   obtain⟨lo,l,z,rfl,h2,h3,h4⟩:=hv;rw[Qm h2 (Nat.le_add_right _ _) h3,h4];rfl
theorem zhW (n : Nat) {h : ze} {q qb c d : Nat} {xs : List Int} (hb : RngAt h q qb c xs) (x : Int) (hm : xs.length < c) (hc : c < 100000) :
    ∃ h',call (n+2) (if d=0 then 205 else 206) [.ptr q 0,.int .i32 x] h=some (.ret [.bool true],h')/\RngAt h' q qb c (zfR d x xs)/\RFed h h' q qb:=by
 unfold zfR;by_cases hd:d=0
 . rw[if_pos hd,if_pos hd];exact q6 n hb x hm hc
 . rw[if_neg hd,if_neg hd];exact q7 n hb x hm hc
theorem zvs(d:Nat):QI (if d=0 then 205 else 206)=true/\okV prog 4 (if d=0 then 205 else 206)=true:=by
 by_cases hd:d=0
 . rw[if_pos hd];exact⟨by kernel_rfl,by kernel_rfl⟩
 . rw[if_neg hd];exact⟨by kernel_rfl,by kernel_rfl⟩
def zdD(q:Nat):List V:=[V.bf 205 [(V.ptr q 0)],V.bf 206 [(V.ptr q 0)]]
theorem zrr(q:Nat){d:Nat}(hd:d < 2):(zdD q)[d]?=some (.bf (if d=0 then 205 else 206) [.ptr q 0]):=by
 obtain rfl|rfl:d=0\/d=1:=by omega
 . rfl
 . rfl
theorem zbQ (n : Nat) {h1 : ze} {q qb m d : Nat} {os : List O} {osb : Bool} {v : V} {sz : Nat} {ob : Option Nat} {ws : List Nat} (hd : d < 2) (hv : SideV h1 v ob ws) (hob : ∀ b, ob = some b -> b ≠ q /\ b ≠ qb) (hw : ∀ w ∈ ws, w < os.length) (hm : m < 100000) (hws : ws.length < lim) (next : List V -> ze -> Option (Res × ze)) :
    ∀ (k i N:Nat) (h:ze) (xs:List Int),RngAt h q qb m xs->RFed h1 h q qb->i+k=ws.length->k < N->xs.length+k<=m →
    ∃ h',zV N (Wh (n+2) (os.map O.w) osb [.sl 2 [] false,.agg (zdD q),.int .i64 (d:Int)] next v (sz,ws.map WQ)) [.sl 2 [] false,.agg (zdD q),.agg [v],.int .i64 (i:Int)] h=next [.sl 2 [] false,.agg (zdD q),.int .i64 ((d+1:Nat):Int)] h'/\RngAt h' q qb m (zaU (valsOf os) d (ws.drop i) xs)/\RFed h1 h' q qb:=by
 intro k
 induction k with
 | zero =>
   intro i N h xs hb hf hi hN hx;obtain⟨N,rfl⟩:∃ N',N=N'+1:=⟨N - 1,by omega⟩;refine⟨h,?_,by rw[Z2 (by omega)];exact hb,hf⟩;rw[zK];unfold Wh Yl Yi Yx Ya Yg;simp only[gv,zg,zi,lsl,lcs];rw[zy,za,zm,if_neg (by simp;omega),zA,za,Xl (by unfold lim;omega)]
 | succ k ih =>
   intro i N h xs hb hf hi hN hx;obtain⟨N,rfl⟩:∃ N',N=N'+1:=⟨N - 1,by omega⟩;have hlt:i < ws.length:=by omega
   have hwi:ws[i] < os.length:=hw _ (ZN hlt);obtain⟨p,cs,m',o,a1,a2,a3,a4⟩:=(hv.keep (fun b hb'=>hf.old b (hob b hb').1 (hob b hb').2):SideV h v ob ws).at hlt;obtain⟨h',e,b1,b2⟩:=zhW n (d:=d) hb os[ws[i]].v (by omega) hm;have hvv:valsOf os ws[i]=os[ws[i]].v:=by simp[valsOf,zf hwi]
   obtain⟨h'',e',c1,c2⟩:=ih (i+1) N h' _ b1 (hf.trans b2) (by omega) (by omega) (by rw[zkc];omega);refine⟨h'',?_,by rw[Zb hlt];rw[<- hvv] at c1;exact c1,c2⟩;rw[<- e',zK];have key:∀ nx,Wh (n+2) (os.map O.w) osb [.sl 2 [] false,.agg (zdD q),.int .i64 (d:Int)] next v (sz,ws.map WQ) [.sl 2 [] false,.agg (zdD q),.agg [v],.int .i64 (i:Int)] h nx=nx [.sl 2 [] false,.agg (zdD q),.agg [v],.int .i64 ((i+1:Nat):Int)] h':=by
    intro nx;unfold Wh Yl Yi Yx Ya Yg;simp only[gv,zg,zi,lsl,lcs];rw[zy,za,zm,if_pos (by simp;omega),z3,zB,a1,za,a2,zo,if_pos a3,a4,za,z3,za,if_pos hd,if_pos (by omega),Z9,zrr q hd,za,z3,zB,XJ (es:=O.w os[ws[i]]) (by rw[zF,zf hwi];rfl),za];simp only[ZD,za];rw[Zq,zo,if_pos (by decide)];simp only[O.w,zq,zh,zb,za,zwe];rw[if_pos (zvs d)];show cl (call (n+2) _ [.ptr q 0,.int .i32 os[ws[i]].v] h) _ _=_;rw[e,zH,zC,zA,za,Xl (by omega)]
   rw[key]
theorem zfS(n:Nat){h5:ze}{n9 T:Nat}{z:List R}(hn9:n9=z.length)(hz:z.length < lim)(hT:T≠h5.length):∀ (d i N:Nat) (h:ze) (w:V),i+d=z.length->d < N->h[h5.length]?=some (.row 21 1 (z.map vlC) true)->h[T]?=some (.row 35 2 ((z.take i).map R.w++(z.drop i).map cdC) true)->(w=.agg (lcs w)) →
    ∃ h',zV N (W4 n h5 n9 (.row T 2 0 z.length) (1,z.map vlC)) [.sl 2 [] false,w,.int .i64 (i:Int)] h=some (.ret [.row T 2 0 z.length],h')/\h'[T]?=some (.row 35 2 (z.map R.w) true)/\h'.length=h.length/\∀ j,j≠T->h'[j]?=h[j]?:=by
 intro d
 induction d with
 | zero =>
   intro i N h w hi hN hr ht hww;obtain⟨N,rfl⟩:∃ N',N=N'+1:=⟨N - 1,by omega⟩;refine⟨h,?_,by rw[ht,zU (by omega),Z2 (by omega)];simp,rfl,fun _ _=>rfl⟩;rw[zK];unfold W4 Yl Yi Yw Yx Ya Yr;simp only[gv,zg,zi];rw[zy,za,zm,if_neg (by simp;omega)]
 | succ d ih =>
   intro i N h w hi hN hr ht hww;obtain⟨N,rfl⟩:∃ N',N=N'+1:=⟨N - 1,by omega⟩;have hlt:i < z.length:=by omega
   have htl:=zQ ht;have hset:((z.take i).map R.w++(z.drop i).map cdC).set i (setR (cdC z[i]) 1 [V.int .i32 z[i].v])=(z.take (i+1)).map R.w++(z.drop (i+1)).map cdC:=by
    rw[Zi _ _ (by simp;omega),Zb hlt,QC hlt,zW,show i - (List.map R.w (z.take i)).length=0 by simp;omega,Ji,Zo,List.append_assoc];rfl
   obtain⟨h',e,b1,b2,b3⟩:=ih (i+1) N (h.set T (.row 35 2 ((z.take (i+1)).map R.w++(z.drop (i+1)).map cdC) true)) w (by omega) (by omega) ((zd hT).trans hr) (ZU htl _) hww;refine⟨h',?_,b1,b2.trans (zw ..),fun j hj=>(b3 j hj).trans (zd (Ne.symm hj))⟩;rw[zK,<- e];have hti:((z.take i).map R.w++(z.drop i).map cdC)[i]?=some (cdC z[i]):=by
    rw[zJ (by simp;omega)];simp[hlt,Q3 (Nat.le_of_lt hlt)]
   have key:∀ nx,W4 n h5 n9 (.row T 2 0 z.length) (1,z.map vlC) [.sl 2 [] false,w,.int .i64 (i:Int)] h nx=nx [.sl 2 [] false,w,.int .i64 ((i+1:Nat):Int)] (h.set T (.row 35 2 ((z.take (i+1)).map R.w++(z.drop (i+1)).map cdC) true)):=by
    intro nx;unfold W4 Yl Yi Yw Yx Ya Yr;simp only[gv,zg,zi,lsl];rw[<- hww,zy,za,zm,if_pos (by simp;omega),z3,zB,Z3 (by simp;omega),za,ZJ (es:=vlC z[i]) hr (by decide) (by simp[hlt]),zo,if_pos (by decide)];simp only[vlC,zb,za];rw[zB,Z3 (by omega),za];simp only[ZD,za,V.cells,zD,zP,zq,if_true];rw[QU ht (by decide) (by simp) hti,zZ,zA,za,Xl (by omega),hset]
   rw[key]
theorem zaV (n : Nat) {os : List (List V)} {osb : Bool} {h5 hh : ze} {n9 : Nat} {v14 a b : V} {v : Nat -> V} {q sz d : Nat} {ws : List Nat} (hd : d < 2) (hs : ZI hh (v d) = some (sz, ws.map WQ)) (next : List V -> ze -> Option (Res × ze)) :
    JJ n os osb h5 n9 v14 [v 0,v 1,a,b] 0 [.sl 2 [] false,.agg (zdD q),.int .i64 (d:Int)] hh next=zV n (Wh n os osb [.sl 2 [] false,.agg (zdD q),.int .i64 (d:Int)] next (v d) (sz,ws.map WQ)) [.sl 2 [] false,.agg (zdD q),.agg [v d],.int .i64 0] hh:=by
 have h1:(([v 0,v 1,a,b].drop 0 |>.take 2).drop (d * 1) |>.take 1)=[v d]:=by
  obtain rfl|rfl:d=0\/d=1:=by omega
  . rfl
  . rfl
 unfold JJ Yi Yg;simp only[gv,zg,zi,lsl,lcs];rw[zy,za,zm,if_pos (by simp;omega),z3,zB,if_pos ⟨hd,by simp;omega⟩,h1,if_pos (by rfl),if_pos (by exact zn 1)];show bd (some (v d)) _=_;rw[za,hs,za];rfl
theorem zrs(a b:Int):Wz prog 274 [(1,.int .i64 a),(2,.int .i64 b)]=some [.sl 0 [] true,.sl 0 [] true,.int .i64 a,.int .i64 b]:=by kernel_rfl
theorem ze6 (n : Nat) {h : ze} {q qb m : Nat} {xs : List Int} (hb : RngAt h q qb m xs) (os : List O) (osb : Bool) (hm : m < 100000) (hos : os.length < lim) (hn : os.length + m + 10 < n) :
    ∃ h' T,call (n+5) 199 [.ptr q 0,.sl 2 (os.map O.w) osb] h=some (.ret [.row T 2 0 os.length],h')/\h'[T]?=some (.row 35 2 ((Ju (m:Int) os xs).1.map R.w) true)/\h.length<=T/\RngAt h' q qb m (Ju (m:Int) os xs).2/\h.length<=h'.length/\∀ j,j < h.length->j≠q->j≠qb->h'[j]?=h[j]?:=by
 have hb0:=hb;obtain⟨hqq,l0,z0,f0,e1,e2,e3,e4,e5,e6,e7⟩:=hb0;have hql:=zQ e1;have hbl:=zQ e2;have hlim:m+1 < lim:=by unfold lim;omega
 rw[show n+5=(n+4)+1 from rfl,zjJ];unfold zjI Yg Yp;rw[Q6 (n+3) hb,zH,zC,Wu (n+3) hb,zH,zC,zrs,za,if_pos (by rfl),zp,z3,zB,zB,if_pos ⟨zn _,by omega,rfl⟩];generalize hA:h++[HB.row 21 1 (List.replicate os.length [V.int .i32 0]) true]=A;generalize hB:A++[HB.box 4 [V.sl 0 [] true,V.sl 0 [] true,V.int .i64 (xs.length:Int),V.int .i64 (m:Int)]]=B;have lA:A.length=h.length+1:=by rw[<- hA];simp
 have lB:B.length=h.length+2:=by rw[<- hB];simp;omega
 have aA:∀ j,j < h.length->A[j]?=h[j]?:=fun j hj=>by rw[<- hA,zk hj]
 have aB:∀ j,j < A.length->B[j]?=A[j]?:=fun j hj=>by rw[<- hB,zk hj]
 have eA:A[h.length]?=some (HB.row 21 1 (List.replicate os.length [V.int .i32 0]) true):=by rw[<- hA];exact zx
 have eB:B[A.length]?=some (HB.box 4 [V.sl 0 [] true,V.sl 0 [] true,V.int .i64 (xs.length:Int),V.int .i64 (m:Int)]):=by rw[<- hB];exact zx
 have b0:∀ j,j < h.length->B[j]?=h[j]?:=fun j hj=>by rw[aB _ (by omega),aA _ hj]
 have bR:B[h.length]?=some (HB.row 21 1 (List.replicate os.length [V.int .i32 0]) true):=by rw[aB _ (by omega)];exact eA
 have L:ELay (B.length+1) A.length q qb h.length B.length:=by constructor <;> omega
 have E:EndAt B A.length (fun _=>none) xs.length m (fun _=>[]) (fun _=>.sl 0 [] true):=⟨eB,fun _ _=>⟨rfl,rfl⟩,fun _ _ e=>(nomatch e),fun _ e=>(nomatch e)⟩;rw[ZZ];obtain⟨H,sb',v',z,hz,e,I⟩:=zhV n A.length q qb h.length osb m os L hm e5 hos (by omega) E (hb.keep (b0 q hql) (b0 qb hbl)) bR;rw[e,zH,zC];have hzl:z.1.length=os.length:=by rw[hz];exact zj5 ..
 have hok:=znx m (valsOf os) os 0 (fun _=>[]) xs (fun _ _ _ h=>(nomatch h)) (by simpa[tot] using e5);rw[<- hz,zq] at hok;have hzz:=zj7 (m:Int) (valsOf os) os 0 (fun _=>[]) xs (fun j o hj=>by rw[zq];simp[valsOf,hj]);rw[<- hz,show qe (valsOf os) (fun _=>[]) xs=xs by simp[qe]] at hzz;have hle:=I.le;generalize hG:H++[HB.row 35 2 (z.1.map cdC) true]=G;have aG:∀ j,j < H.length->G[j]?=H[j]?:=fun j hj=>by rw[<- hG,zk hj]
 have eG:G[H.length]?=some (HB.row 35 2 (z.1.map cdC) true):=by rw[<- hG];exact zx
 have lG:G.length=H.length+1:=by rw[<- hG];simp
 have EG:EndAt G A.length sb' z.2.2.length m z.2.1 v':=I.mt.keep (aG _ (by omega)) (fun e b he hb'=>aG b (by have:=I.mt.side e he;rw[hb'] at this;exact this.lt));have RG:RngAt G q qb m z.2.2:=I.st.keep (aG q (by omega)) (aG qb (by omega));rw[zI EG.box,zo,if_pos (by decide)];have htot:=hok.2;unfold tot at htot;have hside:∀ d,d < 2->∀ b,sb' d=some b->b≠q/\b≠qb:=fun d hd b hb'=>by have:=I.fr d b hd hb';omega
 have hwlen:∀ d,d < 2->(z.2.1 d).length<=m:=fun d hd=>by
  obtain rfl|rfl:d=0\/d=1:=by omega
  . omega
  . omega
 have k0:=(EG.side 0 (by decide)).slc2;obtain⟨G1,f1,r1,r2⟩:=zbQ (n+2) (os:=os) (osb:=osb) (sz:=if (sb' 0).isSome then 1 else 0) (d:=0) (by decide) (EG.side 0 (by decide)) (hside 0 (by decide)) (hok.1 0 (by decide)) hm (by have:=hwlen 0 (by decide);omega) (fun st h'=>zV (n+3) (JJ (n+4) (os.map O.w) osb h os.length (.row H.length 2 0 os.length) [v' 0,v' 1,.int .i64 (z.2.2.length:Int),.int .i64 (m:Int)] 0) st h') (z.2.1 0).length 0 (n+4) G z.2.2 RG (RFed.refl ..) (by omega) (by have:=hwlen 0 (by decide);omega) (by omega);rw[zR] at r1;have hl1:=zgC (valsOf os) 0 (z.2.1 0) z.2.2;have k1':=((EG.side 1 (by decide)).keep (h':=G1) (fun b hb'=>r2.old b (hside 1 (by decide) b hb').1 (hside 1 (by decide) b hb').2)).slc2;obtain⟨G2,f2,r3,r4⟩:=zbQ (n+2) (os:=os) (osb:=osb) (sz:=if (sb' 1).isSome then 1 else 0) (d:=1) (by decide) (EG.side 1 (by decide)) (hside 1 (by decide)) (hok.1 1 (by decide)) hm (by have:=hwlen 1 (by decide);omega) (fun st h'=>zV (n+2) (JJ (n+4) (os.map O.w) osb h os.length (.row H.length 2 0 os.length) [v' 0,v' 1,.int .i64 (z.2.2.length:Int),.int .i64 (m:Int)] 0) st h') (z.2.1 1).length 0 (n+4) G1 _ r1 r2 (by omega) (by have:=hwlen 1 (by decide);omega) (by omega);rw[zR,zpb] at r3;have hG2:∀ j,j≠q->j≠qb->G2[j]?=G[j]?:=r4.old;have w1:G2[h.length]?=some (.row 21 1 (z.1.map vlC) true):=by
  rw[hG2 _ (by omega) (by omega),aG _ (by omega),I.row];simp
 have w2:G2[H.length]?=some (.row 35 2 ((z.1.take 0).map R.w++(z.1.drop 0).map cdC) true):=by
  rw[hG2 _ (by omega) (by omega)];exact eG
 obtain⟨h',f3,t1,t2,t3⟩:=zfS (n+4) (h5:=h) (n9:=os.length) (T:=H.length) (z:=z.1) hzl.symm (by omega) (by omega) z.1.length 0 (n+4) G2 (.agg (zdD q)) (by omega) (by omega) w1 w2 rfl;have lG2:=r4.len;refine⟨h',H.length,?_,by rw[hzz];exact t1,by omega,?_,by omega,fun j j1 j2 j3=>?_⟩
 . show zV (n+4) (JJ (n+4) (os.map O.w) osb h os.length (.row H.length 2 0 os.length) [v' 0,v' 1,.int .i64 (z.2.2.length:Int),.int .i64 (m:Int)] 0) [.sl 2 [] false,.agg (zdD q),.int .i64 ((0:Nat):Int)] G=_;rw[zK,zaV (n+4) (by decide) k0];refine f1.trans ?_;rw[zK,zaV (n+4) (by decide) k1'];refine f2.trans ?_;rw[zK];unfold JJ Yi Yg;simp only[gv,zg,zi,lsl,lcs];rw[zy,za,zm,if_neg (by decide),ZZ];have hsl:ZI G2 (.row h.length 1 0 os.length)=some (1,z.1.map vlC):=by
    have h2:=Jh w1;rwa[zp,hzl] at h2
   rw[hsl,za];rw[hzl] at f3;exact f3
 . rw[hzz];exact r3.keep (t3 q (by omega)) (t3 qb (by omega))
 . rw[t3 j (by omega),hG2 j j2 j3,aG j (by omega),I.rest j (by omega) (by omega) j2 j3 (by omega),zk (by omega),b0 j j1]
end Go.Proofs.Tryz
namespace Go.Sk
open Go.L
structure Tw where
 b:Nat
 v:Int
 ht:Nat
def zdE:V:=.val (.pointer none)
def qu(k:Nat)(ts:List Tw):Option Tw:=ts.find? fun t=>decide (k < t.ht)
def nx(k:Nat)(ts:List Tw):V:=match qu k ts with|some t=>.ptr t.b 0|none=>zdE
def XH(s:Nat)(ts:List Tw):Nat->Nat
 | 0=>s
 | i+1=>(ts.getD i ⟨0,0,0⟩).b
def YT (ts : List Tw) (k : Nat) : Nat -> Prop
 | 0=>True
 | i+1=>∃ t,ts[i]?=some t/\k < t.ht
def XD(ts:List Tw)(k:Nat):Nat->Nat
 | 0=>0
 | j+1=>if k < (ts.getD j ⟨0,0,0⟩).ht then j+1 else XD ts k j
theorem Ww (ts : List Tw) (k : Nat) : ∀ j, XD ts k j <= j
 | 0=>zn _
 | j+1=>by
   simp only[XD];split
   . exact zn _
   . exact Nat.le_succ_of_le (Ww ts k j)
theorem getD_some{ts:List Tw}{i:Nat}{t:Tw}(h:ts[i]?=some t):ts.getD i ⟨0,0,0⟩=t:=by rw[zO,h];rfl
theorem q9 (ts : List Tw) (k : Nat) : ∀ j, j <= ts.length -> YT ts k (XD ts k j)
 | 0,_=>trivial
 | j+1,h=>by
   simp only[XD];obtain⟨t,ht⟩:∃ t,ts[j]?=some t:=⟨_,zf (by omega)⟩;rw[getD_some ht];split
   . rename_i hk;exact⟨t,ht,hk⟩
   . exact q9 ts k j (by omega)
theorem zbg (ts : List Tw) (k : Nat) : ∀ j i t, XD ts k j <= i -> i < j -> ts[i]? = some t -> ¬ k < t.ht
 | 0,i,t,h1,h2,_=>by omega
 | j+1,i,t,h1,h2,ht=>by
   simp only[XD] at h1;split at h1
   . omega
   . rename_i hk;rcases ZX i j with h3|h3
     . exact zbg ts k j i t h1 h3 ht
     . obtain rfl:i=j:=by omega
       rw[getD_some ht] at hk;exact hk
theorem ze7 {ts : List Tw} {k i : Nat} (hon : YT ts k i) : ∀ j, i <= j -> j <= ts.length -> (∀ m t, i <= m -> m < j -> ts[m]? = some t -> ¬ k < t.ht) -> XD ts k j = i
 | 0,h,_,_=>by simp only[XD];omega
 | j+1,h,hl,hn=>by
   obtain⟨t,ht⟩:∃ t,ts[j]?=some t:=⟨_,zf (by omega)⟩;simp only[XD,getD_some ht];rcases ZX j i with h3|h3
   . obtain rfl:i=j+1:=by omega
     obtain⟨t',ht',hk⟩:=hon;rw[ht] at ht';cases ht';rw[if_pos hk]
   . rw[if_neg (hn j t h3 (by omega) ht)];exact ze7 hon j h3 (by omega) fun m t h1 h2=>hn m t h1 (by omega)
theorem zkd{k:Nat}{ts:List Tw}:∀ (i:Nat),(qu k (ts.drop i)=none/\∀ m t,i<=m->ts[m]?=some t->¬ k < t.ht)\/∃ m t,i<=m/\ts[m]?=some t/\k < t.ht/\qu k (ts.drop i)=some t/\∀ m' t',i<=m'->m' < m->ts[m']?=some t'->¬ k < t'.ht:=by
 intro i;obtain⟨d,hd⟩:∃ d,d+i=ts.length\/(d=0/\ts.length<=i):=⟨ts.length - i,by omega⟩
 induction d generalizing i with
 | zero =>
   left;have hi:ts.length<=i:=by omega
   refine⟨by rw[ZC hi];rfl,fun m t h1 h2=>?_⟩;have:=(zj.1 h2).1;omega
 | succ d ih =>
   have hi:i < ts.length:=by omega
   obtain⟨t,ht⟩:∃ t,ts[i]?=some t:=⟨_,zf hi⟩;have hdr:ts.drop i=t :: ts.drop (i+1):=by rw[Zb hi];congr 1;rw[zf hi] at ht;exact Option.some.inj ht
   by_cases hk:k < t.ht
   . right;exact⟨i,t,zn _,ht,hk,by rw[hdr];simp[qu,hk],fun m' t' h1 h2=>by omega⟩
   . rcases ih (i+1) (by omega) with ⟨h1,h2⟩|⟨m,t',h1,h2,h3,h4,h5⟩
     . left;refine⟨by rw[hdr];simpa[qu,hk] using h1,fun m t' h3 h4=>?_⟩;rcases ZX i m with h|h
       . exact h2 m t' h h4
       . obtain rfl:m=i:=by omega
         rw[ht] at h4;cases h4;exact hk
     . right;refine⟨m,t',by omega,h2,h3,by rw[hdr];simpa[qu,hk] using h4,fun m' t'' h6 h7 h8=>?_⟩;rcases ZX i m' with h|h
       . exact h5 m' t'' h h7 h8
       . obtain rfl:m'=i:=by omega
         rw[ht] at h8;cases h8;exact hk
abbrev Nx:=Nat->Nat->V
structure Linked(s:Nat)(ts:List Tw)(N:Nx):Prop where
 hd:∀ k,k < 8->N s k=nx k ts
 tw:∀ (i:Nat) t k,ts[i]?=some t->k < 8->N t.b k=if k < t.ht then nx k (ts.drop (i+1)) else zdE
theorem Linked.at_{s:Nat}{ts:List Tw}{N:Nx}(h:Linked s ts N){k i:Nat}(hk:k < 8)(hi:YT ts k i):N (XH s ts i) k=nx k (ts.drop i):=by
 cases i with
 | zero=>exact h.hd k hk
 | succ i =>
   obtain⟨t,ht,hkt⟩:=hi;have:=h.tw i t k ht hk;rw[if_pos hkt] at this;simp only[XH,getD_some ht];exact this
def KO(N:Nx)(b k:Nat)(x:V):Nx:=fun b' k'=>if b'=b/\k'=k then x else N b' k'
def XV(ts:List Tw)(v:Int):Nat:=(ts.takeWhile fun t=>decide (t.v<=v)).length
def Rise(ts:List Tw):Prop:=ts.Pairwise fun a b=>a.v<=b.v
theorem zay(ts:List Tw)(v:Int):XV ts v<=ts.length:=(List.takeWhile_prefix _).length_le
theorem zaa{ts:List Tw}(hr:Rise ts)(v:Int){i:Nat}{t:Tw}(ht:ts[i]?=some t):i < XV ts v ↔ t.v<=v:=by
 unfold XV
 induction ts generalizing i with
 | nil=>simp at ht
 | cons a ts ih =>
   have hr':=Z6.1 hr;rw[List.takeWhile_cons];cases i with
   | zero =>
     obtain rfl:a=t:=by simpa using ht
     by_cases h:a.v<=v
     . simp[h]
     . simp[h]
   | succ i =>
     have hm:=hr'.1 t (zM ht);by_cases h:a.v<=v
     . simp only[h,decide_true,if_true,zD,Nat.succ_lt_succ_iff];exact ih hr'.2 ht
     . simp only[h,decide_false,zt,if_false,zP,Nat.not_lt_zero,false_iff];omega
def ins(ts:List Tw)(j:Nat)(u:Tw):List Tw:=ts.take j++u :: ts.drop j
theorem zl5{ts:List Tw}{j:Nat}{u:Tw}(hj:j<=ts.length){i:Nat}(h:i < j):(ins ts j u)[i]?=ts[i]?:=by
 unfold ins;rw[zk (by rw[z5];omega),Ze,if_pos h]
theorem zhX{ts:List Tw}{j:Nat}{u:Tw}(hj:j<=ts.length):(ins ts j u)[j]?=some u:=by
 unfold ins;rw[zJ (by rw[z5];omega),z5,Q3 hj,X8];rfl
theorem zrt{ts:List Tw}{j:Nat}{u:Tw}(hj:j<=ts.length){i:Nat}(h:j<=i):(ins ts j u)[i+1]?=ts[i]?:=by
 unfold ins;rw[zJ (by rw[z5];omega),z5,Q3 hj,show i+1 - j=(i - j)+1 by omega,zh,Zh];congr 1;omega
theorem znB{ts:List Tw}{j:Nat}{u:Tw}(hj:j<=ts.length):(ins ts j u).length=ts.length+1:=by
 unfold ins;rw[zL,z5,zD,XQ];omega
theorem zru{ts:List Tw}{j:Nat}{u:Tw}(hj:j<=ts.length){i:Nat}(h:i<=j):(ins ts j u).drop i=(ts.take j).drop i++u :: ts.drop j:=by
 unfold ins;rw[QW (by rw[z5];omega)]
theorem zdj{ts:List Tw}{j:Nat}{u:Tw}(hj:j<=ts.length){i:Nat}(h:j<=i):(ins ts j u).drop (i+1)=ts.drop i:=by
 apply ZM;intro m;rw[Zh,Zh,show i+1+m=(i+m)+1 by omega,zrt hj (by omega)]
theorem zgD{ts:List Tw}{i j:Nat}(h:i<=j)(hj:j<=ts.length):ts.drop i=(ts.take j).drop i++ts.drop j:=by
 have:ts=ts.take j++ts.drop j:=(Zu j ts).symm
 conv=>lhs;rw[this]
 rw[QW (by rw[z5];omega)]
theorem zfT{ts:List Tw}{k i j:Nat}(h:qu k ((ts.take j).drop i)=none)(m:Nat)(t:Tw)(h1:i<=m)(h2:m < j)(ht:ts[m]?=some t):¬ k < t.ht:=by
 unfold qu at h;rw[List.find?_eq_none] at h;have hm:t∈(ts.take j).drop i:=by
  refine zM (i:=m - i) ?_;rw[Zh,Ze,show i+(m - i)=m by omega,if_pos h2];exact ht
 simpa using h t hm
theorem zaW{ts:List Tw}{k i j:Nat}{t:Tw}(h:qu k ((ts.take j).drop i)=some t):∃ m,i<=m/\m < j/\ts[m]?=some t/\k < t.ht:=by
 unfold qu at h;have h1:=List.find?_some h;have h2:=List.mem_of_find?_eq_some h;obtain⟨m,hm⟩:=XM.1 h2;rw[Zh,Ze] at hm;split at hm
 . exact⟨i+m,by omega,by assumption,hm,by simpa using h1⟩
 . cases hm
theorem zvt {ts : List Tw} {k i j : Nat} {u : Tw} (hj : j <= ts.length) (hi : i <= j) (hon : YT ts k i) :
    nx k ((ins ts j u).drop i)=if k < u.ht/\XD ts k j=i then .ptr u.b 0 else nx k (ts.drop i):=by
 rw[zru hj hi];unfold nx;rw[zgD hi hj];cases hA:qu k ((ts.take j).drop i) with
 | some t =>
   obtain⟨m,h1,h2,h3,h4⟩:=zaW hA;have hne:XD ts k j≠i:=fun e=>zbg ts k j m t (by omega) h2 h3 h4;rw[if_neg (fun h=>hne h.2)];unfold qu at hA ⊢;rw[JW,JW,hA];rfl
 | none =>
   have hl:XD ts k j=i:=ze7 hon j hi hj fun m t h1 h2 h3=>zfT hA m t h1 h2 h3;unfold qu at hA ⊢;rw[JW,JW,hA,List.find?_cons];by_cases hk:k < u.ht
   . simp[hk,hl]
   . simp[hk]
theorem ze8{s:Nat}{ts:List Tw}(hnd:(ts.map Tw.b).Nodup)(hs:s ∉ ts.map Tw.b){p q:Nat}(hp:p<=ts.length)(hq:q<=ts.length)(h:XH s ts p=XH s ts q):p=q:=by
 have hb:∀ i,i < ts.length->(ts.map Tw.b)[i]?=some (ts.getD i ⟨0,0,0⟩).b:=fun i hi=>by
  rw[zF,zO,zf hi];rfl
 have hne:∀ i,i < ts.length->s≠(ts.getD i ⟨0,0,0⟩).b:=fun i hi e=>hs (e ▸ zM (hb i hi));cases p with
 | zero =>
   cases q with
   | zero=>rfl
   | succ q=>exact absurd h (hne q (by omega))
 | succ p =>
   cases q with
   | zero=>exact absurd h.symm (hne p (by omega))
   | succ q =>
     have h1:=hb p (by omega);have h2:=hb q (by omega);simp only[XH] at h;rw[h] at h1;congr 1;exact(List.getElem?_inj (by rw[zp];omega) hnd).1 (h1.trans h2.symm)
theorem zrv{s:Nat}{ts:List Tw}{j:Nat}{u:Tw}(hj:j<=ts.length){p:Nat}(hp:p<=j):XH s (ins ts j u) p=XH s ts p:=by
 cases p with
 | zero=>rfl
 | succ p=>simp only[XH];rw[zO,zO,zl5 hj (by omega)]
theorem zgE {ts : List Tw} {k j : Nat} {u : Tw} (hj : j <= ts.length) : ∀ i, i <= j -> XD (ins ts j u) k i = XD ts k i
 | 0,_=>rfl
 | i+1,h=>by
   simp only[XD];rw[zgE hj i (by omega),zO,zO,zl5 hj (by omega)]
theorem zhY{ts:List Tw}{k j:Nat}{u:Tw}(hj:j<=ts.length):XD (ins ts j u) k (j+1)=if k < u.ht then j+1 else XD ts k j:=by
 simp only[XD];rw[zgE hj j (zn _),getD_some (zhX hj)]
theorem Linked.ins {s : Nat} {ts : List Tw} {N N' : Nx} (h : Linked s ts N) (hnd : (ts.map Tw.b).Nodup) (hs : s ∉ ts.map Tw.b) {u : Tw} (hus : u.b ≠ s) (hut : u.b ∉ ts.map Tw.b) {j : Nat} (hj : j <= ts.length)
    (h1:∀ k,k < 8->N' u.b k=if k < u.ht then nx k (ts.drop j) else zdE)
    (h2:∀ k,k < 8->k < u.ht->N' (XH s ts (XD ts k j)) k=.ptr u.b 0)
    (h3:∀ b k,k < 8->b≠u.b->(k < u.ht->b≠XH s ts (XD ts k j))->N' b k=N b k):Linked s (Go.Sk.ins ts j u) N':=by
 have key:∀ i k,k < 8->i<=j->YT ts k i->N' (XH s ts i) k=nx k ((Go.Sk.ins ts j u).drop i):=fun i k hk hi hon=>by
  rw[zvt hj hi hon];by_cases hc:k < u.ht/\XD ts k j=i
  . rw[if_pos hc,<- hc.2];exact h2 k hk hc.1
  . rw[if_neg hc,<- h.at_ hk hon];refine h3 _ _ hk (fun e=>?_) fun hku e=>?_
    . cases i with
      | zero=>exact hus e.symm
      | succ i =>
        obtain⟨t,ht,_⟩:=hon;simp only[XH,getD_some ht] at e;exact hut (e ▸ Zg (zM ht))
    . exact hc ⟨hku,(ze8 hnd hs (by omega) (by have:=Ww ts k j;omega) e).symm⟩
 refine⟨fun k hk=>?_,fun i t k ht hk=>?_⟩
 . have:=key 0 k hk (z2 _) trivial;rwa[zR] at this
 . rcases Nat.lt_trichotomy i j with hij|hij|hij
   . rw[zl5 hj hij] at ht;by_cases hkt:k < t.ht
     . rw[if_pos hkt];have:=key (i+1) k hk (by omega) ⟨t,ht,hkt⟩;simpa only[XH,getD_some ht] using this
     . rw[if_neg hkt];have hN:=h.tw i t k ht hk;rw[if_neg hkt] at hN;rw[<- hN];refine h3 _ _ hk (fun e=>hut (e ▸ Zg (zM ht))) fun hku e=>?_;have hp:t.b=XH s ts (i+1):=by simp only[XH,getD_some ht]
       have hon:=q9 ts k j hj;have:=ze8 hnd hs (by omega) (by have:=Ww ts k j;omega) (hp.symm.trans e);rw[<- this] at hon;obtain⟨t',ht',hk'⟩:=hon;rw[ht] at ht';cases ht';exact hkt hk'
   . subst hij;rw[zhX hj] at ht;cases ht;rw[zdj hj (zn _)];exact h1 k hk
   . obtain⟨i,rfl⟩:∃ i',i=i'+1:=⟨i - 1,by omega⟩;rw[zrt hj (by omega)] at ht;rw[zdj hj (by omega)];rw[<- h.tw i t k ht hk];have hil:=(zj.1 ht).1;refine h3 _ _ hk (fun e=>hut (e ▸ Zg (zM ht))) fun hku e=>?_;have hp:t.b=XH s ts (i+1):=by simp only[XH,getD_some ht]
     have:=ze8 hnd hs (by omega) (by have:=Ww ts k j;omega) (hp.symm.trans e);have:=Ww ts k j;omega
theorem Rise.ins{ts:List Tw}(hr:Rise ts)(u:Tw):Rise (Go.Sk.ins ts (XV ts u.v) u):=by
 unfold Rise Go.Sk.ins;have hle:∀ t∈ts.take (XV ts u.v),t.v<=u.v:=fun t ht=>by
  obtain⟨i,hi⟩:=XM.1 ht;rw[Ze] at hi;split at hi
  . rename_i h;exact(zaa hr u.v hi).1 h
  . cases hi
 have hge:∀ t∈ts.drop (XV ts u.v),u.v<=t.v:=fun t ht=>by
  obtain⟨i,hi⟩:=XM.1 ht;rw[Zh] at hi;have:=(zaa hr u.v hi);omega
 rw[ZO];refine⟨hr.sublist (JX _ _),Z6.2 ⟨hge,hr.sublist (QZ _ _)⟩,fun a ha b hb=>?_⟩;have h1:=hle a ha;rcases zN.1 hb with rfl|hb
 . exact h1
 . have:=hge b hb;omega
theorem Linked.tail {s : Nat} {t : Tw} {ts : List Tw} {N N' : Nx} (h : Linked s (t :: ts) N) (hnd : ((t :: ts).map Tw.b).Nodup) (hs : s ∉ (t :: ts).map Tw.b)
    (h1:∀ k,k < 8->N' s k=if k < t.ht then N t.b k else N s k) (h2:∀ b k,k < 8->b≠s->N' b k=N b k):Linked s ts N':=by
 refine⟨fun k hk=>?_,fun i u k hu hk=>?_⟩
 . rw[h1 k hk];have a:=h.tw 0 t k rfl hk;have b:=h.hd k hk;by_cases hkt:k < t.ht
   . rw[if_pos hkt,a,if_pos hkt];rfl
   . rw[if_neg hkt,b];unfold nx qu;rw[List.find?_cons];simp[hkt]
 . have a:=h.tw (i+1) u k (by simpa using hu) hk;rw[h2 _ _ hk]
   . simpa using a
   . rintro rfl;exact hs (Zg (zu _ (zM hu)))
end Go.Sk
namespace Go.Sk
open Go.L
def jC(f:Nat->V):List V:=(List.range 8).map f
theorem QN(f:Nat->V):(jC f).length=8:=by simp[jC]
theorem zcD(f:Nat->V){k:Nat}(h:k < 8):(jC f)[k]?=some (f k):=by
 unfold jC;rw[zF,Qe h];rfl
theorem zgF(f:Nat->V){k:Nat}(h:k < 8)(x:V):(jC f).set k x=jC (fun j=>if j=k then x else f j):=by
 apply ZM;intro j;rw[Zd];by_cases hj:j < 8
 . rw[zcD _ hj,zcD _ hj];by_cases e:k=j
   . rw[if_pos e,if_pos (by rw[QN];omega),if_pos e.symm]
   . rw[if_neg e,if_neg (Ne.symm e)]
 . rw[zS (by rw[QN];omega),zS (by rw[QN];omega),if_neg (by omega)]
structure Nd where
 b:Nat
 v:Int
 ht:Int
 post:List V
def Nd.cells(x:Nd)(N:Nx):List V:=[.int .i32 x.v,.int .i64 x.ht]++(jC (N x.b)++x.post)
def zab(h:ze)(N:Nx)(x:Nd):Prop:=h[x.b]?=some (.box (10+x.post.length) (x.cells N))
theorem Nd.get0(x:Nd)(N:Nx):(x.cells N)[0]?=some (.int .i32 x.v):=rfl
theorem Nd.get1(x:Nd)(N:Nx):(x.cells N)[1]?=some (.int .i64 x.ht):=rfl
theorem Nd.get(x:Nd)(N:Nx){k:Nat}(h:k < 8):(x.cells N)[2+k]?=some (N x.b k):=by
 unfold Nd.cells;rw[zJ (by simp),show 2+k - [V.int .i32 x.v,.int .i64 x.ht].length=k by simp,zk (by rw[QN];exact h),zcD _ h]
theorem Nd.set(x:Nd)(N:Nx){k:Nat}(h:k < 8)(y:V):setR (x.cells N) (2+k) [y]=x.cells (KO N x.b k y):=by
 show (x.cells N).set (2+k) y=_;unfold Nd.cells;rw[Zi _ _ (by simp),show 2+k - [V.int .i32 x.v,.int .i64 x.ht].length=k by simp,List.set_append_left _ _ (by rw[QN];exact h),zgF _ h];congr 3;funext j;unfold KO;by_cases e:j=k
 . rw[if_pos e,if_pos ⟨rfl,e⟩]
 . rw[if_neg e,if_neg (fun hh=>e hh.2)]
structure Rep(h:ze)(ns:List Nd)(N:Nx):Prop where
 at_:∀ x∈ns,zab h N x
 nd:(ns.map Nd.b).Nodup
 one:∀ x∈ns,∀ k,V.cells (N x.b k)=[N x.b k]
theorem Rep.inj{h:ze}{ns:List Nd}{N:Nx}(r:Rep h ns N){x y:Nd}(hx:x∈ns)(hy:y∈ns)(e:x.b=y.b):x=y:=by
 obtain⟨i,hi⟩:=XM.1 hx;obtain⟨j,hj⟩:=XM.1 hy;have h1:(ns.map Nd.b)[i]?=some x.b:=by rw[zF,hi];rfl
 have h2:(ns.map Nd.b)[j]?=some y.b:=by rw[zF,hj];rfl
 have:=(List.getElem?_inj (zj.1 h1).1 r.nd).1 (h1.trans (by rw[e,h2]));subst this;rw[hi] at hj;exact Option.some.inj hj
theorem Rep.read{h:ze}{ns:List Nd}{N:Nx}(r:Rep h ns N){x:Nd}(hx:x∈ns)(o:Nat):Zv h (.ptr x.b o)=some (x.cells N,10+x.post.length,o):=zI (r.at_ x hx) o
theorem Rep.write {h : ze} {ns : List Nd} {N : Nx} (r : Rep h ns N) {x : Nd} (hx : x ∈ ns) {k : Nat} (hk : k < 8) (y : V) (hy : V.cells y = [y]) :
    Zl h [y] (.ptr x.b (2+k))=some (x.b,.box (10+x.post.length) (x.cells (KO N x.b k y)))/\Rep (h.set x.b (.box (10+x.post.length) (x.cells (KO N x.b k y)))) ns (KO N x.b k y):=by
 have hb:=r.at_ x hx;refine⟨?_,⟨fun z hz=>?_,r.nd,fun z hz j=>?_⟩⟩
 . rw[Zx hb (by simp;omega),x.set N hk]
 . by_cases e:z.b=x.b
   . have:=r.inj hz hx e;subst this;exact ZU (zQ hb) _
   . unfold zab;rw[zd (Ne.symm e)];have:=r.at_ z hz;unfold zab at this;rw[this];have e2:KO N x.b k y z.b=N z.b:=by
      funext j;unfold KO;rw[if_neg (fun hh=>e hh.1)]
     unfold Nd.cells;rw[e2]
 . unfold KO;split
   . exact hy
   . exact r.one z hz j
theorem Rep.keep{h h':ze}{ns:List Nd}{N:Nx}(r:Rep h ns N)(hk:∀ x∈ns,h'[x.b]?=h[x.b]?):Rep h' ns N:=⟨fun x hx=>(hk x hx).trans (r.at_ x hx),r.nd,r.one⟩
def ZQ(P:Nat->Nat):List V:=(List.range 8).map fun k=>.ptr (P k) 0
theorem Z8(P:Nat->Nat):(ZQ P).length=8:=by simp[ZQ]
theorem zcE(P:Nat->Nat){k:Nat}(h:k < 8):(ZQ P)[k]?=some (.ptr (P k) 0):=by
 unfold ZQ;rw[zF,Qe h];rfl
theorem zgG(P:Nat->Nat){k:Nat}(h:k < 8)(b:Nat):(ZQ P).set k (.ptr b 0)=ZQ (fun j=>if j=k then b else P j):=by
 have e:∀ Q:Nat->Nat,ZQ Q=jC (fun j=>.ptr (Q j) 0):=fun Q=>rfl;rw[e,e,zgF _ h];congr 1;funext j;split <;> rfl
def ndT(t:Tw):Nd:=⟨t.b,t.v,t.ht,[]⟩
def ndH(s:Nat)(many most:Int):Nd:=⟨s,0,0,[.int .i64 many,.int .i64 most]⟩
def Ym (N : Nx) (u : Nat) (P : Nat -> Nat) : Nat -> Nx
 | 0=>N
 | k+1=>KO (KO (Ym N u P k) u k (Ym N u P k (P k) k)) (P k) k (.ptr u 0)
theorem zbR (N : Nx) (u : Nat) (P : Nat -> Nat) : ∀ K b k, K <= k -> Ym N u P K b k = N b k
 | 0,b,k,h=>rfl
 | K+1,b,k,h=>by
   simp only[Ym,KO];rw[if_neg (by omega),if_neg (by omega)];exact zbR N u P K b k (by omega)
theorem zdN (N : Nx) (u : Nat) (P : Nat -> Nat) (hu : ∀ k, P k ≠ u) : ∀ K k, k < K -> Ym N u P K u k = N (P k) k /\ Ym N u P K (P k) k = .ptr u 0 /\ ∀ b, b ≠ u -> b ≠ P k -> Ym N u P K b k = N b k
 | 0,k,h=>by omega
 | K+1,k,h=>by
   rcases ZX k K with hk|hk
   . obtain⟨a1,a2,a3⟩:=zdN N u P hu K k hk;have hne:∀ b,Ym N u P (K+1) b k=Ym N u P K b k:=fun b=>by
      simp only[Ym,KO];rw[if_neg (by omega),if_neg (by omega)]
     exact⟨by rw[hne,a1],by rw[hne,a2],fun b h1 h2=>by rw[hne,a3 b h1 h2]⟩
   . obtain rfl:k=K:=by omega
     refine⟨?_,?_,fun b h1 h2=>?_⟩
     . simp only[Ym,KO];rw[if_neg (fun e=>hu k e.1.symm),if_pos (by simp),zbR _ _ _ _ _ _ (zn _)]
     . simp only[Ym,KO];rw[if_pos (by simp)]
     . simp only[Ym,KO];rw[if_neg (fun e=>h2 e.1),if_neg (fun e=>h1 e.1),zbR _ _ _ _ _ _ (zn _)]
end Go.Sk
namespace Go.Proofs.Tryz
open Go.L Go.Rp Go.Sk
set_option maxRecDepth 100000
theorem zbh(h:ze)(b:Nat):Qq prog h .neq 177 (V.ptr b 0) (V.val (.pointer none))=some (.bool true):=by kernel_rfl
theorem ze9(h:ze):Qq prog h .neq 177 (V.val (.pointer none)) (V.val (.pointer none))=some (.bool false):=by kernel_rfl
theorem zke(h:ze)(b:Nat):Qq prog h .eql 177 (V.ptr b 0) (V.val (.pointer none))=some (.bool false):=by kernel_rfl
theorem zkf(h:ze):Qq prog h .eql 177 (V.val (.pointer none)) (V.val (.pointer none))=some (.bool true):=by kernel_rfl
theorem KJ(h:ze)(b:Nat):Qq prog h .eql 117 (V.ptr b 0) (V.val (.pointer none))=some (.bool false):=by kernel_rfl
theorem zl6{h:ze}{t o n m:Nat}{cs ds:List V}(ht:h[t]?=some (.box n cs))(ho:h[o]?=some (.box m ds)):Qq prog h .eql 177 (V.ptr t 0) (V.ptr o 0)=some (.bool (t == o && 0 == 0)):=by
 have e:Qq prog h .eql 177 (V.ptr t 0) (V.ptr o 0)=(match h[t]?,h[o]? with|some (.box ..),some (.box ..)=>some (.bool (neg .eql (t == o && 0 == 0)))|_,_=>none):=by kernel_rfl
 rw[e,ht,ho];rfl
theorem zhZ(n:Nat){h:ze}{ns:List Nd}{N:Nx}(r:Rep h ns N){x y:Nd}(hx:x∈ns)(hy:y∈ns):∃ b,call (n+1) 245 [.ptr x.b 0,.ptr y.b 0] h=some (.ret [.bool b],h):=by
 rw[zlK];unfold znf Yl Yi Yr;rw[zl6 (r.at_ x hx) (r.at_ y hy),za,zm];split
 . exact⟨_,rfl⟩
 . rw[r.read hx,zo,if_pos (by omega),x.get1,za,ZT,za,zm];split
   . exact⟨_,rfl⟩
   . rw[r.read hy,zo,if_pos (by omega),y.get1,za,ZT,za,zm];split
     . exact⟨_,rfl⟩
     . rw[r.read hx,zo,if_pos (by omega),x.get0,za,r.read hy,zo,if_pos (by omega),y.get0,za,zi3,za];exact⟨_,rfl⟩
theorem zpc(n:Nat)(h:ze)(v k:Int):call (n+1) 232 [.int .i32 v,.int .i64 k] h=some (.ret [.ptr h.length 0],h++[.box 10 ([.int .i32 v,.int .i64 (max 1 (min k 8))]++jC (fun _=>zdE))]):=by
 rw[zto];unfold tall Yr Yn;have e:(if (1:Int) < (if 8 < k then 8 else k) then(if 8 < k then 8 else k) else 1)=max 1 (min k 8):=by
  by_cases h1:8 < k
  . simp only[if_pos h1];omega
  . simp only[if_neg h1];split <;> omega
 rw[e];rfl
theorem nv_int(k:IntKind)(a:Nat):nv (V.int k (a:Int))=some a:=z3 _ _
theorem Q4(k b o:Nat):ZD k (.ptr b o)=some (.ptr b (o+k)):=rfl
theorem XT(l:List V):lcs (V.agg l)=l:=rfl
theorem zbS(cs:List V)(o:Nat)(y:V):setR cs o [y]=cs.set o y:=rfl
theorem zl7(n:Nat)(s:Nat)(h:ze)(r0:List V)(hr:r0.length=8):∀ (d k M:Nat) (cs:List V),k+d=8->d < M->cs.length=8->(∀ j,j < k->cs[j]?=some (.ptr s 0)) →
    zV M (W2 n s) [.agg r0,.agg cs,.int .i64 (k:Int)] h=some (.ret [.agg (ZQ (fun _=>s))],h):=by
 intro d
 induction d with
 | zero =>
   intro k M cs h1 h2 h3 h4;obtain⟨M,rfl⟩:∃ M',M=M'+1:=⟨M - 1,by omega⟩;obtain rfl:k=8:=by omega
   have hcs:cs=ZQ (fun _=>s):=by
    apply ZM;intro j;by_cases hj:j < 8
    . rw[h4 j hj,zcE _ hj]
    . rw[zS (by omega),zS (by rw[Z8];omega)]
   subst hcs;rw[zK];unfold W2 Yi Ya Yg Yr;have hl:((ZQ (fun _=>s)).drop 0 |>.take 8)=ZQ (fun _=>s):=by rw[zR,zU (by rw[Z8];exact zn _)]
   simp only[gv,zg,zi,zy,za,zm,XT,hl,Z8];rw[if_neg (by decide),if_pos (by first|trivial|rfl),if_pos (by omega)];have:setR r0 0 (ZQ (fun _=>s))=ZQ (fun _=>s):=by
    rw[YY (by rw[Z8];omega),J9,zX,Z8,ZC (by omega),z6]
   rw[this,hl]
 | succ d ih =>
   intro k M cs h1 h2 h3 h4;obtain⟨M,rfl⟩:∃ M',M=M'+1:=⟨M - 1,by omega⟩;have hlt:decide ((k:Int) < 8)=true:=by simp;omega
   have key:∀ next,W2 n s [.agg r0,.agg cs,.int .i64 (k:Int)] h next=next [.agg r0,.agg (cs.set k (.ptr s 0)),.int .i64 ((k+1:Nat):Int)] h:=by
    intro next
    unfold W2 Yi Ya Yg Yr;simp only[gv,zg,zi,zy,za,zm,XT,hlt,if_true,nv_int];rw[if_pos (by omega),if_pos (by first|exact⟨trivial,by omega⟩|omega),zA,za,Xl (show k < lim by unfold lim;omega),Z9,zbS]
   rw[zK,key];refine ih (k+1) M _ (by omega) (by omega) (by rw[zw];exact h3) fun j hj=>?_;rw[Zd];split
   . rename_i e;rw[if_pos (by omega)]
   . exact h4 j (by omega)
theorem zfa(n:Nat)(h:ze)(s:Nat)(hn:8 < n):call (n+1) 230 [.ptr s 0] h=some (.ret [.agg (ZQ (fun _=>s))],h):=by
 rw[zhu];unfold zgp Yn;exact zl7 n s h _ rfl 8 0 n _ (by omega) hn rfl (fun j h=>by omega)
theorem zrw(n:Nat){ns:List Nd}(u:Nd)(hu:u∈ns)(P:Nat->Nat)(hP:∀ k,k < 8->∃ x∈ns,x.b=P k)(hne:∀ k,P k≠u.b)(N:Nx)(T:Nat)(hT:T<=8)(r0:List V)(hr:r0.length=8):∀ (d k M:Nat) (h:ze),k+d=T->d < M->Rep h ns (Ym N u.b P k) →
    ∃ h',zV M (KF n u.b (.int .i64 (T:Int))) [.agg (ZQ (fun j=>if j < k then u.b else P j)),.agg r0,.int .i64 (k:Int)] h=some (.ret [.agg (ZQ (fun j=>if j < T then u.b else P j))],h')/\Rep h' ns (Ym N u.b P T)/\h'.length=h.length/\∀ i,(∀ x∈ns,x.b≠i)->h'[i]?=h[i]?:=by
 intro d
 induction d with
 | zero =>
   intro k M h h1 h2 hr';obtain⟨M,rfl⟩:∃ M',M=M'+1:=⟨M - 1,by omega⟩;obtain rfl:k=T:=by omega
   refine⟨h,?_,hr',rfl,fun _ _=>rfl⟩;rw[zK];unfold KF Yl Yi Yw Ya Yg Yr;have hlt:decide ((k:Int) < (k:Int))=false:=by simp
   have hl:∀ Q,((ZQ Q).drop 0 |>.take 8)=ZQ Q:=fun Q=>by rw[zR,zU (by rw[Z8];exact zn _)]
   simp only[gv,zg,zi,zy,za,zm,XT,hlt,zt,if_false,hl,Z8];rw[if_pos (by first|trivial|rfl),if_pos (by omega)];have:∀ Q,setR r0 0 (ZQ Q)=ZQ Q:=fun Q=>by
    rw[YY (by rw[Z8];omega),J9,zX,Z8,ZC (by omega),z6]
   rw[this,hl]
 | succ d ih =>
   intro k M h h1 h2 hr';obtain⟨M,rfl⟩:∃ M',M=M'+1:=⟨M - 1,by omega⟩;have hk:k < 8:=by omega
   obtain⟨x,hx,hxb⟩:=hP k hk;have hlt:decide ((k:Int) < (T:Int))=true:=by simp;omega
   have hone:=hr'.one x hx k;rw[hxb] at hone;obtain⟨w1,r1⟩:=hr'.write hu hk (Ym N u.b P k (P k) k) hone;obtain⟨w2,r2⟩:=r1.write hx hk (.ptr u.b 0) rfl;rw[hxb] at w2 r2;have hg:(ZQ (fun j=>if j < k then u.b else P j))[k]?=some (.ptr (P k) 0):=by rw[zcE _ hk,if_neg (by omega)]
   have hrd:Zv h (.ptr (P k) (2+k))=some (x.cells (Ym N u.b P k),10+x.post.length,2+k):=by rw[<- hxb];exact hr'.read hx _
   have hgx:(x.cells (Ym N u.b P k))[2+k]?=some (Ym N u.b P k (P k) k):=by rw[x.get _ hk,hxb]
   obtain⟨h',e,b1,b2,b3⟩:=ih (k+1) M _ (by omega) (by omega) r2;have hset:(ZQ (fun j=>if j < k then u.b else P j)).set k (.ptr u.b 0)=ZQ (fun j=>if j < k+1 then u.b else P j):=by
    rw[zgG _ hk];congr 1;funext j;by_cases e1:j=k
    . rw[if_pos e1,if_pos (by omega)]
    . rw[if_neg e1];by_cases e2:j < k
      . rw[if_pos e2,if_pos (by omega)]
      . rw[if_neg e2,if_neg (by omega)]
   refine⟨h',?_,b1,by rw[b2,zw,zw],fun i hi=>?_⟩
   . rw[zK];have key:∀ next,KF n u.b (.int .i64 (T:Int)) [.agg (ZQ (fun j=>if j < k then u.b else P j)),.agg r0,.int .i64 (k:Int)] h next=next [.agg (ZQ (fun j=>if j < k+1 then u.b else P j)),.agg r0,.int .i64 ((k+1:Nat):Int)] ((h.set u.b (.box (10+u.post.length) (u.cells (KO (Ym N u.b P k) u.b k (Ym N u.b P k (P k) k))))).set (P k) (.box (10+x.post.length) (x.cells (KO (KO (Ym N u.b P k) u.b k (Ym N u.b P k (P k) k)) (P k) k (.ptr u.b 0))))):=by
      intro next
      unfold KF Yl Yi Yw Ya Yg Yr;simp only[gv,zg,zi,zy,za,zm,XT,hlt,if_true,nv_int,Q4,Z9,zq,hg,hrd,zo,hgx,hone,zD,zP,w1,w2,zZ,zbS,hset,zA,Xl (show k < lim by unfold lim;omega)];rw[if_pos hk,if_pos (by omega),if_pos hk,if_pos (by omega),if_pos hk,if_pos hk,if_pos (by omega),if_pos hk,if_pos hk,if_pos (by first|exact⟨trivial,by omega⟩|omega)]
     rw[key];exact e
   . rw[b3 i hi,zd (by rw[<- hxb];exact hi x hx),zd (hi u hu)]
theorem zrx (n : Nat) {h : ze} {ns : List Nd} {N : Nx} (r : Rep h ns N) (u : Nd) (hu : u ∈ ns) {T : Nat} (hut : u.ht = (T : Int)) (hT : T <= 8) (P : Nat -> Nat) (hP : ∀ k, k < 8 -> ∃ x ∈ ns, x.b = P k) (hne : ∀ k, P k ≠ u.b) (hn : 8 < n) :
    ∃ h',call (n+1) 231 [.agg (ZQ P),.ptr u.b 0] h=some (.ret [.agg (ZQ (fun j=>if j < T then u.b else P j))],h')/\Rep h' ns (Ym N u.b P T)/\h'.length=h.length/\∀ i,(∀ x∈ns,x.b≠i)->h'[i]?=h[i]?:=by
 obtain⟨h',e,b1,b2,b3⟩:=zrw n u hu P hP hne N T hT [V.val (.pointer none),V.val (.pointer none),V.val (.pointer none),V.val (.pointer none),V.val (.pointer none),V.val (.pointer none),V.val (.pointer none),V.val (.pointer none)] rfl T 0 n h (by omega) (by omega) r;refine⟨h',?_,b1,b2,b3⟩;rw[zlL];unfold zng Yl Yn;rw[if_pos (by first|rfl|exact Z8 P),r.read hu,zo,if_pos (by omega),u.get1,za,hut];have e0:(fun j=>if j < 0 then u.b else P j)=P:=by funext j;rw[if_neg (by omega)]
 rw[e0] at e;exact e
def nds(s:Nat)(many most:Int)(ts:List Tw):List Nd:=ndH s many most :: ts.map ndT
structure SkAt(h:ze)(s:Nat)(ts:List Tw)(most:Int)(N:Nx):Prop where
 rep:Rep h (nds s (ts.length:Int) most ts) N
 lk:Linked s ts N
 up:Rise ts
 ht:∀ t∈ts,1<=t.ht/\t.ht<=8
theorem YP(s:Nat)(many most:Int)(ts:List Tw):(nds s many most ts).map Nd.b=s :: ts.map Tw.b:=by
 unfold nds;rw[zW,List.map_map];rfl
theorem zbT{s:Nat}{many most:Int}{ts:List Tw}{i:Nat}(hi:i<=ts.length):∃ x∈nds s many most ts,x.b=XH s ts i:=by
 cases i with
 | zero=>exact⟨_,zG ..,rfl⟩
 | succ i =>
   obtain⟨t,ht⟩:∃ t,ts[i]?=some t:=⟨_,zf (by omega)⟩;exact⟨ndT t,zu _ (Zg (zM ht)),by simp only[XH,getD_some ht];rfl⟩
theorem zl8{ts:List Tw}{k k' i:Nat}(h:k'<=k)(ho:YT ts k i):YT ts k' i:=by
 cases i with
 | zero=>trivial
 | succ i=>obtain⟨t,ht,hk⟩:=ho;exact⟨t,ht,by omega⟩
theorem zry:@zeG=@QM:=rfl
theorem zrz:@zeH=@QM:=rfl
theorem zts(n:Nat){h:ze}{s:Nat}{ts:List Tw}{many most:Int}{N:Nx}(r:Rep h (nds s many most ts) N)(lk:Linked s ts N)(up:Rise ts)(v:Int){k:Nat}(hk:k < 8)(cs r0:List V)(hcs:cs.length=8)(last:V)(next3:List V->ze->Option (Res×ze))(sv0 sv1:V):∀ (d i M:Nat),i+d=ts.length+1->d < M+1->i<=XV ts v->YT ts k i->0 < M →
    zV M (QM n v [sv0,sv1,last,.int .i64 (k:Int)] next3) [.agg cs,.agg r0,.ptr (XH s ts i) 0,nx k (ts.drop i)] h=next3 [.agg (cs.set k (.ptr (XH s ts (XD ts k (XV ts v))) 0)),.agg r0,.ptr (XH s ts (XD ts k (XV ts v))) 0,.int .i64 (IntKind.i64.wrap ((k:Int) - 1))] h:=by
 intro d
 induction d using Nat.strongRecOn with
 | _ d ih =>
 intro i M h1 h2 h3 h4 hM;obtain⟨M,rfl⟩:∃ M',M=M'+1:=⟨M - 1,by omega⟩;have hul:=zay ts v;have hend:(∀ m t,i<=m->m < XV ts v->ts[m]?=some t->¬ k < t.ht)->XD ts k (XV ts v)=i:=fun hn=>ze7 h4 _ h3 hul hn;rw[zK];rcases zkd (k:=k) (ts:=ts) i with ⟨f1,f2⟩|⟨m,t,f1,f2,f3,f4,f5⟩
 . have hl:=hend fun m t a1 a2 a3=>f2 m t a1 a3;have hnx:nx k (ts.drop i)=V.val (.pointer none):=by unfold nx;rw[f1];rfl
   rw[hl,hnx];have key:∀ next21,QM n v [sv0,sv1,last,.int .i64 (k:Int)] next3 [.agg cs,.agg r0,.ptr (XH s ts i) 0,.val (.pointer none)] h next21=next3 [.agg (cs.set k (.ptr (XH s ts i) 0)),.agg r0,.ptr (XH s ts i) 0,.int .i64 (IntKind.i64.wrap ((k:Int) - 1))] h:=by
    intro next21;unfold QM Yl Yi Yg Yn;simp only[gv,zg,zi,ze9,za,zm,zt,if_false,nv_int,XT,V.cells,zD,zP,Z9,zbS,ZF];rw[if_pos hk,if_pos (by first|trivial|rfl),if_pos (by first|exact⟨trivial,by omega⟩|omega)]
   rw[key]
 . have hnx:nx k (ts.drop i)=V.ptr t.b 0:=by unfold nx;rw[f4]
   have hmem:ndT t∈nds s many most ts:=zu _ (Zg (zM f2));have hrd:=r.read hmem;have hrd0:∀ o,Zv h (.ptr t.b o)=some ((ndT t).cells N,10,o):=fun o=>hrd o;have hml:=(zj.1 f2).1;rw[hnx];by_cases hv:t.v<=v
   . have hmu:m < XV ts v:=(zaa up v f2).2 hv;have hgx:((ndT t).cells N)[2+k]?=some (nx k (ts.drop (m+1))):=by
      rw[(ndT t).get _ hk];have:=lk.tw m t k f2 hk;rw[if_pos f3] at this;rw[<- this];rfl
     have hp:XH s ts (m+1)=t.b:=by simp only[XH,getD_some f2]
     have IH:=ih (ts.length+1 - (m+1)) (by omega) (m+1) M (by omega) (by omega) (by omega) ⟨t,f2,f3⟩ (by omega);rw[hp] at IH;have key:∀ next21,QM n v [sv0,sv1,last,.int .i64 (k:Int)] next3 [.agg cs,.agg r0,.ptr (XH s ts i) 0,.ptr t.b 0] h next21=next21 [.agg cs,.agg r0,.ptr t.b 0,nx k (ts.drop (m+1))] h:=by
      intro next21;unfold QM Yl Yi Yg Yn;simp only[gv,zg,zi,zbh,za,zm,if_true,Q4,zq,z8,Z9,hrd0,zo,Nd.get0,zdd,nv_int,hgx,XT];rw[if_pos (by omega),if_pos (by exact decide_eq_true hv),if_pos hk,if_pos (by omega)]
     rw[key];exact IH
   . have hmu:¬ m < XV ts v:=fun h=>hv ((zaa up v f2).1 h);have hl:=hend fun m' t' a1 a2 a3=>f5 m' t' a1 (by omega) a3;rw[hl];have key:∀ next21,QM n v [sv0,sv1,last,.int .i64 (k:Int)] next3 [.agg cs,.agg r0,.ptr (XH s ts i) 0,.ptr t.b 0] h next21=next3 [.agg (cs.set k (.ptr (XH s ts i) 0)),.agg r0,.ptr (XH s ts i) 0,.int .i64 (IntKind.i64.wrap ((k:Int) - 1))] h:=by
      intro next21;unfold QM Yl Yi Yg Yn;simp only[gv,zg,zi,zbh,za,zm,if_true,Q4,zq,z8,Z9,hrd0,zo,Nd.get0,zdd,nv_int,XT,V.cells,zD,zP,zbS,ZF];rw[if_pos (by omega),if_neg (by exact fun e=>hv (of_decide_eq_true e)),if_pos hk,if_pos (by first|exact⟨trivial,by omega⟩|omega)]
     rw[key]
theorem zpd(Q:Nat->Nat)(r0:List V)(hr:r0.length=8):(((setR r0 0 ((ZQ Q).drop 0 |>.take 8))).drop 0 |>.take 8)=ZQ Q:=by
 have hl:((ZQ Q).drop 0 |>.take 8)=ZQ Q:=by rw[zR,zU (by rw[Z8];exact zn _)]
 have:setR r0 0 (ZQ Q)=ZQ Q:=by
  rw[YY (by rw[Z8];omega),J9,zX,Z8,ZC (by omega),z6]
 rw[hl,this,hl]
theorem zgH(Q:Nat->Nat):((ZQ Q).drop 0 |>.take 8)=ZQ Q:=by rw[zR,zU (by rw[Z8];exact zn _)]
theorem ztt(n:Nat){h:ze}{s:Nat}{ts:List Tw}{many most:Int}{N:Nx}(r:Rep h (nds s many most ts) N)(lk:Linked s ts N)(up:Rise ts)(v:Int)(Q:Nat->Nat)(hQ:∀ k,k < 8->Q k<=XV ts v/\YT ts k (Q k))(r0:List V)(hr:r0.length=8)(hn:ts.length < n):∀ (c M:Nat) (last:V),c<=8->c < M →
    ((last=.val (.pointer none)/\c=8)\/∃ i,last=.ptr (XH s ts i) 0/\i<=XV ts v/\YT ts c i) →
    zV M (WJ (n+1) v) [.agg (ZQ (fun k=>if c<=k then XH s ts (XD ts k (XV ts v)) else XH s ts (Q k))),.agg r0,last,.int .i64 ((c:Int) - 1)] h=some (.ret [.agg (ZQ (fun k=>XH s ts (XD ts k (XV ts v))))],h):=by
 intro c
 induction c with
 | zero =>
   intro M last h1 h2 h3;obtain⟨M,rfl⟩:∃ M',M=M'+1:=⟨M - 1,by omega⟩;rw[zK];unfold WJ Yl Yi Yg Yr Yn Yp;have hlt:decide ((((0:Nat):Int) - 1) ≥ 0)=false:=by decide
   have e:(fun k=>if 0<=k then XH s ts (XD ts k (XV ts v)) else XH s ts (Q k))=fun k=>XH s ts (XD ts k (XV ts v)):=by funext k;rw[if_pos (z2 _)]
   simp only[gv,zg,zi,Z7,za,zm,hlt,zt,if_false,XT,e,zpd _ r0 hr];simp only[zgH,Z8];rw[if_pos (by first|trivial|rfl),if_pos (by omega)]
 | succ k ih =>
   intro M last h1 h2 h3;obtain⟨M,rfl⟩:∃ M',M=M'+1:=⟨M - 1,by omega⟩;have hk:k < 8:=by omega
   have hul:=zay ts v;have hge:decide ((((k+1:Nat):Int) - 1) ≥ 0)=true:=by simp
   have hki:(((k+1:Nat):Int) - 1)=(k:Int):=by omega
   have hwr:IntKind.i64.wrap ((k:Int) - 1)=(k:Int) - 1:=by rw[w64] <;> omega
   obtain⟨q1,q2⟩:=hQ k hk;have hpk:(ZQ (fun j=>if k+1<=j then XH s ts (XD ts j (XV ts v)) else XH s ts (Q j)))[k]?=some (.ptr (XH s ts (Q k)) 0):=by rw[zcE _ hk,if_neg (by omega)]
   have hstep:(ZQ (fun j=>if k+1<=j then XH s ts (XD ts j (XV ts v)) else XH s ts (Q j))).set k (.ptr (XH s ts (XD ts k (XV ts v))) 0)=ZQ (fun j=>if k<=j then XH s ts (XD ts j (XV ts v)) else XH s ts (Q j)):=by
    rw[zgG _ hk];congr 1;funext j;by_cases e1:j=k
    . rw[if_pos e1,if_pos (by omega),e1]
    . rw[if_neg e1];by_cases e2:k+1<=j
      . rw[if_pos e2,if_pos (by omega)]
      . rw[if_neg e2,if_neg (by omega)]
   have hon:YT ts k (XD ts k (XV ts v)):=q9 ts k _ hul;have IH:=ih M (.ptr (XH s ts (XD ts k (XV ts v))) 0) (by omega) (by omega) (.inr ⟨_,rfl,Ww ts k _,hon⟩);have walk:∀ i,i<=XV ts v->YT ts k i->∀ lst,zV (n+1) (QM (n+1) v [.agg (ZQ (fun j=>if k+1<=j then XH s ts (XD ts j (XV ts v)) else XH s ts (Q j))),.agg r0,lst,.int .i64 (k:Int)] (zV M (WJ (n+1) v))) [.agg (ZQ (fun j=>if k+1<=j then XH s ts (XD ts j (XV ts v)) else XH s ts (Q j))),.agg r0,.ptr (XH s ts i) 0,nx k (ts.drop i)] h=some (.ret [.agg (ZQ (fun k=>XH s ts (XD ts k (XV ts v))))],h):=fun i hi hi2 lst=>by
    rw[zts (n+1) r lk up v hk _ r0 (Z8 _) lst _ _ _ (ts.length+1 - i) i (n+1) (by omega) (by omega) hi hi2 (by omega),hstep,hwr];exact IH
   have rdQ:∀ i,i<=XV ts v->YT ts k i->∃ cs m,Zv h (.ptr (XH s ts i) (2+k))=some (cs,m,2+k)/\2+k+1<=m/\cs[2+k]?=some (nx k (ts.drop i)):=fun i hi hi2=>by
    obtain⟨x,hx,hxb⟩:=zbT (s:=s) (many:=many) (most:=most) (ts:=ts) (i:=i) (by omega);refine⟨x.cells N,10+x.post.length,by rw[<- hxb];exact r.read hx _,by omega,?_⟩;rw[x.get _ hk,hxb,lk.at_ hk hi2]
   obtain⟨cs,m,c1,c2,c3⟩:=rdQ (Q k) q1 q2;rw[zK,hki];rcases h3 with ⟨rfl,h8⟩|⟨i,rfl,i1,i2⟩
   . have key:∀ next,WJ (n+1) v [.agg (ZQ (fun j=>if k+1<=j then XH s ts (XD ts j (XV ts v)) else XH s ts (Q j))),.agg r0,.val (.pointer none),.int .i64 (k:Int)] h next=zV (n+1) (QM (n+1) v [.agg (ZQ (fun j=>if k+1<=j then XH s ts (XD ts j (XV ts v)) else XH s ts (Q j))),.agg r0,.val (.pointer none),.int .i64 (k:Int)] next) [.agg (ZQ (fun j=>if k+1<=j then XH s ts (XD ts j (XV ts v)) else XH s ts (Q j))),.agg r0,.ptr (XH s ts (Q k)) 0,nx k (ts.drop (Q k))] h:=by
       intro next
       unfold WJ Yl Yi Yg Yr Yn Yp;simp only[gv,zg,zi,Z7,za,zm];rw[if_pos (decide_eq_true (Int.natCast_nonneg k)),zkf,za,zm,if_pos rfl];simp only[nv_int,za,XT,Z9,hpk,Q4,zq,z8,c1,zo,c3];rw[if_pos hk,if_pos (by omega),if_pos hk,if_pos (by omega)]
     rw[key];exact walk (Q k) q1 q2 _
   . have i2':=zl8 (k':=k) (by omega) i2;obtain⟨ds,m',d1,d2,d3⟩:=rdQ i i1 i2';obtain⟨x,hx,hxb⟩:=zbT (s:=s) (many:=many) (most:=most) (ts:=ts) (i:=Q k) (by omega);obtain⟨y,hy,hyb⟩:=zbT (s:=s) (many:=many) (most:=most) (ts:=ts) (i:=i) (by omega);obtain⟨b,hb⟩:=zhZ n r hx hy;rw[hxb,hyb] at hb;have key:∀ next,WJ (n+1) v [.agg (ZQ (fun j=>if k+1<=j then XH s ts (XD ts j (XV ts v)) else XH s ts (Q j))),.agg r0,.ptr (XH s ts i) 0,.int .i64 (k:Int)] h next=zV (n+1) (QM (n+1) v [.agg (ZQ (fun j=>if k+1<=j then XH s ts (XD ts j (XV ts v)) else XH s ts (Q j))),.agg r0,.ptr (XH s ts i) 0,.int .i64 (k:Int)] next) [.agg (ZQ (fun j=>if k+1<=j then XH s ts (XD ts j (XV ts v)) else XH s ts (Q j))),.agg r0,.ptr (XH s ts (if b then Q k else i)) 0,nx k (ts.drop (if b then Q k else i))] h:=by
      intro next
      unfold WJ Yl Yi Yg Yr Yn Yp;simp only[gv,zg,zi,Z7,za,zm];rw[if_pos (decide_eq_true (Int.natCast_nonneg k)),zke,za,zm,if_neg (by decide)];simp only[nv_int,za,XT,Z9,hpk];rw[if_pos hk,if_pos (by omega),hb,zH,zC,zm];cases b with
      | true =>
        rw[if_pos rfl];simp only[nv_int,za,XT,Z9,hpk,Q4,zq,z8,c1,zo,c3,if_true,zry];rw[if_pos hk,if_pos (by omega),if_pos hk,if_pos (by omega)]
      | false =>
        rw[if_neg (by decide)];simp only[nv_int,za,XT,Z9,Q4,zq,z8,d1,zo,d3,zt,if_false,zrz];rw[if_pos hk,if_pos (by omega)]
     rw[key];cases b with
     | true=>exact walk (Q k) q1 q2 _
     | false=>exact walk i i1 i2' _
theorem ztu (n : Nat) {h : ze} {s : Nat} {ts : List Tw} {many most : Int} {N : Nx} (r : Rep h (nds s many most ts) N) (lk : Linked s ts N) (up : Rise ts) (v : Int) (Q : Nat -> Nat) (hQ : ∀ k, k < 8 -> Q k <= XV ts v /\ YT ts k (Q k)) (hn : ts.length + 8 < n) :
    call (n+2) 238 [.agg (ZQ (fun k=>XH s ts (Q k))),.int .i32 v] h=some (.ret [.agg (ZQ (fun k=>XH s ts (XD ts k (XV ts v))))],h):=by
 rw[show n+2=(n+1)+1 from rfl,zoV];unfold zqS Yn;rw[if_pos (Z8 _)];have e:=ztt n r lk up v Q hQ [V.val (.pointer none),V.val (.pointer none),V.val (.pointer none),V.val (.pointer none),V.val (.pointer none),V.val (.pointer none),V.val (.pointer none),V.val (.pointer none)] rfl (by omega) 8 (n+1) (.val (.pointer none)) (by omega) (by omega) (.inl ⟨rfl,rfl⟩);have e0:ZQ (fun k=>if 8<=k then XH s ts (XD ts k (XV ts v)) else XH s ts (Q k))=ZQ (fun k=>XH s ts (Q k)):=by
  unfold ZQ;apply List.map_congr_left;intro k hk;have:=Zc.1 hk;simp only;rw[if_neg (by omega)]
 rw[e0] at e;exact e
end Go.Proofs.Tryz
namespace Go.Sk
open Go.L
theorem ztv{ts:List Tw}{k j:Nat}(hj:j<=ts.length):nx k (ts.drop (XD ts k j))=nx k (ts.drop j):=by
 have hl:=Ww ts k j;unfold nx;rw[zgD hl hj];have:qu k ((ts.take j).drop (XD ts k j))=none:=by
  cases h:qu k ((ts.take j).drop (XD ts k j)) with
  | none=>rfl
  | some t =>
    obtain⟨m,h1,h2,h3,h4⟩:=zaW h;exact absurd h4 (zbg ts k j m t h1 h2 h3)
 unfold qu at this ⊢;rw[JW,this];rfl
theorem zkg(ts:List Tw)(j:Nat)(u:Tw):(ins ts j u).Perm (u :: ts):=by
 unfold ins;refine List.perm_middle.trans ?_;rw[Zu]
theorem zbU{ts:List Tw}{j:Nat}{u t:Tw}:t∈ins ts j u ↔ t=u\/t∈ts:=by rw[(zkg ts j u).mem_iff,zN]
def zaI(N:Nx)(b:Nat):Nx:=fun b' k=>if b'=b then zdE else N b' k
end Go.Sk
namespace Go.Proofs.Tryz
open Go.L Go.Rp Go.Sk
set_option maxRecDepth 100000
def skB(s:Nat)(ts:List Tw):List Nat:=s :: ts.map Tw.b
theorem SkAt.nd{h:ze}{s:Nat}{ts:List Tw}{most:Int}{N:Nx}(S:SkAt h s ts most N):(skB s ts).Nodup:=by
 have:=S.rep.nd;rwa[YP] at this
theorem SkAt.lt{h:ze}{s:Nat}{ts:List Tw}{most:Int}{N:Nx}(S:SkAt h s ts most N):∀ b∈skB s ts,b < h.length:=fun b hb=>by
 unfold skB at hb;rw[<- YP s (ts.length:Int) most] at hb;obtain⟨x,hx,rfl⟩:=ZL.1 hb;exact zQ (S.rep.at_ x hx)
theorem SkAt.keep{h h':ze}{s:Nat}{ts:List Tw}{most:Int}{N:Nx}(S:SkAt h s ts most N)(hk:∀ b∈skB s ts,h'[b]?=h[b]?):SkAt h' s ts most N :=
 ⟨S.rep.keep fun x hx=>hk _ (by unfold skB;rw[<- YP s (ts.length:Int) most];exact Zg hx),S.lk,S.up,S.ht⟩
theorem zpe{N:Nx}{b:Nat}(h:∀ k,N b k=zdE):jC (N b)=jC (fun _=>zdE):=by
 congr 1;funext k;exact h k
theorem zkh (n : Nat) {h : ze} {s : Nat} {ts : List Tw} {most : Int} {N : Nx} (S : SkAt h s ts most N) (v kk : Int) (Q : Nat -> Nat) (hQ : ∀ k, k < 8 -> Q k <= XV ts v /\ YT ts k (Q k)) (hn : ts.length + 8 < n) (hlim : ts.length < lim) :
    ∃ (u:Tw) (h1 h2:ze) (N':Nx) (cs:List V) (B:HB),u.b=h.length/\u.v=v/\(u.ht:Int)=max 1 (min kk 8) ∧
     call (n+2) 238 [.agg (ZQ (fun k=>XH s ts (Q k))),.int .i32 v] h=some (.ret [.agg (ZQ (fun k=>XH s ts (XD ts k (XV ts v))))],h) ∧
     call (n+2) 232 [.int .i32 v,.int .i64 kk] h=some (.ret [.ptr u.b 0],h1) ∧
     call (n+2) 231 [.agg (ZQ (fun k=>XH s ts (XD ts k (XV ts v)))),.ptr u.b 0] h1=some (.ret [.agg (ZQ (fun k=>XH s (ins ts (XV ts v) u) (XD (ins ts (XV ts v) u) k (XV ts v+1))))],h2) ∧
     Zv h2 (.ptr s 10)=some (cs,12,10)/\cs[10]?=some (.int .i64 (ts.length:Int))/\Zl h2 [.int .i64 ((ts.length+1:Nat):Int)] (.ptr s 10)=some (s,B) ∧
     SkAt (h2.set s B) s (ins ts (XV ts v) u) most N'/\(h2.set s B).length=h.length+1/\∀ i,i < h.length->i ∉ skB s ts->(h2.set s B)[i]?=h[i]?:=by
 obtain⟨T,hT⟩:∃ T:Nat,(T:Int)=max 1 (min kk 8):=⟨(max 1 (min kk 8)).toNat,Xx (by omega)⟩;have hT1:1<=T/\T<=8:=by omega
 have hul:=zay ts v;have hlt:=S.lt;have hnd:=S.nd;have hon:=ztu n S.rep S.lk S.up v Q hQ hn;have htall:=zpc (n+1) h v kk;obtain⟨P,hPe⟩:∃ P:Nat->Nat,P=fun k=>XH s ts (XD ts k (XV ts v)):=⟨_,rfl⟩;rw[<- hPe] at hon;obtain⟨u,hu⟩:∃ u:Tw,u=⟨h.length,v,T⟩:=⟨_,rfl⟩;have hub:u.b=h.length:=by rw[hu]
 have huT:u.ht=T:=by rw[hu]
 have huv:u.v=v:=by rw[hu]
 have hfresh:∀ b∈skB s ts,b≠h.length:=fun b hb e=>by have:=hlt b hb;omega
 have hPin:∀ k,P k∈skB s ts:=fun k=>by
  rw[hPe];obtain⟨x,hx,hxb⟩:=zbT (s:=s) (many:=(ts.length:Int)) (most:=most) (ts:=ts) (i:=XD ts k (XV ts v)) (by have:=Ww ts k (XV ts v);omega);simp only;rw[<- hxb];unfold skB;rw[<- YP s (ts.length:Int) most];exact Zg hx
 obtain⟨h1,hh1⟩:∃ h1:ze,h1=h++[.box 10 ([.int .i32 v,.int .i64 (max 1 (min kk 8))]++jC (fun _=>zdE))]:=⟨_,rfl⟩;rw[<- hh1] at htall;have hN1:∀ b∈skB s ts,zaI N h.length b=N b:=fun b hb=>by funext k;unfold zaI;rw[if_neg (hfresh b hb)]
 have r1:Rep h1 (ndT u :: nds s (ts.length:Int) most ts) (zaI N h.length):=by
  refine⟨fun x hx=>?_,?_,fun x hx k=>?_⟩
  . rcases zN.1 hx with rfl|hx
    . show h1[u.b]?=some (.box (10+0) ([.int .i32 u.v,.int .i64 (u.ht:Int)]++(jC (zaI N h.length u.b)++[])));rw[hub,hh1,zx,huv,huT,hT,z6,zpe (N:=zaI N h.length) (b:=h.length) (fun k=>by unfold zaI;rw[if_pos rfl])]
    . have hb:x.b∈skB s ts:=by unfold skB;rw[<- YP s (ts.length:Int) most];exact Zg hx
      have:=S.rep.at_ x hx;unfold zab at this ⊢;rw[hh1,zk (hlt _ hb),this];unfold Nd.cells;rw[hN1 _ hb]
  . rw[zW,YP];refine Zt.2 ⟨fun hm=>hfresh _ hm hub,hnd⟩
  . rcases zN.1 hx with rfl|hx
    . have e:zaI N h.length (ndT u).b k=zdE:=if_pos hub;rw[e];rfl
    . have hb:x.b∈skB s ts:=by unfold skB;rw[<- YP s (ts.length:Int) most];exact Zg hx
      rw[hN1 _ hb];exact S.rep.one x hx k
 have hPne:∀ k,P k≠u.b:=fun k e=>hfresh _ (hPin k) (e.trans hub);obtain⟨h2,e3,r2,l2,f2⟩:=zrx (n+1) r1 (ndT u) (zG ..) (T:=T) (by show ((u.ht:Nat):Int)=_;rw[huT]) hT1.2 P (fun k hk=>by
     have:=hPin k;unfold skB at this;rw[<- YP s (ts.length:Int) most] at this;obtain⟨x,hx,hxb⟩:=ZL.1 this;exact⟨x,zu _ hx,hxb⟩) hPne (by omega)
 have hlk:Linked s (ins ts (XV ts v) u) (Ym (zaI N h.length) u.b P T):=by
  have hnd':=Zt.1 hnd;refine S.lk.ins hnd'.2 hnd'.1 (fun e=>hfresh s (zG ..) (e.symm.trans hub)) (fun hm=>hfresh _ (zu _ hm) hub) hul (fun k hk=>?_) (fun k hk hku=>?_) (fun b k hk hb1 hb2=>?_)
  . rw[huT];by_cases hkT:k < T
    . rw[if_pos hkT,(zdN (zaI N h.length) u.b P hPne T k hkT).1,hN1 _ (hPin k),hPe];simp only;rw[S.lk.at_ hk (q9 ts k _ hul),ztv hul]
    . rw[if_neg hkT,zbR _ _ _ _ _ _ (by omega),hub];unfold zaI;rw[if_pos rfl]
  . rw[huT] at hku;have:=(zdN (zaI N h.length) u.b P hPne T k hku).2.1;rw[hPe] at this;rw[hPe];exact this
  . have hbN:zaI N h.length b k=N b k:=by unfold zaI;rw[if_neg (by rw[<- hub];exact hb1)]
    by_cases hkT:k < T
    . rw[(zdN (zaI N h.length) u.b P hPne T k hkT).2.2 b hb1 (by rw[hPe];exact hb2 (by rw[huT];exact hkT)),hbN]
    . rw[zbR _ _ _ _ _ _ (by omega),hbN]
 have hpath:ZQ (fun j=>if j < T then(ndT u).b else P j)=ZQ (fun k=>XH s (ins ts (XV ts v) u) (XD (ins ts (XV ts v) u) k (XV ts v+1))):=by
  congr 1;funext k;rw[zhY hul,huT];by_cases hkT:k < T
  . rw[if_pos hkT,if_pos hkT];simp only[XH,getD_some (zhX hul)];rfl
  . rw[if_neg hkT,if_neg hkT,zrv hul (Ww _ _ _),hPe]
 rw[hpath] at e3;have hhd:=r2.at_ (ndH s (ts.length:Int) most) (zu _ (zG ..));have hcell:=r2.read (x:=ndH s (ts.length:Int) most) (zu _ (zG ..)) 10;have hc10:∀ (many:Int) (M:Nx),((ndH s many most).cells M)[10]?=some (.int .i64 many):=fun many M=>by
  unfold Nd.cells;rw[zJ (by simp),zJ (by rw[QN];simp)];simp[QN,ndH]
 have hset:∀ (a b:Int) (M:Nx),setR ((ndH s a most).cells M) 10 [.int .i64 b]=(ndH s b most).cells M:=fun a b M=>by
  show (List.set _ _ _)=_;unfold Nd.cells;rw[Zi _ _ (by simp),Zi _ _ (by rw[QN];simp)];congr 1
  try simp[QN,ndH]
 have hsl:=zQ hhd;have hw:Zl h2 [.int .i64 ((ts.length+1:Nat):Int)] (.ptr s 10)=some (s,.box 12 ((ndH s ((ts.length+1:Nat):Int) most).cells (Ym (zaI N h.length) u.b P T))):=by
  have h0:h2[s]?=some (.box 12 ((ndH s (ts.length:Int) most).cells (Ym (zaI N h.length) u.b P T))):=hhd;rw[Zx h0 (by simp),hset]
 refine⟨u,h1,h2,_,_,_,hub,huv,by rw[huT];exact hT,hPe ▸ hon,by rw[hub];exact htall,hPe ▸ e3,hcell,hc10 _ _,hw,⟨⟨fun x hx=>?_,?_,fun x hx k=>?_⟩,hlk,?_,fun t ht=>?_⟩,?_,fun i hi hib=>?_⟩
 . rcases zN.1 hx with rfl|hx
   . rw[znB hul];exact ZU hsl _
   . obtain⟨t,ht,rfl⟩:=ZL.1 hx;have hm:ndT t∈ndT u :: nds s (ts.length:Int) most ts:=by
      rcases zbU.1 ht with rfl|ht
      . exact zG ..
      . exact zu _ (zu _ (Zg ht))
     have hne:t.b≠s:=by
      rcases zbU.1 ht with rfl|ht
      . intro e;exact hfresh s (zG ..) (e.symm.trans hub)
      . intro e;exact(Zt.1 hnd).1 (e ▸ Zg ht)
     unfold zab;rw[zd (show s≠(ndT t).b from Ne.symm hne)];exact r2.at_ _ hm
 . rw[YP];have hp:((ins ts (XV ts v) u).map Tw.b).Perm ((u :: ts).map Tw.b):=(zkg ts _ u).map _;have hnd':=Zt.1 hnd;refine Zt.2 ⟨fun hm=>?_,hp.nodup_iff.2 ?_⟩
   . rcases zN.1 (hp.mem_iff.1 hm) with e|hm
     . exact hfresh s (zG ..) (e.trans hub)
     . exact hnd'.1 hm
   . rw[zW];exact Zt.2 ⟨fun hm=>hfresh _ (zu _ hm) hub,hnd'.2⟩
 . rcases zN.1 hx with rfl|hx
   . exact r2.one (ndH s (ts.length:Int) most) (zu _ (zG ..)) k
   . obtain⟨t,ht,rfl⟩:=ZL.1 hx;rcases zbU.1 ht with rfl|ht
     . exact r2.one _ (zG ..) k
     . exact r2.one _ (zu _ (zu _ (Zg ht))) k
 . have:=S.up.ins u;rwa[huv] at this
 . rcases zbU.1 ht with rfl|ht
   . rw[huT];exact hT1
   . exact S.ht t ht
 . rw[zw,l2,hh1,zL];rfl
 . have his:i≠s:=fun e=>hib (e ▸ zG ..);rw[zd (Ne.symm his),f2 i fun x hx e=>?_,hh1,zk hi];rcases zN.1 hx with rfl|hx
   . have:(ndT u).b=h.length:=hub;omega
   . refine hib ?_;unfold skB;rw[<- YP s (ts.length:Int) most,<- e];exact Zg hx
theorem zaz(s:Nat)(many most:Int)(M:Nx):((ndH s many most).cells M)[10]?=some (.int .i64 many):=by
 unfold Nd.cells;rw[zJ (by simp),zJ (by rw[QN];simp)];simp[QN,ndH]
theorem zcF(s:Nat)(many most:Int)(M:Nx):((ndH s many most).cells M)[11]?=some (.int .i64 most):=by
 unfold Nd.cells;rw[zJ (by simp),zJ (by rw[QN];simp)];simp[QN,ndH]
theorem zrA(s:Nat)(a b most:Int)(M:Nx):setR ((ndH s a most).cells M) 10 [.int .i64 b]=(ndH s b most).cells M:=by
 show (List.set _ _ _)=_;unfold Nd.cells;rw[Zi _ _ (by simp),Zi _ _ (by rw[QN];simp)];congr 1
 try simp[QN,ndH]
theorem SkAt.head{h:ze}{s:Nat}{ts:List Tw}{most:Int}{N:Nx}(S:SkAt h s ts most N)(o:Nat):Zv h (.ptr s o)=some ((ndH s (ts.length:Int) most).cells N,12,o):=S.rep.read (x:=ndH s (ts.length:Int) most) (zG ..) o
theorem SkAt.hb{h:ze}{s:Nat}{ts:List Tw}{most:Int}{N:Nx}(S:SkAt h s ts most N):h[s]?=some (.box 12 ((ndH s (ts.length:Int) most).cells N)):=S.rep.at_ _ (zG ..)
theorem zgI(n:Nat){h:ze}{s:Nat}{ts:List Tw}{most:Int}{N:Nx}(S:SkAt h s ts most N):call (n+1) 226 [.ptr s 0] h=some (.ret [.int .i64 most],h):=by
 refine(zjk n s h).trans ?_;unfold zjj Yl Yi Yr Yn;rw[KJ,za,zm,if_neg (by decide),S.head,zo,if_pos (by decide),zcF,za]
theorem zbV(n:Nat){h:ze}{s:Nat}{ts:List Tw}{most:Int}{N:Nx}(S:SkAt h s ts most N):call (n+1) 218 [.ptr s 0] h=some (.ret [.int .i64 (ts.length:Int)],h):=by
 refine(zlJ n s h).trans ?_;unfold zne Yl Yi Yr Yn;rw[KJ,za,zm,if_neg (by decide),S.head,zo,if_pos (by decide),zaz,za]
structure Put(h h':ze)(s:Nat)(ts ts':List Tw)(most:Int)(v kk:Int):Prop where
 sk:∃ N,SkAt h' s ts' most N
 ins:∃ u:Tw,u.b=h.length/\u.v=v/\(u.ht:Int)=max 1 (min kk 8)/\ts'=Go.Sk.ins ts (XV ts v) u
 len:h'.length=h.length+1
 old:∀ i,i < h.length->i ∉ skB s ts->h'[i]?=h[i]?
theorem zcG(k:IntKind)(a:Int):V.cells (.int k a)=[.int k a]:=rfl
theorem zki (n : Nat) {h : ze} {s : Nat} {ts : List Tw} {most : Int} {N : Nx} (S : SkAt h s ts most N) (v kk : Int) (hn : ts.length + 8 < n) (hlim : ts.length < lim) (hm : (ts.length : Int) < most) :
    ∃ h' ts',call (n+3) 233 [.ptr s 0,.int .i32 v,.int .i64 kk] h=some (.ret [.bool true],h')/\Put h h' s ts ts' most v kk:=by
 obtain⟨u,h1,h2,N',cs,B,a1,a2,a3,e1,e2,e3,c1,c2,w,S',l',f'⟩:=zkh n S v kk (fun _=>0) (fun k _=>⟨z2 _,trivial⟩) hn hlim;refine⟨h2.set s B,_,?_,⟨⟨N',S'⟩,⟨u,a1,a2,a3,rfl⟩,l',f'⟩⟩;refine(zfD (n+2) s v kk h).trans ?_;unfold zeI Yl Yi Yw Ya Yr Yn Yp;have hb:=zfa (n+1) h s (by omega);have hb':call (n+2) 230 [.ptr s 0] h=some (.ret [.agg (ZQ (fun _=>XH s ts 0))],h):=hb;rw[KJ,za,zm,if_neg (by decide),S.head,zo,if_pos (by decide),zaz,za,S.head,zo,if_pos (by decide),zcF,za,Z7,za,zm];rw[if_neg (by intro e;have:=of_decide_eq_true e;omega),hb',zH,zC,e1,zH,zC,e2,zH,zC,e3,zH,zC,c1,zo,if_pos (by decide),c2,za,zA,za,Xl hlim,zcG,if_pos (by rfl),w,zZ]
def K9 (N : Nx) (s b : Nat) : Nat -> Nx
 | 0=>N
 | k+1=>KO (K9 N s b k) s k (K9 N s b k b k)
theorem zkj (N : Nx) {s b : Nat} (hsb : s ≠ b) : ∀ K, (∀ b' k, b' ≠ s -> K9 N s b K b' k = N b' k) /\ ∀ k, K9 N s b K s k = if k < K then N b k else N s k
 | 0=>⟨fun _ _ _=>rfl,fun k=>by rw[if_neg (by omega)];rfl⟩
 | K+1=>by
   obtain⟨h1,h2⟩:=zkj N hsb K;refine⟨fun b' k hb=>?_,fun k=>?_⟩
   . simp only[K9,KO];rw[if_neg (fun e=>hb e.1)];exact h1 b' k hb
   . simp only[K9,KO];by_cases e:k=K
     . rw[if_pos (by first|exact⟨rfl,e⟩|exact⟨trivial,e⟩),h1 b K (Ne.symm hsb),if_pos (by omega),e]
     . rw[if_neg (fun h=>e h.2),h2 k];by_cases h3:k < K
       . rw[if_pos h3,if_pos (by omega)]
       . rw[if_neg h3,if_neg (by omega)]
structure Took(h h':ze)(s:Nat)(ts:List Tw)(most:Int):Prop where
 sk:∃ N,SkAt h' s ts most N
 len:h'.length=h.length
 old:∀ i,i≠s->h'[i]?=h[i]?
theorem zrB(n:Nat){ns:List Nd}{N:Nx}{x t:Nd}(hx:x∈ns)(ht:t∈ns)(hne:x.b≠t.b)(T:Nat)(hT:T<=8):∀ (d k M:Nat) (h:ze),k+d=T->d < M->Rep h ns (K9 N x.b t.b k) →
    ∃ h' M',zV M (Jo n x.b (.ptr t.b 0) (.int .i64 (T:Int))) [.int .i64 (k:Int)] h=Jo n x.b (.ptr t.b 0) (.int .i64 (T:Int)) [.int .i64 (T:Int)] h' (zV M' (Jo n x.b (.ptr t.b 0) (.int .i64 (T:Int))))/\Rep h' ns (K9 N x.b t.b T)/\h'.length=h.length/\∀ i,i≠x.b->h'[i]?=h[i]?:=by
 intro d
 induction d with
 | zero =>
   intro k M h h1 h2 r;obtain⟨M,rfl⟩:∃ M',M=M'+1:=⟨M - 1,by omega⟩;obtain rfl:k=T:=by omega
   exact⟨h,M,zK ..,r,rfl,fun _ _=>rfl⟩
 | succ d ih =>
   intro k M h h1 h2 r;obtain⟨M,rfl⟩:∃ M',M=M'+1:=⟨M - 1,by omega⟩;have hk:k < 8:=by omega
   have hlt:decide ((k:Int) < (T:Int))=true:=by simp;omega
   have hone:=r.one t ht k;obtain⟨w,r'⟩:=r.write hx hk (K9 N x.b t.b k t.b k) hone;have hrd:=r.read ht (2+k);have hg:=t.get (K9 N x.b t.b k) hk;have key:∀ next,Jo n x.b (.ptr t.b 0) (.int .i64 (T:Int)) [.int .i64 (k:Int)] h next=next [.int .i64 ((k+1:Nat):Int)] (h.set x.b (.box (10+x.post.length) (x.cells (KO (K9 N x.b t.b k) x.b k (K9 N x.b t.b k t.b k))))):=by
    intro next
    unfold Jo Yl Yi Yw Ya Yg Yr;simp only[gv,zg,zy,za,zm,hlt,if_true,nv_int,Q4,Z9,zq,hrd,zo,hg,hone,zD,zP,w,zZ,zA,Xl (show k < lim by unfold lim;omega)];rw[if_pos hk,if_pos (by omega),if_pos hk]
   obtain⟨h',M',e,b1,b2,b3⟩:=ih (k+1) M _ (by omega) (by omega) r';exact⟨h',M',by rw[zK,key];exact e,b1,by rw[b2,zw],fun i hi=>by rw[b3 i hi,zd (Ne.symm hi)]⟩
theorem zrC (n : Nat) {h : ze} {s : Nat} {t : Tw} {ts : List Tw} {most : Int} {N : Nx} (S : SkAt h s (t :: ts) most N) (hn : 8 < n) (hlim : ts.length + 1 < lim) :
    ∃ h',call (n+2) 239 [.ptr s 0] h=some (.ret [.int .i32 t.v,.bool true],h')/\Took h h' s ts most:=by
 have hmem:ndT t∈nds s ((t :: ts).length:Int) most (t :: ts):=zu _ (Zg (zG ..));have hmh:ndH s ((t :: ts).length:Int) most∈nds s ((t :: ts).length:Int) most (t :: ts):=zG ..;have hht:=S.ht t (zG ..);have hnd:=S.nd;have hne:s≠t.b:=fun e=>(Zt.1 hnd).1 (e ▸ zG ..);have hnx:N s 0=.ptr t.b 0:=by
  have:=S.lk.hd 0 (by omega);rw[this];unfold nx qu;rw[List.find?_cons,decide_eq_true (by omega)]
 have h2:((ndH s ((t :: ts).length:Int) most).cells N)[2]?=some (.ptr t.b 0):=by
  have:=(ndH s ((t :: ts).length:Int) most).get N (k:=0) (by omega);rw[z8] at this;rw[this];exact congrArg some hnx
 have hT1:∀ o,Zv h (.ptr t.b o)=some ((ndT t).cells N,10,o):=fun o=>S.rep.read hmem o;have hend:∀ h' next,Rep h' (nds s ((t :: ts).length:Int) most (t :: ts)) (K9 N s t.b t.ht)->h'.length=h.length->(∀ i,i≠s->h'[i]?=h[i]?) →
     Jo (n+1) s (.ptr t.b 0) (.int .i64 (t.ht:Int)) [.int .i64 (t.ht:Int)] h' next=some (.ret [.int .i32 t.v,.bool true],h'.set s (.box 12 ((ndH s (ts.length:Int) most).cells (K9 N s t.b t.ht)))):=fun h' next r hl hf=>by
  unfold Jo Yl Yi Yw Ya Yg Yr;have hlt:decide ((t.ht:Int) < (t.ht:Int))=false:=by simp
  have hrd:Zv h' (.ptr s 10)=some ((ndH s ((t :: ts).length:Int) most).cells (K9 N s t.b t.ht),12,10):=r.read hmh 10;have hb:h'[s]?=some (.box 12 ((ndH s ((t :: ts).length:Int) most).cells (K9 N s t.b t.ht))):=r.at_ _ hmh;have hsub:IntKind.i64.wrap (((ts.length+1:Nat):Int) - 1)=(ts.length:Int):=by unfold lim at hlim;rw[w64] <;> omega
  have hw:Zl h' [.int .i64 (ts.length:Int)] (.ptr s 10)=some (s,.box 12 ((ndH s (ts.length:Int) most).cells (K9 N s t.b t.ht))):=by rw[Zx hb (by simp),zrA]
  have hrt:Zv (h'.set s (.box 12 ((ndH s (ts.length:Int) most).cells (K9 N s t.b t.ht)))) (.ptr t.b 0)=some ((ndT t).cells (K9 N s t.b t.ht),10,0):=by
   refine zI ?_ 0;rw[zd hne];exact r.at_ _ hmem
  simp only[gv,zg,zy,za,zm,hlt,zt,if_false,hrd,zo,zaz,ZF,hsub,zcG,zD,zP,hw,zZ,Q4,zq,hrt,Nd.get0];rw[if_pos (by omega),if_pos (by first|trivial|rfl),if_pos (by omega)];rfl
 obtain⟨h',M',e,b1,b2,b3⟩:=zrB (n+1) hmh hmem hne t.ht hht.2 t.ht 0 (n+1) h (by omega) (by omega) S.rep;have e2:=hend h' (zV M' (Jo (n+1) s (.ptr t.b 0) (.int .i64 (t.ht:Int)))) b1 b2 b3;have hbs:=b1.at_ _ hmh;have hsl:=zQ hbs;refine⟨h'.set s (.box 12 ((ndH s (ts.length:Int) most).cells (K9 N s t.b t.ht))),?_,⟨⟨K9 N s t.b t.ht,⟨⟨fun x hx=>?_,?_,fun x hx k=>?_⟩,?_,(Z6.1 S.up).2,fun u hu=>S.ht u (zu _ hu)⟩⟩,by rw[zw,b2],fun i hi=>by rw[zd (Ne.symm hi),b3 i hi]⟩⟩
 . refine(zeJ (n+1) s h).trans ?_;unfold zhw Yl Yi Yr Yp;rw[zbV n S,zH,zC,ZT,za,zm,if_neg (by simp;omega),S.head,zo,if_pos (by decide),h2,za,Q4,za,zq,Q4,za,zq,hT1,zo,if_pos (by decide),Nd.get1,za];exact e.trans e2
 . rcases zN.1 hx with rfl|hx
   . exact ZU hsl _
   . obtain⟨u,hu,rfl⟩:=ZL.1 hx;have hne':u.b≠s:=fun e=>(Zt.1 hnd).1 (e ▸ Zg (zu _ hu));unfold zab;rw[zd (show s≠(ndT u).b from Ne.symm hne')];exact b1.at_ _ (zu _ (Zg (zu _ hu)))
 . rw[YP];have h1:=Zt.1 hnd;rw[zW] at h1;exact Zt.2 ⟨fun hm=>h1.1 (zu _ hm),(Zt.1 h1.2).2⟩
 . rcases zN.1 hx with rfl|hx
   . exact b1.one (ndH s ((t :: ts).length:Int) most) hmh k
   . obtain⟨u,hu,rfl⟩:=ZL.1 hx;exact b1.one _ (zu _ (Zg (zu _ hu))) k
 . have h1:=Zt.1 hnd;obtain⟨m1,m2⟩:=zkj N hne t.ht;exact S.lk.tail h1.2 h1.1 (fun k _=>m2 k) (fun b k _ hb=>m1 b k hb)
theorem zrD(n:Nat){h:ze}{s:Nat}{most:Int}{N:Nx}(S:SkAt h s [] most N):call (n+2) 239 [.ptr s 0] h=some (.ret [.int .i32 0,.bool false],h):=by
 refine(zeJ (n+1) s h).trans ?_;unfold zhw Yl Yi Yr Yp;rw[zbV n S,zH,zC,ZT,za,zm,if_pos (by rfl)]
theorem zrE(n:Nat)(h:ze)(m:Int):∃ N,call (n+1) 61 [.int .i64 m] h=some (.ret [.ptr h.length 0],h++[.box 12 ((ndH h.length 0 (max 0 (min m 1000))).cells (fun _ _=>zdE))])/\SkAt (h++[.box 12 ((ndH h.length 0 (max 0 (min m 1000))).cells (fun _ _=>zdE))]) h.length [] (max 0 (min m 1000)) N:=by
 refine⟨fun _ _=>zdE,?_,⟨⟨fun x hx=>?_,by simp[nds],fun x hx k=>rfl⟩,⟨fun k hk=>rfl,fun i t k ht=>by simp at ht⟩,by simp[Rise],by simp⟩⟩
 . refine(zlI n m h).trans ?_;unfold znd Yr Yn;have e:(if (0:Int) < (if 1000 < m then 1000 else m) then(if 1000 < m then 1000 else m) else 0)=max 0 (min m 1000):=by
    by_cases h1:1000 < m
    . simp only[if_pos h1];omega
    . simp only[if_neg h1];split <;> omega
   rw[e];rfl
 . rcases zN.1 hx with rfl|hx
   . exact zx
   . simp at hx
theorem zfb(n:Nat)(a:Int)(h:ze):call (n+1) 247 [.int .i32 a] h=some (.ret [.bool false],h):=by
 refine(zqU n a h).trans ?_;unfold zuL Yr;simp
theorem zpf(n:Nat)(a b:Int)(h:ze):call (n+2) 244 [.int .i32 a,.int .i32 b] h=some (.ret [.bool (decide (a < b))],h):=by
 refine(zlN (n+1) a b h).trans ?_;unfold zni Yi Yr Yp;rw[zfb,zH,zC,zm,if_neg (by decide)]
def zrF(a b:Int):Int:=if a < b then -1 else if a > b then 1 else 0
theorem zh0(n:Nat)(a b:Int)(h:ze):call (n+2) 242 [.int .i32 a,.int .i32 b] h=some (.ret [.int .i64 (zrF a b)],h):=by
 refine(zfE (n+1) a b h).trans ?_;unfold zeL zrF Yr Yp;rw[zfb,zH,zC,zfb,zH,zC,zm,if_neg (by decide),zm,if_neg (by decide)];by_cases h1:a < b
 . rw[if_pos (by simpa using h1),if_pos h1]
 . rw[if_neg (by simpa using h1),if_neg h1];by_cases h2:a > b
   . rw[if_pos (by simpa using h2),if_pos h2]
   . rw[if_neg (by simpa using h2),if_neg h2]
def RowI(h:ze)(b:Nat)(k:IntKind)(e:Nat)(l:List Int):Prop:=∃ z,h[b]?=some (.row e 1 (l.map (Qs k)) z)
theorem RowI.keep{h h':ze}{b:Nat}{k:IntKind}{e:Nat}{l:List Int}(r:RowI h b k e l)(hk:h'[b]?=h[b]?):RowI h' b k e l:=by obtain⟨z,hz⟩:=r;exact⟨z,hk.trans hz⟩
theorem RowI.slc{h:ze}{b:Nat}{k:IntKind}{e:Nat}{l:List Int}(r:RowI h b k e l):ZI h (.row b 1 0 l.length)=some (1,l.map (Qs k)):=by
 obtain⟨z,hz⟩:=r;have:=Jh hz;rwa[zp] at this
theorem RowI.get{h:ze}{b:Nat}{k:IntKind}{e:Nat}{l:List Int}(r:RowI h b k e l){i:Nat}{x:Int}(hx:l[i]?=some x):Jz 1 i (.row b 1 0 l.length)=some (.rptr b 1 i 0)/\Zv h (.rptr b 1 i 0)=some ([.int k x],1,0):=by
 obtain⟨z,hz⟩:=r;have hi:=(zj.1 hx).1;refine⟨by simpa using Z3 (b:=b) (sz:=1) (lo:=0) (hi:=l.length) (n:=i) (by omega),ZJ hz (by decide) ?_⟩;rw[zF,hx];rfl
theorem zkk(n:Nat){h:ze}{b:Nat}{e:Nat}{l:List Int}(r:RowI h b .i32 e l)(hs:l.Pairwise (·<=·))(hl:l.length < lim):∀ (i M:Nat),i < l.length->i < M->∀ v0,zV M (WK (n+2) (.row b 1 0 l.length)) [v0,.int .i64 (i:Int)] h=some (.ret [.bool true],h):=by
 intro i
 induction i with
 | zero =>
   intro M h1 h2 v0;obtain⟨M,rfl⟩:∃ M',M=M'+1:=⟨M - 1,by omega⟩;rw[zK];unfold WK Yl Yi Yx Yr;simp only[gv,zg,zi,Qg,za,zm];rw[if_neg (by decide)]
 | succ i ih =>
   intro M h1 h2 v0;obtain⟨M,rfl⟩:∃ M',M=M'+1:=⟨M - 1,by omega⟩;obtain⟨x,hx⟩:∃ x,l[i+1]?=some x:=⟨_,zf h1⟩;obtain⟨y,hy⟩:∃ y,l[i]?=some y:=⟨_,zf (by omega)⟩;have hyx:y<=x:=by
    have:=QH.1 hs i (i+1) (by omega) h1 (by omega);rw[zf h1] at hx;rw[zf (by omega)] at hy;rw[<- Option.some.inj hx,<- Option.some.inj hy];exact this
   obtain⟨g1,g2⟩:=r.get hx;obtain⟨g3,g4⟩:=r.get hy;have hw:IntKind.i64.wrap (((i+1:Nat):Int) - 1)=(i:Int):=by unfold lim at hl;rw[w64] <;> omega
   have hgt:decide (((i+1:Nat):Int) > 0)=true:=by simp
   have key:∀ next,WK (n+2) (.row b 1 0 l.length) [v0,.int .i64 ((i+1:Nat):Int)] h next=next [v0,.int .i64 (i:Int)] h:=by
    intro next
    unfold WK Yl Yi Yx Yr;simp only[gv,zg,zi,Qg,za,zm,hgt,if_true,z3,zB,g1,g2,zo,ZF,hw,g3,g4,zq,zn,Nat.reduceLT,and_self,zb];rw[zpf,zH,zC,zm,if_neg (by intro e;have:=of_decide_eq_true e;omega)]
   rw[zK,key];exact ih M (by omega) (by omega) v0
theorem zkl(n:Nat){h:ze}{b:Nat}{e:Nat}{l:List Int}(r:RowI h b .i32 e l)(hs:l.Pairwise (·<=·))(hl:l.length < lim)(hn:l.length < n):call (n+3) 237 [.row b 1 0 l.length] h=some (.ret [.bool true],h):=by
 refine(zjm (n+2) _ h).trans ?_;unfold zjl;rw[r.slc,za];simp only[zp];rcases WE l.length with h0|h0
 . rw[h0];show zV ((n+1)+1) _ _ _=_;rw[zK];unfold WK Yl Yi Yx Yr;simp only[gv,zg,zi];have:IntKind.i64.wrap (((0:Nat):Int) - 1)=-1:=by decide
   rw[this,Qg,za,zm,if_neg (by decide)]
 . have hw:IntKind.i64.wrap ((l.length:Int) - 1)=((l.length - 1:Nat):Int):=by unfold lim at hl;rw[w64] <;> omega
   rw[hw];exact zkk n r hs hl _ (n+2) (by omega) (by omega) _
def itT(ts:List Tw):List (Int×Nat):=ts.map fun t=>(t.v,t.ht)
def zfU(l:List (Int×Nat))(v:Int)(T:Nat):List (Int×Nat):=l.takeWhile (fun p=>decide (p.1<=v))++(v,T) :: l.dropWhile (fun p=>decide (p.1<=v))
theorem zac {α : Type} (p : α -> Bool) : ∀ l : List α, l.take (l.takeWhile p).length = l.takeWhile p /\ l.drop (l.takeWhile p).length = l.dropWhile p
 | []=>⟨rfl,rfl⟩
 | a :: l=>by
   rw[List.takeWhile_cons,List.dropWhile_cons];cases p a with
   | true =>
     obtain⟨h1,h2⟩:=zac p l;exact⟨by simp[h1],by simpa using h2⟩
   | false=>simp
theorem ztw(ts:List Tw)(u:Tw):itT (ins ts (XV ts u.v) u)=zfU (itT ts) u.v u.ht:=by
 unfold itT ins zfU XV;obtain⟨h1,h2⟩:=zac (fun t:Tw=>decide (t.v<=u.v)) ts;rw[h1,h2,Zo,zW,List.takeWhile_map,List.dropWhile_map];rfl
def hOf(k:Int):Nat:=(max 1 (min k 8)).toNat
structure Grew(h h':ze)(s:Nat)(ts ts':List Tw)(most:Int):Prop where
 sk:∃ N,SkAt h' s ts' most N
 len:h.length<=h'.length
 old:∀ i,i < h.length->i ∉ skB s ts->h'[i]?=h[i]?
 new:∀ b∈skB s ts',b∈skB s ts\/h.length<=b
theorem Grew.refl{h:ze}{s:Nat}{ts:List Tw}{most:Int}(S:∃ N,SkAt h s ts most N):Grew h h s ts ts most:=⟨S,zn _,fun _ _ _=>rfl,fun _ h=>.inl h⟩
theorem Grew.trans{h h' h'':ze}{s:Nat}{ts ts' ts'':List Tw}{most:Int}(a:Grew h h' s ts ts' most)(b:Grew h' h'' s ts' ts'' most):Grew h h'' s ts ts'' most :=
 ⟨b.sk,ZY a.len b.len,fun i h1 h2=>(b.old i (by have:=a.len;omega) fun hm=>by rcases a.new i hm with h|h;exact h2 h;omega).trans (a.old i h1 h2),fun x hx=>by
  rcases b.new x hx with h|h
  . exact a.new x h
  . exact .inr (by have:=a.len;omega)⟩
theorem Put.grew{h h':ze}{s:Nat}{ts ts':List Tw}{most v kk:Int}(p:Put h h' s ts ts' most v kk):Grew h h' s ts ts' most:=by
 obtain⟨u,u1,u2,u3,u4⟩:=p.ins;refine⟨p.sk,by rw[p.len];omega,p.old,fun b hb=>?_⟩;rw[u4] at hb;rcases zN.1 hb with rfl|hb
 . exact .inl (zG ..)
 . obtain⟨t,ht,rfl⟩:=ZL.1 hb;rcases zbU.1 ht with rfl|ht
   . exact .inr (by rw[u1];exact zn _)
   . exact .inl (zu _ (Zg ht))
theorem Put.items{h h':ze}{s:Nat}{ts ts':List Tw}{most v kk:Int}(p:Put h h' s ts ts' most v kk):itT ts'=zfU (itT ts) v (hOf kk):=by
 obtain⟨u,u1,u2,u3,u4⟩:=p.ins;have:u.ht=hOf kk:=by unfold hOf;omega
 rw[u4,<- u2,ztw,this]
def zbi (l : List (Int × Nat)) : List (Int × Int) -> List (Int × Nat)
 | []=>l
 | p :: r=>zbi (zfU l p.1 (hOf p.2)) r
theorem zl9(n:Nat){s:Nat}{most:Int}(bl bm:Nat)(vs hs:List Int)(hlen:hs.length=vs.length)(hup:vs.Pairwise (·<=·))(hv:vs.length < lim):∀ (d k M:Nat) (h:ze) (ts:List Tw) (told:List (List V)) (Q:Nat->Nat) (v0 v3:V),k+d=vs.length->d < M->(∃ N,SkAt h s ts most N)->RowI h bl .i32 21 vs->RowI h bm .i64 3 hs->bl ∉ skB s ts->bm ∉ skB s ts →
    told.length=vs.length->(ts.length:Int)+d<=most->ts.length+d < lim->ts.length+d+9 < n->(∀ k' x,k' < 8->vs[k]?=some x->Q k'<=XV ts x/\YT ts k' (Q k')) →
    ∃ h' ts' told',zV M (Wt (n+2) s (.row bl 1 0 vs.length) (.row bm 1 0 hs.length) (1,vs.map (Qs .i32))) [v0,.sl 1 told false,.agg (ZQ (fun k'=>XH s ts (Q k'))),v3,.int .i64 (k:Int)] h=some (.ret [.sl 1 told' false],h')/\Grew h h' s ts ts' most/\itT ts'=zbi (itT ts) ((vs.zip hs).drop k):=by
 intro d
 induction d with
 | zero =>
   intro k M h ts told Q v0 v3 h1 h2 S rl rm nl nm ht hm hlm hn hQ;obtain⟨M,rfl⟩:∃ M',M=M'+1:=⟨M - 1,by omega⟩;obtain rfl:k=vs.length:=by omega
   refine⟨h,ts,told,?_,.refl S,?_⟩
   . rw[zK];unfold Wt Yc Yl Yi Yw Yx Ya Yg Yr Yp;simp only[gv,zg,zi,zp,zy,za,zm];rw[if_neg (by simp)];rfl
   . rw[ZC (by rw[List.length_zip];omega)];rfl
 | succ d ih =>
   intro k M h ts told Q v0 v3 h1 h2 S rl rm nl nm ht hm hlm hn hQ;obtain⟨M,rfl⟩:∃ M',M=M'+1:=⟨M - 1,by omega⟩;obtain⟨N,S⟩:=S;obtain⟨x,hx⟩:∃ x,vs[k]?=some x:=⟨_,zf (by omega)⟩;obtain⟨y,hy⟩:∃ y,hs[k]?=some y:=⟨_,zf (by omega)⟩;obtain⟨u,q1,q2,N',cs,B,a1,a2,a3,e1,e2,e3,c1,c2,w,S',l',f'⟩:=zkh n S x y Q (fun k' hk=>hQ k' x hk hx) (by omega) (by omega);obtain⟨g1,g2⟩:=rl.get hx;obtain⟨g3,g4⟩:=rm.get hy;have hlt:decide ((k:Int) < (vs.length:Int))=true:=by simp;omega
   have hlt2:decide ((k:Int) < (hs.length:Int))=true:=by simp;omega
   have hge:decide ((ts.length:Int) ≥ most)=false:=by simp;omega
   obtain⟨es,hes⟩:∃ es,told[k]?=some es:=⟨_,zf (by omega)⟩;have hP:Put h (q2.set s B) s ts (ins ts (XV ts x) u) most x y:=⟨⟨N',S'⟩,⟨u,a1,a2,a3,rfl⟩,l',f'⟩;have hbl:=zQ rl.choose_spec;have hbm:=zQ rm.choose_spec;have hnew:∀ b,b < h.length->b ∉ skB s ts->b ∉ skB s (ins ts (XV ts x) u):=fun b hb hn hm=>by rcases hP.grew.new b hm with h'|h';exact hn h';omega
   have hil:=znB (ts:=ts) (u:=u) (zay ts x);have hpt:∀ R,((ZQ R).drop 0 |>.take 8)=ZQ R:=zgH;obtain⟨h',ts',told',e,G,I⟩:=ih (k+1) M (q2.set s B) (ins ts (XV ts x) u) (told.set k (setR es 0 [.bool true])) (fun k'=>XD (ins ts (XV ts x) u) k' (XV ts x+1)) (.sl 1 (lsl v0) false) (.bool false) (by omega) (by omega) ⟨N',S'⟩ (rl.keep (f' _ hbl nl)) (rm.keep (f' _ hbm nm)) (hnew _ hbl nl) (hnew _ hbm nm) (by rw[zw];exact ht) (by rw[hil];omega) (by rw[hil];omega) (by rw[hil];omega) (fun k' x' hk' hx'=>by
    have hle:x<=x':=by
     have hk1:=(zj.1 hx').1;have:=QH.1 hup k (k+1) (by omega) hk1 (by omega);rw[zf (by omega)] at hx;rw[zf hk1] at hx';rw[<- Option.some.inj hx,<- Option.some.inj hx'];exact this
    have hj:XV ts x+1<=XV (ins ts (XV ts x) u) x':=(zaa S'.up x' (zhX (zay ts x))).2 (by rw[a2];exact hle);refine⟨ZY (Ww _ _ _) hj,q9 _ _ _ (by rw[hil];have:=zay ts x;omega)⟩)
   refine⟨h',ts',told',?_,hP.grew.trans G,?_⟩
   . rw[zK];have key:∀ next,Wt (n+2) s (.row bl 1 0 vs.length) (.row bm 1 0 hs.length) (1,vs.map (Qs .i32)) [v0,.sl 1 told false,.agg (ZQ (fun k'=>XH s ts (Q k'))),v3,.int .i64 (k:Int)] h next=next [.sl 1 (lsl v0) false,.sl 1 (told.set k (setR es 0 [.bool true])) false,.agg (ZQ (fun k'=>XH s (ins ts (XV ts x) u) (XD (ins ts (XV ts x) u) k' (XV ts x+1)))),.bool false,.int .i64 ((k+1:Nat):Int)] (q2.set s B):=by
      intro next
      unfold Wt Yc Yl Yi Yw Yx Ya Yg Yr Yp;simp only[gv,zg,zi,zp,zy,za,zm,hlt,hlt2,if_true,z3,zB,g1,g2,zo,zq,zn,Nat.reduceLT,and_self,zb,S.head,zaz,zcF,Nat.reduceAdd,Nat.reduceLeDiff,Z7,hge,zt,if_false,rm.slc,g3,g4,XT,hpt];rw[e1,zH,zC,e2,zH,zC,e3,zH,zC];have hpl:(V.cells (.agg (ZQ (fun k'=>XH s (ins ts (XV ts x) u) (XD (ins ts (XV ts x) u) k' (XV ts x+1))))))=ZQ (fun k'=>XH s (ins ts (XV ts x) u) (XD (ins ts (XV ts x) u) k' (XV ts x+1))):=rfl;have hpr:∀ R T,setR (ZQ R) 0 (ZQ T)=ZQ T:=fun R T=>by
       rw[YY (by rw[Z8,Z8];omega),J9,zX,Z8,ZC (by rw[Z8];omega),z6]
      simp only[hpl,Z8,hpr];rw[if_pos (by first|trivial|rfl),if_pos (by omega),c1,zo,if_pos (by decide),c2,za,zA,za,Xl (show ts.length < lim by omega),zcG,if_pos (by rfl),w,zZ];rw[if_pos (by exact⟨trivial,by show k < told.length;omega,by decide⟩),show lsl (V.sl 1 told false)=told from rfl,hes,za,zA,za,Xl (show k < lim by omega)]
     rw[key];exact e
   . rw[I,hP.items];have hz:(vs.zip hs).drop k=(x,y) :: (vs.zip hs).drop (k+1):=by
      rw[Zb (by rw[List.length_zip];omega)];congr 1;rw[List.getElem_zip];rw[zf (by omega)] at hx;rw[zf (by omega)] at hy;rw[Option.some.inj hx,Option.some.inj hy]
     rw[hz];rfl
theorem zma (n : Nat) {h : ze} {s : Nat} {ts : List Tw} {most : Int} (S : ∃ N, SkAt h s ts most N) (bl bm : Nat) (vs hs : List Int) (hlen : hs.length = vs.length) (hup : vs.Pairwise (· <= ·)) (rl : RowI h bl .i32 21 vs) (rm : RowI h bm .i64 3 hs) (nl : bl ∉ skB s ts) (nm : bm ∉ skB s ts)
    (hm:(ts.length:Int)+vs.length<=most) (hlm:ts.length+vs.length < lim) (hn:ts.length+vs.length+9 < n) :
    ∃ h' ts' told',call (n+3) 228 [.ptr s 0,.row bl 1 0 vs.length,.row bm 1 0 hs.length] h=some (.ret [.sl 1 told' false],h')/\Grew h h' s ts ts' most/\itT ts'=zbi (itT ts) (vs.zip hs):=by
 obtain⟨h',ts',told',e,G,I⟩:=zl9 n (s:=s) (most:=most) bl bm vs hs hlen hup (by omega) vs.length 0 (n+2) h ts (List.replicate vs.length [V.bool false]) (fun _=>0) (.sl 1 [] false) (.bool false) (by omega) (by omega) S rl rm nl nm (by simp) hm (by omega) (by omega) (fun _ _ _ _=>⟨z2 _,trivial⟩);refine⟨h',ts',told',?_,G,by rw[I,zR]⟩;refine(zhv (n+2) s _ _ h).trans ?_;unfold zgq Yc Yi Yg Yr Yn Yp;have hb:call (n+2) 230 [.ptr s 0] h=some (.ret [.agg (ZQ (fun _=>s))],h):=zfa (n+1) h s (by omega);have hso:call (n+2) 237 [.row bl 1 0 vs.length] h=some (.ret [.bool true],h):=by
  obtain⟨m,rfl⟩:∃ m,n=m+1:=⟨n - 1,by omega⟩;exact zkl m rl hup (by omega) (by omega)
 have fN:nv (V.int .i64 (vs.length:Int))=some vs.length:=z3 _ _;rw[rl.slc,za];simp only[zp];rw[fN,zB,zB,if_pos (by first|exact⟨zn _,by omega,rfl⟩|exact⟨trivial,by omega,trivial⟩|exact⟨zn _,by omega,trivial⟩),KJ,za,zm,if_neg (by decide),hso,zH,zC,Yu,za,zm,if_neg (by decide),hb,zH,zC];have hpl:V.cells (.agg (ZQ (fun _=>s)))=ZQ (fun _=>s):=rfl;rw[hpl,if_pos (Z8 _),if_pos (by rw[Z8];omega),rl.slc,za];have hpr:setR [V.val (.pointer none),V.val (.pointer none),V.val (.pointer none),V.val (.pointer none),V.val (.pointer none),V.val (.pointer none),V.val (.pointer none),V.val (.pointer none)] 0 (ZQ (fun _=>s))=ZQ (fun _=>s):=by
  rw[YY (by rw[Z8];decide),J9,zX,Z8];rfl
 rw[hpr];exact e
end Go.Proofs.Tryz
namespace Go.Sk
open Go.L
def lvV(k:Nat)(ts:List Tw):List Int:=(ts.filter fun t=>decide (k < t.ht)).map Tw.v
theorem zrG{k:Nat}{ts:List Tw}{i m:Nat}{t:Tw}(h1:i<=m)(h2:ts[m]?=some t)(h3:k < t.ht)(h5:∀ m' t',i<=m'->m' < m->ts[m']?=some t'->¬ k < t'.ht):lvV k (ts.drop i)=t.v :: lvV k (ts.drop (m+1)):=by
 obtain⟨d,rfl⟩:∃ d,m=i+d:=⟨m - i,by omega⟩
 induction d generalizing i with
 | zero =>
   have hi:=(zj.1 h2).1;rw[z8] at h2 hi;rw[Zb hi];rw[zf hi] at h2;rw[Option.some.inj h2];simp[lvV,h3]
 | succ d ih =>
   have hm:=(zj.1 h2).1;have hi:i < ts.length:=by omega
   have hn:=h5 i ts[i] (zn _) (by omega) (zf hi);have hst:lvV k (ts.drop i)=lvV k (ts.drop (i+1)):=by
    unfold lvV;rw[Zb hi,List.filter_cons,if_neg (by simpa using hn)]
   have:=ih (i:=i+1) (by omega) (by rw[show i+1+d=i+(d+1) by omega];exact h2) (fun m' t' a b c=>h5 m' t' (by omega) (by omega) c);rw[show i+1+d+1=i+(d+1)+1 by omega] at this;rw[hst,this]
theorem zrH{k:Nat}{ts:List Tw}{i:Nat}(h:∀ m t,i<=m->ts[m]?=some t->¬ k < t.ht):lvV k (ts.drop i)=[]:=by
 unfold lvV;rw[List.map_eq_nil_iff,List.filter_eq_nil_iff];intro t ht;obtain⟨m,hm⟩:=XM.1 ht;rw[Zh] at hm;simpa using h (i+m) t (by omega) hm
end Go.Sk
namespace Go.Proofs.Tryz
open Go.L Go.Rp Go.Sk
set_option maxRecDepth 100000
def zwm(h:ze)(c:Nat)(ob:Option Nat)(l:List Int):Prop:=match ob with
 | none=>l=[]/\h[c]?=some (.box 1 [.sl 0 [] true])
 | some b=>b≠c/\∃ z,h[c]?=some (.box 1 [.row b 1 0 l.length])/\h[b]?=some (.row 21 1 (l.map (Qs .i32)) z)
def SlI(h:ze)(lo:Nat)(r:V)(l:List Int):Prop:=(r=.sl 0 [] true/\l=[])\/∃ b z,lo<=b/\r=.row b 1 0 l.length/\h[b]?=some (.row 21 1 (l.map (Qs .i32)) z)
theorem znC:QT (zaF (Ja f70))=true/\QT (zaG (Ja f70))=true:=⟨by kernel_rfl,by kernel_rfl⟩
theorem ztx:((YX prog 132).isNone && (QT (zaF (Ja f70)) && QT (zaG (Ja f70))))=true:=by kernel_rfl
def zfV(y0 y1 y4:Option V)(x5:Nat)(y7 y8 y9 y10 y11 y12 y13 y14 y15 y16 y17 y18 y19:Option V):List (Option V):=[y0,y1,none,none,y4,some (V.ptr x5 0),none,y7,y8,y9,y10,y11,y12,y13,y14,y15,y16,y17,y18,y19,none,none,none,none,none,none,none,none,none]
noncomputable def zcH(D:Nat)(fr:List (Option V))(st:LSt):HB:=.loop D true fr [20] (zaF (Ja f70)) (zaG (Ja f70)) st
theorem zkm(n:Nat){h:ze}{b D:Nat}{vc:Bool}{fr:List (Option V)}{ps:List Nat}{ca cb:Code}(hb:h[b]?=some (.loop D vc fr ps ca cb .ready))(ys:List V)(hl:ys.length=ps.length)(h1:QT ca=true)(h2:QT cb=true):rnd n b ys h=zd8 prog (call n) QI Yd n (L.textDraws prog) vc fr ps ca cb b ys h:=by
 unfold rnd L.roundX;rw[hb];simp only[lpR];rw[if_pos ⟨hl,h1,h2⟩]
section
variable {y0 y1 y4 y7 y8 y9 y10 y11 y12 y13 y14 y15 y16 y17 y18 y19:Option V}
theorem zrI(n:Nat){h:ze}{b D x5:Nat}(hb:h[b]?=some (zcH D (zfV y0 y1 y4 x5 y7 y8 y9 y10 y11 y12 y13 y14 y15 y16 y17 y18 y19) .ready))(z:V):rnd n b [z] h=qU n x5 b z h :=
 (zkm n hb [z] rfl znC.1 znC.2).trans (zeK n y0 y1 y4 x5 y7 y8 y9 y10 y11 y12 y13 y14 y15 y16 y17 y18 y19 b z h)
structure LvAt(h hh:ze)(k:Int)(s:Nat)(l:List Int)(fr:List (Option V)):Prop where
 len:h.length+6<=hh.length
 old:∀ i,i < h.length->hh[i]?=h[i]?
 p0:hh[h.length]?=some (.box 1 [.ptr s 0])
 p1:hh[h.length+1]?=some (.box 1 [.int .i64 k])
 out:∃ ob,zwm hh (h.length+2) ob l/\∀ b,ob=some b->h.length+6<=b
 df:hh[h.length+4]?=some .defb
 lp:hh[h.length+5]?=some (zcH (h.length+4) fr .ready)
theorem zdO(x:Int):K6 prog 27 1 [(0,.int .i32 x)]=some (1,[[.int .i32 x]]):=by kernel_rfl
theorem zty (n : Nat) {h hh : ze} {k : Int} {s : Nat} {l : List Int} (L : LvAt h hh k s l (zfV y0 y1 y4 (h.length + 2) y7 y8 y9 y10 y11 y12 y13 y14 y15 y16 y17 y18 y19)) {x : Nd} {N : Nx} (hx : zab h N x) (hl : l.length + 1 < lim) :
    ∃ hh',rnd n (h.length+5) [.ptr x.b 0] hh=some (true,hh')/\LvAt h hh' k s (l++[x.v]) (zfV y0 y1 y4 (h.length+2) y7 y8 y9 y10 y11 y12 y13 y14 y15 y16 y17 y18 y19):=by
 rw[zrI n L.lp];have hlen:=L.len;have hxb:x.b < h.length:=zQ hx;unfold qU Yl Yw;rw[L.lp];simp only[zcH,lpR];generalize hbusy:HB.loop (h.length+4) true (zfV y0 y1 y4 (h.length+2) y7 y8 y9 y10 y11 y12 y13 y14 y15 y16 y17 y18 y19) [20] (zaF (Ja f70)) (zaG (Ja f70)) .busy=B;obtain⟨G,hG⟩:∃ G,G=hh.set (h.length+5) B:=⟨_,rfl⟩;rw[<- hG];have hGl:G.length=hh.length:=by rw[hG,zw]
 have hGo:∀ i,i≠h.length+5->G[i]?=hh[i]?:=fun i hi=>by rw[hG,zd (Ne.symm hi)]
 have hGb:G[h.length+5]?=some B:=by rw[hG];exact ZU (by omega) _
 have hGx:Zv G (.ptr x.b 0)=some (x.cells N,10+x.post.length,0):=by
  refine zI ?_ 0;rw[hGo _ (by omega),L.old _ hxb];exact hx
 obtain⟨ob,O,hob⟩:=L.out;have fin:∀ (G2:ze) (v:V) (b':Nat) (z:Bool),G2.length=G.length+1->b'=G.length->v=.row b' 1 0 (l.length+1)->G2[b']?=some (.row 21 1 ((l++[x.v]).map (Qs .i32)) z)->(∀ i,i < h.length+6->G2[i]?=G[i]?) →
     ∃ hh',lpB (((G2.set (h.length+2) (.box 1 [v]))[h.length+5]?)) (fun eD eV eF eP eA eB=>some (true,(G2.set (h.length+2) (.box 1 [v])).set (h.length+5) (HB.loop eD eV eF eP eA eB .ready)))=some (true,hh')/\LvAt h hh' k s (l++[x.v]) (zfV y0 y1 y4 (h.length+2) y7 y8 y9 y10 y11 y12 y13 y14 y15 y16 y17 y18 y19):=fun G2 v b' z e1 e2 e3 e4 e5=>by
  have hb5:(G2.set (h.length+2) (.box 1 [v]))[h.length+5]?=some B:=by rw[zd (by omega),e5 _ (by omega)];exact hGb
  rw[hb5,<- hbusy];simp only[lpB];have hoth:∀ i,i≠h.length+5->i≠h.length+2->((G2.set (h.length+2) (.box 1 [v])).set (h.length+5) (HB.loop (h.length+4) true (zfV y0 y1 y4 (h.length+2) y7 y8 y9 y10 y11 y12 y13 y14 y15 y16 y17 y18 y19) [20] (zaF (Ja f70)) (zaG (Ja f70)) .ready))[i]?=G2[i]?:=fun i h1 h2=>by
   rw[zd (Ne.symm h1),zd (Ne.symm h2)]
  refine⟨_,rfl,⟨by rw[zw,zw];omega,fun i hi=>?_,?_,?_,⟨some b',⟨by omega,z,?_,?_⟩,fun b hb=>by cases hb;omega⟩,?_,?_⟩⟩
  . rw[hoth i (by omega) (by omega),e5 i (by omega),hGo i (by omega),L.old i hi]
  . rw[hoth _ (by omega) (by omega),e5 _ (by omega),hGo _ (by omega),L.p0]
  . rw[hoth _ (by omega) (by omega),e5 _ (by omega),hGo _ (by omega),L.p1]
  . rw[zd (by omega),ZU (by omega),e3,zL];rfl
  . rw[hoth _ (by omega) (by omega)];exact e4
  . rw[hoth _ (by omega) (by omega),e5 _ (by omega),hGo _ (by omega),L.df]
  . exact ZU (by rw[zw];omega) _
 have hx0:(x.cells N)[0]?=some (.int .i32 x.v):=x.get0 N;cases ob with
 | none =>
   obtain⟨rfl,hc⟩:=O;have hc':G[h.length+2]?=some (.box 1 [.sl 0 [] true]):=by rw[hGo _ (by omega)];exact hc
   have jj:Ws 21 1 G [[.int .i32 x.v]] (.sl 0 [] true)=some (.row G.length 1 0 1,G++[.row 21 1 [[.int .i32 x.v]] true]):=rfl;have hw:Zl (G++[.row 21 1 [[.int .i32 x.v]] true]) [.row G.length 1 0 1] (.ptr (h.length+2) 0)=some (h.length+2,.box 1 [.row G.length 1 0 1]):=by
    rw[Zx (n:=1) (cs:=[.sl 0 [] true]) (by rw[zk (by omega)];exact hc') (by simp)];rfl
   rw[zI hc',zo,if_pos (by decide)];simp only[zb,za];rw[Q4,za,z8,Q4,za,z8,hGx,zo,if_pos (by omega),hx0,za,zdO,za,jj,zZ];simp only[V.cells,zD,zP,zq,if_true];rw[hw,zZ];exact fin _ _ G.length true (by simp) rfl rfl (by rw[zx];rfl) (fun i hi=>by rw[zk (by omega)])
 | some b0 =>
   obtain⟨o1,z,hc,hr⟩:=O;have hb0:=hob b0 rfl;have hc':G[h.length+2]?=some (.box 1 [.row b0 1 0 l.length]):=by rw[hGo _ (by omega)];exact hc
   have hr':G[b0]?=some (.row 21 1 (l.map (Qs .i32)) z):=by rw[hGo _ (by omega)];exact hr
   have hb0l:=zQ hr';have jj:Ws 21 1 G [[.int .i32 x.v]] (.row b0 1 0 l.length)=some (.row G.length 1 0 (l.length+1),G.set b0 .dead++[.row 21 1 (l.map (Qs .i32)++[[.int .i32 x.v]]) (z && 0 == 0)]):=by
    simp only[Ws,hr'];rw[if_pos (by refine⟨⟨?_,?_,?_⟩,⟨z2 _,by simp⟩,by simp;omega⟩ <;> first|trivial|rfl),zR,zU (by simp)];simp
   have hw:Zl (G.set b0 .dead++[.row 21 1 (l.map (Qs .i32)++[[.int .i32 x.v]]) (z && 0 == 0)]) [.row G.length 1 0 (l.length+1)] (.ptr (h.length+2) 0)=some (h.length+2,.box 1 [.row G.length 1 0 (l.length+1)]):=by
    rw[Zx (n:=1) (cs:=[.row b0 1 0 l.length]) (by rw[zk (by rw[zw];omega),zd (by omega)];exact hc') (by simp)];rfl
   rw[zI hc',zo,if_pos (by decide)];simp only[zb,za];rw[Q4,za,z8,Q4,za,z8,hGx,zo,if_pos (by omega),hx0,za,zdO,za,jj,zZ];simp only[V.cells,zD,zP,zq,if_true];rw[hw,zZ];refine fin _ _ G.length (z && 0 == 0) (by simp) rfl rfl ?_ (fun i hi=>by rw[zk (by rw[zw];omega),zd (by omega)]);have:G.length=(G.set b0 .dead).length:=by rw[zw]
   rw[this,zx,Zo];rfl
theorem ztz(n:Nat){h:ze}{s:Nat}{ts:List Tw}{most:Int}{N:Nx}(S:SkAt h s ts most N){k:Nat}(hk:k < 8)(hlim:ts.length < lim):∀ (d i M:Nat) (hh:ze) (l:List Int),i+d=ts.length+1->d < M+1->0 < M->l.length<=i->LvAt h hh ((k+1:Nat):Int) s l (zfV y0 y1 y4 (h.length+2) y7 y8 y9 y10 y11 y12 y13 y14 y15 y16 y17 y18 y19) →
    ∃ hh',zV M (YF n (h.length+5) (h.length+1)) [nx k (ts.drop i)] hh=some (.ret [],hh')/\LvAt h hh' ((k+1:Nat):Int) s (l++lvV k (ts.drop i)) (zfV y0 y1 y4 (h.length+2) y7 y8 y9 y10 y11 y12 y13 y14 y15 y16 y17 y18 y19):=by
 intro d
 induction d using Nat.strongRecOn with
 | _ d ih =>
 intro i M hh l h1 h2 hM hli L;obtain⟨M,rfl⟩:∃ M',M=M'+1:=⟨M - 1,by omega⟩;rcases zkd (k:=k) (ts:=ts) i with ⟨f1,f2⟩|⟨m,t,f1,f2,f3,f4,f5⟩
 . have hnx:nx k (ts.drop i)=V.val (.pointer none):=by unfold nx;rw[f1];rfl
   refine⟨hh,?_,by rw[zrH f2,z6];exact L⟩;rw[zK,hnx];unfold YF Yl Yi Yg Yr Yn;simp only[gv,zg,ze9,za,zm];rw[if_neg (by decide)]
 . have hnx:nx k (ts.drop i)=V.ptr t.b 0:=by unfold nx;rw[f4]
   have hmem:ndT t∈nds s (ts.length:Int) most ts:=zu _ (Zg (zM f2));have hml:=(zj.1 f2).1;obtain⟨hh1,r1,L1⟩:=zty n L (x:=ndT t) (S.rep.at_ _ hmem) (by omega);obtain⟨hh2,e,L2⟩:=ih (ts.length+1 - (m+1)) (by omega) (m+1) M hh1 (l++[t.v]) (by omega) (by omega) (by omega) (by simp;omega) L1;refine⟨hh2,?_,?_⟩
   . have htb:t.b < h.length:=zQ (S.rep.at_ _ hmem);have hrd:Zv hh1 (.ptr t.b (2+k))=some ((ndT t).cells N,10,2+k):=by
      refine zI ?_ _;rw[L1.old _ htb];exact S.rep.at_ _ hmem
     have hgx:((ndT t).cells N)[2+k]?=some (nx k (ts.drop (m+1))):=by
      rw[(ndT t).get _ hk];have:=S.lk.tw m t k f2 hk;rw[if_pos f3] at this;rw[<- this];rfl
     have hw:IntKind.i64.wrap (((k+1:Nat):Int) - 1)=(k:Int):=by rw[w64] <;> omega
     have r1':rnd n (h.length+5) [.ptr t.b 0] hh=some (true,hh1):=r1;have key:∀ next,YF n (h.length+5) (h.length+1) [.ptr t.b 0] hh next=next [nx k (ts.drop (m+1))] hh1:=by
      intro next
      unfold YF Yl Yi Yg Yr Yn;simp only[gv,zg,zbh,za,zm,if_true,r1',zZ];rw[zI L1.p1,zo,if_pos (by decide)];simp only[zb,za,ZF,hw,Q4,zq,nv_int,Z9,hrd,zo,hgx];rw[if_pos hk,if_pos (by omega)]
     rw[zK,hnx,key];exact e
   . rw[zrG f1 f2 f3 f5,show l++t.v :: lvV k (ts.drop (m+1))=(l++[t.v])++lvV k (ts.drop (m+1)) by simp];exact L2
end
theorem zmb (n : Nat) {h : ze} {s : Nat} {ts : List Tw} {most : Int} {N : Nx} (S : SkAt h s ts most N) {k : Nat} (hk : k < 8) (hlim : ts.length < lim) (hn : ts.length + 2 < n) :
    ∃ h' r,call (n+2) 70 [.ptr s 0,.int .i64 ((k+1:Nat):Int)] h=some (.ret [r],h')/\SlI h' h.length r (lvV k ts)/\h.length<=h'.length/\∀ i,i < h.length->h'[i]?=h[i]?:=by
 have he:=zhx (n+1) s ((k+1:Nat):Int) h;have hlv:call (n+1) 100 [.ptr s 0,.int .i64 ((k+1:Nat):Int)] h=some (.ret [.fn 132 [.ptr h.length 0,.ptr (h.length+1) 0]],h++[.box 1 [.ptr s 0],.box 1 [.int .i64 ((k+1:Nat):Int)]]):=by
  refine(zoW n s _ h).trans ?_;unfold zqT Yr;simp
 have h1:decide (((k+1:Nat):Int) < 1)=false:=by simp;omega
 have h8:decide (((k+1:Nat):Int) > 8)=false:=by simp;omega
 rw[he];unfold zgr Yl Yr Yn Yp;rw[KJ,za,zm,if_neg (by decide),if_neg (by rw[h1];decide),if_neg (by rw[h8];decide),hlv,zH,zC];simp only[zly];rw[if_pos ztx];simp only[zL,zD,zP,List.append_assoc,Z4,zX,ZR,zq,Nat.reduceAdd];have hS:∀ (T:List HB) i,(h++T)[h.length+i]?=T[i]?:=fun T i=>by rw[zJ (by omega),Qy]
 obtain⟨HS,hHS⟩:∃ HS:ze,HS=h++[HB.box 1 [V.ptr s 0],HB.box 1 [V.int IntKind.i64 ((k+1:Nat):Int)],HB.box 1 [V.sl 0 [] true],HB.row 21 1 [] true,HB.defb,zcH (h.length+4) (zfV (some (V.ptr s 0)) (some (V.int IntKind.i64 ((k+1:Nat):Int))) (some (V.row (h.length+3) 1 0 0)) (h.length+2) (some (V.ptr s 0)) (some (V.bool false)) (some (V.bool false)) (some (V.int IntKind.i64 ((k+1:Nat):Int))) (some (V.bool (decide (((k+1:Nat):Int) < 1)))) (some (V.bool (decide (((k+1:Nat):Int) < 1)))) (some (V.bool false)) (some (V.int IntKind.i64 ((k+1:Nat):Int))) (some (V.bool (decide (((k+1:Nat):Int) > 8)))) (some (V.bool false)) (some (V.ptr s 0)) (some (V.int IntKind.i64 ((k+1:Nat):Int))) (some (V.fn 132 [V.ptr h.length 0,V.ptr (h.length+1) 0]))) .ready]:=⟨_,rfl⟩;have hS0:∀ (T:List HB),(h++T)[h.length]?=T[0]?:=fun T=>hS T 0;have L0:LvAt h HS ((k+1:Nat):Int) s [] _:=⟨by rw[hHS];simp,fun i hi=>by rw[hHS,zk hi],by rw[hHS,hS0];rfl,by rw[hHS,hS];rfl,⟨none,⟨rfl,by rw[hHS,hS];rfl⟩,fun b hb=>by cases hb⟩,by rw[hHS,hS];rfl,by rw[hHS,hS];rfl⟩;obtain⟨hh',e,L⟩:=ztz n S hk hlim (ts.length+1) 0 n HS [] (by omega) (by omega) (by omega) (by simp) L0;rw[zR,zX] at L;have hit:call (n+1) 132 [.yld (h.length+5),.ptr h.length 0,.ptr (h.length+1) 0] HS=some (.ret [],hh'):=by
  refine(zlM n _ _ _ HS).trans ?_;unfold znh Yl Yg;have hw:IntKind.i64.wrap (((k+1:Nat):Int) - 1)=(k:Int):=by rw[w64] <;> omega
  have hsl:s < h.length:=zQ S.hb;have hrd:Zv HS (.ptr s (2+k))=some ((ndH s (ts.length:Int) most).cells N,12,2+k):=by
   refine zI ?_ _;rw[L0.old _ hsl];exact S.hb
  have hg:((ndH s (ts.length:Int) most).cells N)[2+k]?=some (nx k (ts.drop 0)):=by
   rw[(ndH s (ts.length:Int) most).get _ hk];exact congrArg some (S.lk.hd k hk)
  rw[zI L0.p0,zo,if_pos (by decide)];simp only[zb,za];rw[zI L0.p1,zo,if_pos (by decide)];simp only[zb,za,ZF,hw,Q4,zq,z8,nv_int,Z9,hrd,zo,hg];rw[if_pos hk,if_pos (by omega)];exact e
 have hhl:=L.len;have hHS':=hHS;simp only[zcH,zfV] at hHS';rw[<- hHS',hit];simp only[clN];have hlp:=L.lp;rw[hlp];simp only[zcH,lpE];obtain⟨ob,O,hob⟩:=L.out;have hdf:(hh'.set (h.length+5) HB.dead)[h.length+4]?=some .defb:=by rw[zd (by omega)];exact L.df
 have hrest:∀ i,i≠h.length+5->i≠h.length+4->((hh'.set (h.length+5) HB.dead).set (h.length+4) HB.dead)[i]?=hh'[i]?:=fun i a b=>by rw[zd (Ne.symm b),zd (Ne.symm a)]
 have hout:∀ v,hh'[h.length+2]?=some (.box 1 [v])->Zv (hh'.set (h.length+5) HB.dead) (.ptr (h.length+2) 0)=some ([v],1,0):=fun v hv=>zI (by rw[zd (by omega)];exact hv) 0;cases ob with
 | none =>
   obtain⟨hnil,hc⟩:=O;rw[hout _ hc,zo,if_pos (by decide)];simp only[zb,za];rw[hdf];simp only[dfB];exact⟨_,_,rfl,.inl ⟨rfl,hnil⟩,by rw[zw,zw];omega,fun i hi=>by rw[hrest i (by omega) (by omega),L.old i hi]⟩
 | some b =>
   obtain⟨o1,z,hc,hr⟩:=O;have hb:=hob b rfl;rw[hout _ hc,zo,if_pos (by decide)];simp only[zb,za];rw[hdf];simp only[dfB];exact⟨_,_,rfl,.inr ⟨b,z,by omega,rfl,by rw[hrest b (by omega) (by omega)];exact hr⟩,by rw[zw,zw];omega,fun i hi=>by rw[hrest i (by omega) (by omega),L.old i hi]⟩
theorem zmc (n : Nat) {h : ze} {s : Nat} {ts : List Tw} {most : Int} {N : Nx} (S : SkAt h s ts most N) (hlim : ts.length < lim) (hn : ts.length + 2 < n) :
    ∃ h' r,call (n+3) 217 [.ptr s 0] h=some (.ret [r],h')/\SlI h' h.length r (lvV 0 ts)/\h.length<=h'.length/\∀ i,i < h.length->h'[i]?=h[i]?:=by
 obtain⟨h',r,e,a,b,c⟩:=zmb n S (k:=0) (by omega) hlim hn;refine⟨h',r,?_,a,b,c⟩;refine(zhy (n+2) s h).trans ?_;unfold zgs Yr Yp;rw[show (V.int IntKind.i64 1)=V.int .i64 ((0+1:Nat):Int) from rfl,e,zH,zC]
end Go.Proofs.Tryz
namespace Go.Proofs.Tryz
open Go.L Go.Rp Go.Sk
set_option maxRecDepth 100000
theorem znD:QT (zaF (Ja f191))=true/\QT (zaG (Ja f191))=true:=⟨by kernel_rfl,by kernel_rfl⟩
theorem ztA:((YX prog 194).isNone && (QT (zaF (Ja f191)) && QT (zaG (Ja f191))))=true:=by kernel_rfl
def zh1(y0 y2:Option V)(x3:Nat)(y5 y6 y7 y8 y9 y10 y11 y12 y13 y14 y15 y16:Option V):List (Option V):=[y0,none,y2,some (V.ptr x3 0),none,y5,y6,y7,y8,y9,y10,y11,y12,y13,y14,y15,y16,none,none,none,none,none,none]
noncomputable def zcI(D:Nat)(fr:List (Option V))(st:LSt):HB:=.loop D true fr [17] (zaF (Ja f191)) (zaG (Ja f191)) st
section
variable {y0 y2 y5 y6 y7 y8 y9 y10 y11 y12 y13 y14 y15 y16:Option V}
theorem zrJ(n:Nat){h:ze}{b D x3:Nat}(hb:h[b]?=some (zcI D (zh1 y0 y2 x3 y5 y6 y7 y8 y9 y10 y11 y12 y13 y14 y15 y16) .ready))(z:V):rnd n b [z] h=zbf n x3 b z h :=
 (zkm n hb [z] rfl znD.1 znD.2).trans (zfK n y0 y2 x3 y5 y6 y7 y8 y9 y10 y11 y12 y13 y14 y15 y16 b z h)
structure RgLp(h hh:ze)(s:Nat)(l:List Int)(fr:List (Option V)):Prop where
 len:h.length+6<=hh.length
 old:∀ i,i < h.length->hh[i]?=h[i]?
 p1:hh[h.length+1]?=some (.box 1 [.ptr s 0])
 out:∃ b z,(b=h.length\/h.length+6<=b)/\hh[h.length+2]?=some (.box 1 [.row b 1 0 l.length])/\hh[b]?=some (.row 21 1 (l.map (Qs .i32)) z)
 df:hh[h.length+4]?=some .defb
 lp:hh[h.length+5]?=some (zcI (h.length+4) fr .ready)
theorem ztB (n : Nat) {h hh : ze} {s : Nat} {l : List Int} (L : RgLp h hh s l (zh1 y0 y2 (h.length + 2) y5 y6 y7 y8 y9 y10 y11 y12 y13 y14 y15 y16)) (x : Int) (hl : l.length + 1 < lim) :
    ∃ hh',rnd n (h.length+5) [.int .i32 x] hh=some (true,hh')/\RgLp h hh' s (l++[x]) (zh1 y0 y2 (h.length+2) y5 y6 y7 y8 y9 y10 y11 y12 y13 y14 y15 y16):=by
 rw[zrJ n L.lp];have hlen:=L.len;unfold zbf Yl Yw;rw[L.lp];simp only[zcI,lpR];generalize hbusy:HB.loop (h.length+4) true (zh1 y0 y2 (h.length+2) y5 y6 y7 y8 y9 y10 y11 y12 y13 y14 y15 y16) [17] (zaF (Ja f191)) (zaG (Ja f191)) .busy=B;obtain⟨G,hG⟩:∃ G,G=hh.set (h.length+5) B:=⟨_,rfl⟩;rw[<- hG];have hGl:G.length=hh.length:=by rw[hG,zw]
 have hGo:∀ i,i≠h.length+5->G[i]?=hh[i]?:=fun i hi=>by rw[hG,zd (Ne.symm hi)]
 have hGb:G[h.length+5]?=some B:=by rw[hG];exact ZU (by omega) _
 obtain⟨b0,z,hb0,hc,hr⟩:=L.out;have hc':G[h.length+2]?=some (.box 1 [.row b0 1 0 l.length]):=by rw[hGo _ (by omega)];exact hc
 have hr':G[b0]?=some (.row 21 1 (l.map (Qs .i32)) z):=by rw[hGo _ (by omega)];exact hr
 have hb0l:=zQ hr';have jj:Ws 21 1 G [[.int .i32 x]] (.row b0 1 0 l.length)=some (.row G.length 1 0 (l.length+1),G.set b0 .dead++[.row 21 1 (l.map (Qs .i32)++[[.int .i32 x]]) (z && 0 == 0)]):=by
  simp only[Ws,hr'];rw[if_pos (by refine⟨⟨?_,?_,?_⟩,⟨z2 _,by simp⟩,by simp;omega⟩ <;> first|trivial|rfl),zR,zU (by simp)];simp
 have hw:Zl (G.set b0 .dead++[.row 21 1 (l.map (Qs .i32)++[[.int .i32 x]]) (z && 0 == 0)]) [.row G.length 1 0 (l.length+1)] (.ptr (h.length+2) 0)=some (h.length+2,.box 1 [.row G.length 1 0 (l.length+1)]):=by
  rw[Zx (n:=1) (cs:=[.row b0 1 0 l.length]) (by rw[zk (by rw[zw];omega),zd (by omega)];exact hc') (by simp)];rfl
 rw[zI hc',zo,if_pos (by decide)];simp only[zb,za];rw[zdO,za,jj,zZ];simp only[V.cells,zD,zP,zq,if_true];rw[hw,zZ];generalize hG2:G.set b0 .dead++[HB.row 21 1 (l.map (Qs .i32)++[[.int .i32 x]]) (z && 0 == 0)]=G2;have e1:G2.length=G.length+1:=by rw[<- hG2];simp
 have e4:G2[G.length]?=some (.row 21 1 ((l++[x]).map (Qs .i32)) (z && 0 == 0)):=by
  have:G.length=(G.set b0 .dead).length:=by rw[zw]
  rw[<- hG2,this,zx,Zo];rfl
 have e5:∀ i,i < h.length+6->i≠b0->G2[i]?=G[i]?:=fun i hi hb=>by rw[<- hG2,zk (by rw[zw];omega),zd (Ne.symm hb)]
 have hb5:(G2.set (h.length+2) (.box 1 [.row G.length 1 0 (l.length+1)]))[h.length+5]?=some B:=by rw[zd (by omega),e5 _ (by omega) (by omega)];exact hGb
 rw[hb5,<- hbusy];simp only[lpB];have hoth:∀ i,i≠h.length+5->i≠h.length+2->((G2.set (h.length+2) (.box 1 [.row G.length 1 0 (l.length+1)])).set (h.length+5) (HB.loop (h.length+4) true (zh1 y0 y2 (h.length+2) y5 y6 y7 y8 y9 y10 y11 y12 y13 y14 y15 y16) [17] (zaF (Ja f191)) (zaG (Ja f191)) .ready))[i]?=G2[i]?:=fun i h1 h2=>by
  rw[zd (Ne.symm h1),zd (Ne.symm h2)]
 refine⟨_,rfl,⟨by rw[zw,zw];omega,fun i hi=>?_,?_,⟨G.length,(z && 0 == 0),.inr (by omega),?_,?_⟩,?_,?_⟩⟩
 . rw[hoth i (by omega) (by omega),e5 i (by omega) (by omega),hGo i (by omega),L.old i hi]
 . rw[hoth _ (by omega) (by omega),e5 _ (by omega) (by omega),hGo _ (by omega),L.p1]
 . rw[zd (by omega),ZU (by omega),zL];rfl
 . rw[hoth _ (by omega) (by omega)];exact e4
 . rw[hoth _ (by omega) (by omega),e5 _ (by omega) (by omega),hGo _ (by omega),L.df]
 . exact ZU (by rw[zw];omega) _
theorem ztC(n:Nat){h:ze}{s b c:Nat}{xs:List Int}(hb:RngAt h s b c xs)(hc:c < 100000):∀ (d i M:Nat) (hh:ze),i+d=xs.length->d < M->RgLp h hh s (xs.take i) (zh1 y0 y2 (h.length+2) y5 y6 y7 y8 y9 y10 y11 y12 y13 y14 y15 y16) →
    ∃ hh',zV M (YH (n+1) (h.length+5) (h.length+1) (.int .i64 (xs.length:Int))) [.int .i64 (i:Int)] hh=some (.ret [],hh')/\RgLp h hh' s xs (zh1 y0 y2 (h.length+2) y5 y6 y7 y8 y9 y10 y11 y12 y13 y14 y15 y16):=by
 intro d
 induction d with
 | zero =>
   intro i M hh h1 h2 L;obtain⟨M,rfl⟩:∃ M',M=M'+1:=⟨M - 1,by omega⟩;rw[zU (by omega)] at L;refine⟨hh,?_,L⟩;rw[zK];unfold YH Yl Yi Ya Yr Yp;simp only[gv,zg];rw[zy,za,zm,if_neg (by simp;omega)]
 | succ d ih =>
   intro i M hh h1 h2 L;obtain⟨M,rfl⟩:∃ M',M=M'+1:=⟨M - 1,by omega⟩;have hlt:i < xs.length:=by omega
   obtain⟨k,l,z,f,e1,e2,e3,e4,e5,e6,e7⟩:=hb;have hs1:=(L.old s (zQ e1)).trans e1;have hb1:=(L.old b (zQ e2)).trans e2;have ea:=YI n (m:=i) hs1 hb1 e3 (by omega) (by omega) hc;obtain⟨hh1,r1,L1⟩:=ztB (n+1) L xs[i] (by simp;unfold lim;omega);rw[show xs.take i++[xs[i]]=xs.take (i+1) from(QC hlt).symm] at L1;obtain⟨hh2,e,L2⟩:=ih (i+1) M hh1 (by omega) (by omega) L1;refine⟨hh2,?_,L2⟩;have key:∀ next,YH (n+1) (h.length+5) (h.length+1) (.int .i64 (xs.length:Int)) [.int .i64 (i:Int)] hh next=next [.int .i64 ((i+1:Nat):Int)] hh1:=by
    intro next
    unfold YH Yl Yi Ya Yr Yp;simp only[gv,zg];rw[zy,za,zm,if_pos (by simp;omega),zI L.p1,zo,if_pos (by decide)];simp only[zb,za];rw[ea,zH,zC];simp only[ZD,za,z8];rw[ZJ hb1 (by decide) (e6 i hlt),zo,if_pos (by decide)];simp only[jz,zb,za];rw[r1,zZ,if_neg (by decide),zA,za,Xl (by unfold lim;omega)]
   rw[zK,key];exact e
end
theorem zfc (n : Nat) {h : ze} {s b c : Nat} {xs : List Int} (hb : RngAt h s b c xs) (hc : c < 100000) (hn : xs.length < n) :
    ∃ h' r z,call (n+3) 191 [.ptr s 0] h=some (.ret [.row r 1 0 xs.length],h')/\h'[r]?=some (.row 21 1 (xs.map (Qs .i32)) z)/\h.length<=r/\h.length<=h'.length/\∀ i,i < h.length->h'[i]?=h[i]?:=by
 have hb0:=hb;obtain⟨k,l,z,f,e1,e2,e3,e4,e5,e6,e7⟩:=hb0;rw[show n+3=(n+2)+1 from rfl,zjA];unfold zjz Yl Yi Yg Yr Yn Yp;rw[qY,za,zm,if_neg (by decide),zI e1,zo,if_pos (by decide)];simp only[zb,zh,za];rw[z3,zB,if_pos ⟨z2 _,by unfold lim;omega,trivial⟩];rw[show n+2=(n+1)+1 from rfl,zo6];unfold zq8 Yr;rw[zH,zC];simp only[zly];rw[if_pos ztA];simp only[zL,zD,zP,List.append_assoc,Z4,zX,ZR,zq,Nat.reduceAdd,Jx];have hS:∀ (T:List HB) i,(h++T)[h.length+i]?=T[i]?:=fun T i=>by rw[zJ (by omega),Qy]
 have hS0:∀ (T:List HB),(h++T)[h.length]?=T[0]?:=fun T=>hS T 0;obtain⟨HS,hHS⟩:∃ HS:ze,HS=h++[HB.row 21 1 [] true,HB.box 1 [V.ptr s 0],HB.box 1 [V.row h.length 1 0 0],HB.row 21 1 [] true,HB.defb,zcI (h.length+4) (zh1 (some (V.ptr s 0)) (some (V.row (h.length+3) 1 0 0)) (h.length+2) (some (V.ptr s 0)) (some (V.bool false)) (some (V.ptr s 0)) (some (V.ptr s 0)) (some (V.ptr s 0)) (some (V.ptr s 2)) (some (V.int .i64 (xs.length:Int))) (some (V.row h.length 1 0 0)) (some (V.ptr s 0)) (some (V.ptr s 0)) (some (V.ptr s 0)) (some (V.fn 194 [V.ptr (h.length+1) 0]))) .ready]:=⟨_,rfl⟩;have L0:RgLp h HS s (xs.take 0) _:=⟨by rw[hHS];simp,fun i hi=>by rw[hHS,zk hi],by rw[hHS,hS];rfl,⟨h.length,true,.inl rfl,by rw[hHS,hS];rfl,by rw[hHS,hS0];rfl⟩,by rw[hHS,hS];rfl,by rw[hHS,hS];rfl⟩;obtain⟨hh',e,L⟩:=ztC n hb hc xs.length 0 (n+1) HS (by omega) (by omega) L0;have hit:call (n+1+1) 194 [.yld (h.length+5),.ptr (h.length+1) 0] HS=some (.ret [],hh'):=by
  refine(zlW (n+1) _ _ HS).trans ?_;unfold zno Yl;rw[zI L0.p1,zo,if_pos (by decide)];simp only[zb,za,ZD,z8,zq];rw[zI ((L0.old s (zQ e1)).trans e1),zo,if_pos (by decide)];simp only[zb,zh,za];exact e
 have hHS':=hHS;simp only[zcI,zh1] at hHS';rw[<- hHS',hit];simp only[clN];have hlp:=L.lp;rw[hlp];simp only[zcI,lpE];obtain⟨b',z',hb',hc',hr⟩:=L.out;have hdf:(hh'.set (h.length+5) HB.dead)[h.length+4]?=some .defb:=by rw[zd (by omega)];exact L.df
 have hrest:∀ i,i≠h.length+5->i≠h.length+4->((hh'.set (h.length+5) HB.dead).set (h.length+4) HB.dead)[i]?=hh'[i]?:=fun i a b=>by rw[zd (Ne.symm b),zd (Ne.symm a)]
 have hout:Zv (hh'.set (h.length+5) HB.dead) (.ptr (h.length+2) 0)=some ([.row b' 1 0 xs.length],1,0):=zI (by rw[zd (by omega)];exact hc') 0;rw[hout,zo,if_pos (by decide)];simp only[zb,za];rw[hdf];simp only[dfB];have hhl:=L.len;refine⟨_,b',z',rfl,by rw[hrest b' (by omega) (by omega)];exact hr,by omega,by rw[zw,zw];omega,fun i hi=>by rw[hrest i (by omega) (by omega),L.old i hi]⟩
end Go.Proofs.Tryz
namespace Go.Proofs.Tryz
open Go.L
set_option maxRecDepth 100000
noncomputable def zvu(n:Nat)(x0_0 x0_1:Int):Option (Res×ze) :=
 Yr [(V.int .i32 x0_1)] ([])
theorem zpg(n x0_0 x0_1 h):call (n+1) 235 [(V.agg [(V.int .u8 x0_0),(V.int .i32 x0_1)])] h=gcw [(V.agg [(V.int .u8 x0_0),(V.int .i32 x0_1)])] (zvu n x0_0 x0_1) h:=by kernel_rfl
noncomputable def zuS(n:Nat)(a b:Int)(l:List (List V))(lb:Bool)(h:ze):Option (Res×ze) :=
 (Yx 2 (V.int .i64 a) (V.sl 2 l lb) fun c =>
 (clS (call n 235 [(V.agg (((esP c)).drop 0 |>.take 2))] []) fun d =>
 (Zm d fun e =>
 (Yx 2 (V.int .i64 b) (V.sl 2 l lb) fun f =>
 (clS (call n 235 [(V.agg (((esP f)).drop 0 |>.take 2))] []) fun g =>
 (Zm g fun i =>
 (clH (call n 242 [e,i] h) fun j k =>
 (Zm j fun m =>
 Yr [m] k))))))))
theorem zrK(n:Nat)(a:Int)(b:Int)(l:List (List V))(lb:Bool)(h:ze):call (n+1) 241 [(V.int .i64 a),(V.int .i64 b),(V.iptr 1 [(V.fn 235 [])] 0),(V.iptr 1 [(V.sl 2 l lb)] 0)] h=zuS n a b l lb h:=by kernel_rfl
noncomputable def zuT(n:Nat)(l:List (List V))(lb:Bool)(b hi:Nat)(h:ze):Option (Res×ze) :=
 (rwT ((h)[b]?) fun d e a=>if ((d=3/\1=1/\e=1)/\(0=0/\hi=a.length)) then(clr (call n 240 (V.sl 1 a false :: [(V.fn 241 [(V.iptr 1 [(V.fn 235 [])] 0),(V.iptr 1 [(V.sl 2 l lb)] 0)])]) ((h).set b HB.dead)) fun f c i g=>if f=1/\c.length=a.length then
 Yr [(V.row b 1 0 hi)] ((g).set b (HB.row 3 1 c true)) else none) else none)
theorem zrL(n:Nat)(l:List (List V))(lb:Bool)(b:Nat)(hi:Nat)(h:ze):call (n+1) 234 [(V.sl 2 l lb),(V.row b 1 0 hi),(V.fn 235 [])] h=zuT n l lb b hi h:=by kernel_rfl
noncomputable def jD(n:Nat)(l:List (List V))(lb:Bool)(st1:List V)(hh2:ze)(next3:List V->ze->Option (Res×ze)):Option (Res×ze) :=
 (Yi (bop prog .lss 3 (gv st1 2) (V.int .i64 ((l).length:Int)))
 (Yx 2 (gv st1 2) (V.sl 2 l lb) fun d =>
 (bd3 (Zv hh2 d) fun b e a=>if (a+2<=e/\0 < 2) then
 (if (((b).drop a |>.take 2)).length=2 then
 (Yg ((((b).drop a |>.take 2)).length<=2) (bd ((setR [(V.int .u8 0),(V.int .i32 0)] 0 ((b).drop a |>.take 2)))[0]? fun f =>
 (Yi (bop prog .eql 5 f (V.int .u8 1))
 (bd (K6 prog 55 1 [(0,(gv st1 2))]) fun g =>
 (bd (app 3 1 (S.own 3 1 (lsl (gv st1 0))) g.2) fun h =>
 (Ya (gv st1 2) fun i =>
 (next3 [(V.sl 1 h false),(V.sl 1 (lsl (gv st1 1)) false),i] hh2))))
 (bd (K6 prog 55 1 [(0,(gv st1 2))]) fun j =>
 (bd (app 3 1 (S.own 3 1 (lsl (gv st1 1))) j.2) fun k =>
 (Ya (gv st1 2) fun m =>
 (next3 [(V.sl 1 (lsl (gv st1 0)) false),(V.sl 1 k false),m] hh2))))))) else none) else none))
 (cl (call n 234 [(V.sl 2 l lb),(V.row (hh2).length 1 0 ((lsl (gv st1 0))).length),(V.fn 235 [])] (hh2++[(HB.row 3 1 (lsl (gv st1 0)) true)])) (fun o c =>
 (Zm o fun p =>
 Yr [p,(V.row (c).length 1 0 ((lsl (gv st1 1))).length)] (c++[(HB.row 3 1 (lsl (gv st1 1)) true)]))) Yp))
noncomputable def zrM(n:Nat)(l:List (List V))(lb:Bool)(h:ze):Option (Res×ze) :=
 (zV n (jD n l lb) [(V.sl 1 [] false),(V.sl 1 [] false),(V.int .i64 0)] h)
theorem zph(n:Nat)(l:List (List V))(lb:Bool)(h:ze):call (n+1) 225 [(V.sl 2 l lb)] h=zrM n l lb h:=by kernel_rfl
noncomputable def KK(n s:Nat)(l:List (List V))(lb:Bool)(o t:V)(p0:Nat×List (List V))(st2:List V)(hh3:ze)(next4:List V->ze->Option (Res×ze)):Option (Res×ze) :=
 (Yi (bop prog .lss 3 (gv st2 1) (V.int .i64 ((p0.2).length:Int)))
 (Yx 1 (gv st2 1) o fun g =>
 (Yl hh3 g fun a =>
 (Yx 2 a t fun h =>
 (bd (ZD 0 h) fun i =>
 (bd2 (Zl hh3 [(V.int .u8 5)] i) fun b c =>
 (Yx 2 a (V.sl 2 l lb) fun j =>
 (bd (ZD 0 j) fun k =>
 (Yl ((hh3).set b c) k fun m =>
 (Yi (bop prog .neq 5 m (V.int .u8 2))
 (Ya (gv st2 1) fun p =>
 (next4 [(V.sl 2 (lsl (gv st2 0)) false),p] ((hh3).set b c)))
 (Yx 2 a t fun q =>
 (bd (ZD 0 q) fun r =>
 (bd2 (Zl ((hh3).set b c) [(V.int .u8 4)] r) fun u v =>
 (cl (call n 239 [(V.ptr s 0)] ((((hh3).set b c)).set u v)) (fun e d =>
 (bd (e)[0]? fun w =>
 (bd (e)[1]? fun x =>
 (bv x fun y=>if y then
 (bd (Wz prog 35 [(0,(V.int .u8 2)),(1,w)]) fun f =>
 (Yx 2 a t fun z =>
 (if (f).length=2 then
 (bd2 (Zl d f z) fun A B =>
 (Ya (gv st2 1) fun C =>
 (next4 [(V.sl 2 (lsl (gv st2 0)) false),C] ((d).set A B)))) else none)))
 else
 (Ya (gv st2 1) fun D =>
 (next4 [(V.sl 2 (lsl (gv st2 0)) false),D] d)))))) Yp)))))))))))))
 (Yr [t] hh3))
noncomputable def znE(n s:Nat)(l:List (List V))(lb:Bool)(o t:V)(h:ze):Option (Res×ze) :=
 (bd (ZI h o) fun a =>
 (zV n (KK n s l lb o t a) [(V.sl 2 [] false),(V.int .i64 0)] h))
theorem zmd(n:Nat)(s:Nat)(l:List (List V))(lb:Bool)(o:V)(t:V)(h:ze):call (n+1) 229 [(V.ptr s 0),(V.sl 2 l lb),o,t] h=znE n s l lb o t h:=by kernel_rfl
noncomputable def JK(n s:Nat)(l:List (List V))(lb:Bool)(v6 v59:V)(p60:Nat×List (List V))(st62:List V)(hh63:ze)(next64:List V->ze->Option (Res×ze)):Option (Res×ze) :=
 (Yi (bop prog .lss 3 (gv st62 3) (V.int .i64 ((p60.2).length:Int)))
 (Yx 1 (gv st62 3) v59 fun b =>
 (Yl hh63 b fun c =>
 (bdS (nv c) fun a =>
 (Yg (2=2/\a < ((lsl (gv st62 1))).length/\(some 73:Option Nat)≠some 7) (bd ((lsl (gv st62 1)))[a]? fun d =>
 (Ya (gv st62 3) fun e =>
 (next64 [(V.sl 2 (lsl (gv st62 0)) false),(V.sl 2 (((lsl (gv st62 1))).set a (setR d 0 [(V.int .u8 3)])) false),(V.bool false),e] hh63)))))))
 (cl (call n 229 [(V.ptr s 0),(V.sl 2 l lb),v6,(V.row (hh63).length 2 0 ((lsl (gv st62 1))).length)] (hh63++[(HB.row 35 2 (lsl (gv st62 1)) true)])) (fun f g =>
 (Zm f fun h =>
 Yr [h] g)) Yp))
noncomputable def JL(n s c:Nat)(l:List (List V))(lb:Bool)(v5 v6 v18 v21:V)(p22:Nat×List (List V))(st24:List V)(hh25:ze)(next26:List V->ze->Option (Res×ze)):Option (Res×ze) :=
 (Yi (bop prog .lss 3 (gv st24 5) (V.int .i64 ((p22.2).length:Int)))
 (Yx 1 (gv st24 5) v21 fun f =>
 (Yl hh25 f fun b =>
 (Yx 2 b (V.sl 2 l lb) fun g =>
 (bd (ZD 1 g) fun h =>
 (Yl hh25 h fun i =>
 (bd (K6 prog 27 1 [(0,i)]) fun j =>
 (bd (app 21 1 (S.own 21 1 (lsl (gv st24 2))) j.2) fun k =>
 (cl (call n 227 [(V.ptr c 0)] hh25) (fun m o =>
 (Zm m fun p =>
 (bd (K6 prog 55 1 [(0,p)]) fun q =>
 (bd (app 3 1 (S.own 3 1 (lsl (gv st24 3))) q.2) fun r =>
 (bdS (nv b) fun a =>
 (Yg (2=2/\a < ((lsl (gv st24 1))).length/\(some 56:Option Nat)≠some 7) (bd ((lsl (gv st24 1)))[a]? fun t =>
 (Ya (gv st24 5) fun u =>
 (next26 [(V.sl 2 (lsl (gv st24 0)) false),(V.sl 2 (((lsl (gv st24 1))).set a (setR t 0 [(V.int .u8 1)])) false),(V.sl 1 k false),(V.sl 1 r false),(V.bool false),u] o))))))))) Yp))))))))
 (cl (call n 228 [(V.ptr s 0),(V.row (hh25).length 1 0 ((lsl (gv st24 2))).length),(V.row ((hh25++[(HB.row 21 1 (lsl (gv st24 2)) true)])).length 1 0 ((lsl (gv st24 3))).length)] ((hh25++[(HB.row 21 1 (lsl (gv st24 2)) true)])++[(HB.row 3 1 (lsl (gv st24 3)) true)])) (fun v d =>
 (Zm v fun z =>
 (bd (zcm v5) fun w =>
 (bdS (nv v18) fun x =>
 (bd (Je 1 x w (none:Option Nat) true v5) fun e =>
 (bd (ZI d e) fun y =>
 (zV n (JK n s l lb v6 e y) [(V.sl 2 (lsl (gv st24 0)) false),(V.sl 2 (lsl (gv st24 1)) false),(V.bool false),(V.int .i64 0)] d))))))) Yp))
noncomputable def zkn(n s c:Nat)(l:List (List V))(lb:Bool)(h:ze):Option (Res×ze) :=
 (bdS (nv (V.int .i64 ((l).length:Int))) fun d =>
 (bdS (nv (V.int .i64 ((l).length:Int))) fun e =>
 (Yg (d<=e/\e < lim/\2=2) (cl (call n 225 [(V.sl 2 l lb)] h) (fun f g =>
 (bd (f)[0]? fun a =>
 (bd (f)[1]? fun k =>
 (bd (ZI g a) fun m =>
 (cl (call n 226 [(V.ptr s 0)] g) (fun o p =>
 (Zm o fun q =>
 (cl (call n 218 [(V.ptr s 0)] p) (fun r b =>
 (Zm r fun t =>
 (bd (bop prog .sub 3 q t) fun u =>
 (bd (WI [(some (V.int .i64 ((m.2).length:Int))),(Wp b u)]) fun v=>bd (mm false v) fun i =>
 (bd (zcm a) fun y =>
 (bdS (nv i) fun w =>
 (bd (Je 1 0 w (none:Option Nat) true a) fun j =>
 (bd (ZI b j) fun x =>
 (zV n (JL n s c l lb a k i j x) [(V.sl 2 [] false),(V.sl 2 (List.replicate d [(V.int .u8 0),(V.int .i32 0)]) false),(V.sl 1 [] false),(V.sl 1 [] false),(V.bool false),(V.int .i64 0)] b))))))))) Yp))) Yp))))) Yp))))
theorem zko(n:Nat)(s:Nat)(c:Nat)(l:List (List V))(lb:Bool)(h:ze):call (n+1) 222 [(V.ptr s 0),(V.ptr c 0),(V.sl 2 l lb)] h=zkn n s c l lb h:=by kernel_rfl
noncomputable def Jp(n s c:Nat)(l:List (List V))(lb:Bool)(v5 v6:V)(p7:Nat×List (List V))(st9:List V)(hh10:ze)(next11:List V->ze->Option (Res×ze)):Option (Res×ze) :=
 (Yi (bop prog .lss 3 (gv st9 3) (V.int .i64 ((p7.2).length:Int)))
 (Yx 1 (gv st9 3) v5 fun g =>
 (Yl hh10 g fun d =>
 (bdS (nv d) fun a =>
 (Yg (2=2/\a < ((lsl (gv st9 1))).length/\(some 28:Option Nat)≠some 7) (bd ((lsl (gv st9 1)))[a]? fun b =>
 (cl (call n 218 [(V.ptr s 0)] hh10) (fun h i =>
 (Zm h fun j =>
 (cl (call n 226 [(V.ptr s 0)] i) (fun k f =>
 (Zm k fun m =>
 (Yi (bop prog .lss 3 j m)
 (Yx 2 d (V.sl 2 l lb) fun o =>
 (bd ((esP o))[1]? fun p =>
 (clH (call n 227 [(V.ptr c 0)] f) fun q r =>
 (Zm q fun t =>
 (clH (call n 233 [(V.ptr s 0),p,t] r) fun u v =>
 (Zm u fun C =>
 (bdS (nv d) fun e =>
 (Yg (2=2/\e < ((((lsl (gv st9 1))).set a (setR b 0 [(V.int .u8 3)]))).length/\(some 46:Option Nat)≠some 7) (bd ((((lsl (gv st9 1))).set a (setR b 0 [(V.int .u8 3)])))[e]? fun w =>
 (Ya (gv st9 3) fun x =>
 (next11 [(V.sl 2 (lsl (gv st9 0)) false),(V.sl 2 (((((lsl (gv st9 1))).set a (setR b 0 [(V.int .u8 3)]))).set e (setR w 0 [(V.int .u8 1)])) false),(V.bool false),x] v)))))))))))
 (Ya (gv st9 3) fun y =>
 (next11 [(V.sl 2 (lsl (gv st9 0)) false),(V.sl 2 (((lsl (gv st9 1))).set a (setR b 0 [(V.int .u8 3)])) false),(V.bool false),y] f))))) Yp))) Yp))))))
 (cl (call n 229 [(V.ptr s 0),(V.sl 2 l lb),v6,(V.row (hh10).length 2 0 ((lsl (gv st9 1))).length)] (hh10++[(HB.row 35 2 (lsl (gv st9 1)) true)])) (fun z A =>
 (Zm z fun B =>
 Yr [B] A)) Yp))
noncomputable def zkp(n s c:Nat)(l:List (List V))(lb:Bool)(h:ze):Option (Res×ze) :=
 (bdS (nv (V.int .i64 ((l).length:Int))) fun a =>
 (bdS (nv (V.int .i64 ((l).length:Int))) fun b =>
 (Yg (a<=b/\b < lim/\2=2) (cl (call n 225 [(V.sl 2 l lb)] h) (fun d e =>
 (bd (d)[0]? fun f =>
 (bd (d)[1]? fun g =>
 (bd (ZI e f) fun i =>
 (zV n (Jp n s c l lb f g i) [(V.sl 2 [] false),(V.sl 2 (List.replicate a [(V.int .u8 0),(V.int .i32 0)]) false),(V.bool false),(V.int .i64 0)] e))))) Yp))))
theorem zkq(n:Nat)(s:Nat)(c:Nat)(l:List (List V))(lb:Bool)(h:ze):call (n+1) 224 [(V.ptr s 0),(V.ptr c 0),(V.sl 2 l lb)] h=zkp n s c l lb h:=by kernel_rfl
end Go.Proofs.Tryz
namespace Go.Proofs.Tryz
open Go.L
set_option maxRecDepth 100000
noncomputable def zbW(n:Nat)(a b k:Int)(st1:List V)(hh2:ze)(next3:List V->ze->Option (Res×ze)):Option (Res×ze) :=
 (Yi (bop prog .lss 3 (gv st1 1) (V.int .i64 k))
 (bd (bop prog .add 3 (V.int .i64 a) (gv st1 1)) fun j =>
 (bd (bop prog .add 3 (V.int .i64 b) (gv st1 1)) fun l =>
 (bd (bop prog .add 3 (V.int .i64 b) (gv st1 1)) fun m =>
 (bdS (nv m) fun h =>
 (Yg (1=1/\h < ((lsl (gv st1 0))).length/\(some 28:Option Nat)≠some 0) (bd ((lsl (gv st1 0)))[h]? fun o =>
 (bd (o)[0]? fun c =>
 (bd (bop prog .add 3 (V.int .i64 a) (gv st1 1)) fun p =>
 (bdS (nv p) fun i =>
 (Yg (1=1/\i < ((lsl (gv st1 0))).length/\(some 34:Option Nat)≠some 0) (bd ((lsl (gv st1 0)))[i]? fun q =>
 (bd (q)[0]? fun e =>
 (bdS (nv j) fun d =>
 (Yg (1=1/\d < ((lsl (gv st1 0))).length/\(some 36:Option Nat)≠some 0) (if ((V.cells c)).length=1 then
 (Yg (1=1/\0 < 1/\0+((V.cells c)).length<=1) (bd ((lsl (gv st1 0)))[d]? fun f =>
 (bdS (nv l) fun g =>
 (Yg (1=1/\g < ((((lsl (gv st1 0))).set d (setR f 0 (V.cells c)))).length/\(some 37:Option Nat)≠some 0) (if ((V.cells e)).length=1 then
 (Yg (1=1/\0 < 1/\0+((V.cells e)).length<=1) (bd ((((lsl (gv st1 0))).set d (setR f 0 (V.cells c))))[g]? fun r =>
 (Ya (gv st1 1) fun s =>
 (next3 [(V.sl 1 (((((lsl (gv st1 0))).set d (setR f 0 (V.cells c)))).set g (setR r 0 (V.cells e))) false),s] hh2)))) else none))))) else none)))))))))))))))
 (some (Res.ret (V.sl 1 (lsl (gv st1 0)) false :: []),hh2)))
noncomputable def zuU(n:Nat)(l:List (List V))(a b k:Int)(c:V)(h:ze):Option (Res×ze) :=
 (zV n (zbW n a b k) [(V.sl 1 l false),(V.int .i64 0)] h)
theorem zrN(n:Nat)(l:List (List V))(a:Int)(b:Int)(k:Int)(c:V)(h:ze):call (n+1) 251 [(V.sl 1 l false),(V.int .i64 a),(V.int .i64 b),(V.int .i64 k),c] h=zuU n l a b k c h:=by kernel_rfl
noncomputable def zbX(n:Nat)(m:Int)(c:V)(st1:List V)(hh2:ze)(next3:List V->ze->Option (Res×ze)):Option (Res×ze) :=
 (Yi (bop prog .neq 3 (gv st1 1) (gv st1 2))
 (Yi (bop prog .gtr 3 (gv st1 1) (gv st1 2))
 (bd (bop prog .sub 3 (V.int .i64 m) (gv st1 1)) fun a =>
 (clm (call n 251 (V.sl 1 (lsl (gv st1 0)) false :: [a,(V.int .i64 m),(gv st1 2),c]) hh2) 1 fun b q d =>
 (bd (bop prog .sub 3 (gv st1 1) (gv st1 2)) fun e =>
 (next3 [(V.sl 1 b false),e,(gv st1 2)] d))))
 (bd (bop prog .sub 3 (V.int .i64 m) (gv st1 1)) fun f =>
 (bd (bop prog .add 3 (V.int .i64 m) (gv st1 2)) fun g =>
 (bd (bop prog .sub 3 g (gv st1 1)) fun h =>
 (clm (call n 251 (V.sl 1 (lsl (gv st1 0)) false :: [f,h,(gv st1 1),c]) hh2) 1 fun i r j =>
 (bd (bop prog .sub 3 (gv st1 2) (gv st1 1)) fun k =>
 (next3 [(V.sl 1 i false),(gv st1 1),k] j)))))))
 (bd (bop prog .sub 3 (V.int .i64 m) (gv st1 1)) fun l =>
 (clm (call n 251 (V.sl 1 (lsl (gv st1 0)) false :: [l,(V.int .i64 m),(gv st1 1),c]) hh2) 1 fun o s p =>
 some (Res.ret (V.sl 1 o false :: []),p))))
noncomputable def zwn(n:Nat)(l:List (List V))(a m b:Int)(c:V)(h:ze):Option (Res×ze) :=
 (zV n (zbX n m c) [(V.sl 1 l false),(V.int .i64 (IntKind.i64.wrap (m - a))),(V.int .i64 (IntKind.i64.wrap (b - m)))] h)
theorem ztD(n:Nat)(l:List (List V))(a:Int)(m:Int)(b:Int)(c:V)(h:ze):call (n+1) 250 [(V.sl 1 l false),(V.int .i64 a),(V.int .i64 m),(V.int .i64 b),c] h=zwn n l a m b c h:=by kernel_rfl
noncomputable def zad(n:Nat)(st1 st31:List V)(hh32:ze)(next33:List V->ze->Option (Res×ze)):Option (Res×ze) :=
 (bd (bop prog .sub 3 (gv st1 1) (V.int .i64 1)) fun h =>
 (Yi (bop prog .lss 3 (gv st31 1) h)
 (Ya (gv st31 1) fun i =>
 (Ya (gv st31 1) fun j =>
 (bdS (nv j) fun f =>
 (Yg (1=1/\f < ((lsl (gv st31 0))).length/\(some 69:Option Nat)≠some 0) (bd ((lsl (gv st31 0)))[f]? fun k =>
 (bd (k)[0]? fun a =>
 (bdS (nv (gv st31 1)) fun g =>
 (Yg (1=1/\g < ((lsl (gv st31 0))).length/\(some 73:Option Nat)≠some 0) (bd ((lsl (gv st31 0)))[g]? fun l =>
 (bd (l)[0]? fun c =>
 (bdS (nv (gv st31 1)) fun b =>
 (Yg (1=1/\b < ((lsl (gv st31 0))).length/\(some 75:Option Nat)≠some 0) (if ((V.cells a)).length=1 then
 (Yg (1=1/\0 < 1/\0+((V.cells a)).length<=1) (bd ((lsl (gv st31 0)))[b]? fun d =>
 (bdS (nv i) fun e =>
 (Yg (1=1/\e < ((((lsl (gv st31 0))).set b (setR d 0 (V.cells a)))).length/\(some 76:Option Nat)≠some 0) (if ((V.cells c)).length=1 then
 (Yg (1=1/\0 < 1/\0+((V.cells c)).length<=1) (bd ((((lsl (gv st31 0))).set b (setR d 0 (V.cells a))))[e]? fun m =>
 (Ya (gv st31 1) fun o =>
 (next33 [(V.sl 1 (((((lsl (gv st31 0))).set b (setR d 0 (V.cells a)))).set e (setR m 0 (V.cells c))) false),o] hh32)))) else none))))) else none)))))))))))))
 (some (Res.ret (V.sl 1 (lsl (gv st31 0)) false :: []),hh32))))
noncomputable def zbY(n:Nat)(a:Int)(c:V)(st1:List V)(hh2:ze)(next3:List V->ze->Option (Res×ze)):Option (Res×ze) :=
 (Yi (bop prog .lss 3 (gv st1 1) (gv st1 2))
 (bd (bop prog .add 3 (gv st1 1) (gv st1 2)) fun m =>
 (bd (cvt prog 3 204 m) fun o =>
 (bd (bop prog .shr 204 o (V.int .u64 1)) fun p =>
 (bd (cvt prog 204 3 p) fun d =>
 (bdS (nv d) fun g =>
 (Yg (1=1/\g < ((lsl (gv st1 0))).length/\(some 43:Option Nat)≠some 0) (bd ((lsl (gv st1 0)))[g]? fun q =>
 (bd (q)[0]? fun h =>
 (bdS (nv (V.int .i64 a)) fun i =>
 (Yg (1=1/\i < ((lsl (gv st1 0))).length/\(some 47:Option Nat)≠some 0) (bd ((lsl (gv st1 0)))[i]? fun r =>
 (bd (r)[0]? fun j =>
 (fnK c fun e k=>if (okV prog 3 e=true) then(if QI e then
 (cl (call n e ([h,j]++k) hh2) (fun f b =>
 (Zm f fun s =>
 (Yi (bop prog .lss 3 s (V.int .i64 0))
 (Ya d fun t =>
 (next3 [(V.sl 1 (lsl (gv st1 0)) false),t,(gv st1 2)] b))
 (next3 [(V.sl 1 (lsl (gv st1 0)) false),(gv st1 1),d] b)))) (fun l b=>none))
 else if Yd e then
 (bd (WI [(Wp hh2 h),(Wp hh2 j)]) fun u=>cl (call n e (u++k) hh2) (fun f b=>if V.simple.simpleL f then
 (Zm f fun v =>
 (Yi (bop prog .lss 3 v (V.int .i64 0))
 (Ya d fun w =>
 (next3 [(V.sl 1 (lsl (gv st1 0)) false),w,(gv st1 2)] b))
 (next3 [(V.sl 1 (lsl (gv st1 0)) false),(gv st1 1),d] b))) else none) (fun l b=>if l.simple then none else none))
 else none) else none)))))))))))))
 (zV n (zad n st1) [(V.sl 1 (lsl (gv st1 0)) false),(V.int .i64 a)] hh2))
noncomputable def zae(n:Nat)(st51 st83:List V)(hh84:ze)(next85:List V->ze->Option (Res×ze)):Option (Res×ze) :=
 (Yi (bop prog .gtr 3 (gv st83 1) (gv st51 1))
 (bd (bop prog .sub 3 (gv st83 1) (V.int .i64 1)) fun h =>
 (bd (bop prog .sub 3 (gv st83 1) (V.int .i64 1)) fun i =>
 (bdS (nv i) fun f =>
 (Yg (1=1/\f < ((lsl (gv st83 0))).length/\(some 121:Option Nat)≠some 0) (bd ((lsl (gv st83 0)))[f]? fun j =>
 (bd (j)[0]? fun a =>
 (bdS (nv (gv st83 1)) fun g =>
 (Yg (1=1/\g < ((lsl (gv st83 0))).length/\(some 125:Option Nat)≠some 0) (bd ((lsl (gv st83 0)))[g]? fun k =>
 (bd (k)[0]? fun c =>
 (bdS (nv (gv st83 1)) fun b =>
 (Yg (1=1/\b < ((lsl (gv st83 0))).length/\(some 127:Option Nat)≠some 0) (if ((V.cells a)).length=1 then
 (Yg (1=1/\0 < 1/\0+((V.cells a)).length<=1) (bd ((lsl (gv st83 0)))[b]? fun d =>
 (bdS (nv h) fun e =>
 (Yg (1=1/\e < ((((lsl (gv st83 0))).set b (setR d 0 (V.cells a)))).length/\(some 128:Option Nat)≠some 0) (if ((V.cells c)).length=1 then
 (Yg (1=1/\0 < 1/\0+((V.cells c)).length<=1) (bd ((((lsl (gv st83 0))).set b (setR d 0 (V.cells a))))[e]? fun l =>
 (bd (bop prog .sub 3 (gv st83 1) (V.int .i64 1)) fun m =>
 (next85 [(V.sl 1 (((((lsl (gv st83 0))).set b (setR d 0 (V.cells a)))).set e (setR l 0 (V.cells c))) false),m] hh84)))) else none))))) else none)))))))))))))
 (some (Res.ret (V.sl 1 (lsl (gv st83 0)) false :: []),hh84)))
noncomputable def zaf(n:Nat)(m:Int)(c:V)(st51:List V)(hh52:ze)(next53:List V->ze->Option (Res×ze)):Option (Res×ze) :=
 (Yi (bop prog .lss 3 (gv st51 1) (gv st51 2))
 (bd (bop prog .add 3 (gv st51 1) (gv st51 2)) fun l =>
 (bd (cvt prog 3 204 l) fun o =>
 (bd (bop prog .shr 204 o (V.int .u64 1)) fun p =>
 (bd (cvt prog 204 3 p) fun b =>
 (bdS (nv (V.int .i64 m)) fun f =>
 (Yg (1=1/\f < ((lsl (gv st51 0))).length/\(some 95:Option Nat)≠some 0) (bd ((lsl (gv st51 0)))[f]? fun q =>
 (bd (q)[0]? fun g =>
 (bdS (nv b) fun h =>
 (Yg (1=1/\h < ((lsl (gv st51 0))).length/\(some 99:Option Nat)≠some 0) (bd ((lsl (gv st51 0)))[h]? fun r =>
 (bd (r)[0]? fun i =>
 (fnK c fun d j=>if (okV prog 3 d=true) then(if QI d then
 (cl (call n d ([g,i]++j) hh52) (fun e a =>
 (Zm e fun s =>
 (bd (bop prog .lss 3 s (V.int .i64 0)) fun t =>
 (Yi (uop .not t)
 (Ya b fun u =>
 (next53 [(V.sl 1 (lsl (gv st51 0)) false),u,(gv st51 2)] a))
 (next53 [(V.sl 1 (lsl (gv st51 0)) false),(gv st51 1),b] a))))) (fun k a=>none))
 else if Yd d then
 (bd (WI [(Wp hh52 g),(Wp hh52 i)]) fun v=>cl (call n d (v++j) hh52) (fun e a=>if V.simple.simpleL e then
 (Zm e fun w =>
 (bd (bop prog .lss 3 w (V.int .i64 0)) fun x =>
 (Yi (uop .not x)
 (Ya b fun y =>
 (next53 [(V.sl 1 (lsl (gv st51 0)) false),y,(gv st51 2)] a))
 (next53 [(V.sl 1 (lsl (gv st51 0)) false),(gv st51 1),b] a)))) else none) (fun k a=>if k.simple then none else none))
 else none) else none)))))))))))))
 (zV n (zae n st51) [(V.sl 1 (lsl (gv st51 0)) false),(V.int .i64 m)] hh52))
noncomputable def jE(n:Nat)(a m b:Int)(c v102 v103 v107:V)(st109:List V)(hh110:ze)(next111:List V->ze->Option (Res×ze)):Option (Res×ze) :=
 (Yi (bop prog .lss 3 (gv st109 1) (gv st109 2))
 (bd (bop prog .add 3 (gv st109 1) (gv st109 2)) fun y =>
 (bd (cvt prog 3 204 y) fun z =>
 (bd (bop prog .shr 204 z (V.int .u64 1)) fun A =>
 (bd (cvt prog 204 3 A) fun h =>
 (bd (bop prog .sub 3 v107 h) fun B =>
 (bdS (nv B) fun s =>
 (Yg (1=1/\s < ((lsl (gv st109 0))).length/\(some 163:Option Nat)≠some 0) (bd ((lsl (gv st109 0)))[s]? fun C =>
 (bd (C)[0]? fun t =>
 (bdS (nv h) fun u =>
 (Yg (1=1/\u < ((lsl (gv st109 0))).length/\(some 167:Option Nat)≠some 0) (bd ((lsl (gv st109 0)))[u]? fun D =>
 (bd (D)[0]? fun v =>
 (fnK c fun i w=>if (okV prog 3 i=true) then(if QI i then
 (cl (call n i ([t,v]++w) hh110) (fun j e =>
 (Zm j fun E =>
 (bd (bop prog .lss 3 E (V.int .i64 0)) fun F =>
 (Yi (uop .not F)
 (Ya h fun G =>
 (next111 [(V.sl 1 (lsl (gv st109 0)) false),G,(gv st109 2)] e))
 (next111 [(V.sl 1 (lsl (gv st109 0)) false),(gv st109 1),h] e))))) (fun x e=>none))
 else if Yd i then
 (bd (WI [(Wp hh110 t),(Wp hh110 v)]) fun H=>cl (call n i (H++w) hh110) (fun j e=>if V.simple.simpleL j then
 (Zm j fun I =>
 (bd (bop prog .lss 3 I (V.int .i64 0)) fun J =>
 (Yi (uop .not J)
 (Ya h fun K =>
 (next111 [(V.sl 1 (lsl (gv st109 0)) false),K,(gv st109 2)] e))
 (next111 [(V.sl 1 (lsl (gv st109 0)) false),(gv st109 1),h] e)))) else none) (fun x e=>if x.simple then none else none))
 else none) else none))))))))))))))
 (bd (bop prog .sub 3 v103 (gv st109 1)) fun d =>
 (Yi (bop prog .lss 3 (gv st109 1) (V.int .i64 m))
 (Yi (bop prog .lss 3 (V.int .i64 m) d)
 (clm (call n 250 (V.sl 1 (lsl (gv st109 0)) false :: [(gv st109 1),(V.int .i64 m),d,c]) hh110) 1 fun f ae g =>
 (Yi (bop prog .lss 3 (V.int .i64 a) (gv st109 1))
 (Yi (bop prog .lss 3 (gv st109 1) v102)
 (clm (call n 249 (V.sl 1 f false :: [(V.int .i64 a),(gv st109 1),v102,c]) g) 1 fun k af l =>
 (Yi (bop prog .lss 3 v102 d)
 (Yi (bop prog .lss 3 d (V.int .i64 b))
 (clm (call n 249 (V.sl 1 k false :: [v102,d,(V.int .i64 b),c]) l) 1 fun L ag M =>
 some (Res.ret (V.sl 1 L false :: []),M))
 (some (Res.ret (V.sl 1 k false :: []),l)))
 (some (Res.ret (V.sl 1 k false :: []),l))))
 (Yi (bop prog .lss 3 v102 d)
 (Yi (bop prog .lss 3 d (V.int .i64 b))
 (clm (call n 249 (V.sl 1 f false :: [v102,d,(V.int .i64 b),c]) g) 1 fun N ah O =>
 some (Res.ret (V.sl 1 N false :: []),O))
 (some (Res.ret (V.sl 1 f false :: []),g)))
 (some (Res.ret (V.sl 1 f false :: []),g))))
 (Yi (bop prog .lss 3 v102 d)
 (Yi (bop prog .lss 3 d (V.int .i64 b))
 (clm (call n 249 (V.sl 1 f false :: [v102,d,(V.int .i64 b),c]) g) 1 fun P ai Q =>
 some (Res.ret (V.sl 1 P false :: []),Q))
 (some (Res.ret (V.sl 1 f false :: []),g)))
 (some (Res.ret (V.sl 1 f false :: []),g)))))
 (Yi (bop prog .lss 3 (V.int .i64 a) (gv st109 1))
 (Yi (bop prog .lss 3 (gv st109 1) v102)
 (clm (call n 249 (V.sl 1 (lsl (gv st109 0)) false :: [(V.int .i64 a),(gv st109 1),v102,c]) hh110) 1 fun o aj p =>
 (Yi (bop prog .lss 3 v102 d)
 (Yi (bop prog .lss 3 d (V.int .i64 b))
 (clm (call n 249 (V.sl 1 o false :: [v102,d,(V.int .i64 b),c]) p) 1 fun R ak S =>
 some (Res.ret (V.sl 1 R false :: []),S))
 (some (Res.ret (V.sl 1 o false :: []),p)))
 (some (Res.ret (V.sl 1 o false :: []),p))))
 (Yi (bop prog .lss 3 v102 d)
 (Yi (bop prog .lss 3 d (V.int .i64 b))
 (clm (call n 249 (V.sl 1 (lsl (gv st109 0)) false :: [v102,d,(V.int .i64 b),c]) hh110) 1 fun T al U =>
 some (Res.ret (V.sl 1 T false :: []),U))
 (some (Res.ret (V.sl 1 (lsl (gv st109 0)) false :: []),hh110)))
 (some (Res.ret (V.sl 1 (lsl (gv st109 0)) false :: []),hh110))))
 (Yi (bop prog .lss 3 v102 d)
 (Yi (bop prog .lss 3 d (V.int .i64 b))
 (clm (call n 249 (V.sl 1 (lsl (gv st109 0)) false :: [v102,d,(V.int .i64 b),c]) hh110) 1 fun W am X =>
 some (Res.ret (V.sl 1 W false :: []),X))
 (some (Res.ret (V.sl 1 (lsl (gv st109 0)) false :: []),hh110)))
 (some (Res.ret (V.sl 1 (lsl (gv st109 0)) false :: []),hh110)))))
 (Yi (bop prog .lss 3 (V.int .i64 a) (gv st109 1))
 (Yi (bop prog .lss 3 (gv st109 1) v102)
 (clm (call n 249 (V.sl 1 (lsl (gv st109 0)) false :: [(V.int .i64 a),(gv st109 1),v102,c]) hh110) 1 fun q an r =>
 (Yi (bop prog .lss 3 v102 d)
 (Yi (bop prog .lss 3 d (V.int .i64 b))
 (clm (call n 249 (V.sl 1 q false :: [v102,d,(V.int .i64 b),c]) r) 1 fun Y ao Z =>
 some (Res.ret (V.sl 1 Y false :: []),Z))
 (some (Res.ret (V.sl 1 q false :: []),r)))
 (some (Res.ret (V.sl 1 q false :: []),r))))
 (Yi (bop prog .lss 3 v102 d)
 (Yi (bop prog .lss 3 d (V.int .i64 b))
 (clm (call n 249 (V.sl 1 (lsl (gv st109 0)) false :: [v102,d,(V.int .i64 b),c]) hh110) 1 fun aa ap ab =>
 some (Res.ret (V.sl 1 aa false :: []),ab))
 (some (Res.ret (V.sl 1 (lsl (gv st109 0)) false :: []),hh110)))
 (some (Res.ret (V.sl 1 (lsl (gv st109 0)) false :: []),hh110))))
 (Yi (bop prog .lss 3 v102 d)
 (Yi (bop prog .lss 3 d (V.int .i64 b))
 (clm (call n 249 (V.sl 1 (lsl (gv st109 0)) false :: [v102,d,(V.int .i64 b),c]) hh110) 1 fun ac aq ad =>
 some (Res.ret (V.sl 1 ac false :: []),ad))
 (some (Res.ret (V.sl 1 (lsl (gv st109 0)) false :: []),hh110)))
 (some (Res.ret (V.sl 1 (lsl (gv st109 0)) false :: []),hh110)))))))
noncomputable def zpi(n:Nat)(a m b:Int)(c v102 v103 v233:V)(st235:List V)(hh236:ze)(next237:List V->ze->Option (Res×ze)):Option (Res×ze) :=
 (Yi (bop prog .lss 3 (gv st235 1) (gv st235 2))
 (bd (bop prog .add 3 (gv st235 1) (gv st235 2)) fun y =>
 (bd (cvt prog 3 204 y) fun z =>
 (bd (bop prog .shr 204 z (V.int .u64 1)) fun A =>
 (bd (cvt prog 204 3 A) fun h =>
 (bd (bop prog .sub 3 v233 h) fun B =>
 (bdS (nv B) fun s =>
 (Yg (1=1/\s < ((lsl (gv st235 0))).length/\(some 163:Option Nat)≠some 0) (bd ((lsl (gv st235 0)))[s]? fun C =>
 (bd (C)[0]? fun t =>
 (bdS (nv h) fun u =>
 (Yg (1=1/\u < ((lsl (gv st235 0))).length/\(some 167:Option Nat)≠some 0) (bd ((lsl (gv st235 0)))[u]? fun D =>
 (bd (D)[0]? fun v =>
 (fnK c fun i w=>if (okV prog 3 i=true) then(if QI i then
 (cl (call n i ([t,v]++w) hh236) (fun j e =>
 (Zm j fun E =>
 (bd (bop prog .lss 3 E (V.int .i64 0)) fun F =>
 (Yi (uop .not F)
 (Ya h fun G =>
 (next237 [(V.sl 1 (lsl (gv st235 0)) false),G,(gv st235 2)] e))
 (next237 [(V.sl 1 (lsl (gv st235 0)) false),(gv st235 1),h] e))))) (fun x e=>none))
 else if Yd i then
 (bd (WI [(Wp hh236 t),(Wp hh236 v)]) fun H=>cl (call n i (H++w) hh236) (fun j e=>if V.simple.simpleL j then
 (Zm j fun I =>
 (bd (bop prog .lss 3 I (V.int .i64 0)) fun J =>
 (Yi (uop .not J)
 (Ya h fun K =>
 (next237 [(V.sl 1 (lsl (gv st235 0)) false),K,(gv st235 2)] e))
 (next237 [(V.sl 1 (lsl (gv st235 0)) false),(gv st235 1),h] e)))) else none) (fun x e=>if x.simple then none else none))
 else none) else none))))))))))))))
 (bd (bop prog .sub 3 v103 (gv st235 1)) fun d =>
 (Yi (bop prog .lss 3 (gv st235 1) (V.int .i64 m))
 (Yi (bop prog .lss 3 (V.int .i64 m) d)
 (clm (call n 250 (V.sl 1 (lsl (gv st235 0)) false :: [(gv st235 1),(V.int .i64 m),d,c]) hh236) 1 fun f ae g =>
 (Yi (bop prog .lss 3 (V.int .i64 a) (gv st235 1))
 (Yi (bop prog .lss 3 (gv st235 1) v102)
 (clm (call n 249 (V.sl 1 f false :: [(V.int .i64 a),(gv st235 1),v102,c]) g) 1 fun k af l =>
 (Yi (bop prog .lss 3 v102 d)
 (Yi (bop prog .lss 3 d (V.int .i64 b))
 (clm (call n 249 (V.sl 1 k false :: [v102,d,(V.int .i64 b),c]) l) 1 fun L ag M =>
 some (Res.ret (V.sl 1 L false :: []),M))
 (some (Res.ret (V.sl 1 k false :: []),l)))
 (some (Res.ret (V.sl 1 k false :: []),l))))
 (Yi (bop prog .lss 3 v102 d)
 (Yi (bop prog .lss 3 d (V.int .i64 b))
 (clm (call n 249 (V.sl 1 f false :: [v102,d,(V.int .i64 b),c]) g) 1 fun N ah O =>
 some (Res.ret (V.sl 1 N false :: []),O))
 (some (Res.ret (V.sl 1 f false :: []),g)))
 (some (Res.ret (V.sl 1 f false :: []),g))))
 (Yi (bop prog .lss 3 v102 d)
 (Yi (bop prog .lss 3 d (V.int .i64 b))
 (clm (call n 249 (V.sl 1 f false :: [v102,d,(V.int .i64 b),c]) g) 1 fun P ai Q =>
 some (Res.ret (V.sl 1 P false :: []),Q))
 (some (Res.ret (V.sl 1 f false :: []),g)))
 (some (Res.ret (V.sl 1 f false :: []),g)))))
 (Yi (bop prog .lss 3 (V.int .i64 a) (gv st235 1))
 (Yi (bop prog .lss 3 (gv st235 1) v102)
 (clm (call n 249 (V.sl 1 (lsl (gv st235 0)) false :: [(V.int .i64 a),(gv st235 1),v102,c]) hh236) 1 fun o aj p =>
 (Yi (bop prog .lss 3 v102 d)
 (Yi (bop prog .lss 3 d (V.int .i64 b))
 (clm (call n 249 (V.sl 1 o false :: [v102,d,(V.int .i64 b),c]) p) 1 fun R ak S =>
 some (Res.ret (V.sl 1 R false :: []),S))
 (some (Res.ret (V.sl 1 o false :: []),p)))
 (some (Res.ret (V.sl 1 o false :: []),p))))
 (Yi (bop prog .lss 3 v102 d)
 (Yi (bop prog .lss 3 d (V.int .i64 b))
 (clm (call n 249 (V.sl 1 (lsl (gv st235 0)) false :: [v102,d,(V.int .i64 b),c]) hh236) 1 fun T al U =>
 some (Res.ret (V.sl 1 T false :: []),U))
 (some (Res.ret (V.sl 1 (lsl (gv st235 0)) false :: []),hh236)))
 (some (Res.ret (V.sl 1 (lsl (gv st235 0)) false :: []),hh236))))
 (Yi (bop prog .lss 3 v102 d)
 (Yi (bop prog .lss 3 d (V.int .i64 b))
 (clm (call n 249 (V.sl 1 (lsl (gv st235 0)) false :: [v102,d,(V.int .i64 b),c]) hh236) 1 fun W am X =>
 some (Res.ret (V.sl 1 W false :: []),X))
 (some (Res.ret (V.sl 1 (lsl (gv st235 0)) false :: []),hh236)))
 (some (Res.ret (V.sl 1 (lsl (gv st235 0)) false :: []),hh236)))))
 (Yi (bop prog .lss 3 (V.int .i64 a) (gv st235 1))
 (Yi (bop prog .lss 3 (gv st235 1) v102)
 (clm (call n 249 (V.sl 1 (lsl (gv st235 0)) false :: [(V.int .i64 a),(gv st235 1),v102,c]) hh236) 1 fun q an r =>
 (Yi (bop prog .lss 3 v102 d)
 (Yi (bop prog .lss 3 d (V.int .i64 b))
 (clm (call n 249 (V.sl 1 q false :: [v102,d,(V.int .i64 b),c]) r) 1 fun Y ao Z =>
 some (Res.ret (V.sl 1 Y false :: []),Z))
 (some (Res.ret (V.sl 1 q false :: []),r)))
 (some (Res.ret (V.sl 1 q false :: []),r))))
 (Yi (bop prog .lss 3 v102 d)
 (Yi (bop prog .lss 3 d (V.int .i64 b))
 (clm (call n 249 (V.sl 1 (lsl (gv st235 0)) false :: [v102,d,(V.int .i64 b),c]) hh236) 1 fun aa ap ab =>
 some (Res.ret (V.sl 1 aa false :: []),ab))
 (some (Res.ret (V.sl 1 (lsl (gv st235 0)) false :: []),hh236)))
 (some (Res.ret (V.sl 1 (lsl (gv st235 0)) false :: []),hh236))))
 (Yi (bop prog .lss 3 v102 d)
 (Yi (bop prog .lss 3 d (V.int .i64 b))
 (clm (call n 249 (V.sl 1 (lsl (gv st235 0)) false :: [v102,d,(V.int .i64 b),c]) hh236) 1 fun ac aq ad =>
 some (Res.ret (V.sl 1 ac false :: []),ad))
 (some (Res.ret (V.sl 1 (lsl (gv st235 0)) false :: []),hh236)))
 (some (Res.ret (V.sl 1 (lsl (gv st235 0)) false :: []),hh236)))))))
noncomputable def zwo(n:Nat)(l:List (List V))(a m b:Int)(c:V)(h:ze):Option (Res×ze) :=
 (if ((IntKind.i64.wrap (m - a)) == 1) then
 (zV n (zbY n a c) [(V.sl 1 l false),(V.int .i64 m),(V.int .i64 b)] h)
 else
 (if ((IntKind.i64.wrap (b - m)) == 1) then
 (zV n (zaf n m c) [(V.sl 1 l false),(V.int .i64 a),(V.int .i64 m)] h)
 else
 (bd (bop prog .shr 204 (V.int .u64 (IntKind.u64.wrap (IntKind.i64.wrap (a+b)))) (V.int .u64 1)) fun f =>
 (bd (cvt prog 204 3 f) fun d =>
 (bd (bop prog .add 3 d (V.int .i64 m)) fun e =>
 (Yi (bop prog .gtr 3 (V.int .i64 m) d)
 (bd (bop prog .sub 3 e (V.int .i64 b)) fun g =>
 (bd (bop prog .sub 3 e (V.int .i64 1)) fun i =>
 (zV n (jE n a m b c d e i) [(V.sl 1 l false),g,d] h)))
 (bd (bop prog .sub 3 e (V.int .i64 1)) fun j =>
 (zV n (zpi n a m b c d e j) [(V.sl 1 l false),(V.int .i64 a),(V.int .i64 m)] h))))))))
theorem ztE(n:Nat)(l:List (List V))(a:Int)(m:Int)(b:Int)(c:V)(h:ze):call (n+1) 249 [(V.sl 1 l false),(V.int .i64 a),(V.int .i64 m),(V.int .i64 b),c] h=zwo n l a m b c h:=by kernel_rfl
noncomputable def zdP(n:Nat)(a:Int)(c:V)(st1:List V)(next3:List V->ze->Option (Res×ze))(st7:List V)(hh8:ze)(next9:List V->ze->Option (Res×ze)):Option (Res×ze) :=
 (Yi (bop prog .gtr 3 (gv st7 1) (V.int .i64 a))
 (bdS (nv (gv st7 1)) fun q =>
 (Yg (1=1/\q < ((lsl (gv st7 0))).length/\(some 25:Option Nat)≠some 0) (bd ((lsl (gv st7 0)))[q]? fun A =>
 (bd (A)[0]? fun r =>
 (bd (bop prog .sub 3 (gv st7 1) (V.int .i64 1)) fun B =>
 (bdS (nv B) fun s =>
 (Yg (1=1/\s < ((lsl (gv st7 0))).length/\(some 30:Option Nat)≠some 0) (bd ((lsl (gv st7 0)))[s]? fun C =>
 (bd (C)[0]? fun t =>
 (fnK c fun d u=>if (okV prog 3 d=true) then(if QI d then
 (cl (call n d ([r,t]++u) hh8) (fun i b =>
 (Zm i fun D =>
 (Yi (bop prog .lss 3 D (V.int .i64 0))
 (bd (bop prog .sub 3 (gv st7 1) (V.int .i64 1)) fun E =>
 (bd (bop prog .sub 3 (gv st7 1) (V.int .i64 1)) fun F =>
 (bdS (nv F) fun v =>
 (Yg (1=1/\v < ((lsl (gv st7 0))).length/\(some 45:Option Nat)≠some 0) (bd ((lsl (gv st7 0)))[v]? fun G =>
 (bd (G)[0]? fun e =>
 (bdS (nv (gv st7 1)) fun w =>
 (Yg (1=1/\w < ((lsl (gv st7 0))).length/\(some 49:Option Nat)≠some 0) (bd ((lsl (gv st7 0)))[w]? fun H =>
 (bd (H)[0]? fun j =>
 (bdS (nv (gv st7 1)) fun f =>
 (Yg (1=1/\f < ((lsl (gv st7 0))).length/\(some 51:Option Nat)≠some 0) (if ((V.cells e)).length=1 then
 (Yg (1=1/\0 < 1/\0+((V.cells e)).length<=1) (bd ((lsl (gv st7 0)))[f]? fun k =>
 (bdS (nv E) fun l =>
 (Yg (1=1/\l < ((((lsl (gv st7 0))).set f (setR k 0 (V.cells e)))).length/\(some 52:Option Nat)≠some 0) (if ((V.cells j)).length=1 then
 (Yg (1=1/\0 < 1/\0+((V.cells j)).length<=1) (bd ((((lsl (gv st7 0))).set f (setR k 0 (V.cells e))))[l]? fun I =>
 (bd (bop prog .sub 3 (gv st7 1) (V.int .i64 1)) fun J =>
 (next9 [(V.sl 1 (((((lsl (gv st7 0))).set f (setR k 0 (V.cells e)))).set l (setR I 0 (V.cells j))) false),J] b)))) else none))))) else none)))))))))))))
 (Ya (gv st1 1) fun K =>
 (next3 [(V.sl 1 (lsl (gv st7 0)) false),K] b))))) (fun x b=>none))
 else if Yd d then
 (bd (WI [(Wp hh8 r),(Wp hh8 t)]) fun L=>cl (call n d (L++u) hh8) (fun i b=>if V.simple.simpleL i then
 (Zm i fun M =>
 (Yi (bop prog .lss 3 M (V.int .i64 0))
 (bd (bop prog .sub 3 (gv st7 1) (V.int .i64 1)) fun N =>
 (bd (bop prog .sub 3 (gv st7 1) (V.int .i64 1)) fun O =>
 (bdS (nv O) fun y =>
 (Yg (1=1/\y < ((lsl (gv st7 0))).length/\(some 45:Option Nat)≠some 0) (bd ((lsl (gv st7 0)))[y]? fun P =>
 (bd (P)[0]? fun g =>
 (bdS (nv (gv st7 1)) fun z =>
 (Yg (1=1/\z < ((lsl (gv st7 0))).length/\(some 49:Option Nat)≠some 0) (bd ((lsl (gv st7 0)))[z]? fun Q =>
 (bd (Q)[0]? fun m =>
 (bdS (nv (gv st7 1)) fun h =>
 (Yg (1=1/\h < ((lsl (gv st7 0))).length/\(some 51:Option Nat)≠some 0) (if ((V.cells g)).length=1 then
 (Yg (1=1/\0 < 1/\0+((V.cells g)).length<=1) (bd ((lsl (gv st7 0)))[h]? fun o =>
 (bdS (nv N) fun p =>
 (Yg (1=1/\p < ((((lsl (gv st7 0))).set h (setR o 0 (V.cells g)))).length/\(some 52:Option Nat)≠some 0) (if ((V.cells m)).length=1 then
 (Yg (1=1/\0 < 1/\0+((V.cells m)).length<=1) (bd ((((lsl (gv st7 0))).set h (setR o 0 (V.cells g))))[p]? fun R =>
 (bd (bop prog .sub 3 (gv st7 1) (V.int .i64 1)) fun S =>
 (next9 [(V.sl 1 (((((lsl (gv st7 0))).set h (setR o 0 (V.cells g)))).set p (setR R 0 (V.cells m))) false),S] b)))) else none))))) else none)))))))))))))
 (Ya (gv st1 1) fun T =>
 (next3 [(V.sl 1 (lsl (gv st7 0)) false),T] b)))) else none) (fun x b=>if x.simple then none else none))
 else none) else none))))))))))
 (Ya (gv st1 1) fun U =>
 (next3 [(V.sl 1 (lsl (gv st7 0)) false),U] hh8)))
noncomputable def zbZ(n:Nat)(a b:Int)(c:V)(st1:List V)(hh2:ze)(next3:List V->ze->Option (Res×ze)):Option (Res×ze) :=
 (Yi (bop prog .lss 3 (gv st1 1) (V.int .i64 b))
 (zV n (zdP n a c st1 next3) [(V.sl 1 (lsl (gv st1 0)) false),(gv st1 1)] hh2)
 (some (Res.ret (V.sl 1 (lsl (gv st1 0)) false :: []),hh2)))
noncomputable def zwp(n:Nat)(l:List (List V))(a b:Int)(c:V)(h:ze):Option (Res×ze) :=
 (zV n (zbZ n a b c) [(V.sl 1 l false),(V.int .i64 (IntKind.i64.wrap (a+1)))] h)
theorem ztF(n:Nat)(l:List (List V))(a:Int)(b:Int)(c:V)(h:ze):call (n+1) 248 [(V.sl 1 l false),(V.int .i64 a),(V.int .i64 b),c] h=zwp n l a b c h:=by kernel_rfl
noncomputable def zaA(n:Nat)(k:Int)(c:V)(st14:List V)(next16:List V->ze->Option (Res×ze))(st21:List V)(hh22:ze)(next23:List V->ze->Option (Res×ze)):Option (Res×ze) :=
 (Yi (bop prog .leq 3 (gv st21 2) (V.int .i64 k))
 (bd (bop prog .add 3 (gv st21 1) (gv st14 1)) fun b =>
 (clm (call n 249 (V.sl 1 (lsl (gv st21 0)) false :: [(gv st21 1),b,(gv st21 2),c]) hh22) 1 fun d m e =>
 (bd (bop prog .mul 3 (V.int .i64 2) (gv st14 1)) fun f =>
 (bd (bop prog .add 3 (gv st21 2) f) fun g =>
 (next23 [(V.sl 1 d false),(gv st21 2),g] e)))))
 (bd (bop prog .add 3 (gv st21 1) (gv st14 1)) fun a =>
 (Yi (bop prog .lss 3 a (V.int .i64 k))
 (clm (call n 249 (V.sl 1 (lsl (gv st21 0)) false :: [(gv st21 1),a,(V.int .i64 k),c]) hh22) 1 fun h o i =>
 (bd (bop prog .mul 3 (gv st14 1) (V.int .i64 2)) fun j =>
 (next16 [(V.sl 1 h false),j,(gv st21 1),(gv st21 2)] i)))
 (bd (bop prog .mul 3 (gv st14 1) (V.int .i64 2)) fun l =>
 (next16 [(V.sl 1 (lsl (gv st21 0)) false),l,(gv st21 1),(gv st21 2)] hh22)))))
noncomputable def Kh(n:Nat)(k:Int)(c:V)(st14:List V)(hh15:ze)(next16:List V->ze->Option (Res×ze)):Option (Res×ze) :=
 (Yi (bop prog .lss 3 (gv st14 1) (V.int .i64 k))
 (bd (bop prog .mul 3 (V.int .i64 2) (gv st14 1)) fun a =>
 (zV n (zaA n k c st14 next16) [(V.sl 1 (lsl (gv st14 0)) false),(V.int .i64 0),a] hh15))
 (some (Res.ret (V.sl 1 (lsl (gv st14 0)) false :: []),hh15)))
noncomputable def zb0(n:Nat)(k:Int)(c:V)(st1:List V)(hh2:ze)(next3:List V->ze->Option (Res×ze)):Option (Res×ze) :=
 (Yi (bop prog .leq 3 (gv st1 2) (V.int .i64 k))
 (clm (call n 248 (V.sl 1 (lsl (gv st1 0)) false :: [(gv st1 1),(gv st1 2),c]) hh2) 1 fun a g b =>
 (bd (bop prog .add 3 (gv st1 2) (V.int .i64 20)) fun d =>
 (next3 [(V.sl 1 a false),(gv st1 2),d] b)))
 (clm (call n 248 (V.sl 1 (lsl (gv st1 0)) false :: [(gv st1 1),(V.int .i64 k),c]) hh2) 1 fun e h f =>
 (zV n (Kh n k c) [(V.sl 1 e false),(V.int .i64 20),(gv st1 1),(gv st1 2)] f)))
noncomputable def zuV(n:Nat)(l:List (List V))(k:Int)(c:V)(h:ze):Option (Res×ze) :=
 (zV n (zb0 n k c) [(V.sl 1 l false),(V.int .i64 0),(V.int .i64 20)] h)
theorem zrO(n:Nat)(l:List (List V))(k:Int)(c:V)(h:ze):call (n+1) 246 [(V.sl 1 l false),(V.int .i64 k),c] h=zuV n l k c h:=by kernel_rfl
noncomputable def zuW(n:Nat)(l:List (List V))(c:V)(h:ze):Option (Res×ze) :=
 (clm (call n 246 (V.sl 1 l false :: [(V.int .i64 ((l).length:Int)),c]) h) 1 fun a d b =>
 some (Res.ret (V.sl 1 a false :: []),b))
theorem zrP(n:Nat)(l:List (List V))(c:V)(h:ze):call (n+1) 240 [(V.sl 1 l false),c] h=zuW n l c h:=by kernel_rfl
end Go.Proofs.Tryz
