/- Lopk Lloo: what the law needs of these -/import Derived.LoopN
import Derived.Test.YtclhmdhdpejhhaaGreatJdo8
set_option linter.unusedVariables false
set_option linter.unusedSimpArgs false
namespace Go.L
open Go.RowKit
def zio(im:Im)(w:World):Prop:=∀ p v,im p=some v->w.cell? p=some v
def RR (P : Program) (f : FuncId) (im : Im) (io : Io) : Res -> Ending -> Prop
 | .ret vs,.returned v=>∃ fn,P.funcs[f]?=some fn/\(fn.results.size=1->∃ x,vs=[x]/\VR im io x v)/\(fn.results.size≠1->∃ c,v=.tuple c/\VL im io vs c.toList)
 | .pan x,.panicked chain=>∃ v,chain=[{ v,recovered:=false }]/\VR im io x v
 | _,_=>False
def Wt(P:Program)(f:FuncId)(g:G)(w:World)(r:Res)(h':zd)(e:Ending)(w':World):Prop :=
 ∃ g',Step g w g' w'/\Hinv g' h' w'/\(∀ β s,g'.ow β≠some (.slot s))/\RR P f g'.im g'.io r e
def YD(P:Program)(f:FuncId)(im:Im)(io:Io)(w:World)(r:Res)(e:Ending)(w':World):Prop :=
 Below w.heap.size w w'/\∃ im',(∀ p v,im p=some v->im' p=some v)/\zio im' w'/\(∀ p v,im' p=some v->im p=some v\/w.heap.size<=p.block)/\RR P f im' io r e
def zgM(P:Program)(f:FuncId)(e sz:Nat)(g:G)(w:World)(l':List (List V))(vs:List V)(v0:Value)(h':zd)(en:Ending)(w':World):Prop :=
 ∃ g',Step g w g' w'/\Hinv g' h' w'/\SR g' w' #[] 0 (.own e sz l') v0/\RR P f g'.im g'.io (.ret vs) en
structure RecOk(P:Program)(gc:FuncId->Bool)(rec:Rec):Prop where
 nat:NatOk P
 fn:∀ f args h r,rec f args h=some r->∃ fn,P.funcs[f]?=some fn/\fn.body.isNone=false/\(fn.name == "runtime.NumGoroutine")=false
 heap:∀ f args h r h',WW P f=none->rec f args h=some (r,h')->∀ g vals w,Hinv g h w->(∀ β s,g.ow β≠some (.slot s))->VL g.im g.io args vals->Calls P f vals.toArray w (Wt P f g w r h')
 pure:∀ f args h r h',WW P f=none->gc f=true->rec f args h=some (r,h')->h'=h/\∀ im io vals w,zio im w->VL im io args vals->Calls P f vals.toArray w (YD P f im io w r)
 mutc:∀ f e sz l b args h l' b' vs h',WW P f=some (e,sz)->rec f (.sl sz l b :: args) h=some (.ret (.sl sz l' b' :: vs),h')->∀ g v0 vals w,Hinv g h w->(∀ β s,g.ow β=some (.slot s)->v0.ownBlock=some β)->SR g w #[] 0 (.own e sz l) v0->VL g.im g.io args vals →
  Calls P f (v0 :: vals).toArray w (zgM P f e sz g w l' vs v0 h')
theorem VR.simple{im im':Im}{io io':Io}{x:V}{y:Value}(h:VR im io x y):x.simple=true->VR im' io' x y:=by
 induction h with
 | int=>exact fun _=>.int _ _
 | bool=>exact fun _=>.bool _
 | str=>exact fun _=>.str _
 | val _ h=>exact fun _=>.val _ h
 | agg l c hl ho _ ih =>
   intro hs;refine .agg l c hl ho fun i x y h1 h2=>ih i x y h1 h2 ?_;have:∀ (l:List V),V.simple.simpleL l=true->∀ x∈l,x.simple=true:=by
    intro l
    induction l with
    | nil=>simp
    | cons a l ih =>
      intro h x hx;simp only[V.simple.simpleL,zB] at h;rcases zL.1 hx with rfl|hx
      . exact h.1
      . exact ih h.2 x hx
   exact this l (by simpa[V.simple] using hs) x (zJ h1)
 | sl=>exact fun h=>by simp[V.simple] at h
 | ptr=>exact fun h=>by simp[V.simple] at h
 | iptr=>exact fun h=>by simp[V.simple] at h
 | map=>exact fun h=>by simp[V.simple] at h
 | row=>exact fun h=>by simp[V.simple] at h
 | rowN=>exact fun h=>by simp[V.simple] at h
 | rptr=>exact fun h=>by simp[V.simple] at h
 | fn=>exact fun h=>by simp[V.simple] at h
 | iface=>exact fun h=>by simp[V.simple] at h
 | yld=>exact fun h=>by simp[V.simple] at h
 | bf=>exact fun h=>by simp[V.simple] at h
 | mo=>exact fun h=>by simp[V.simple] at h
theorem zcb{l:List V}(h:V.simple.simpleL l=true):∀ x∈l,x.simple=true:=by
 induction l with
 | nil=>simp
 | cons a l ih =>
   intro x hx;simp only[V.simple.simpleL,zB] at h;rcases zL.1 hx with rfl|hx
   . exact h.1
   . exact ih h.2 x hx
theorem VL.simple{im im':Im}{io io':Io}{l:List V}{c:List Value}(h:VL im io l c)(hs:V.simple.simpleL l=true):VL im' io' l c :=
 ⟨h.1,fun i x y h1 h2=>(h.2 i x y h1 h2).simple (zcb hs x (zJ h1))⟩
section
variable {vc:Bool} {P:Program} {o:Oper} {a:Act} {g:G} {w:World} {F:List S} {h:zd} {gc keep:FuncId->Bool} {rec:Rec}
def G.hpOnly(g:G):G:={ g with ow:=fun β=>match g.ow β with|some (.hp b)=>some (.hp b)|_=>none }
theorem zn3{g:G}{β b:Nat}:g.hpOnly.ow β=some (.hp b) ↔ g.ow β=some (.hp b):=by
 show (match g.ow β with|some (.hp b)=>some (Ow.hp b)|_=>none)=_ ↔ _;split
 . rename_i h;rw[h]
 . rename_i h;exact⟨(fun h'=>by cases h'),fun h'=>absurd h' (h b)⟩
theorem Jj{g:G}{β:Nat}(h:g.ow β=none\/∃ s,g.ow β=some (.slot s)):g.hpOnly.ow β=none:=by
 show (match g.ow β with|some (.hp b)=>some (Ow.hp b)|_=>none)=_;rcases h with h|⟨s,h⟩ <;> rw[h]
theorem X3(g:G):∀ β s,g.hpOnly.ow β≠some (.slot s):=fun β s=>by
 show (match g.ow β with|some (.hp b)=>some (Ow.hp b)|_=>none)≠_;split <;> simp
theorem Hinv.hpOnly(hh:Hinv g h w):Hinv g.hpOnly h w where
 hp b x hx:=(hh.hp b x hx).keep (fun _ _ h=>h) (fun _ _ h=>h) fun β h2=>⟨zn3.2 h2,rfl⟩
 io:=hh.io
 im p v hp:=⟨(hh.im p v hp).1,Jj (.inl (hh.im p v hp).2)⟩
 ow β hβ:=hh.ow β fun h0=>hβ (Jj (.inl h0))
theorem WK {g' : G} {w' : World} {h' : zd} (hh : Hinv g h w) (hf : Finv g F a.tmps w) (hs : Step g.hpOnly w g' w') (hh' : Hinv g' h' w') (hns : ∀ β s, g'.ow β ≠ some (.slot s)) :
    ∃ g2,g2.im=g'.im/\g2.io=g'.io/\Hinv g2 h' w'/\Finv g2 F a.tmps w'/\Step g w g2 w':=by
 let g2:G:={ im:=g'.im,io:=g'.io,ow:=fun β=>match g.ow β with|some (.slot s)=>some (.slot s)|_=>g'.ow β }
 have hslot:∀ β s,g.ow β=some (.slot s)->g2.ow β=some (.slot s):=fun β s hβ=>by
  show (match g.ow β with|some (.slot s)=>some (Ow.slot s)|_=>g'.ow β)=_;rw[hβ]
 have helse:∀ β,(∀ s,g.ow β≠some (.slot s))->g2.ow β=g'.ow β:=fun β hβ=>by
  show (match g.ow β with|some (.slot s)=>some (Ow.slot s)|_=>g'.ow β)=_;split
  . rename_i s h;exact absurd h (hβ s)
  . rfl
 have hsg:∀ β s,g.ow β=some (.slot s)->g'.ow β=none/\w'.heap[β]?=w.heap[β]?:=fun β s hβ=>by
  have hlt:=hh.ow β (by rw[hβ];simp);have h0:g.hpOnly.ow β=none:=Jj (.inr ⟨s,hβ⟩);exact⟨hs.ow β hlt h0,hs.block β hlt h0⟩
 refine⟨g2,rfl,rfl,⟨fun b x hx=>?_,hh'.io,fun p v hp=>?_,fun β hβ=>?_⟩,?_,⟨hs.im,hs.io,fun p v hp=>?_,fun β hβ h0=>?_,hs.os,hs.tape,hs.output,hs.size,fun β hβ h0=>hs.block β hβ (Jj (.inl h0))⟩⟩
 . refine(hh'.hp b x hx).keep (fun _ _ h=>h) (fun _ _ h=>h) fun β h2=>⟨?_,rfl⟩;rw[helse β fun s hβ=>by rw[(hsg β s hβ).1] at h2;cases h2];exact h2
 . obtain⟨h1,h2⟩:=hh'.im p v hp;refine⟨h1,?_⟩;rw[helse p.block fun s hβ=>?_]
   . exact h2
   . rcases hs.imn p v hp with h3|h3|h3
     . have:=(hh.im p v h3).2;rw[hβ] at this;cases this
     . have:=hh.ow p.block (by rw[hβ];simp);omega
     . exact h3 (Jj (.inr ⟨s,hβ⟩))
 . by_cases hsl:∃ s,g.ow β=some (.slot s)
   . obtain⟨s,hsl⟩:=hsl;exact Z6 (hh.ow β (by rw[hsl];simp)) hs.size
   . rw[helse β fun s h=>hsl ⟨s,h⟩] at hβ;exact hh'.ow β hβ
 . exact hf.keep hs.im hs.io fun β s hβ=>⟨hslot β s hβ,(hsg β s hβ).2⟩
 . rcases hs.imn p v hp with h3|h3|h3
   . exact .inl h3
   . exact .inr (.inl h3)
   . exact .inr (.inr fun h0=>h3 (Jj (.inl h0)))
 . rw[helse β fun s h=>by rw[h0] at h;cases h];exact hs.ow β hβ (Jj (.inl h0))
theorem zdz{w':World}(hb:Below w.heap.size w w'):Step g w g w' :=
 ⟨fun _ _ h=>h,fun _ _ h=>h,fun _ _ h=>.inl h,fun _ _ h=>h,hb.os,hb.tape,hb.output,hb.size,fun β hβ _=>hb.block β hβ⟩
theorem Hinv.below{w':World}(hh:Hinv g h w)(hb:Below w.heap.size w w'):Hinv g h w' :=
 hh.keep rfl rfl (fun β h0 hlt=>⟨h0,hb.block β hlt⟩) (fun β b h0=>⟨h0,hb.block β (hh.ow β (by rw[h0];simp))⟩) (fun β h0=>Z6 (hh.ow β h0) hb.size)
theorem Finv.below{w':World}(hh:Hinv g h w)(hf:Finv g F a.tmps w)(hb:Below w.heap.size w w'):Finv g F a.tmps w' :=
 hf.keep (fun _ _ h=>h) (fun _ _ h=>h) fun β s h0=>⟨h0,hb.block β (hh.ow β (by rw[h0];simp))⟩
theorem zn4(hh:Hinv g h w)(hf:Finv g F a.tmps w){x:Operand}{v:V}(he:evB F h x=some v):VR (fun p=>w.cell? p) g.io v (a.eval x):=by
 have hm:∀ p v,g.im p=some v->w.cell? p=some v:=fun p v hp=>(hh.im p v hp).1;cases x with
 | tmp t =>
   simp only[evB] at he;split at he
   . rename_i y hy;have hrow:(∃ b sz lo hi,y=.row b sz lo hi)\/Kh h y=some y:=by
      cases y <;> first|exact .inl ⟨_,_,_,_,rfl⟩|exact .inr rfl
     rcases hrow with ⟨b,sz,lo,hi,rfl⟩|hvb
     . simp only[Kh] at he;cases hr:Kg h b sz lo hi with
       | none=>rw[hr] at he;cases he
       | some l =>
         rw[hr] at he;cases he;have hv:VR g.im g.io (.row b sz lo hi) (a.eval (.tmp t)):=by rw[<- QQ hf t];exact hf.getD hy
         exact zul hh hr hv
     rw[hvb] at he;cases he;rw[<- QQ hf t];exact VR.mono hm (fun _ _ h=>h) (hf.getD hy)
   . rename_i e sz l hx;cases he;obtain⟨xs,h1,h2,h3,h4⟩:=hf.getD hx;obtain⟨A,cap,ad,hv,hc,hmm,hA,hAb,hr⟩:=zaz h1 h2 h3;rw[<- QQ hf t,hv];exact .sl sz l false A cap ad (fun k j=>xs.getD (k * sz+j) undef) hA (by simp) hc hmm h2 (fun k es j x hk hj=>(hr k es j x hk hj).1) (fun k es j x hk hj=>(hr k es j x hk hj).2.2.mono hm (fun _ _ h=>h))
   . cases he
 | const v=>exact WN he
 | func f=>cases he;exact .fn f [] #[] rfl (by simp)
 | global n=>cases he
theorem zdA (hh : Hinv g h w) (hf : Finv g F a.tmps w) : ∀ {os : List Operand} {vs : List V}, Yk F h os = some vs -> VL (fun p => w.cell? p) g.io vs (os.map a.eval)
 | [],vs,he=>by cases he;exact .nil
 | o :: os,vs,he=>by
   unfold Yk at he;split at he
   . rename_i v r h1 h2;cases he;exact .cons (zn4 hh hf h1) (zdA hh hf h2)
   . cases he
theorem YE {c : Call} {fo : Operand} {f : FuncId} {capv : Array Value} (ho : o.op = .call c) (hc : c.callee = .value fo) (hv : a.eval fo = .func (.func f) #[] capv) {fn : Func} (hfn : P.funcs[f]? = some fn) (hb : fn.body.isNone = false) (hn : (fn.name == "runtime.NumGoroutine") = false) :
    (execOp a.eval o).run P w=.ok (.enter f ((c.args.toList.map a.eval)++capv.toList).toArray) w:=by
 have harr:c.args.map a.eval++capv=((c.args.toList.map a.eval)++capv.toList).toArray:=by
  apply Array.ext';simp
 simp only[execOp,ho,resolve,hc,hv,Deferred.ofValue,Sem.run_bind,Sem.run_pure,Result.andThen_ok,invoke,callFunc,run_program,hfn,hn,hb,zp,if_false];rw[<- harr];simp
theorem YF {f : FuncId} {vs : List V} {g' : G} {w' : World} {v : Value} {d : Option Nat} {F : List S} {h : zd} {R : Type} {K : List S -> zd -> Option R} {r : R} (hr : RR P f g'.im g'.io (.ret vs) (.returned v)) (hs : zbp P f d vs F h K = some r) :
    ∃ s,K (put F d s) h=some r/\(∀ k T,SR g' w' T k s v)/\lin s=false/\∀ d sz i c,s≠.fp d sz i c:=by
 obtain⟨fn,hfn,h1,h2⟩:=hr;unfold zbp zbo at hs;rw[hfn] at hs;simp only at hs;split at hs
 . rename_i hsz;obtain⟨x,rfl,hx⟩:=h1 (by simpa using hsz);exact⟨_,hs,fun _ _=>hx,rfl,by simp⟩
 . rename_i hsz;exact⟨_,hs,fun _ _=>h2 (by simpa using hsz),rfl,by simp⟩
theorem zgN (hrec : RecOk P gc rec) {c : Call} {fo : Operand} {f : FuncId} {caps : List V} {capv : Array Value} {R : Type} {K : List S -> zd -> Option R} {Z : V -> List S -> zd -> Option R} {r : R} (ho : o.op = .call c) (hc : c.callee = .value fo) (hv : a.eval fo = .func (.func f) #[] capv)
    (hcap:VL g.im g.io caps capv.toList) (hmu:WW P f=none) (hx:zbq P rec keep gc vc o f caps c.args.toList F h K Z=some r) (hh:Hinv g h w) (hf:Finv g F a.tmps w) {next:Act->World->Prop} {Q:Exit->Act->World->Prop}
    (hK:∀ F' h' g' v w',K F' h'=some r->Hinv g' h' w'->Finv g' F' (a.put o.dst v).tmps w'->Step g w g' w'->next (a.put o.dst v) w')
    (hZ:∀ x F' h' g' v w',Z x F' h'=some r->Hinv g' h' w'->VR g'.im g'.io x v->Finv g' F' a.tmps w'->Step g w g' w'->Q (.panic [{ v,recovered:=false }]) a w'):o.wp P a w next Q:=by
 unfold zbq at hx;split at hx
 . rename_i k e hnf;split at hx
   . rename_i hce;have hc0:caps=[]:=by simpa using hce
     subst hc0;have hcv:capv=#[]:=by
      have:=hcap.1;apply Array.ext';simpa using this.symm
     subst hcv;obtain⟨fn,hfn,hb,hn⟩:=hrec.nat.fn _ _ _ hnf;unfold Oper.wp;rw[YE ho hc hv hfn hb hn,Oper.upon_enter];have:=zn2 (o:=o) hrec.nat hnf hx hh hf;rw[show (c.args.toList.map a.eval++(#[]:Array Value).toList)=c.args.toList.map a.eval from by simp];refine this.mono ?_;rintro en w' ⟨v',F',g',rfl,h1,h2,h3,h4⟩;exact hK F' h g' v' w' h1 h2 h3 h4
   . cases hx
 split at hx
 . split at hx
   . rename_i vs F1 h1 hev;obtain⟨g1,a1,a2,a3,a4⟩:=QI hh hf hev;have hargs:VL g1.im g1.io (vs++caps) ((c.args.toList.map a.eval)++capv.toList):=a4.append (hcap.mono a3.im a3.io);split at hx
     . rename_i vs' h2 XG;obtain⟨fn,hfn,hb,hn⟩:=hrec.fn _ _ _ _ XG;unfold Oper.wp;rw[YE ho hc hv hfn hb hn,Oper.upon_enter];refine(hrec.heap _ _ _ _ _ hmu XG g1.hpOnly _ w a1.hpOnly (X3 g1) hargs).mono ?_;rintro e w' ⟨g',s1,s2,s3,s4⟩;obtain⟨g2,e1,e2,b1,b2,b3⟩:=WK a1 a2 s1 s2 s3;cases e with
       | returned v =>
         rw[<- e1,<- e2] at s4;obtain⟨s,hx',r1,r2,r3⟩:=YF (w':=w') s4 hx;exact hK _ _ g2 v w' hx' b1 (b2.put o.dst s v (fun k _ _=>r1 k _) (fun k e sz i c _ he=>absurd he (r3 e sz i c))) (a3.trans b3)
       | panicked ch=>exact s4.elim
       | outgrown=>exact s4.elim
     . rename_i x h2 XG;obtain⟨fn,hfn,hb,hn⟩:=hrec.fn _ _ _ _ XG;unfold Oper.wp;rw[YE ho hc hv hfn hb hn,Oper.upon_enter];refine(hrec.heap _ _ _ _ _ hmu XG g1.hpOnly _ w a1.hpOnly (X3 g1) hargs).mono ?_;rintro e w' ⟨g',s1,s2,s3,s4⟩;obtain⟨g2,e1,e2,b1,b2,b3⟩:=WK a1 a2 s1 s2 s3;cases e with
       | returned v=>exact s4.elim
       | panicked ch =>
         obtain⟨v,rfl,hvr⟩:=s4;exact hZ x _ _ g2 v w' hx b1 (by rw[e1,e2];exact hvr) b2 (a3.trans b3)
       | outgrown=>exact s4.elim
     . cases hx
   . cases hx
 . split at hx
   . rename_i hgc;split at hx
     . rename_i vs hev;have hm:∀ p v,g.im p=some v->w.cell? p=some v:=fun p v hp=>(hh.im p v hp).1;have hargs:VL (fun p=>w.cell? p) g.io (vs++caps) ((c.args.toList.map a.eval)++capv.toList):=(zdA hh hf hev).append (hcap.mono hm (fun _ _ h=>h));split at hx
       . rename_i vs' h2 XG;split at hx
         . rename_i hsim;obtain⟨fn,hfn,hb,hn⟩:=hrec.fn _ _ _ _ XG;obtain⟨rfl,hp⟩:=hrec.pure _ _ _ _ _ hmu hgc XG;unfold Oper.wp;rw[YE ho hc hv hfn hb hn,Oper.upon_enter];refine(hp _ _ _ w (fun p v hp=>hp) hargs).mono ?_;rintro e w' ⟨hbel,im',_,_,_,s4⟩;cases e with
           | returned v =>
             have s5:RR P f g.im g.io (.ret vs') (.returned v):=by
              obtain⟨fn,i1,i2,i3⟩:=s4;refine⟨fn,i1,fun hsz=>?_,fun hsz=>?_⟩
              . obtain⟨x,rfl,hvr⟩:=i2 hsz;exact⟨x,rfl,hvr.simple (zcb hsim x (by simp))⟩
              . obtain⟨cc,i4,i5⟩:=i3 hsz;exact⟨cc,i4,i5.simple hsim⟩
             obtain⟨s,hx',r1,r2,r3⟩:=YF (w':=w') s5 hx;exact hK _ _ g v w' hx' (hh.below hbel) ((hf.below hh hbel).put o.dst s v (fun k _ _=>r1 k _) (fun k e sz i c _ he=>absurd he (r3 e sz i c))) (zdz hbel)
           | panicked ch=>exact s4.elim
           | outgrown=>exact s4.elim
         . cases hx
       . rename_i x h2 XG;split at hx
         . rename_i hsim;obtain⟨fn,hfn,hb,hn⟩:=hrec.fn _ _ _ _ XG;obtain⟨rfl,hp⟩:=hrec.pure _ _ _ _ _ hmu hgc XG;unfold Oper.wp;rw[YE ho hc hv hfn hb hn,Oper.upon_enter];refine(hp _ _ _ w (fun p v hp=>hp) hargs).mono ?_;rintro e w' ⟨hbel,im',_,_,_,s4⟩;cases e with
           | returned v=>exact s4.elim
           | panicked ch =>
             obtain⟨v,rfl,hvr⟩:=s4;exact hZ x _ _ g v w' hx (hh.below hbel) (hvr.simple hsim) (hf.below hh hbel) (zdz hbel)
           | outgrown=>exact s4.elim
         . cases hx
       . cases hx
     . cases hx
   . cases hx
theorem zgO{P:Program}{o:Oper}{f:FuncId}(hk:okV P o.type f=true){R:Type}(d:Option Nat)(vs:List V)(F:List S)(hp:zd)(K:List S->zd->Option R):zk0 (jr P o.type) d vs F hp K=zbp P f d vs F hp K:=by
 unfold okV at hk;rw[zB,zB,beq_iff_eq] at hk;unfold zk0 zbp;rw[hk.2.2];cases jr P o.type <;> rfl
theorem jD (hrec : RecOk P gc rec) {f : FuncId} {pre : List V} {prev : List Value} {args : List Operand} {R : Type} {K : List S -> zd -> Option R} {Z : V -> List S -> zd -> Option R} {r : R} (hpre : VL g.im g.io pre prev)
    (hrun:∀ fn,P.funcs[f]?=some fn->fn.body.isNone=false->(fn.name == "runtime.NumGoroutine")=false->(execOp a.eval o).run P w=.ok (.enter f (prev++args.map a.eval).toArray) w)
    (hx:zdh P rec keep vc o f pre args F h K Z=some r) (hh:Hinv g h w) (hf:Finv g F a.tmps w) {next:Act->World->Prop} {Q:Exit->Act->World->Prop}
    (hK:∀ F' h' g' v w',K F' h'=some r->Hinv g' h' w'->Finv g' F' (a.put o.dst v).tmps w'->Step g w g' w'->next (a.put o.dst v) w')
    (hZ:∀ x F' h' g' v w',Z x F' h'=some r->Hinv g' h' w'->VR g'.im g'.io x v->Finv g' F' a.tmps w'->Step g w g' w'->Q (.panic [{ v,recovered:=false }]) a w'):o.wp P a w next Q:=by
 unfold zdh at hx;split at hx
 . rename_i hc;have hok:=hc.2;have hmu:WW P f=none:=by
    unfold okV at hok;rw[zB] at hok;simpa using hok.1
   split at hx
   . rename_i vs F1 h1 hev;obtain⟨g1,a1,a2,a3,a4⟩:=QI hh hf hev;have hargs:VL g1.im g1.io (pre++vs) (prev++args.map a.eval):=(hpre.mono a3.im a3.io).append a4;split at hx
     . rename_i vs' h2 XG;rw[zgO hok] at hx;obtain⟨fn,hfn,hb,hn⟩:=hrec.fn _ _ _ _ XG;unfold Oper.wp;rw[hrun fn hfn hb hn,Oper.upon_enter];refine(hrec.heap _ _ _ _ _ hmu XG g1.hpOnly _ w a1.hpOnly (X3 g1) hargs).mono ?_;rintro e w' ⟨g',s1,s2,s3,s4⟩;obtain⟨g2,e1,e2,b1,b2,b3⟩:=WK a1 a2 s1 s2 s3;cases e with
       | returned v =>
         rw[<- e1,<- e2] at s4;obtain⟨s,hx',r1,r2,r3⟩:=YF (w':=w') s4 hx;exact hK _ _ g2 v w' hx' b1 (b2.put o.dst s v (fun k _ _=>r1 k _) (fun k e sz i c _ he=>absurd he (r3 e sz i c))) (a3.trans b3)
       | panicked ch=>exact s4.elim
       | outgrown=>exact s4.elim
     . rename_i x h2 XG;obtain⟨fn,hfn,hb,hn⟩:=hrec.fn _ _ _ _ XG;unfold Oper.wp;rw[hrun fn hfn hb hn,Oper.upon_enter];refine(hrec.heap _ _ _ _ _ hmu XG g1.hpOnly _ w a1.hpOnly (X3 g1) hargs).mono ?_;rintro e w' ⟨g',s1,s2,s3,s4⟩;obtain⟨g2,e1,e2,b1,b2,b3⟩:=WK a1 a2 s1 s2 s3;cases e with
       | returned v=>exact s4.elim
       | panicked ch =>
         obtain⟨v,rfl,hvr⟩:=s4;exact hZ x _ _ g2 v w' hx b1 (by rw[e1,e2];exact hvr) b2 (a3.trans b3)
       | outgrown=>exact s4.elim
     . cases hx
   . cases hx
 . cases hx
theorem zlh {c : Call} {fo : Operand} {f : FuncId} {first : Array Value} (ho : o.op = .call c) (hc : c.callee = .value fo) (hv : a.eval fo = .func (.func f) first #[]) {fn : Func} (hfn : P.funcs[f]? = some fn) (hb : fn.body.isNone = false) (hn : (fn.name == "runtime.NumGoroutine") = false) :
    (execOp a.eval o).run P w=.ok (.enter f (first.toList++c.args.toList.map a.eval).toArray) w:=by
 have harr:first++c.args.map a.eval=(first.toList++c.args.toList.map a.eval).toArray:=by
  apply Array.ext';simp
 simp only[execOp,ho,resolve,hc,hv,Deferred.ofValue,Sem.run_bind,Sem.run_pure,Result.andThen_ok,invoke,callFunc,run_program,hfn,hn,hb,zp,if_false];rw[<- harr];simp
theorem ziq {t : TypeId} {y z : Value} {nm : String} {f : FuncId} {args : Array Value} (hm : ∀ n w, (method (n + 1) t y nm).run P w = .ok (f, z) w) {fn : Func} (hfn : P.funcs[f]? = some fn) (hb : fn.body.isNone = false) (hn : (fn.name == "runtime.NumGoroutine") = false) :
    (callMethod (.iface t y) nm args).run P w=.ok (.enter f (#[z]++args)) w:=by
 have h1:∀ w,(method (P.types.size+Made.depth) t y nm).run P w=.ok (f,z) w:=fun w=>by
  have h0:0 < Made.depth:=by decide
  have:P.types.size+Made.depth=(P.types.size+(Made.depth - 1))+1:=by omega
  rw[this];exact hm _ w
 simp only[callMethod,Sem.run_bind,run_program,Result.andThen_ok,h1,callFunc,hfn,hn,hb,zp,if_false,Sem.run_pure]
theorem zsh {c : Call} {rcv : Operand} {t : TypeId} {y z : Value} {nm : String} {f : FuncId} (ho : o.op = .call c) (hc : c.callee = .invoke rcv nm) (hv : a.eval rcv = .iface t y) (hm : ∀ n w, (method (n + 1) t y nm).run P w = .ok (f, z) w) {fn : Func} (hfn : P.funcs[f]? = some fn) (hb : fn.body.isNone = false) (hn : (fn.name == "runtime.NumGoroutine") = false) :
    (execOp a.eval o).run P w=.ok (.enter f ([z]++c.args.toList.map a.eval).toArray) w:=by
 have harr:#[z]++c.args.map a.eval=([z]++c.args.toList.map a.eval).toArray:=by
  apply Array.ext';simp
 have harr0:#[Value.iface t y]++c.args.map a.eval=(Value.iface t y :: c.args.toList.map a.eval).toArray:=by
  apply Array.ext';simp
 have hex:(#[Value.iface t y]++c.args.map a.eval).extract 1 (#[Value.iface t y]++c.args.map a.eval).size=c.args.map a.eval:=by
  apply Array.ext';simp[zN]
 have hg:(#[Value.iface t y]++c.args.map a.eval)[0]?=some (.iface t y):=by
  rw[harr0];rfl
 simp only[execOp,ho,resolve,hc,hv,Sem.run_bind,Sem.run_pure,Result.andThen_ok,invoke,hg,hex];rw[ziq hm hfn hb hn,harr]
theorem zpJ {c : Call} {fo x : Operand} {rest : List Operand} {t : TypeId} {d : TypeDesc} {z : Value} {nm : String} {f : FuncId} (ho : o.op = .call c) (hc : c.callee = .value fo) (hv : a.eval fo = .func (.methodOf t nm) #[] #[]) (hargs : c.args.toList = x :: rest) (hu : P.underlying t = some d) (hni : zde P t = false) (hm : ∀ n w, (method (n + 1) t (a.eval x) nm).run P w = .ok (f, z) w) {fn : Func} (hfn : P.funcs[f]? = some fn) (hb : fn.body.isNone = false) (hn : (fn.name == "runtime.NumGoroutine") = false) :
    (execOp a.eval o).run P w=.ok (.enter f ([z]++rest.map a.eval).toArray) w:=by
 have hca:c.args=(x :: rest).toArray:=by rw[<- hargs]
 have harr:#[z]++(rest.map a.eval).toArray=([z]++rest.map a.eval).toArray:=by
  apply Array.ext';simp
 have hex:(c.args.map a.eval).extract 1 (c.args.map a.eval).size=(rest.map a.eval).toArray:=by
  rw[hca];apply Array.ext';simp[zN]
 have hg:(c.args.map a.eval)[0]?=some (a.eval x):=by rw[hca];simp
 simp only[execOp,ho,resolve,hc,hv,Deferred.ofValue,Sem.run_bind,Sem.run_pure,Result.andThen_ok,invoke,Array.empty_append,hg,hex,run_underlying hu];unfold zde at hni;rw[hu] at hni;rw[<- harr];cases d <;> first|(simp at hni;done)|exact ziq hm hfn hb hn
theorem zcN (hrec : RecOk P gc rec) {c : Call} {fo : Operand} {f : FuncId} {caps : List V} {capv : Array Value} {R : Type} {K : List S -> zd -> Option R} {r : R} (ho : o.op = .call c) (hc : c.callee = .value fo) (hv : a.eval fo = .func (.func f) #[] capv)
    (hcap:VL g.im g.io caps capv.toList) {e sz s b:Nat} (hmu:WW P f=some (e,sz)) {rest:List Operand} (hargs:c.args.toList=.tmp s :: rest) {vs:List V} {F1:List S} {h1:zd} (hev:W6 vc F h rest=some (vs,F1,h1)) {l:List (List V)} (hF1:F1[rt F s]?=some (.v (.row b sz 0 l.length)))
    (hb:h1[b]?=some (.row e sz l true)) {l':List (List V)} {b':Bool} {rs:List V} {h2:zd} (XG:rec f (.sl sz l false :: (vs++caps)) (h1.set b .dead)=some (.ret (.sl sz l' b' :: rs),h2)) (hll:l'.length=l.length) (hx:zbp P f o.dst rs F1 (h2.set b (.row e sz l' true)) K=some r) (hh:Hinv g h w) (hf:Finv g F a.tmps w) {next:Act->World->Prop} {Q:Exit->Act->World->Prop}
    (hK:∀ F' h' g' v w',K F' h'=some r->Hinv g' h' w'->Finv g' F' (a.put o.dst v).tmps w'->Step g w g' w'->next (a.put o.dst v) w'):o.wp P a w next Q:=by
 generalize hd:rt F s=d at hF1;obtain⟨g1,a1,a2,a3,a4⟩:=QI hh hf hev;have hargv:VL g1.im g1.io (vs++caps) ((rest.map a.eval)++capv.toList):=a4.append (hcap.mono a3.im a3.io);have hv0s:a.eval (.tmp s)=a.tmps.getD d undef:=by rw[<- QQ hf s,hd];rfl
 have hrow:=a2.fr d _ hF1;obtain⟨v0,xs,hio,o4,o1,o2,o3,oz⟩:=a1.hp b _ hb;have hown:=zk2 o1 (oz rfl);have hv0:a.tmps.getD d undef=v0:=by
  have key:∀ N v,VR g1.im g1.io (.row b sz 0 N) v->N=l.length->v=v0:=?_
  . exact key _ _ hrow rfl
  intro N v hrow hN;cases hrow with
  | row _ _ _ _ β o' cap u q0 q1 q2 q3 q4 =>
    rw[hio] at q0;injection q0 with q0;obtain⟨rfl,cur,_⟩:=zaA o1 q0;rcases q4 with h|⟨_,h⟩
    . rw[h,hN];simp
    . omega
  | rowN _ _ q0 =>
    rw[hio] at q0;injection q0 with q0;rcases o1.2 with ⟨h,_⟩|⟨β,o',cap,cur,h,_⟩
    . exact h.symm
    . rw[h] at q0;simp[tok] at q0
 have hlow:∀ β,g1.ow β≠none->β < w.heap.size:=a1.ow;have hblt:=(zi.1 hb).1
 let gm:G:={ g1 with ow:=fun β=>match g1.ow β with|some (.hp b2)=>if b2=b then(if v0.ownBlock=some β then some (.slot 0) else none) else some (.hp b2)|_=>none }
 have gm_def:∀ β,gm.ow β=(match g1.ow β with|some (.hp b2)=>if b2=b then(if v0.ownBlock=some β then some (Ow.slot 0) else none) else some (.hp b2)|_=>none):=fun _=>rfl;have gm_hp:∀ {β b2},gm.ow β=some (.hp b2) ↔ g1.ow β=some (.hp b2)/\b2≠b:=fun {β b2}=>by
  rw[gm_def];split
  . rename_i b3 h;rw[h];split
    . rename_i e;subst e;constructor
      . intro h;split at h <;> cases h
      . rintro ⟨h,hne⟩;cases h;exact absurd rfl hne
    . rename_i hne;constructor
      . intro h;cases h;exact⟨rfl,hne⟩
      . rintro ⟨h,_⟩;cases h;rfl
  . rename_i h;exact⟨fun h'=>(by cases h'),fun h'=>absurd h'.1 (h b2)⟩
 have gm_none:∀ {β},g1.ow β=none->gm.ow β=none:=fun {β} h=>by rw[gm_def,h]
 have gm_slot:∀ {β s'},gm.ow β=some (.slot s')->v0.ownBlock=some β:=fun {β s'} h=>by
  rw[gm_def] at h;split at h
  . split at h
    . split at h
      . assumption
      . cases h
    . cases h
  . cases h
 have gm_own:∀ {β},v0.ownBlock=some β->gm.ow β=some (.slot 0):=fun {β} h=>by
  rw[gm_def,o4 β h];simp[h]
 have gm_slot1:∀ {β s'},g1.ow β=some (.slot s')->gm.ow β=none:=fun {β s'} h=>by rw[gm_def,h]
 have gm_old:∀ {β},g1.ow β=some (.hp b)->v0.ownBlock≠some β->gm.ow β=none:=fun {β} h hne=>by
  rw[gm_def,h];simp[hne]
 have hhm:Hinv gm (h1.set b .dead) w:=⟨fun b2 x hx=>by
     rw[Zd] at hx;split at hx
     . first
         | (cases hx;trivial)
         | (split at hx
            . cases hx;trivial
            . cases hx)
     . rename_i hne;exact(a1.hp b2 x hx).keep (fun _ _ h=>h) (fun _ _ h=>h) fun β k2=>⟨gm_hp.2 ⟨k2,fun e=>hne e.symm⟩,rfl⟩,
  fun b2 β h=>by rw[zt];exact a1.io b2 β h,fun p v hp=>⟨(a1.im p v hp).1,gm_none (a1.im p v hp).2⟩,fun β hβ=>a1.ow β fun h0=>hβ (gm_none h0)⟩
 have hsr:SR gm w #[] 0 (.own e sz l) v0:=⟨xs,hown,o2,o3,fun β hβ=>gm_own hβ⟩;obtain⟨fn,hfn,hbd,hn⟩:=hrec.fn _ _ _ _ XG;unfold Oper.wp;rw[YE ho hc hv hfn hbd hn,Oper.upon_enter];rw[hargs,zS,hv0s,hv0,Z1];refine(hrec.mutc f e sz l false (vs++caps) (h1.set b .dead) l' b' rs h2 hmu XG gm v0 _ w hhm (fun β s' h=>gm_slot h) hsr hargv).mono ?_;rintro en w' ⟨g',t1,t2,t3,t4⟩;cases en with
 | panicked ch=>exact t4.elim
 | outgrown=>exact t4.elim
 | returned v =>
   obtain⟨ys,q1,q2,q3,q4⟩:=t3
   let g2:G:={ im:=g'.im,io:=g'.io,ow:=fun β=>match g1.ow β with|some (.slot s)=>some (.slot s)|some (.hp b2)=>if b2=b then some (.hp b) else(match g'.ow β with|some (.hp b)=>some (.hp b)|_=>none)|none=>(match g'.ow β with|some (.hp b)=>some (.hp b)|_=>none) }
   have g2_def:∀ β,g2.ow β=(match g1.ow β with|some (.slot s)=>some (.slot s)|some (.hp b2)=>if b2=b then some (.hp b) else(match g'.ow β with|some (.hp b)=>some (.hp b)|_=>none)|none=>(match g'.ow β with|some (.hp b)=>some (Ow.hp b)|_=>none)):=fun _=>rfl;have g2_slot:∀ {β s'},g1.ow β=some (.slot s')->g2.ow β=some (.slot s'):=fun {β s'} h=>by rw[g2_def,h]
   have g2_b:∀ {β},g1.ow β=some (.hp b)->g2.ow β=some (.hp b):=fun {β} h=>by rw[g2_def,h];simp
   have g2_else:∀ {β},(∀ s',g1.ow β≠some (.slot s'))->g1.ow β≠some (.hp b)->g2.ow β=(match g'.ow β with|some (.hp b)=>some (Ow.hp b)|_=>none):=fun {β} h hb=>by
    rw[g2_def];split
    . rename_i s' h';exact absurd h' (h s')
    . rename_i b2 h';rw[if_neg (by rintro rfl;exact hb h')]
    . rfl
   have hnone:∀ {β},β < w.heap.size->gm.ow β=none->g'.ow β=none:=fun {β} hlt h0=>t1.ow β hlt h0;have nob:∀ {β b2},g'.ow β=some (.hp b2)->(∀ s',g1.ow β≠some (.slot s'))/\g1.ow β≠some (.hp b):=fun {β b2} hb2=>by
    refine⟨fun s' hs'=>?_,fun hs'=>?_⟩
    . have hlt:=hlow β (by rw[hs'];simp);rw[hnone hlt (gm_slot1 hs')] at hb2;cases hb2
    . have hlt:=hlow β (by rw[hs'];simp);by_cases hβ:v0.ownBlock=some β
      . rw[q4 β hβ] at hb2;cases hb2
      . rw[hnone hlt (gm_old hs' hβ)] at hb2;cases hb2
   have hst:Step g1 w g2 w':=⟨t1.im,t1.io,fun p v hp=>?_,fun β hβ h0=>?_,t1.os,t1.tape,t1.output,t1.size,fun β hβ h0=>t1.block β hβ (gm_none h0)⟩
   rotate_left
   . rcases t1.imn p v hp with h3|h3|h3
     . exact .inl h3
     . exact .inr (.inl h3)
     . exact .inr (.inr fun h0=>h3 (gm_none h0))
   . rw[g2_else (fun s' h=>by rw[h0] at h;cases h) (by rw[h0];simp)];rw[t1.ow β hβ (gm_none h0)]
   have hio2:g'.io b=some (tok v0):=t1.io b _ hio;have hb2lt:b < h2.length:=t2.io b _ hio2;have hh2:Hinv g2 (h2.set b (.row e sz l' true)) w':=⟨fun b2 x hx=>?_,fun b2 β h=>by rw[zt];exact t2.io b2 β h,fun p v hp=>?_,fun β hβ=>?_⟩
   rotate_left
   . rw[Zd] at hx;split at hx
     . rename_i e0;subst e0;have hx':some (HB.row e sz l' true)=some x:=by
        first
         | exact hx
         | (rw[if_pos hb2lt] at hx;exact hx)
       cases hx';exact⟨v0,ys,hio2,fun β hβ=>g2_b (o4 β hβ),Yu q1,q2,q3,fun _=>qi q1⟩
     . refine(t2.hp b2 x hx).keep (fun _ _ h=>h) (fun _ _ h=>h) fun β k2=>⟨?_,rfl⟩;rw[g2_else (nob k2).1 (nob k2).2,k2]
   . obtain⟨k1,k2⟩:=t2.im p v hp;refine⟨k1,?_⟩;have key:g1.ow p.block=none\/(g1.ow p.block≠none/\p.block < w.heap.size):=by
      cases h:g1.ow p.block with
      | none=>exact .inl rfl
      | some x=>exact .inr ⟨by simp,hlow _ (by rw[h];simp)⟩
     rcases key with h0|⟨h0,hlt⟩
     . rw[g2_else (fun s' h=>by rw[h0] at h;cases h) (by rw[h0];simp),k2]
     . rcases t1.imn p v hp with h3|h3|h3
       . exact absurd (a1.im p v h3).2 h0
       . omega
       . by_cases hsl:∃ s',g1.ow p.block=some (.slot s')
         . obtain⟨s',hs'⟩:=hsl;exact absurd (gm_slot1 hs') h3
         . by_cases hbb:g1.ow p.block=some (.hp b)
           . by_cases hβ:v0.ownBlock=some p.block
             . rw[q4 _ hβ] at k2;cases k2
             . exact absurd (gm_old hbb hβ) h3
           . rw[g2_else (fun s' h=>hsl ⟨s',h⟩) hbb,k2]
   . by_cases hg1:g1.ow β=none
     . rw[g2_else (fun s' h=>by rw[hg1] at h;cases h) (by rw[hg1];simp)] at hβ;exact t2.ow β fun h0=>hβ (by rw[h0])
     . exact Z6 (hlow β hg1) t1.size
   have hf2:Finv g2 F1 a.tmps w':=a2.keep t1.im t1.io fun β s' hβ=>⟨g2_slot hβ,t1.block β (hlow β (by rw[hβ];simp)) (gm_slot1 hβ)⟩;obtain⟨sR,hx',r1,r2,r3⟩:=YF (w':=w') (g':=g2) t4 hx;exact hK _ _ g2 v w' hx' hh2 (hf2.put o.dst sR v (fun k _ _=>r1 k _) (fun k e sz i c _ he=>absurd he (r3 e sz i c))) (a3.trans hst)
theorem jE (hrec : RecOk P gc rec) {c : Call} {fo : Operand} {f : FuncId} {caps : List V} {capv : Array Value} {R : Type} {K : List S -> zd -> Option R} {Z : V -> List S -> zd -> Option R} {r : R} (ho : o.op = .call c) (hc : c.callee = .value fo) (hv : a.eval fo = .func (.func f) #[] capv)
    (hcap:VL g.im g.io caps capv.toList) (hx:zdg P rec keep gc vc o f caps c.args.toList F h K Z=some r) (hh:Hinv g h w) (hf:Finv g F a.tmps w) {next:Act->World->Prop} {Q:Exit->Act->World->Prop}
    (hK:∀ F' h' g' v w',K F' h'=some r->Hinv g' h' w'->Finv g' F' (a.put o.dst v).tmps w'->Step g w g' w'->next (a.put o.dst v) w')
    (hZ:∀ x F' h' g' v w',Z x F' h'=some r->Hinv g' h' w'->VR g'.im g'.io x v->Finv g' F' a.tmps w'->Step g w g' w'->Q (.panic [{ v,recovered:=false }]) a w'):o.wp P a w next Q:=by
 unfold zdg at hx;split at hx
 case h_2 hmu=>exact zgN hrec ho hc hv hcap hmu hx hh hf hK hZ
 case h_1 e sz hmu =>
 unfold zs9 at hx;split at hx
 case h_2=>cases hx
 rename_i s rest hargs;split at hx
 case h_2=>cases hx
 rename_i vs F1 h1 hev;split at hx
 case h_3=>cases hx
 case h_2 b0 s1 lo hi hF1 =>
  split at hx
  . rename_i e1 s3 l hb0;split at hx
    . rename_i hcond;obtain⟨⟨rfl,rfl,rfl⟩,rfl,rfl⟩:=hcond;split at hx
      . rename_i s2 l' b' rs h2 XG;split at hx
        . rename_i hs2;obtain⟨rfl,hll⟩:=hs2;exact zcN hrec ho hc hv hcap hmu hargs hev hF1 hb0 XG hll hx hh hf hK
        . cases hx
      . cases hx
    . cases hx
  . cases hx
 rename_i e1 s1 l hF1;split at hx
 case isFalse=>cases hx
 rename_i hcond;obtain⟨⟨rfl,rfl⟩,hdst⟩:=hcond;split at hx
 case h_2=>cases hx
 rename_i s2 l' b' rs h2 XG;split at hx
 case isFalse=>cases hx
 rename_i hs2;subst hs2;generalize hd:rt F s=d at hF1 hdst hx;obtain⟨g1,a1,a2,a3,a4⟩:=QI hh hf hev;have hargv:VL g1.im g1.io (vs++caps) ((rest.map a.eval)++capv.toList):=a4.append (hcap.mono a3.im a3.io);obtain⟨v0,hv0⟩:∃ v0,a.tmps.getD d undef=v0:=⟨_,rfl⟩;have hv0s:a.eval (.tmp s)=v0:=by rw[<- QQ hf s,hd];exact hv0
 have hown:=a2.fr d _ hF1;rw[hv0] at hown;obtain⟨xs,o1,o2,o3,o4⟩:=hown;have hlow:∀ β,g1.ow β≠none->β < w.heap.size:=a1.ow
 let gm:G:={ g1 with ow:=fun β=>match g1.ow β with|some (.hp b)=>some (.hp b)|some (.slot _)=>if v0.ownBlock=some β then some (.slot 0) else none|none=>none }
 have gm_hp:∀ {β b},gm.ow β=some (.hp b) ↔ g1.ow β=some (.hp b):=fun {β b}=>by
  show (match g1.ow β with|some (.hp b)=>some (Ow.hp b)|some (.slot _)=>if v0.ownBlock=some β then some (.slot 0) else none|none=>none)=_ ↔ _;split
  . rename_i h;rw[h]
  . rename_i h;rw[h];split <;> simp
  . rename_i h;rw[h]
 have gm_none:∀ {β},g1.ow β=none->gm.ow β=none:=fun {β} h=>by
  show (match g1.ow β with|some (.hp b)=>some (Ow.hp b)|some (.slot _)=>if v0.ownBlock=some β then some (.slot 0) else none|none=>none)=_;rw[h]
 have gm_other:∀ {β s'},g1.ow β=some (.slot s')->v0.ownBlock≠some β->gm.ow β=none:=fun {β s'} h hne=>by
  show (match g1.ow β with|some (.hp b)=>some (Ow.hp b)|some (.slot _)=>if v0.ownBlock=some β then some (.slot 0) else none|none=>none)=_;rw[h];simp[hne]
 have gm_slot:∀ {β s'},gm.ow β=some (.slot s')->v0.ownBlock=some β:=fun {β s'} h=>by
  have h':(match g1.ow β with|some (.hp b)=>some (Ow.hp b)|some (.slot _)=>if v0.ownBlock=some β then some (.slot 0) else none|none=>none)=some (.slot s'):=h;split at h'
  . cases h'
  . split at h'
    . assumption
    . cases h'
  . cases h'
 have gm_own:∀ {β},v0.ownBlock=some β->gm.ow β=some (.slot 0):=fun {β} h=>by
  show (match g1.ow β with|some (.hp b)=>some (Ow.hp b)|some (.slot _)=>if v0.ownBlock=some β then some (.slot 0) else none|none=>none)=_;rw[o4 β h];simp[h]
 have hhm:Hinv gm h1 w:=⟨fun b x hx=>(a1.hp b x hx).keep (fun _ _ h=>h) (fun _ _ h=>h) fun β k2=>⟨gm_hp.2 k2,rfl⟩,a1.io,fun p v hp=>⟨(a1.im p v hp).1,gm_none (a1.im p v hp).2⟩,fun β hβ=>a1.ow β fun h0=>hβ (gm_none h0)⟩;have hsr:SR gm w #[] 0 (.own e1 s2 l) v0:=⟨xs,o1,o2,o3,fun β hβ=>gm_own hβ⟩;obtain⟨fn,hfn,hb,hn⟩:=hrec.fn _ _ _ _ XG;unfold Oper.wp;rw[YE ho hc hv hfn hb hn,Oper.upon_enter];rw[hargs,zS,hv0s,Z1];refine(hrec.mutc f e1 s2 l false (vs++caps) h1 l' b' rs h2 hmu XG gm v0 _ w hhm (fun β s' h=>gm_slot h) hsr hargv).mono ?_;rintro en w' ⟨g',t1,t2,t3,t4⟩;cases en with
 | panicked ch=>exact t4.elim
 | outgrown=>exact t4.elim
 | returned v =>
   obtain⟨ys,q1,q2,q3,q4⟩:=t3
   let g2:G:={ im:=g'.im,io:=g'.io,ow:=fun β=>match g1.ow β with|some (.slot s)=>some (.slot s)|_=>(match g'.ow β with|some (.hp b)=>some (.hp b)|_=>none) }
   have g2_slot:∀ {β s'},g1.ow β=some (.slot s')->g2.ow β=some (.slot s'):=fun {β s'} h=>by
    show (match g1.ow β with|some (.slot s)=>some (Ow.slot s)|_=>(match g'.ow β with|some (.hp b)=>some (.hp b)|_=>none))=_;rw[h]
   have g2_else:∀ {β},(∀ s',g1.ow β≠some (.slot s'))->g2.ow β=(match g'.ow β with|some (.hp b)=>some (Ow.hp b)|_=>none):=fun {β} h=>by
    show (match g1.ow β with|some (.slot s)=>some (Ow.slot s)|_=>(match g'.ow β with|some (.hp b)=>some (.hp b)|_=>none))=_;split
    . rename_i s' h';exact absurd h' (h s')
    . rfl
   have noslot:∀ {β b},g'.ow β=some (.hp b)->∀ s',g1.ow β≠some (.slot s'):=fun {β b} hb s' hs'=>by
    by_cases hβ:v0.ownBlock=some β
    . rw[q4 β hβ] at hb;cases hb
    . have hlt:=hlow β (by rw[hs'];simp);rw[t1.ow β hlt (gm_other hs' hβ)] at hb;cases hb
   have hst:Step g1 w g2 w':=⟨t1.im,t1.io,fun p v hp=>?_,fun β hβ h0=>?_,t1.os,t1.tape,t1.output,t1.size,fun β hβ h0=>t1.block β hβ (gm_none h0)⟩
   rotate_left
   . rcases t1.imn p v hp with h3|h3|h3
     . exact .inl h3
     . exact .inr (.inl h3)
     . exact .inr (.inr fun h0=>h3 (gm_none h0))
   . rw[g2_else fun s' h=>by rw[h0] at h;cases h];rw[t1.ow β hβ (gm_none h0)]
   have hh2:Hinv g2 h2 w':=⟨fun b x hx=>?_,t2.io,fun p v hp=>?_,fun β hβ=>?_⟩
   rotate_left
   . refine(t2.hp b x hx).keep (fun _ _ h=>h) (fun _ _ h=>h) fun β k2=>⟨?_,rfl⟩;rw[g2_else (noslot k2),k2]
   . obtain⟨k1,k2⟩:=t2.im p v hp;refine⟨k1,?_⟩;by_cases hsl:∃ s',g1.ow p.block=some (.slot s')
     . obtain⟨s',hs'⟩:=hsl;rcases t1.imn p v hp with h3|h3|h3
       . have:=(a1.im p v h3).2;rw[hs'] at this;cases this
       . have:=hlow p.block (by rw[hs'];simp);omega
       . by_cases hβ:v0.ownBlock=some p.block
         . rw[q4 _ hβ] at k2;cases k2
         . exact absurd (gm_other hs' hβ) h3
     . rw[g2_else fun s' h=>hsl ⟨s',h⟩,k2]
   . by_cases hsl:∃ s',g1.ow β=some (.slot s')
     . obtain⟨s',hs'⟩:=hsl;exact Z6 (hlow β (by rw[hs'];simp)) t1.size
     . rw[g2_else fun s' h=>hsl ⟨s',h⟩] at hβ;exact t2.ow β fun h0=>hβ (by rw[h0])
   have hf2:Finv g2 (F1.set d (.own e1 s2 l')) a.tmps w':=by
    refine⟨by rw[zt];exact a2.len,fun s' d' sz i c' hs'=>?_,fun s' x hs'=>?_⟩
    . rw[Zd] at hs';split at hs'
      . split at hs' <;> simp at hs'
      . obtain⟨x,hx1,hx2⟩:=a2.fp s' d' sz i c' hs';by_cases hdd:d=d'
        . subst hdd;exact⟨_,by rw[Zz (zi.1 hx1).1],rfl⟩
        . exact⟨x,by rw[ze hdd];exact hx1,hx2⟩
    . rw[Zd] at hs';split at hs'
      . rename_i hds;subst hds;split at hs'
        . cases hs';rw[hv0];exact⟨ys,q1,q2,q3,fun β hβ=>g2_slot (o4 β hβ)⟩
        . cases hs'
      . rename_i hds;refine(a2.fr s' x hs').keep2 t1.im t1.io fun hl β hβ=>⟨g2_slot hβ,?_⟩;have hne:v0.ownBlock≠some β:=fun hc=>by
         have:=o4 β hc;rw[hβ] at this;cases this;exact hds rfl
        exact t1.block β (hlow β (by rw[hβ];simp)) (gm_other hβ hne)
   obtain⟨sR,hx',r1,r2,r3⟩:=YF (w':=w') (g':=g2) t4 hx;exact hK _ _ g2 v w' hx' hh2 (hf2.put o.dst sR v (fun k _ _=>r1 k _) (fun k e sz i c _ he=>absurd he (r3 e sz i c))) (a3.trans hst)
end
end Go.L
namespace Go.L
open Go.RowKit
section
variable {vc:Bool} {P:Program} {o:Oper} {a:Act} {g:G} {w:World} {F:List S} {h:zd} {gc keep:FuncId->Bool} {rec:Rec}
theorem fin {F' : List S} {h' : zd} {R : Type} {K : List S -> zd -> Option R} {r : R} (hd : Qq P o a g w F' h') (hk : K F' h' = some r) {next : Act -> World -> Prop} {Q : Exit -> Act -> World -> Prop}
    (hK:∀ F' h' g' v w',K F' h'=some r->Hinv g' h' w'->Finv g' F' (a.put o.dst v).tmps w'->Step g w g' w'->next (a.put o.dst v) w'):o.wp P a w next Q:=by
 obtain⟨v,w',g',hrun,h1,h2,h3⟩:=hd;unfold Oper.wp;rcases hrun with hr|⟨hr,rfl⟩
 . rw[hr];exact hK _ _ g' v w' hk h1 h2 h3
 . rw[hr];exact hK _ _ g' undef w' hk h1 h2 h3
set_option maxHeartbeats 1000000 in
theorem ql (hrec : RecOk P gc rec) {R : Type} {K : List S -> zd -> Option R} {Z : V -> List S -> zd -> Option R} {r : R} (hx : opx P rec keep gc vc o F h K Z = some r) (hh : Hinv g h w) (hf : Finv g F a.tmps w) {next : Act -> World -> Prop} {Q : Exit -> Act -> World -> Prop}
    (hK:∀ F' h' g' v w',K F' h'=some r->Hinv g' h' w'->Finv g' F' (a.put o.dst v).tmps w'->Step g w g' w'->next (a.put o.dst v) w')
    (hZ:∀ x F' h' g' v w',Z x F' h'=some r->Hinv g' h' w'->VR g'.im g'.io x v->Finv g' F' a.tmps w'->Step g w g' w'->Q (.panic [{ v,recovered:=false }]) a w'):o.wp P a w next Q:=by
 unfold opx at hx;cases ho:o.op with
 | move x =>
   simp only[ho] at hx;obtain⟨F',h',hk,hd⟩:=zfI (P:=P) (x:=x) (by simp[execOp,ho]) hh hf hx;exact fin hd hk hK
 | assign x =>
   simp only[ho] at hx;obtain⟨F',h',hk,hd⟩:=zfI (P:=P) (x:=x) (by simp[execOp,ho]) hh hf hx;exact fin hd hk hK
 | pick c x y =>
   simp only[ho] at hx;split at hx
   . exact fin (znZ ho (by assumption) (by assumption) (by assumption) hh hf) hx hK
   . rename_i t p h1 h2 h3;split at hx
     . rename_i ht;subst ht;exact fin (zdo ho h1 (by simpa using h2) hh hf) hx hK
     . cases hx
   . rename_i t p h1 h2 h3;split at hx
     . cases hx
     . rename_i ht;have ht':t=false:=by simpa using ht
       subst ht';exact fin (zdo ho h1 (by simpa using h3) hh hf) hx hK
   . cases hx
 | alloc e =>
   simp only[ho] at hx;split at hx
   . exact fin (zk6 ho (by assumption) hh hf) hx hK
   . cases hx
 | box e x =>
   simp only[ho] at hx;split at hx
   . split at hx
     . exact fin (zpu ho (by assumption) (by assumption) hh hf) hx hK
     . cases hx
   . cases hx
 | build t ps =>
   simp only[ho] at hx;split at hx
   . rename_i vs F1 h1 he;split at hx
     . rename_i cs hb;unfold Qo at hb;split at hb
       . rename_i z pl hz hp;exact fin (zld ho he hz hp hb hh hf) hx hK
       . rename_i z hz hp;split at hb
         . rename_i len sz ha;exact fin (zih ho he hz ha hb hh hf) hx hK
         . cases hb
       . cases hb
     . cases hx
   . cases hx
 | buildSlice t n ps =>
   simp only[ho] at hx;split at hx
   . rename_i vs F1 h1 e sz he hez;split at hx
     . rename_i sz' l hb;unfold JY at hb;split at hb
       . rename_i e2 sz2 z hez2 hz;rw[hez] at hez2;cases hez2;split at hb
         . rename_i hc;split at hb
           . rename_i l2 hl;cases hb;exact fin (zcD ho he hez hz hc hl hh hf) hx hK
           . cases hb
         . cases hb
       . cases hb
     . cases hx
   . cases hx
 | load t x =>
   simp only[ho] at hx;split at hx
   . rename_i n hn;obtain⟨cs,m,c,hp,hx⟩:=zb6 hx;split at hx
     . rename_i hc;split at hx
       . exact fin (znW ho hp hn hc (by assumption) hh hf) hx hK
       . cases hx
     . cases hx
   . cases hx
 | store t x y =>
   simp only[ho] at hx;split at hx
   . rename_i v F1 h1 n he hn;split at hx
     . rename_i hl;obtain⟨F2,h2,hw,hx⟩:=zib hx;exact fin (zk7 ho he hn hl hw hh hf) hx hK
     . cases hx
   . cases hx
 | nilCheck x =>
   simp only[ho] at hx;split at hx
   . split at hx
     . split at hx
       . exact fin (zpG ho (by assumption) (by assumption) hh hf) hx hK
       . cases hx
     . cases hx
   obtain⟨F',h',hk,hd⟩:=zbw (P:=P) (k:=0) (x:=x) (fun q hq=>zgD ho hq) hh hf hx;exact fin hd hk hK
 | binOp op t x y t' =>
   simp only[ho] at hx;split at hx
   . split at hx
     . exact fin (zif ho (by assumption) (by assumption) (by assumption) hh hf) hx hK
     . cases hx
   . cases hx
 | unOp op t x =>
   simp only[ho] at hx;split at hx
   . split at hx
     . exact fin (zn0 ho (by assumption) (by assumption) hh hf) hx hK
     . cases hx
   . cases hx
 | convert s d x =>
   simp only[ho] at hx;split at hx
   . rename_i hcs;split at hx
     . rename_i sz l hl;cases hu:u8s l with
       | none=>simp[hu] at hx
       | some ns =>
         simp only[hu,Z7] at hx;exact fin (ze1 ho hcs hl hu hh hf) hx hK
     . cases hx
   split at hx
   . split at hx
     . exact fin (zgE ho (by assumption) (by assumption) hh hf) hx hK
     . cases hx
   . cases hx
 | makeFunc fn first caps =>
   simp only[ho] at hx;cases fn with
   | func f =>
     simp only at hx;split at hx
     . split at hx
       . exact fin (ze2 ho (by assumption) (by assumption) hh hf) hx hK
       . cases hx
     . split at hx
       . split at hx
         . exact fin (zds ho (by assumption) (by assumption) hh hf) hx hK
         . cases hx
       . cases hx
   | methodOf t nm =>
     simp only at hx;split at hx
     . rename_i hc;exact fin (ze3 ho hc.1 hc.2 hh hf) hx hK
     . cases hx
   | _=>cases hx
 | makeMap t r' =>
   simp only[ho] at hx;cases r' with
   | none=>exact fin (zgF ho hh hf) hx hK
   | some _=>cases hx
 | makeSlice t l c =>
   simp only[ho] at hx;split at hx
   . rename_i n m e sz z hn hm he hz;split at hx
     . rename_i hc;obtain⟨hnm,hlt,hzl⟩:=hc;exact fin (zdu ho hn hm he hz hnm hlt hzl hh hf) hx hK
     . cases hx
   . cases hx
 | slice t x lo hi mx =>
   simp only[ho] at hx;split at hx
   . rename_i e sz y F1 h1 he hev;split at hx
     . rename_i len hlen;split at hx
       . rename_i p q m hp hq hm;split at hx
         . rename_i z hz;cases y with
           | sl sz' l ex =>
             cases hlen;simp only[Z4] at hz;split at hz
             . rename_i hc;cases hz;obtain⟨c1,c2,c3,c4,c5⟩:=hc;exact fin (zle ho he hev c3 hp hq hm c1 c2 c4 c5 hh hf) hx hK
             . cases hz
           | row rr sz' u v =>
             cases hlen;simp only[Z4] at hz;split at hz
             . rename_i hc;cases hz;obtain⟨⟨c1,c2,rfl⟩,rfl⟩:=hc;cases mx with
               | none=>exact fin (zdv ho he hev hp hq c1 c2 hh hf) hx hK
               | some ym =>
                 simp only[zcz] at hm;cases hn:evN F1 ym <;> rw[hn] at hm <;> cases hm
             . split at hz
               . rename_i hc;cases hz;obtain⟨⟨rfl,c2,rfl⟩,rfl,hok⟩:=hc;cases mx with
                 | none=>simp[zcz] at hm
                 | some ym =>
                   simp only[zcz] at hm;cases hn:evN F1 ym with
                   | none=>rw[hn] at hm;cases hm
                   | some q =>
                     rw[hn] at hm;cases hm;cases hi with
                     | none=>simp at hok
                     | some yh=>exact fin (zcE ho he hev hp hq hn c2 hh hf) hx hK
               . cases hz
           | _=>cases hlen
         . cases hx
       . cases hx
     . cases hx
   . cases hx
 | fieldAddr s x k =>
   simp only[ho] at hx;split at hx
   . rename_i off n ag hfa;obtain⟨F',h',hk,hd⟩:=zbw (P:=P) (k:=off) (x:=x) (fun q hq=>ze0 ho hfa hq) hh hf hx;exact fin hd hk hK
   . cases hx
 | field s x k =>
   simp only[ho] at hx;split at hx
   . split at hx
     . split at hx
       . exact fin (zlb ho (by assumption) (by assumption) (by assumption) (by assumption) hh hf) hx hK
       . cases hx
     . cases hx
   . cases hx
 | indexAddr t x i =>
   simp only[ho] at hx;split at hx
   . rename_i len sz ha;split at hx
     . rename_i n hn;split at hx
       . rename_i hlt;obtain⟨F',h',hk,hd⟩:=zbw (P:=P) (k:=n * sz) (x:=x) (fun q hq=>zgC ho ha hf hn hlt hq) hh hf hx;exact fin hd hk hK
       . cases hx
     . cases hx
   split at hx
   . rename_i n e sz hn he;cases x with
     | tmp s =>
       obtain⟨F',h',hk,hd⟩:=zlc ho hn he hh hf hx;exact fin hd hk hK
     | _=>cases hx
   . cases hx
 | lookup t m k ok =>
   simp only[ho] at hx;split at hx
   . split at hx
     . split at hx
       . split at hx
         . split at hx
           . have hd:=zik (g:=g) (w:=w) (a:=a) ho (by assumption) (by assumption) (by assumption) (by assumption) (by assumption) (by assumption) (by assumption) (by assumption) (by assumption) (by assumption) hh hf;split at hx
             . rename_i hok;rw[hok] at hd;exact fin hd hx hK
             . rename_i hok;rw[show ok=false from by simpa using hok] at hd;exact fin hd hx hK
           . cases hx
         . cases hx
       . cases hx
     . cases hx
   . cases hx
 | mapUpdate t m k x =>
   simp only[ho] at hx;split at hx
   . split at hx
     . split at hx
       . split at hx
         . exact fin (jC (.inl ho) (by assumption) (by assumption) (by assumption) (by assumption) (by assumption) (by assumption) (by assumption) (by assumption) hh hf) hx hK
         . cases hx
       . cases hx
     . cases hx
   . cases hx
 | insert t m k x =>
   simp only[ho] at hx;split at hx
   . split at hx
     . split at hx
       . split at hx
         . exact fin (jC (.inr ho) (by assumption) (by assumption) (by assumption) (by assumption) (by assumption) (by assumption) (by assumption) (by assumption) hh hf) hx hK
         . cases hx
       . cases hx
     . cases hx
   . cases hx
 | index t x i =>
   simp only[ho] at hx;split at hx
   . split at hx
     . rename_i hc;split at hx
       . exact fin (zie ho (by assumption) (by assumption) (by assumption) hc.1 hc.2 (by assumption) hh hf) hx hK
       . cases hx
     . cases hx
   . cases hx
 | extract x i =>
   simp only[ho] at hx;cases x with
   | tmp t =>
     simp only at hx;split at hx
     . split at hx
       . exact fin (zgG ho (by assumption) (by assumption) hh hf) hx hK
       . cases hx
     . cases hx
   | _=>cases hx
 | call c =>
   simp only[ho] at hx;cases hc:c.callee with
   | value fo =>
     simp only[hc] at hx;cases fo with
     | func f=>exact jE hrec (capv:=#[]) ho hc rfl .nil hx hh hf hK hZ
     | tmp t =>
       simp only at hx;split at hx
       . split at hx
         . rename_i f caps ht;split at hx
           . rename_i hok;rw[zav _ _ _ _ _ hok] at hx;have hv:VR g.im g.io (.fn f caps) (a.eval (.tmp t)):=hf.getD ht;generalize hev:a.eval (.tmp t)=fv at hv;cases hv with
             | fn _ _ cv hl hcv=>exact jE hrec (capv:=cv) ho hc hev ⟨by simpa using hl,fun i x y h1 h2=>hcv i x y h1 (by simpa using h2)⟩ hx hh hf hK hZ
           . cases hx
         . rename_i f pre ht;have hv:VR g.im g.io (.bf f pre) (a.eval (.tmp t)):=hf.getD ht;generalize hev:a.eval (.tmp t)=fv at hv;cases hv with
           | bf _ _ cv hl hcv=>exact jD hrec (prev:=cv.toList) ⟨by simpa using hl,fun i x y h1 h2=>hcv i x y h1 (by simpa using h2)⟩ (fun fn hfn hb hn=>zlh ho hc hev hfn hb hn) hx hh hf hK hZ
         . rename_i mt nm ht;have hv:VR g.im g.io (.mo mt nm) (a.eval (.tmp t)):=hf.getD ht;generalize hev:a.eval (.tmp t)=fv at hv;cases hv;unfold zta at hx;split at hx
           . rename_i x rest hargs;split at hx
             . rename_i v F1 h1 he;split at hx
               . rename_i hti;split at hx
                 . rename_i f r hme;obtain⟨g1,a1,a2,a3,a4⟩:=X6 hh hf he;obtain⟨z,hz,hrun⟩:=zfL hme a4;obtain⟨d,hd⟩:=Option.isSome_iff_exists.1 hti.2;exact jD hrec (prev:=[z]) (.cons hz .nil) (fun fn hfn hb hn=>zpJ ho hc hev hargs hd hti.1 hrun hfn hb hn) hx a1 a2 (fun F' h' g' v w' k1 k2 k3 k4=>hK F' h' g' v w' k1 k2 k3 (a3.trans k4)) (fun x F' h' g' v w' k1 k2 k3 k4 k5=>hZ x F' h' g' v w' k1 k2 k3 k4 (a3.trans k5))
                 . cases hx
               . cases hx
             . cases hx
           . cases hx
         . cases hx
       . split at hx
         . rename_i f caps ht;split at hx
           . rename_i hok;rw[zav _ _ _ _ _ hok] at hx;have hv:VR g.im g.io (.fn f caps) (a.eval (.tmp t)):=hf.getD ht;generalize hev:a.eval (.tmp t)=fv at hv;cases hv with
             | fn _ _ cv hl hcv=>exact jE hrec (capv:=cv) ho hc hev ⟨by simpa using hl,fun i x y h1 h2=>hcv i x y h1 (by simpa using h2)⟩ hx hh hf hK hZ
           . cases hx
         . cases hx
     | _=>cases hx
   | invoke rcv m =>
     simp only[hc] at hx;split at hx
     . rename_i t v hev;split at hx
       . rename_i f r hme;have hv:=Z0 hf hev;generalize hrv:a.eval rcv=rv at hv;cases hv with
         | iface _ _ y hy =>
           obtain⟨z,hz,hrun⟩:=zfL hme hy;exact jD hrec (prev:=[z]) (.cons hz .nil) (fun fn hfn hb hn=>zsh ho hc hrv hrun hfn hb hn) hx hh hf hK hZ
       . cases hx
     . cases hx
   | builtin b =>
     simp only[hc] at hx;unfold zeY at hx;split at hx
     . rename_i t x hts has;split at hx
       . rename_i e hu;split at hx
         . exact fin (zpI ho hc hts has hu (by assumption) hh hf) hx hK
         . cases hx
       . rename_i hu;split at hx
         . exact fin (zgH ho hc hts has hu (by assumption) hh hf) hx hK
         . cases hx
       . rename_i k e hu;split at hx
         . split at hx
           . exact fin (zgI ho hc hts has hu (by assumption) (by assumption) hh hf) hx hK
           . cases hx
         . cases hx
       . cases hx
     . rename_i t t' s y hts has;split at hx
       . rename_i e sz sz' news x he hy hs;split at hx
         . rename_i hcond;obtain⟨rfl,hsz⟩:=hcond;split at hx
           . rename_i yv;split at hx
             . split at hx
               . rename_i z h' hz;cases yv with
                 | row b sz1 lo hi =>
                   simp only[WG] at hz;split at hz
                   . rename_i e1 sz2 l zz hb;split at hz
                     . rename_i hcd;cases hz;obtain⟨⟨rfl,rfl,rfl⟩,⟨c1,c2⟩,c3⟩:=hcd;exact fin (zcG ho hc hts has (QQ hf _) he hy hsz hs hb c1 c2 c3 hh hf) hx hK
                     . cases hz
                   . cases hz
                 | sl s1 l1 b1 =>
                   simp only[WG] at hz;split at hz
                   . rename_i hem;obtain⟨hne,rfl⟩:=hem;have:news=[]:=by simpa using hne
                     subst this;cases hz;exact fin (zcH ho hc hts has (QQ hf _) he hy hs hh hf) hx hK
                   split at hz
                   . cases hz;exact fin (zdw ho hc hts has (QQ hf _) he hy hsz hs rfl (by assumption) hh hf) hx hK
                   . cases hz
                 | _=>cases hz
               . cases hx
             . split at hx
               . exact fin (zb9 ho hc hts has (QQ hf _) he hy hsz hs (by assumption) hh hf) hx hK
               . cases hx
           . split at hx
             . exact fin (zb9 ho hc hts has (QQ hf _) he hy hsz hs (by assumption) hh hf) hx hK
             . cases hx
         . cases hx
       . cases hx
     . rename_i t t' y hts has;split at hx
       . rename_i e sz sz' news he hy;split at hx
         . rename_i hcond;obtain⟨rfl,hsz⟩:=hcond;split at hx
           . exact fin (zcI ho hc hts has he hy hsz (by assumption) hh hf) hx hK
           . cases hx
         . cases hx
       . cases hx
     . split at hx
       . split at hx
         . exact fin (zmO (mx:=false) ho hc (by assumption) (by assumption) hh hf) hx hK
         . cases hx
       . cases hx
     . split at hx
       . split at hx
         . exact fin (zmO (mx:=true) ho hc (by assumption) (by assumption) hh hf) hx hK
         . cases hx
       . cases hx
     . cases hx
 | makeInterface t x =>
   simp only[ho] at hx;split at hx
   . cases hx
   . rename_i hi;split at hx
     . exact fin (zdr ho (by simpa using hi) (by assumption) (by assumption) hh hf) hx hK
     . cases hx
 | typeAssert x xt t ok =>
   simp only[ho] at hx;split at hx
   . split at hx
     . exact fin (zcK ho (by assumption) (by assumption) hh hf) hx hK
     . cases hx
   . cases hx
 | panic x =>
   simp only[ho] at hx;split at hx
   . rename_i t v F1 h1 he;obtain⟨g1,a1,a2,a3,a4⟩:=X6 hh hf he;generalize hev:a.eval x=xv at a4;cases a4 with
     | iface _ _ y hy =>
       have hrun:(execOp a.eval o).run P w=.halt (.panic (.iface t y)) w:=by simp[execOp,ho,hev,Instr.panic]
       unfold Oper.wp;rw[hrun,Oper.upon_panic];exact hZ _ _ _ g1 _ w hx a1 (.iface t v y hy) a2 a3
   . cases hx
 | _=>simp only[ho] at hx;cases hx
end
end Go.L
namespace Go.L
open Go.RowKit
def Pres(ms:List Nat)(a a':Act):Prop:=a'.defers=a.defers/\a'.tmps.size=a.tmps.size/\∀ s,s ∉ ms->a'.tmps.getD s undef=a.tmps.getD s undef
theorem Pres.refl(ms:List Nat)(a:Act):Pres ms a a:=⟨rfl,rfl,fun _ _=>rfl⟩
theorem Pres.trans{ms:List Nat}{a b c:Act}(h:Pres ms a b)(k:Pres ms b c):Pres ms a c:=⟨k.1.trans h.1,k.2.1.trans h.2.1,fun s hs=>(k.2.2 s hs).trans (h.2.2 s hs)⟩
theorem Pres.put{ms:List Nat}(a:Act)(d:Option Nat)(v:Value)(hd:∀ k,d=some k->k∈ms):Pres ms a (a.put d v):=by
 cases d with
 | none=>exact .refl _ _
 | some k=>exact⟨rfl,by simp[Act.put],fun s hs=>getD_set_ne (by rintro rfl;exact hs (hd _ rfl))⟩
def ExR (g : G) : Ex -> Exit -> Prop
 | .nrm,.normal=>True
 | .ex i,.exit j=>i=j
 | .ret,.ret=>True
 | .pan x,.panic ch=>∃ v,ch=[{ v,recovered:=false }]/\VR g.im g.io x v
 | _,_=>False
section
variable {vc:Bool} {P:Program} {gc keep:FuncId->Bool} {rec:Rec} {R:Type} {r:R}
theorem zir{o:Oper}{ts:List TypeId}{args:List Operand}{F:List S}{h:zd}{K:List S->zd->Option R}:zeY P vc o .min ts args F h K=(match Yk F h args with|some vs=>(match mm false vs with|some v=>K (put F o.dst (.v v)) h|none=>none)|none=>none):=by
 unfold zeY;rfl
theorem zis{o:Oper}{ts:List TypeId}{args:List Operand}{F:List S}{h:zd}{K:List S->zd->Option R}:zeY P vc o .max ts args F h K=(match Yk F h args with|some vs=>(match mm true vs with|some v=>K (put F o.dst (.v v)) h|none=>none)|none=>none):=by
 unfold zeY;rfl
theorem zpK{mx:Bool}{vs:List V}{v:V}(h:mm mx vs=some v):∃ k p q,vs=[.int k p,.int k q]:=by
 unfold mm at h;split at h
 . split at h
   . rename_i hk;subst hk;exact⟨_,_,_,rfl⟩
   . cases h
 . cases h
theorem zpL{o:Oper}{a:Act}{g:G}{w:World}{F:List S}{h:zd}{K:List S->zd->Option R}{Z:V->List S->zd->Option R}(hx:opx P rec keep gc vc o F h K Z=some r)(hf:Finv g F a.tmps w):∀ x∈TR.asserted P o.op,TR.isInt (a.eval x)=true:=by
 have hint:∀ x k n,evV F x=some (.int k n)->TR.isInt (a.eval x)=true:=fun x k n he=>by
  have:=Z0 hf he;generalize a.eval x=v at this;cases this;rfl
 have hint2:∀ (os:List Operand) (vs:List V),Yk F h os=some vs->(∃ k p q,vs=[.int k p,.int k q])->∀ x∈os,TR.isInt (a.eval x)=true:=fun os vs he hv x hx=>by
  obtain⟨k,p,q,rfl⟩:=hv;obtain⟨i,hi⟩:=ZB.1 hx;have hlen:os.length=2:=by
   have:∀ {os:List Operand} {vs:List V},Yk F h os=some vs->os.length=vs.length:=by
    intro os
    induction os with
    | nil=>intro vs h;cases h;rfl
    | cons o os ih =>
      intro vs h;unfold Yk at h;split at h
      . cases h;simp[ih (by assumption)]
      . cases h
   simpa using this he
  have hlt:=(zi.1 hi).1;have:i=0\/i=1:=by omega
  rcases this with rfl|rfl
  . obtain⟨y,hy,hv⟩:=Kz he hf 0 k p rfl;rw[hi] at hy;cases hy;rw[hv];rfl
  . obtain⟨y,hy,hv⟩:=Kz he hf 1 k q rfl;rw[hi] at hy;cases hy;rw[hv];rfl
 intro x hm;unfold TR.asserted at hm;split at hm
 . rename_i op t y z t' ho;split at hm
   . rename_i hi;obtain⟨k,hu⟩:=TR.intT_spec hi;unfold opx at hx;simp only[ho] at hx;split at hx
     . rename_i p q hp hq;split at hx
       . rename_i v hb;rw[zpA hu] at hb;unfold bop at hb;rw[hu] at hb;split at hb <;> rename_i e1 <;> first|(cases e1;done)|skip
         . have hm':=(ZA.1 hm).1;rcases zL.1 hm' with rfl|hm'
           . exact hint _ _ _ hp
           . rcases zL.1 hm' with rfl|hm'
             . exact hint _ _ _ hq
             . cases hm'
         . cases hb
       . cases hx
     . cases hx
   . cases hm
 . rename_i s d y ho;split at hm
   . rename_i hi;rw[zB] at hi;obtain⟨k,hu⟩:=TR.intT_spec hi.1;obtain⟨k',hu'⟩:=TR.intT_spec hi.2;unfold opx at hx;have hcs:znS P s d=false:=by unfold znS;rw[hu,hu']
     simp only[ho,hcs,zp,if_false] at hx;split at hx
     . rename_i p hp;split at hx
       . rename_i v hb;unfold cvt at hb;rw[hu,hu'] at hb;split at hb <;> rename_i e1 e2 <;> first|(cases e1;done)|skip
         . have hm':=(ZA.1 hm).1;rcases zL.1 hm' with rfl|hm'
           . exact hint _ _ _ hp
           . cases hm'
         . cases hb
       . cases hx
     . cases hx
   . cases hm
 . rename_i args ts ho;unfold opx at hx;simp only[ho] at hx;rw[zir] at hx;split at hx
   . rename_i vs hv;split at hx
     . rename_i v hmm;exact hint2 _ vs hv (zpK hmm) x (ZA.1 hm).1
     . cases hx
   . cases hx
 . rename_i args ts ho;unfold opx at hx;simp only[ho] at hx;rw[zis] at hx;split at hx
   . rename_i vs hv;split at hx
     . rename_i v hmm;exact hint2 _ vs hv (zpK hmm) x (ZA.1 hm).1
     . cases hx
   . cases hx
 . cases hm
def lst(P:Program)(as_:Bool)(l:List Oper):List Oper:=if as_ then TR.withAsserts P l else l
theorem zad {all : Array Oper} {Q : Exit -> Act -> World -> Prop} {o : Oper} {a : Act} {w : World} {rest : List Oper} : ∀ (xs : List Operand), (∀ x ∈ xs, (TR.isInt (a.eval x) || !Region.wanted o (yielded all a.tmps)) = true) -> wpList P all Q rest a w -> wpList P all Q (xs.map (TR.assertOp o) ++ rest) a w
 | [],_,h=>h
 | x :: xs,hx,h=>TR.wpList_assert (hx x (by simp)) (zad xs (fun y hy=>hx y (by simp[hy])) h)
theorem zdB(hrec:RecOk P gc rec)(as_:Bool)(all:Array Oper){Z:V->List S->zd->Option R}{K:List S->zd->Option R}{Q:Exit->Act->World->Prop}(ms:List Nat):∀ (l:List Oper) (F:List S) (h:zd) (g:G) (a:Act) (w:World),
    zcA P rec keep gc vc all Z l F h K=some r->Hinv g h w->Finv g F a.tmps w->(∀ o∈l,∀ d,o.dst=some d->d∈ms) →
    (∀ F' h' g' a' w',K F' h'=some r->Hinv g' h' w'->Finv g' F' a'.tmps w'->Step g w g' w'->Pres ms a a'->Q .normal a' w') →
    (∀ x F' h' g' a' v w',Z x F' h'=some r->Hinv g' h' w'->VR g'.im g'.io x v->Finv g' F' a'.tmps w'->Step g w g' w'->Pres ms a a'->Q (.panic [{ v,recovered:=false }]) a' w') →
    wpList P all Q (lst P as_ l) a w
 | [],F,h,g,a,w,hx,hh,hf,hms,hK,hZ=>by
   have:lst P as_ []=[]:=by unfold lst;cases as_ <;> rfl
   rw[this];exact hK F h g a w hx hh hf (.refl _ _) (.refl _ _)
 | o :: l,F,h,g,a,w,hx,hh,hf,hms,hK,hZ=>by
   have hrest:∀ F' h' g' v w',zcA P rec keep gc vc all Z l F' h' K=some r->Hinv g' h' w'->Finv g' F' (a.put o.dst v).tmps w'->Step g w g' w'->wpList P all Q (lst P as_ l) (a.put o.dst v) w':=fun F' h' g' v w' hx' hh' hf' hs'=>by
    have hp:=Pres.put (ms:=ms) a o.dst v (fun k hk=>hms o (by simp) k hk)
    exact zdB hrec as_ all ms l F' h' g' _ w' hx' hh' hf' (fun o' ho' => hms o' (by simp [ho'])) (fun F2 h2 g2 a2 w2 k1 k2 k3 k4 k5 => hK F2 h2 g2 a2 w2 k1 k2 k3 (hs'.trans k4) (hp.trans k5))
     (fun x F2 h2 g2 a2 u w2 k1 k2 k3 k4 k5 k6=>hZ x F2 h2 g2 a2 u w2 k1 k2 k3 k4 (hs'.trans k5) (hp.trans k6))
   have hlst:lst P as_ (o :: l)=(if as_ then(TR.asserted P o.op).map (TR.assertOp o) else[])++(o :: lst P as_ l):=by
    unfold lst;cases as_ <;> simp[TR.withAsserts]
   have hdo:∀ F,opx P rec keep gc vc o F h (fun F h=>zcA P rec keep gc vc all Z l F h K) Z=some r->Finv g F a.tmps w->Region.wanted o (yielded all a.tmps)=true->wpList P all Q (lst P as_ (o :: l)) a w:=fun F hx hf hw=>by
    rw[hlst];have hmain:wpList P all Q (o :: lst P as_ l) a w:=by
     unfold wpList;rw[if_pos hw];left;exact ql hrec hx hh hf hrest (fun x F' h' g' v w' k1 k2 k3 k4 k5=>hZ x F' h' g' a v w' k1 k2 k3 k4 k5 (.refl _ _))
    cases as_ with
    | false=>exact hmain
    | true=>exact zad _ (fun x hxm=>by rw[zpL hx hf x hxm];rfl) hmain
   have hskip:∀ F,zcA P rec keep gc vc all Z l (put F o.dst .sk) h K=some r->Finv g F a.tmps w->Region.wanted o (yielded all a.tmps)=false->wpList P all Q (lst P as_ (o :: l)) a w:=fun F hx hf hw=>by
    rw[hlst];have hmain:wpList P all Q (o :: lst P as_ l) a w:=by
     unfold wpList;rw[if_neg (by rw[hw];simp)];exact hrest _ _ g undef w hx hh (hf.put o.dst .sk undef (fun k _ _=>rfl) (fun k e sz i c _ he=>by cases he)) (.refl _ _)
    cases as_ with
    | false=>exact hmain
    | true=>exact zad _ (fun x hxm=>by rw[hw];simp) hmain
   unfold zcA at hx;simp only[Kj] at hx;split at hx
   . rename_i hg;exact hdo F hx hf (by simp[Region.wanted,hg])
   . rename_i j want hg;split at hx
     . rename_i d hd;split at hx
       . rename_i b hb;have hbv:VR g.im g.io (.bool b) (a.eval (.tmp d)):=hf.getD hb;have hlt:d < a.tmps.size:=by rw[<- hf.len];exact(zi.1 hb).1
         have hval:a.tmps[d]?=some (.bool b):=by
          generalize hev:a.eval (.tmp d)=v at hbv;cases hbv;rw[Zc hlt];have:a.tmps.getD d undef=.bool b:=hev;rw[zX,Zc hlt] at this;exact congrArg some this
         have hy:yielded all a.tmps j=some b:=by
          unfold yielded;rw[hd];simp[hval]
         have hw:Region.wanted o (yielded all a.tmps)=(some b == some want):=by simp[Region.wanted,hg,hy]
         have hset:F.set d (.v (.bool b))=F:=by
          apply ZU;intro i;rw[Zd];split
          . rename_i e;subst e;rw[hb,if_pos (zi.1 hb).1]
          . rfl
         cases b with
         | true =>
           simp only[if_true] at hx;rw[hset] at hx;cases want with
           | true=>exact hdo F (by simpa using hx) hf (by rw[hw];rfl)
           | false=>exact hskip F (by simpa using hx) hf (by rw[hw];rfl)
         | false =>
           simp only[zp,if_false] at hx;rw[hset] at hx;cases want with
           | true=>exact hskip F (by simpa using hx) hf (by rw[hw];rfl)
           | false=>exact hdo F (by simpa using hx) hf (by rw[hw];rfl)
       . rename_i hb;have hsk:a.eval (.tmp d)=undef:=hf.getD hb;have hlt:d < a.tmps.size:=by rw[<- hf.len];exact(zi.1 hb).1
         have hy:yielded all a.tmps j=none:=by
          unfold yielded;rw[hd];have:a.tmps[d]?=some undef:=by
           rw[Zc hlt];have:a.tmps.getD d undef=undef:=hsk;rw[zX,Zc hlt] at this;exact congrArg some this
          simp[this,undef]
         exact hskip F hx hf (by simp[Region.wanted,hg,hy])
       . cases hx
     . cases hx
end
end Go.L
namespace Go.L
open Go.RowKit
def JA(gc:FuncId->Bool)(rec:Rec):Prop:=∀ f args r h',gc f=true->rec f args []=some (r,h')->∀ h,rec f args h=some (r,h)
section
variable {vc:Bool} {P:Program} {o:Oper} {F:List S} {h:zd} {gc keep:FuncId->Bool} {rec:Rec}
theorem Y7{d:Option Nat}(hd:Ja F d=true)(s:S):put F d s=Qe F (wr d s):=by
 cases d with
 | none=>rfl
 | some d =>
   unfold Ja at hd;unfold put wr Qe;simp only at hd ⊢;split at hd <;> first|(cases hd;done)|skip
   rename_i h1 h2 h3 h4;split
   . rename_i e;exact(h1 _ _ _ e).elim
   . rename_i e;exact(h2 _ _ e).elim
   . rename_i e;exact(h3 e).elim
   . rfl
theorem zun{s:Nat}{x:V}(h:F[s]?=some (.v x)):rt F s=s:=by unfold rt;rw[h]
theorem zdC{x:Operand}{v:V}(hx:evV F x=some v):evE vc F h x=some (v,F,h):=by
 cases x with
 | tmp t =>
   simp only[evV] at hx;simp only[evE];split at hx
   . rename_i y hy;cases hx;simp only[hy]
   . cases hx
 | const c=>simp only[evV] at hx;simp only[evE,hx];rfl
 | func f=>cases hx;rfl
 | global g=>cases hx
theorem JG : ∀ {xs : List Operand} {vs : List V}, Kk F xs = some vs -> W6 vc F h xs = some (vs, F, h)
 | [],vs,hx=>by cases hx;rfl
 | x :: xs,vs,hx=>by
   unfold Kk at hx;split at hx
   . rename_i v vs' h1 h2;cases hx;unfold W6;simp only[zdC h1,JG h2]
   . cases hx
theorem zgP{x:Operand}{cs:List V}{n c:Nat}(hx:place F h x=some (cs,n,c)){R:Type}(K:List V->Nat->Nat->Option R):W8 F h x K=K cs n c:=by
 cases x with
 | tmp s =>
   unfold place at hx;unfold W8;cases hs:F[s]? with
   | none=>simp[hs] at hx
   | some y =>
     cases y with
     | bx n' cs'=>simp only[hs] at hx ⊢;cases hx;rfl
     | fp d sz i c' =>
       simp only[hs] at hx ⊢;cases hd:F[d]? with
       | none=>simp[hd] at hx
       | some z =>
         cases z with
         | bx n' cs' =>
           simp only[hd] at hx ⊢;by_cases hi:i=0
           . rw[if_pos hi] at hx ⊢;cases hx;rfl
           . rw[if_neg hi] at hx;cases hx
         | own e sz' l =>
           simp only[hd] at hx ⊢;by_cases hi:sz'=sz/\0 < sz
           . rw[if_pos hi] at hx ⊢;cases he:l[i]? with
             | none=>simp[he] at hx
             | some es=>simp only[he] at hx ⊢;cases hx;rfl
           . rw[if_neg hi] at hx;cases hx
         | _=>simp[hd] at hx
     | v z=>simp only[hs] at hx ⊢;rw[hx]
     | _=>simp[hs] at hx
 | _=>cases hx
theorem jF{k:Nat}{x:Operand}{d:Option Nat}{R:Type}{K:S->Option R}{r:R}(hm:Yz F k x d K=some r):∃ s,K s=some r/\∀ (R':Type) (K':S->Option R'),Yz F k x d K'=K' s:=by
 cases x with
 | tmp t =>
   simp only[Yz] at hm ⊢;split at hm
   . split at hm
     . cases hm
     . rename_i hd;exact⟨_,hm,fun R' K'=>if_neg hd⟩
   . split at hm
     . cases hm
     . rename_i ha;split at hm
       . cases hm
       . rename_i hd;exact⟨_,hm,fun R' K'=>by rw[if_neg ha,if_neg hd]⟩
   . split at hm
     . rename_i z hz;exact⟨_,hm,fun R' K'=>by simp only[hz]⟩
     . cases hm
   . cases hm
 | _=>cases hm
theorem zit{vs:List V}{x:Operand}{R:Type}{K:List (Nat×S)->HE->Option R}{r:R}(hx:YS F h vs x K=some r):∃ us hs,K us hs=some r ∧
    (∀ (R':Type) (K':List (Nat×S)->HE->Option R'),YS F h vs x K'=K' us hs)/\(∀ (R':Type) (K':List S->zd->Option R'),zdf F h vs x K'=K' (Qe F us) (Xk h hs))/\∀ p∈us,∃ y,F[p.1]?=some y/\lin y=true:=by
 cases x with
 | tmp s =>
   simp only[YS] at hx;simp only[YS,zdf];split at hx
   . rename_i n cs h1;split at hx
     . rename_i hc;refine⟨_,_,hx,?_⟩;simp only[h1,hc,if_true,Qe,Xk,XP,implies_true,true_and];intro p hp;rw[Zx] at hp;subst hp;exact⟨_,h1,rfl⟩
     . cases hx
   . rename_i d sz i c' h1;split at hx
     . rename_i n cs h2;split at hx
       . rename_i hi;refine⟨_,_,hx,?_⟩;simp only[h1,h2,hi,and_self,if_true,Qe,Xk,XP,implies_true,true_and];intro p hp;rw[Zx] at hp;subst hp;exact⟨_,h2,rfl⟩
       . cases hx
     . rename_i e sz' l h2;split at hx
       . rename_i hi;split at hx
         . rename_i es he;refine⟨_,_,hx,?_⟩;simp only[h1,h2,hi,and_self,if_true,he,Qe,Xk,XP,implies_true,true_and];intro p hp;rw[Zx] at hp;subst hp;exact⟨_,h2,rfl⟩
         . cases hx
       . cases hx
     . cases hx
   . rename_i y h1;split at hx
     . rename_i b x h2;refine⟨_,_,hx,?_⟩;simp only[h1,h2,Qe,Xk,XP,implies_true,true_and];intro p hp;cases hp
     . cases hx
   . cases hx
 | _=>cases hx
theorem W0 : ∀ (us vs : List (Nat × S)) (F : List S), Qe F (us ++ vs) = Qe (Qe F us) vs
 | [],_,_=>rfl
 | (k,s) :: us,vs,F=>by simp only[Z1,Qe];exact W0 us vs _
theorem zdD : ∀ (us : List (Nat × S)) (F : List S), (Qe F us).length = F.length
 | [],_=>rfl
 | (k,s) :: us,F=>by simp only[Qe];rw[zdD us];simp
theorem zcW : ∀ (us : List (Nat × S)) (F : List S) (k : Nat), k ∉ us.map (·.1) -> (Qe F us)[k]? = F[k]?
 | [],_,_,_=>rfl
 | (j,s) :: us,F,k,hk=>by
   simp only[zS,zL,not_or] at hk;simp only[Qe];rw[zcW us _ k hk.2,ze (fun e=>hk.1 e.symm)]
theorem zfP{us:List (Nat×S)}{d:Option Nat}(hd:Ja F d=true)(hl:∀ p∈us,∃ y,F[p.1]?=some y/\lin y=true):Ja (Qe F us) d=true:=by
 cases d with
 | none=>rfl
 | some d =>
   unfold Ja at hd ⊢;simp only at hd ⊢;rw[zcW]
   . exact hd
   . intro hm;obtain⟨p,hp,rfl⟩:=Zv.1 hm;obtain⟨y,hy,hly⟩:=hl p hp;rw[hy] at hd;cases y <;> simp[lin] at hly <;> simp at hd
theorem Yv{f:FuncId}{d:Option Nat}{vs:List V}{he:HE}(hd:Ja F d=true){R:Type}{K:List (Nat×S)->HE->Option R}{r:R}(hx:zcC P f d vs he K=some r):∃ us,K us he=some r ∧
    (∀ (R':Type) (K':List (Nat×S)->HE->Option R'),zcC P f d vs he K'=K' us he)/\(∀ (R':Type) (K':List S->zd->Option R') (h:zd),zbp P f d vs F h K'=K' (Qe F us) h):=by
 have hp:∀ s,put F d s=Qe F (wr d s):=fun s=>Y7 hd s;unfold zcC at hx;unfold zcC zbp;split at hx
 . rename_i h1;split at hx
   . refine⟨_,hx,?_⟩;simp only[h1,if_true,hp,implies_true,and_self]
   . cases hx
 . rename_i h1;refine⟨_,hx,?_⟩;simp only[h1,if_false,hp,implies_true,and_self,zp]
theorem zdE{d:Option Nat}(hd:Ja F d=true){t:Nat}{y:S}(hy:F[t]?=some y)(hl:lin y=true)(x:S):put (F.set t .gone) d x=Qe F ((t,.gone) :: wr d x):=by
 have:=zfP (us:=[(t,S.gone)]) hd (fun p hp=>by rw[Zx] at hp;subst hp;exact⟨y,hy,hl⟩);exact Y7 this x
theorem zn5(hd:Ja F o.dst=true){k e:Nat}{args:List Operand}{R:Type}{K:List (Nat×S)->HE->Option R}{r:R}(hx:qJ o k e args F h K=some r):∃ us,K us (.sets [])=some r ∧
    (∀ (R':Type) (K':List (Nat×S)->HE->Option R'),qJ o k e args F h K'=K' us (.sets []))/\(∀ (R':Type) (K':List S->zd->Option R') (h2:zd),zkZ o k e args F h (fun F=>K' F h2)=K' (Qe F us) h2):=by
 unfold qJ at hx;split at hx
 . split at hx
   . rename_i sz l h1;split at hx
     . rename_i hc;refine⟨_,hx,?_⟩;simp only[qJ,zkZ,h1,hc,and_self,if_true,Y7 hd,implies_true]
     . cases hx
   . cases hx
 . split at hx
   . rename_i h1 h2 h3;split at hx
     . rename_i hc;refine⟨_,hx,?_⟩;simp only[qJ,zkZ,h1,h2,h3,hc,and_self,if_true,zdE hd h1 rfl,implies_true,not_false_eq_true,ne_eq]
     . cases hx
   . cases hx
 . split at hx
   . rename_i h1 h2 h3;split at hx
     . rename_i hc;refine⟨_,hx,?_⟩;simp only[qJ,zkZ,h1,h2,h3,hc,and_self,if_true,zdE hd h1 rfl,implies_true]
     . cases hx
   . cases hx
 . cases hx
theorem zsi{F F':List S}{h h':zd}{x:Operand}{v:V}(hx:evE vc F h x=some (v,F',h')):F'.length=F.length:=by
 cases x with
 | tmp t =>
   simp only[evE] at hx;split at hx
   . cases hx;rfl
   . split at hx <;> (cases hx;simp)
   . cases hx;simp[Yj]
   . split at hx
     . split at hx
       . split at hx <;> (cases hx;simp)
       . cases hx
     . split at hx
       . cases hx;simp[Yj]
       . cases hx
     . cases hx
   . cases hx
 | const c =>
   simp only[evE] at hx;cases hv:ofValue c with
   | none=>simp[hv] at hx
   | some y=>simp[hv] at hx;rw[hx.2.1]
 | func f=>cases hx;rfl
 | global g=>cases hx
theorem zaJ : ∀ {xs : List Operand} {F F' : List S} {h h' : zd} {vs : List V}, W6 vc F h xs = some (vs, F', h') -> F'.length = F.length
 | [],F,F',h,h',vs,hx=>by cases hx;rfl
 | x :: xs,F,F',h,h',vs,hx=>by
   unfold W6 at hx;split at hx
   . rename_i v F1 h1 e1;split at hx
     . rename_i vs2 F2 h2 e2;cases hx;rw[zaJ e2,zsi e1]
     . cases hx
   . cases hx
theorem zfQ : ∀ (L : List S) (k : Nat) (F : List S), k + L.length <= F.length -> ∀ j, (Qe F ((L.zipIdx k).map fun p => (p.2, p.1)))[j]? = if k <= j /\ j < k + L.length then L[j - k]? else F[j]?
 | [],k,F,hl,j=>by
   rw[if_neg (by intro h;simp at h;omega)];rfl
 | x :: L,k,F,hl,j=>by
   simp only[zD] at hl;simp only[List.zipIdx_cons,zS,Qe];rw[zfQ L (k+1) _ (by simp;omega)];simp only[zD];by_cases h1:k+1<=j/\j < k+1+L.length
   . rw[if_pos h1,if_pos (by omega),show j - k=(j - (k+1))+1 from by omega,zj]
   . rw[if_neg h1];by_cases h2:j=k
     . subst h2;rw[if_pos (by omega),Zz (by omega),QX];rfl
     . rw[if_neg (by omega),ze (Ne.symm h2)]
theorem zby{F' F:List S}(hl:F'.length=F.length):Qe F (zdi F')=F':=by
 apply ZU;intro j;unfold zdi;rw[zfQ F' 0 F (by omega)];by_cases hj:j < F'.length
 . rw[if_pos (by omega),Nat.sub_zero]
 . rw[if_neg (by omega),Zg (by omega),Zg (by omega)]
theorem ziu(hloc:JA gc rec)(hd:Ja F o.dst=true){f:FuncId}{caps:List V}{args:List Operand}{R:Type}{K:List (Nat×S)->HE->Option R}{r:R}(hx:Qk P rec keep gc vc o f caps args F h K=some r):∃ us hs,K us hs=some r ∧
    (∀ (R':Type) (K':List (Nat×S)->HE->Option R'),Qk P rec keep gc vc o f caps args F h K'=K' us hs)/\(∀ (R':Type) (K':List S->zd->Option R') (Z:V->List S->zd->Option R'),zbq P rec keep gc vc o f caps args F h K' Z=K' (Qe F us) (Xk h hs)):=by
 unfold Qk at hx;unfold Qk zbq;split at hx
 . rename_i k e hnf;split at hx
   . rename_i hc;obtain⟨us,k1,k2,k3⟩:=zn5 hd hx;refine⟨us,.sets [],k1,?_⟩;simp only[hc,if_true,k2,k3,Xk,XP,implies_true,and_self]
   . cases hx
 split at hx
 . rename_i hg;split at hx
   . rename_i hk;split at hx
     . rename_i vs h1;split at hx
       . rename_i vs' h' h2;obtain⟨us,k1,k2,k3⟩:=Yv hd hx;refine⟨us,.sets [],k1,?_⟩;simp only[hg,hk,if_true,h1,h2,k2,JG h1,hloc f _ _ _ hg h2 h,k3,Xk,XP,implies_true,and_self]
       . cases hx
     . cases hx
   . rename_i hk;split at hx
     . rename_i vs h1;split at hx
       . rename_i vs' h' h2;split at hx
         . rename_i h3;obtain⟨us,k1,k2,k3⟩:=Yv hd hx;refine⟨us,.sets [],k1,?_⟩;simp only[hg,hk,if_true,if_false,h1,h2,k2,h3,hloc f _ _ _ hg h2 h,k3,Xk,XP,implies_true,and_self,zp]
         . cases hx
       . cases hx
     . cases hx
 . rename_i hg;split at hx
   . rename_i hk;split at hx
     . rename_i vs h1;split at hx
       . rename_i vs' h' h2;obtain⟨us,k1,k2,k3⟩:=Yv hd hx;refine⟨us,.all h',k1,?_⟩;simp only[hg,hk,if_true,if_false,h1,h2,k2,JG h1,k3,Xk,implies_true,and_self,zp]
       . cases hx
     . rename_i h1;split at hx
       . rename_i vs F' h0 h2;split at hx
         . rename_i hd2;split at hx
           . rename_i vs' h' h3;obtain⟨us,k1,k2,k3⟩:=Yv hd2 hx;refine⟨_,.all h',k1,?_⟩;have e1:∀ us,Qe F (zdi F'++us)=Qe F' us:=fun us=>by rw[W0,zby (zaJ h2)]
             refine⟨fun R' K'=>?_,fun R' K' Z=>?_⟩
             . simp only[hg,hk,if_true,if_false,h1,h2,h3,hd2,zp];exact k2 R' (fun us e=>K' (zdi F'++us) e)
             . simp only[hg,hk,if_true,if_false,h1,h2,h3,hd2,zp,Xk,e1];exact k3 R' K' h'
           . cases hx
         . cases hx
       . cases hx
   . cases hx
theorem zae(hloc:JA gc rec)(hd:Ja F o.dst=true){f:FuncId}{caps:List V}{args:List Operand}{R:Type}{K:List (Nat×S)->HE->Option R}{r:R}(hx:Wq P rec keep gc vc o f caps args F h K=some r):∃ us hs,K us hs=some r ∧
    (∀ (R':Type) (K':List (Nat×S)->HE->Option R'),Wq P rec keep gc vc o f caps args F h K'=K' us hs)/\(∀ (R':Type) (K':List S->zd->Option R') (Z:V->List S->zd->Option R'),zdg P rec keep gc vc o f caps args F h K' Z=K' (Qe F us) (Xk h hs)):=by
 unfold Wq at hx;split at hx
 . cases hx
 . rename_i hmu;have:=ziu hloc hd hx;simp only[Wq,zdg,hmu];exact this
theorem zcc(hd:Ja F o.dst=true){f:FuncId}{pre:List V}{args:List Operand}{R:Type}{K:List (Nat×S)->HE->Option R}{r:R}(hx:KU P rec keep vc o f pre args F h K=some r):∃ us hs,K us hs=some r ∧
    (∀ (R':Type) (K':List (Nat×S)->HE->Option R'),KU P rec keep vc o f pre args F h K'=K' us hs)/\(∀ (R':Type) (K':List S->zd->Option R') (Z:V->List S->zd->Option R'),zdh P rec keep vc o f pre args F h K' Z=K' (Qe F us) (Xk h hs)):=by
 unfold KU at hx;unfold KU zdh;split at hx
 . rename_i hc;have hok:=hc.2;have hu:∀ {R:Type} (d:Option Nat) (vs:List V) (e:HE) (K:List (Nat×S)->HE->Option R),qK (jr P o.type) d vs e K=zcC P f d vs e K:=fun d vs e K=>by
    have hr:=hok;unfold okV at hr;rw[zB,zB,beq_iff_eq] at hr;unfold qK zcC;rw[hr.2.2];cases jr P o.type <;> rfl
   simp only[if_pos hc];split at hx
   . rename_i vs h1;split at hx
     . rename_i vs' h' h2;rw[hu] at hx;obtain⟨us,k1,k2,k3⟩:=Yv hd hx;refine⟨us,.all h',k1,?_⟩;simp only[h1,h2,hu,zgO hok,k2,JG h1,k3,Xk,implies_true,and_self]
     . cases hx
   . rename_i h1;split at hx
     . rename_i vs F' h0 h2;split at hx
       . rename_i hd2;split at hx
         . rename_i vs' h' h3;rw[hu] at hx;obtain⟨us,k1,k2,k3⟩:=Yv hd2 hx;refine⟨_,.all h',k1,?_⟩;have e1:∀ us,Qe F (zdi F'++us)=Qe F' us:=fun us=>by rw[W0,zby (zaJ h2)]
           refine⟨fun R' K'=>?_,fun R' K' Z=>?_⟩
           . simp only[h1,h2,h3,hd2,if_true,hu];exact k2 R' (fun us e=>K' (zdi F'++us) e)
           . simp only[h2,h3,zgO hok,Xk,e1];exact k3 R' K' h'
         . cases hx
       . cases hx
     . cases hx
 . cases hx
theorem zn6(hd:Ja F o.dst=true){b:Builtin}{ts:List TypeId}{args:List Operand}{R:Type}{K:List (Nat×S)->HE->Option R}{r:R}(hx:qL P vc o b ts args F h K=some r):∃ us hs,K us hs=some r ∧
    (∀ (R':Type) (K':List (Nat×S)->HE->Option R'),qL P vc o b ts args F h K'=K' us hs)/\(∀ (R':Type) (K':List S->zd->Option R') (Z:V->List S->zd->Option R'),zeY P vc o b ts args F h K'=K' (Qe F us) (Xk h hs)):=by
 have hp:∀ s,put F o.dst s=Qe F (wr o.dst s):=fun s=>Y7 hd s;unfold qL at hx;split at hx
 . rename_i t x;split at hx
   . rename_i e h1;split at hx
     . rename_i sz l h2;refine⟨_,_,hx,?_⟩;simp only[qL,zeY,h1,h2,hp,Xk,XP,implies_true,and_self]
     . cases hx
   . cases hx
 . rename_i t t' s y;split at hx
   . rename_i e sz sz' news x h1 h2 h3;split at hx
     . rename_i hc;split at hx
       . rename_i hvc;split at hx
         . rename_i z h' h4;refine⟨_,_,hx,?_⟩;simp only[qL,zeY,h1,h2,h3,zun h3,hc,hvc,h4,and_self,if_true,Xk,hp,implies_true]
         . cases hx
       rename_i hvc;split at hx
       . rename_i l h4;refine⟨_,_,hx,?_⟩;obtain⟨s1,l1,b1,rfl⟩:∃ s1 l1 b1,x=.sl s1 l1 b1:=by
          cases x <;> first|exact⟨_,_,_,rfl⟩|(simp[app] at h4)
         have hvf:vc=false:=by simpa using hvc
         simp only[qL,zeY,h1,h2,h3,zun h3,hc,hvf,Bool.false_and,zp,if_false,h4,and_self,if_true,Xk,XP,implies_true,true_and];intro R' K' Z;have e1:put F (some s) .un=F.set s .un:=by unfold put;simp only[h3]
         rw[e1];have e2:Ja (F.set s .un) o.dst=true:=by
          cases hdd:o.dst with
          | none=>rfl
          | some d =>
            rw[hdd] at hd;unfold Ja at hd ⊢;simp only at hd ⊢;rw[Zd];by_cases e:s=d
            . subst e;simp only[(zi.1 h3).1,if_true]
            . rw[if_neg e];exact hd
         rw[Y7 e2];rfl
       . cases hx
     . cases hx
   . cases hx
 . split at hx
   . rename_i vs h1;split at hx
     . rename_i v h2;refine⟨_,_,hx,?_⟩;constructor
       . intro R' K';unfold qL;split <;> simp_all
       . intro R' K' Z;rw[zir];simp only[h1,h2,hp,Xk,XP]
     . cases hx
   . cases hx
 . split at hx
   . rename_i vs h1;split at hx
     . rename_i v h2;refine⟨_,_,hx,?_⟩;constructor
       . intro R' K';unfold qL;split <;> simp_all
       . intro R' K' Z;rw[zis];simp only[h1,h2,hp,Xk,XP]
     . cases hx
   . cases hx
 . cases hx
theorem zfR{as_:Bool}(hd:Ja F o.dst=true){x:Operand}{R:Type}{K:List (Nat×S)->HE->Option R}{r:R}(hx:jo as_ o x F K=some r):∃ us hs,K us hs=some r ∧
    (∀ (R':Type) (K':List (Nat×S)->HE->Option R'),jo as_ o x F K'=K' us hs)/\(∀ (R':Type) (K':List S->zd->Option R') (Z:V->List S->zd->Option R'),qI P as_ o x F h K'=K' (Qe F us) (Xk h hs)):=by
 have hp:∀ s,put F o.dst s=Qe F (wr o.dst s):=fun s=>Y7 hd s;cases x with
 | tmp t =>
   simp only[jo] at hx;simp only[jo,qI];cases hs:F[t]? with
   | none=>simp[hs] at hx
   | some y =>
     cases y with
     | v a =>
       simp only[hs] at hx ⊢;exact⟨_,_,hx,by simp only[hp,Xk,XP,implies_true,and_self]⟩
     | tup a =>
       simp only[hs] at hx ⊢;exact⟨_,_,hx,by simp only[hp,Xk,XP,implies_true,and_self]⟩
     | own e sz l =>
       simp only[hs] at hx ⊢;cases as_ with
       | true =>
         simp only[if_true] at hx ⊢;exact⟨_,_,hx,by simp only[zdE hd hs rfl,Xk,XP,implies_true,and_self]⟩
       | false =>
         simp only[zp,if_false] at hx ⊢;by_cases hne:o.dst=some t
         . rw[if_pos hne] at hx;cases hx
         . rw[if_neg hne] at hx;exact⟨_,_,hx,by simp only[if_neg hne,hp,Xk,XP,implies_true,and_self]⟩
     | bx m cs =>
       simp only[hs] at hx ⊢;by_cases hne:o.dst=some t
       . rw[if_pos hne] at hx;cases hx
       . rw[if_neg hne] at hx;exact⟨_,_,hx,by simp only[if_neg hne,hp,Xk,XP,implies_true,and_self]⟩
     | fp d sz i c =>
       simp only[hs] at hx ⊢;cases as_ with
       | true=>simp at hx
       | false =>
         simp only[WT,beq_iff_eq,Bool.false_and,zp,if_false] at hx ⊢;by_cases hne:o.dst=some d
         . rw[if_pos hne] at hx;cases hx
         . rw[if_neg hne] at hx;exact⟨_,_,hx,by simp only[if_neg hne,hp,Xk,XP,implies_true,and_self]⟩
     | _=>simp[hs] at hx
 | const v =>
   simp only[jo] at hx;split at hx
   . cases hx
   . rename_i hn;split at hx
     . rename_i a ha;refine⟨_,_,hx,?_⟩;constructor
       . intro R' K';simp only[jo]
         first|(rw[ha];done)|(simp only[ha];done)|(split <;> simp_all)
       . intro R' K' Z;unfold qI;split
         . rename_i e;cases e
         . rename_i e;cases e;exact(hn rfl).elim
         . simp only[evV,ha,hp,Xk,XP]
     . cases hx
 | func f=>exact⟨_,_,hx,by simp only[jo,qI,evV,hp,Xk,XP,implies_true,and_self]⟩
 | global g=>cases hx
def zuo(P:Program)(rec:Rec)(keep gc:FuncId->Bool)(vc:Bool)(o:Oper)(F:List S)(h:zd)(us:List (Nat×S))(hs:HE):Prop :=
 (∀ (R':Type) (K':List (Nat×S)->HE->Option R'),zbr P rec keep gc vc o F h K'=K' us hs) ∧
 ∀ (R':Type) (K':List S->zd->Option R') (Z:V->List S->zd->Option R'),opx P rec keep gc vc o F h K' Z=K' (Qe F us) (Xk h hs)
set_option maxHeartbeats 2000000 in
theorem zfS (hloc : JA gc rec) (hd : Ja F o.dst = true) {R : Type} {K : List (Nat × S) -> HE -> Option R} {r : R} (hx : zbr P rec keep gc vc o F h K = some r) :
    ∃ us hs,K us hs=some r/\zuo P rec keep gc vc o F h us hs:=by
 have hp:∀ s,put F o.dst s=Qe F (wr o.dst s):=fun s=>Y7 hd s;have hE:∀ {x v},evV F x=some v->evE vc F h x=some (v,F,h):=fun hx=>zdC hx;unfold zbr at hx;unfold zuo zbr opx;cases ho:o.op with
 | pick c a b =>
   simp only[ho] at hx ⊢;split at hx
   . rename_i h1 h2 h3;refine⟨_,_,hx,?_⟩;simp only[h1,h2,h3,hp,Xk,XP,implies_true,and_self]
   . rename_i t p h1 h2 h3;split at hx
     . rename_i ht;subst ht;refine⟨_,_,hx,?_⟩;simp only[h1,h2,h3,hp,Xk,XP,if_true,implies_true,and_self]
     . cases hx
   . rename_i t p h1 h2 h3;split at hx
     . cases hx
     . rename_i ht;refine⟨_,_,hx,?_⟩;simp only[h1,h2,h3,hp,Xk,XP,if_neg ht,implies_true,and_self]
   . cases hx
 | alloc e =>
   simp only[ho] at hx ⊢;split at hx
   . rename_i h1;refine⟨_,_,hx,?_⟩;simp only[h1,hp,Xk,XP,implies_true,and_self]
   . cases hx
 | box e x =>
   simp only[ho] at hx ⊢;split at hx
   . rename_i h1 h2;split at hx
     . rename_i hc;refine⟨_,_,hx,?_⟩;simp only[h1,hE h1,h2,hc,hp,Xk,XP,if_true,implies_true,and_self]
     . cases hx
   . cases hx
 | build t ps =>
   simp only[ho] at hx ⊢;split at hx
   . rename_i vs h1;split at hx
     . rename_i cs h2;refine⟨_,_,hx,?_⟩;simp only[h1,JG h1,h2,hp,Xk,XP,implies_true,and_self]
     . cases hx
   . rename_i h1;split at hx
     . rename_i hw;split at hx
       . rename_i vs F' h0 h2;split at hx
         . rename_i hd2;split at hx
           . rename_i cs h3;refine⟨_,.all h0,hx,?_⟩;have e1:∀ us,Qe F (zdi F'++us)=Qe F' us:=fun us=>by rw[W0,zby (zaJ h2)]
             simp only[h1,hw,h2,h3,hd2,if_true,Xk,e1,Y7 hd2,implies_true,and_self]
           . cases hx
         . cases hx
       . cases hx
     . cases hx
 | buildSlice t n ps =>
   simp only[ho] at hx ⊢;split at hx
   . rename_i vs sz h1 h2;split at hx
     . rename_i l h3;refine⟨_,_,hx,?_⟩;simp only[h1,JG h1,h2,h3,hp,Xk,XP,implies_true,and_self]
     . cases hx
   . cases hx
 | binOp op t x y c =>
   simp only[ho] at hx ⊢;split at hx
   . rename_i a b h1 h2;split at hx
     . rename_i v h3;refine⟨_,_,hx,?_⟩;simp only[h1,h2,h3,hp,Xk,XP,implies_true,and_self]
     . cases hx
   . cases hx
 | move x =>
   simp only[ho] at hx ⊢;exact zfR hd hx
 | assign x =>
   simp only[ho] at hx ⊢;exact zfR hd hx
 | load t x =>
   simp only[ho] at hx ⊢;split at hx
   . rename_i n h1;obtain⟨cs,m,c,hpl,hx⟩:=zb6 hx;split at hx
     . rename_i hc;split at hx
       . rename_i v hv;refine⟨_,_,hx,?_⟩;simp only[h1,zgP hpl,hc,hv,hp,Xk,XP,if_true,and_self,implies_true]
       . cases hx
     . cases hx
   . cases hx
 | store t x y =>
   simp only[ho] at hx ⊢;split at hx
   . rename_i v n h1 h2;split at hx
     . rename_i hc;obtain⟨us,hs,hx,hw1,hw2,hw3⟩:=zit hx;refine⟨_,_,hx,?_⟩;simp only[h1,hE h1,h2,hc,hw1,hw2,if_true,implies_true,true_and];intro R' K' Z;rw[Y7 (zfP hd hw3),W0]
     . cases hx
   . cases hx
 | nilCheck x =>
   simp only[ho] at hx ⊢;split at hx
   . rename_i hnt;split at hx
     . rename_i y h1;split at hx
       . rename_i h3;refine⟨_,_,hx,?_⟩;simp only[hnt,h1,h3,hp,Xk,XP,if_true,implies_true,and_self]
       . cases hx
     . cases hx
   rename_i hnt;simp only[hnt,if_false,zp];obtain⟨s,hk,he⟩:=jF hx;refine⟨_,_,hk,?_⟩;simp only[he,hp,Xk,XP,implies_true,and_self]
 | unOp op t x =>
   simp only[ho] at hx ⊢;split at hx
   . rename_i a h1;split at hx
     . rename_i v h3;refine⟨_,_,hx,?_⟩;simp only[h1,h3,hp,Xk,XP,implies_true,and_self]
     . cases hx
   . cases hx
 | convert s d x =>
   simp only[ho] at hx ⊢;split at hx
   . rename_i hcs;split at hx
     . rename_i sz l hl;cases hu:u8s l with
       | none=>simp[hu] at hx
       | some ns =>
         simp only[hu,Z7] at hx;refine⟨_,_,hx,?_⟩;simp only[hcs,if_true,hl,hu,Z7,hp,Xk,XP,implies_true,and_self]
     . cases hx
   rename_i hcs;simp only[if_neg hcs];split at hx
   . rename_i a h1;split at hx
     . rename_i v h3;refine⟨_,_,hx,?_⟩;simp only[h1,h3,hp,Xk,XP,implies_true,and_self]
     . cases hx
   . cases hx
 | slice t x lo hi mx =>
   simp only[ho] at hx ⊢;split at hx
   . rename_i e sz y h1 h2;split at hx
     . rename_i len hl;split at hx
       . rename_i a b m h3 h4 h5;split at hx
         . rename_i z hz;refine⟨_,_,hx,?_⟩;simp only[h1,h2,hE h2,hl,h3,h4,h5,hz,hp,Xk,XP,implies_true,and_self]
         . cases hx
       . cases hx
     . cases hx
   . cases hx
 | fieldAddr s x k =>
   simp only[ho] at hx ⊢;split at hx
   . rename_i off n b h0;obtain⟨s,hk,he⟩:=jF hx;refine⟨_,_,hk,?_⟩;simp only[h0,he,hp,Xk,XP,implies_true,and_self]
   . cases hx
 | index t x i =>
   simp only[ho] at hx ⊢;split at hx
   . rename_i len e sz n cs h1 h2 h3;split at hx
     . rename_i hc;split at hx
       . rename_i v h4;refine⟨_,_,hx,?_⟩;simp only[h1,h2,h3,hc,h4,and_self,if_true,hp,Xk,XP,implies_true]
       . cases hx
     . cases hx
   . cases hx
 | field s x k =>
   simp only[ho] at hx ⊢;split at hx
   . rename_i off n ag cs h1 h2;split at hx
     . rename_i hc;split at hx
       . rename_i v h3;refine⟨_,_,hx,?_⟩;simp only[h1,h2,hc,h3,if_true,hp,Xk,XP,implies_true,and_self]
       . cases hx
     . cases hx
   . cases hx
 | indexAddr t x i =>
   simp only[ho] at hx ⊢;split at hx
   . rename_i len sz ha;split at hx
     . rename_i n hn;split at hx
       . rename_i hlt;obtain⟨s,hk,he⟩:=jF hx;refine⟨_,_,hk,?_⟩;simp only[ha,hn,hlt,if_true,he,hp,Xk,XP,implies_true,and_self]
       . cases hx
     . cases hx
   rename_i ha;split at hx
   . rename_i n e sz h1 h2;cases x with
     | tmp s =>
       simp only at hx ⊢;split at hx
       . rename_i e' sz' l h3;split at hx
         . rename_i hc;refine⟨_,_,hx,?_⟩;simp only[ha,h1,h2,h3,hc,not_false_eq_true,and_self,if_true,hp,Xk,XP,implies_true,ne_eq]
         . cases hx
       . rename_i y h3;split at hx
         . rename_i z hz;refine⟨_,_,hx,?_⟩;simp only[ha,h1,h2,h3,hz,zr9 hz,hp,Xk,XP,implies_true,and_self]
         . cases hx
       . cases hx
     | _=>simp only at hx;cases hx
   . cases hx
 | lookup t m k ok =>
   simp only[ho] at hx ⊢;split at hx
   . rename_i kt et b key h1 h2 h3;split at hx
     . rename_i es z ks h4 h5 h6;split at hx
       . rename_i r' zero h7 h8;split at hx
         . rename_i v h9;split at hx
           . rename_i hc;split at hx
             . rename_i hok;refine⟨_,_,hx,?_⟩;simp only[h1,h2,h3,h4,h5,h6,h7,h8,h9,hc,hok,and_self,if_true,hp,Xk,XP,implies_true]
             . rename_i hok;refine⟨_,_,hx,?_⟩;simp only[h1,h2,h3,h4,h5,h6,h7,h8,h9,hc,hok,and_self,if_true,hp,Xk,XP,implies_true,if_false,zp]
           . cases hx
         . cases hx
       . cases hx
     . cases hx
   . cases hx
 | mapUpdate t m k x =>
   simp only[ho] at hx ⊢;split at hx
   . rename_i kt et b key v h1 h2 h3 h4;split at hx
     . rename_i es ks h5 h6;split at hx
       . rename_i r' h7;split at hx
         . rename_i hc;refine⟨_,_,hx,?_⟩;simp only[h1,h2,h3,hE h4,h5,h6,h7,hc,and_self,if_true,hp,Xk,XP,implies_true]
         . cases hx
       . cases hx
     . cases hx
   . cases hx
 | insert t m k x =>
   simp only[ho] at hx ⊢;split at hx
   . rename_i kt et b key v h1 h2 h3 h4;split at hx
     . rename_i es ks h5 h6;split at hx
       . rename_i r' h7;split at hx
         . rename_i hc;refine⟨_,_,hx,?_⟩;simp only[h1,h2,h3,hE h4,h5,h6,h7,hc,and_self,if_true,hp,Xk,XP,implies_true]
         . cases hx
       . cases hx
     . cases hx
   . cases hx
 | extract x i =>
   simp only[ho] at hx ⊢;cases x with
   | tmp t =>
     simp only at hx ⊢;split at hx
     . rename_i l h1;split at hx
       . rename_i v h3;refine⟨_,_,hx,?_⟩;simp only[h1,h3,hp,Xk,XP,implies_true,and_self]
       . cases hx
     . cases hx
   | _=>simp only at hx;cases hx
 | call c =>
   simp only[ho] at hx ⊢;cases hc:c.callee with
   | value fo =>
     cases fo with
     | func f =>
       simp only[hc] at hx ⊢;exact zae hloc hd hx
     | tmp t =>
       simp only[hc] at hx ⊢;by_cases hvc:vc=true
       . simp only[if_pos hvc] at hx ⊢;split at hx
         . rename_i f caps hs;split at hx
           . rename_i hok;rw[Yt _ _ _ _ _ hok] at hx;simp only[hs,if_pos hok,zav _ _ _ _ _ hok,Yt _ _ _ _ _ hok];exact zae hloc hd hx
           . cases hx
         . rename_i f pre hs;simp only[hs];exact zcc hd hx
         . cases hx
       . simp only[if_neg hvc] at hx ⊢;split at hx
         . rename_i f caps hs;split at hx
           . rename_i hok;rw[Yt _ _ _ _ _ hok] at hx;simp only[hs,if_pos hok,zav _ _ _ _ _ hok,Yt _ _ _ _ _ hok];exact zae hloc hd hx
           . cases hx
         . cases hx
     | _=>simp only[hc] at hx;cases hx
   | invoke rcv nm =>
     simp only[hc] at hx ⊢;split at hx
     . rename_i t v hv;split at hx
       . rename_i f r hm;exact zcc hd hx
       . cases hx
     . cases hx
   | builtin b =>
     simp only[hc] at hx ⊢;exact zn6 hd hx
 | _=>simp only[ho] at hx;cases hx
end
end Go.L
namespace Go.L
open Go.RowKit
section
variable {vc:Bool} {P:Program} {o:Oper} {F G:List S} {h k:zd} {gc keep:FuncId->Bool} {rec:Rec}
def zbz(F G:List S)(h k:zd)(t:Nat):Prop :=
 F[t]?=G[t]?/\(∀ d,zgA F[t]?=some d->F[d]?=G[d]?)/\(∀ b,blkOf F[t]?=some b\/blkOf F[rt F t]?=some b->h[b]?=k[b]?)
def Jv(F G:List S)(h k:zd)(x:Operand):Prop:=∀ t,x=.tmp t->zbz F G h k t
theorem K3{t:Nat}(hx:zbz F G h k t):rt F t=rt G t/\F[rt F t]?=G[rt G t]?:=by
 obtain⟨h1,h2,-⟩:=hx;have e:rt F t=rt G t:=by unfold rt;rw[h1]
 refine⟨e,?_⟩;rw[<- e];unfold rt;split
 . rename_i d sz i c hs;split
   . exact h2 d (by rw[hs];rfl)
   . exact h1
 . exact h1
theorem Xi{x:Operand}(hx:Jv F G h k x):evV F x=evV G x:=by
 cases x with
 | tmp t=>simp only[evV,(hx t rfl).1]
 | _=>rfl
theorem jG{x:Operand}(hx:Jv F G h k x):evN F x=evN G x:=by simp only[evN,Xi hx]
theorem zaK{x:Operand}(hx:Jv F G h k x):evC F h x=evC G k x:=by
 cases x with
 | tmp t =>
   have hb:=(hx t rfl).2.2;simp only[evC];rw[<- (K3 (hx t rfl)).2];cases hs:F[rt F t]? with
   | none=>rfl
   | some y =>
     rw[hs] at hb;cases y with
     | v z =>
       cases z with
       | row b sz lo hi=>simp only[ZR,Kh,Kg,hb b (.inr rfl)]
       | _=>rfl
     | _=>rfl
 | const v =>
   have key:∀ (H:List S) (hp:zd),evC H hp (.const v)=(match v with|.slice none 0 0=>some (0,[])|_=>none):=fun H hp=>by
    unfold evC;split
    . rename_i e;cases e
    . rename_i e;cases e;rfl
    . rename_i e1 e2;split
      . exact absurd rfl e2
      . rfl
   rw[key F h,key G k]
 | func f=>rfl
 | global g=>rfl
theorem zpM{x:Operand}(hx:Jv F G h k x):evB F h x=evB G k x:=by
 cases x with
 | tmp t =>
   have hb:=(hx t rfl).2.2;simp only[evB];rw[<- (K3 (hx t rfl)).2];cases hs:F[rt F t]? with
   | none=>rfl
   | some y =>
     rw[hs] at hb;cases y with
     | v z =>
       cases z with
       | row b sz lo hi=>simp only[ZR,Kh,Kg,hb b (.inr rfl)]
       | _=>rfl
     | _=>rfl
 | _=>rfl
theorem zgQ(c:Value)(b i:Nat):jx c≠some (.ptr b i):=by
 intro h;unfold jx at h;split at h <;> cases h
theorem ze4(c:Value)(b i:Nat):ofValue c≠some (.ptr b i):=by
 intro h;unfold ofValue at h;split at h
 . rename_i cs;cases hc:YR cs.toList <;> rw[hc] at h <;> cases h
 . exact zgQ _ _ _ h
theorem zmR{x:Operand}(hx:Jv F G h k x){b i:Nat}(hm:evV F x=some (.ptr b i)):h[b]?=k[b]?:=by
 cases x with
 | tmp s =>
   refine(hx s rfl).2.2 b (.inl ?_);simp only[evV] at hm;cases hs:F[s]? with
   | none=>simp[hs] at hm
   | some y =>
     cases y with
     | v z=>simp only[hs] at hm;cases hm;rfl
     | _=>simp[hs] at hm
 | const c=>exact absurd hm (ze4 c b i)
 | func f=>cases hm
 | global g=>cases hm
theorem zn7{x y:Operand}(hx:Jv F G h k x)(hy:Jv F G h k y){op:BinOp}{t:TypeId}{p q:V}(h1:evV F x=some p)(h2:evV F y=some q):Qb P h op t p q=Qb P k op t p q:=by
 unfold Qb;split
 . rw[zmR hx h1,zmR hy h2]
 . rfl
theorem XZ : ∀ {xs : List Operand}, (∀ x ∈ xs, Jv F G h k x) -> Kk F xs = Kk G xs
 | [],_=>rfl
 | x :: xs,hx=>by
   have h1:=Xi (hx x (zF ..));have h2:=XZ (xs:=xs) (fun y hy=>hx y (zw _ hy));simp only[Kk,h1,h2]
theorem JH : ∀ {xs : List Operand}, (∀ x ∈ xs, Jv F G h k x) -> Yk F h xs = Yk G k xs
 | [],_=>rfl
 | x :: xs,hx=>by
   have h1:=zpM (hx x (zF ..));have h2:=JH (xs:=xs) (fun y hy=>hx y (zw _ hy));simp only[Yk,h1,h2]
theorem zaf{x:Operand}(n:Nat)(d:Option Nat)(hx:Jv F G h k x){R:Type}(K:S->Option R):Yz F n x d K=Yz G n x d K:=by
 cases x with
 | tmp t=>simp only[Yz,(hx t rfl).1]
 | _=>rfl
theorem ziv{t:Nat}{z:V}(hx:zbz F G h k t)(hs:F[t]?=some (.v z)):zu h z=zu k z:=by
 have h3:=hx.2.2;rw[hs] at h3;cases z with
 | ptr b o=>simp only[zu,h3 b (.inl rfl)]
 | rptr b sz i c=>simp only[zu,h3 b (.inl rfl)]
 | _=>rfl
theorem ziw{t:Nat}{z:V}(hx:zbz F G h k t)(hs:F[t]?=some (.v z))(vs:List V):Zt h vs z=Zt k vs z:=by
 have h3:=hx.2.2;rw[hs] at h3;cases z with
 | ptr b o=>simp only[Zt,h3 b (.inl rfl)]
 | rptr b sz i c=>simp only[Zt,h3 b (.inl rfl)]
 | _=>rfl
theorem zix{x:Operand}(hx:Jv F G h k x){R:Type}(K:List V->Nat->Nat->Option R):W8 F h x K=W8 G k x K:=by
 cases x with
 | tmp t =>
   have h0:=hx t rfl;obtain⟨h1,h2,h3⟩:=hx t rfl;unfold W8;simp only;rw[<- h1];cases hs:F[t]? with
   | none=>rfl
   | some y =>
     rw[hs] at h2 h3;cases y with
     | fp d sz i c=>simp only[<- h2 d rfl]
     | v z=>simp only[ziv h0 hs]
     | _=>rfl
 | _=>rfl
theorem zgR{x:Operand}(hx:Jv F G h k x)(vs:List V){R:Type}(K:List (Nat×S)->HE->Option R):YS F h vs x K=YS G k vs x K:=by
 cases x with
 | tmp t =>
   have h0:=hx t rfl;obtain⟨h1,h2,h3⟩:=hx t rfl;unfold YS;simp only;rw[<- h1];cases hs:F[t]? with
   | none=>rfl
   | some y =>
     rw[hs] at h2 h3;cases y with
     | fp d sz i c=>simp only[<- h2 d rfl]
     | v z=>simp only[ziw h0 hs]
     | _=>rfl
 | _=>rfl
theorem zgS(c:Value)(b:Nat):jx c≠some (.map b):=by
 intro h;unfold jx at h;split at h <;> cases h
theorem Y8(c:Value)(b:Nat):ofValue c≠some (.map b):=by
 intro h;unfold ofValue at h;split at h
 . rename_i cs;cases hc:YR cs.toList <;> rw[hc] at h <;> cases h
 . exact zgS _ _ h
theorem zfT{as_:Bool}{x:Operand}(h0:Jv F G h k x){R:Type}(K:List (Nat×S)->HE->Option R):jo as_ o x F K=jo as_ o x G K:=by
 cases x with
 | tmp t=>simp only[jo,(h0 t rfl).1]
 | _=>rfl
theorem zdF{x:Operand}(hx:Jv F G h k x):evI F x=evI G x:=by simp only[evI,Xi hx]
theorem JI{n e:Nat}{args:List Operand}(ha:∀ x∈args,Jv F G h k x){R:Type}(K:List (Nat×S)->HE->Option R):qJ o n e args F h K=qJ o n e args G k K:=by
 unfold qJ;split
 . rename_i x;have h1:=zaK (ha x (by simp));simp only[h1]
 . rename_i s i y;obtain⟨e1,e2⟩:=K3 (ha (.tmp s) (by simp) s rfl);obtain⟨e3,e4⟩:=K3 (ha (.tmp y) (by simp) y rfl);have h1:=zdF (ha i (by simp));simp only[e2,e4,h1];rw[e1,e3]
 . rename_i s i j;obtain⟨e1,e2⟩:=K3 (ha (.tmp s) (by simp) s rfl);have h1:=zdF (ha i (by simp));have h2:=zdF (ha j (by simp));simp only[e2,h1,h2];rw[e1]
 . rfl
theorem zli{t:TypeId}(hp:∀ e,P.underlying t≠some (.pointer e)){h k:zd}{op:BinOp}{c:Bool}(x y:V):zbn P h op t c x y=zbn P k op t c x y:=by
 have hb:∀ h:zd,Qb P h op t x y=bop P op t x y:=fun h=>by
  unfold Qb;split
  . rename_i e _ _ _ _ he;exact absurd he (hp _)
  . rfl
 unfold zbn;rw[hb h,hb k]
set_option maxHeartbeats 2000000 in
theorem zcd{f:FuncId}{pre:List V}{args:List Operand}{R:Type}{K:List (Nat×S)->HE->Option R}(ha:∀ x∈args,Jv F G h k x)(hh:h=k)(hF:Kk F args=none->F=G):KU P rec keep vc o f pre args F h K=KU P rec keep vc o f pre args G k K:=by
 subst hh;unfold KU;cases hv:Kk F args with
 | some vs=>rw[XZ ha] at hv;simp only[hv]
 | none =>
   have:=hF hv;subst this;simp only[hv]
theorem ziy {α : Type} {f g : α -> Bool} : ∀ {l : List α}, (∀ x ∈ l, f x = g x) -> l.any f = l.any g
 | [],_=>rfl
 | x :: l,h=>by rw[List.any_cons,List.any_cons,h x (zF ..),ziy (fun y hy=>h y (zw _ hy))]
theorem zfU{xs:List Operand}(ha:∀ x∈xs,Jv F G h k x):zpn F xs=zpn G xs:=ziy fun x hx=>by
 cases x with
 | tmp t=>simp only[(ha _ hx t rfl).1]
 | _=>rfl
theorem zn8(hx0:∀ x∈o.op.operands,Jv F G h h x)(hx1:zfH P o.op=false->∀ x∈o.op.operands,Jv F G h k x)(hhk:hall P keep gc o F=true->h=k)(hco:WH P keep gc o F=true->F=G){R:Type}(K:List (Nat×S)->HE->Option R):zbr P rec keep gc vc o F h K=zbr P rec keep gc vc o G k K:=by
 unfold zbr;cases ho:o.op with
 | pick c a b =>
   have hx:=hx0;rw[ho] at hx;simp only[Xi (hx c (by simp[Op.operands])),Xi (hx a (by simp[Op.operands])),Xi (hx b (by simp[Op.operands]))]
 | alloc e=>rfl
 | box e x=>have hx:=hx0;rw[ho] at hx;simp only[Xi (hx x (by simp[Op.operands]))]
 | build t ps =>
   have hx:=hx0;rw[ho] at hx;have h1:=XZ (xs:=ps.toList.map (·.2)) (fun x hm=>hx x (by simpa[Op.operands] using hm));have h2:=zfU (xs:=ps.toList.map (·.2)) (fun x hm=>hx x (by simpa[Op.operands] using hm));simp only[h1];cases hv:Kk G (ps.toList.map (·.2)) with
   | some vs=>rfl
   | none =>
     simp only[h2];cases hw:zpn G (ps.toList.map (·.2)) with
     | false=>simp
     | true =>
       have hb:zk1 o F=true:=by unfold zk1;rw[ho];exact h2.trans hw
       obtain rfl:=hhk (by unfold hall;rw[hb];simp);obtain rfl:=hco (by unfold WH;rw[hb];simp);rfl
 | buildSlice t n ps=>have hx:=hx0;rw[ho] at hx;have h1:=XZ (xs:=ps.toList.map (·.2)) (fun x hm=>hx x (by simpa[Op.operands] using hm));simp only[h1]
 | binOp op t x y c =>
   by_cases hnp:zfH P o.op=true
   . rw[ho] at hx0 hnp;have hp:∀ e,P.underlying t≠some (.pointer e):=fun e he=>by simp[zfH,he] at hnp
     simp only[Xi (hx0 x (by simp[Op.operands])),Xi (hx0 y (by simp[Op.operands])),fun p q=>zli hp (h:=h) (k:=k) (op:=op) (c:=isC x || isC y) p q]
   have hx:=hx1 (by simpa using hnp);rw[ho] at hx;have h1:=hx x (by simp[Op.operands]);have h2:=hx y (by simp[Op.operands]);simp only;rw[<- Xi h1,<- Xi h2];cases e1:evV F x with
   | none=>rfl
   | some p =>
     cases e2:evV F y with
     | none=>rfl
     | some q =>
       have hbn:zbn P h op t (isC x || isC y) p q=zbn P k op t (isC x || isC y) p q:=by
        unfold zbn;rw[zn7 h1 h2 e1 e2]
       simp only[hbn]
 | move x=>rw[ho] at hx0;exact zfT (hx0 x (by simp[Op.operands])) K
 | assign x=>rw[ho] at hx0;exact zfT (hx0 x (by simp[Op.operands])) K
 | load t x=>have hx:=hx1 (by rw[ho];rfl);rw[ho] at hx;simp only[zix (hx x (by simp[Op.operands]))]
 | store t x y=>have hx:=hx1 (by rw[ho];rfl);rw[ho] at hx;simp only[zgR (hx x (by simp[Op.operands])),Xi (hx y (by simp[Op.operands]))]
 | nilCheck x=>rw[ho] at hx0;simp only[zaf 0 o.dst (hx0 x (by simp[Op.operands])),Xi (hx0 x (by simp[Op.operands]))]
 | unOp op t x=>have hx:=hx0;rw[ho] at hx;simp only[Xi (hx x (by simp[Op.operands]))]
 | convert s d x=>have hx:=hx1 (by rw[ho];rfl);rw[ho] at hx;simp only[Xi (hx x (by simp[Op.operands])),zaK (hx x (by simp[Op.operands]))]
 | slice t x lo hi mx =>
   have hx:=hx0;rw[ho] at hx;have h1:evV F x=evV G x:=Xi (hx x (by simp[Op.operands]));have h2:∀ d,jq F d lo=jq G d lo:=fun d=>by
    cases lo with
    | none=>rfl
    | some y=>exact jG (hx y (by simp[Op.operands]))
   have h3:∀ d,jq F d hi=jq G d hi:=fun d=>by
    cases hi with
    | none=>rfl
    | some y=>exact jG (hx y (by simp[Op.operands]))
   have h4:zcz F mx=zcz G mx:=by
    cases mx with
    | none=>rfl
    | some y=>simp only[zcz,jG (hx y (by simp[Op.operands]))]
   simp only[h1,h2,h3,h4]
 | fieldAddr s x k'=>rw[ho] at hx0;simp only[fun n=>zaf (R:=R) n o.dst (hx0 x (by simp[Op.operands]))]
 | index t x i=>have hx:=hx0;rw[ho] at hx;simp only[Xi (hx x (by simp[Op.operands])),jG (hx i (by simp[Op.operands]))]
 | field s x k'=>have hx:=hx0;rw[ho] at hx;simp only[Xi (hx x (by simp[Op.operands]))]
 | indexAddr t x i =>
   have hx:=hx0;rw[ho] at hx;have h0:=hx x (by simp[Op.operands]);simp only[jG (hx i (by simp[Op.operands])),fun n=>zaf (R:=R) n o.dst h0];cases x with
   | tmp s =>
     obtain⟨e1,e2⟩:=K3 (h0 s rfl);simp only[e2];rw[e1]
   | _=>rfl
 | lookup t m key ok =>
   have hx:=hx1 (by rw[ho];rfl);rw[ho] at hx;have h0:=hx m (by simp[Op.operands]);have hb:∀ b,evV G m=some (.map b)->h[b]?=k[b]?:=fun b hm=>by
    rw[<- Xi h0] at hm;cases m with
    | tmp s =>
      refine(h0 s rfl).2.2 b (.inl ?_);simp only[evV] at hm;cases hs:F[s]? with
      | none=>simp[hs] at hm
      | some y =>
        cases y with
        | v z=>simp only[hs] at hm;cases hm;rfl
        | _=>simp[hs] at hm
    | const c=>exact absurd hm (Y8 c b)
    | func f=>cases hm
    | global g=>cases hm
   simp only[Xi (hx key (by simp[Op.operands])),Xi h0];generalize evV G key=kk;generalize hmv:evV G m=mm at hb;cases hu:P.underlying t with
   | none=>rfl
   | some d =>
     cases d <;> try rfl
     cases mm with
     | none=>rfl
     | some z =>
       have hmo:Ki h z=Ki k z:=by
        unfold Ki;split
        . rename_i b;rw[hb b rfl]
        . rfl
        . rfl
       cases kk with
       | none=>rfl
       | some key'=>simp only[hmo]
 | mapUpdate t m key x =>
   have hx:=hx1 (by rw[ho];rfl);rw[ho] at hx;have h0:=hx m (by simp[Op.operands]);have hb:∀ b,evV G m=some (.map b)->h[b]?=k[b]?:=fun b hm=>by
    rw[<- Xi h0] at hm;cases m with
    | tmp s =>
      refine(h0 s rfl).2.2 b (.inl ?_);simp only[evV] at hm;cases hs:F[s]? with
      | none=>simp[hs] at hm
      | some y =>
        cases y with
        | v z=>simp only[hs] at hm;cases hm;rfl
        | _=>simp[hs] at hm
    | const c=>exact absurd hm (Y8 c b)
    | func f=>cases hm
    | global g=>cases hm
   simp only[Xi (hx key (by simp[Op.operands])),Xi (hx x (by simp[Op.operands])),Xi h0];generalize evV G key=kk;generalize evV G x=xx;generalize hmv:evV G m=mm at hb;cases hu:P.underlying t with
   | none=>rfl
   | some d =>
     cases d <;> try rfl
     cases mm with
     | none=>rfl
     | some z =>
       cases z <;> try rfl
       rename_i b;cases kk with
       | none=>rfl
       | some key' =>
         cases xx with
         | none=>rfl
         | some x'=>simp only[hb b rfl]
 | insert t m key x =>
   have hx:=hx1 (by rw[ho];rfl);rw[ho] at hx;have h0:=hx m (by simp[Op.operands]);have hb:∀ b,evV G m=some (.map b)->h[b]?=k[b]?:=fun b hm=>by
    rw[<- Xi h0] at hm;cases m with
    | tmp s =>
      refine(h0 s rfl).2.2 b (.inl ?_);simp only[evV] at hm;cases hs:F[s]? with
      | none=>simp[hs] at hm
      | some y =>
        cases y with
        | v z=>simp only[hs] at hm;cases hm;rfl
        | _=>simp[hs] at hm
    | const c=>exact absurd hm (Y8 c b)
    | func f=>cases hm
    | global g=>cases hm
   simp only[Xi (hx key (by simp[Op.operands])),Xi (hx x (by simp[Op.operands])),Xi h0];generalize evV G key=kk;generalize evV G x=xx;generalize hmv:evV G m=mm at hb;cases hu:P.underlying t with
   | none=>rfl
   | some d =>
     cases d <;> try rfl
     cases mm with
     | none=>rfl
     | some z =>
       cases z <;> try rfl
       rename_i b;cases kk with
       | none=>rfl
       | some key' =>
         cases xx with
         | none=>rfl
         | some x'=>simp only[hb b rfl]
 | extract x i =>
   have hx:=hx0;rw[ho] at hx;have h0:=hx x (by simp[Op.operands]);cases x with
   | tmp t=>simp only[(h0 t rfl).1]
   | _=>rfl
 | call c =>
   have hx:=hx1 (by rw[ho];rfl);rw[ho] at hx;have ha:∀ x∈c.args.toList,Jv F G h k x:=fun x hm=>hx x (by simp[Op.operands,Call.operands];exact .inr (by simpa using hm));simp only;cases hc:c.callee with
   | value fo =>
     cases fo with
     | func f =>
       suffices hq:Qk P rec keep gc vc o f [] c.args.toList F h K=Qk P rec keep gc vc o f [] c.args.toList G k K by
        simp only[Wq,hq]
       cases hnf:natF P f with
       | some ke=>simp only[Qk,hnf,JI ha]
       | none =>
         have h0:keep f=true->gc f=false->XG P keep gc o F=true:=fun h1 h2=>by unfold XG;simp[ho,hc,h1,h2,hnf]
         have h1:keep f=true->gc f=false->h=k:=fun h1 h2=>hhk (by unfold hall;rw[h0 h1 h2];rfl);cases hv:Kk F c.args.toList with
         | none =>
           have h2:keep f=true->gc f=false->F=G:=fun h1 h2=>hco (by unfold WH;simp[h0 h1 h2,ho,hv]);rw[XZ ha] at hv;simp only[Qk,XZ ha,JH ha,JI ha,hv];cases hg:gc f with
           | true=>rfl
           | false =>
             cases hk:keep f with
             | false=>rfl
             | true=>rw[h1 hk hg,h2 hk hg]
         | some vs =>
           rw[XZ ha] at hv;simp only[Qk,XZ ha,JH ha,JI ha,hv];cases hg:gc f with
           | true=>rfl
           | false =>
             cases hk:keep f with
             | false=>rfl
             | true=>rw[h1 hk hg]
     | tmp t =>
       have h0:=hx (.tmp t) (by simp[Op.operands,Call.operands,hc]);have h00:∀ f caps,F[t]?=some (.v (.fn f caps))->natF P f=none->keep f=true->gc f=false->XG P keep gc o F=true:=fun f caps h0 hn h1 h2=>by unfold XG;simp[ho,hc,h0,h1,h2,hn]
       have h1:∀ f caps,F[t]?=some (.v (.fn f caps))->natF P f=none->keep f=true->gc f=false->h=k:=fun f caps h0 hn h1 h2=>hhk (by unfold hall;rw[h00 f caps h0 hn h1 h2];rfl);simp only;rw[<- (h0 t rfl).1];by_cases hvc:vc=true
       . simp only[if_pos hvc];cases hs:F[t]? with
         | none=>rfl
         | some y =>
           cases y with
           | v z =>
             cases z with
             | fn f caps =>
               suffices hsf:Wq P rec keep gc vc o f caps c.args.toList F h K=Wq P rec keep gc vc o f caps c.args.toList G k K by
                by_cases hok:okV P o.type f=true
                . simp only[if_pos hok,Yt _ _ _ _ _ hok,hsf]
                . simp only[if_neg hok]
               suffices hq:Qk P rec keep gc vc o f caps c.args.toList F h K=Qk P rec keep gc vc o f caps c.args.toList G k K by
                simp only[Wq,hq]
               cases hnf:natF P f with
               | some ke=>simp only[Qk,hnf,JI ha]
               | none =>
                 cases hv:Kk F c.args.toList with
                 | none =>
                   have h2:keep f=true->gc f=false->F=G:=fun h1 h2=>hco (by unfold WH;simp[h00 f caps hs hnf h1 h2,ho,hv]);rw[XZ ha] at hv;simp only[Qk,XZ ha,JH ha,JI ha,hv];cases hg:gc f with
                   | true=>rfl
                   | false =>
                     cases hk:keep f with
                     | false=>rfl
                     | true=>rw[h1 f caps hs hnf hk hg,h2 hk hg]
                 | some vs =>
                   rw[XZ ha] at hv;simp only[Qk,XZ ha,JH ha,JI ha,hv];cases hg:gc f with
                   | true=>rfl
                   | false =>
                     cases hk:keep f with
                     | false=>rfl
                     | true=>rw[h1 f caps hs hnf hk hg]
             | bf f pre =>
               have hc1:XG P keep gc o F=true:=by unfold XG;simp[ho,hc,hs]
               exact zcd ha (hhk (by unfold hall;rw[hc1];rfl)) fun hv=>hco (by unfold WH;simp[hc1,ho,hv])
             | _=>rfl
           | _=>rfl
       . simp only[if_neg hvc];cases hs:F[t]? with
         | none=>rfl
         | some y =>
           cases y with
           | v z =>
             cases z with
             | fn f caps =>
               suffices hsf:Wq P rec keep gc vc o f caps c.args.toList F h K=Wq P rec keep gc vc o f caps c.args.toList G k K by
                by_cases hok:okV P o.type f=true
                . simp only[if_pos hok,Yt _ _ _ _ _ hok,hsf]
                . simp only[if_neg hok]
               suffices hq:Qk P rec keep gc vc o f caps c.args.toList F h K=Qk P rec keep gc vc o f caps c.args.toList G k K by
                simp only[Wq,hq]
               cases hnf:natF P f with
               | some ke=>simp only[Qk,hnf,JI ha]
               | none =>
                 cases hv:Kk F c.args.toList with
                 | none =>
                   have h2:keep f=true->gc f=false->F=G:=fun h1 h2=>hco (by unfold WH;simp[h00 f caps hs hnf h1 h2,ho,hv]);rw[XZ ha] at hv;simp only[Qk,XZ ha,JH ha,JI ha,hv];cases hg:gc f with
                   | true=>rfl
                   | false =>
                     cases hk:keep f with
                     | false=>rfl
                     | true=>rw[h1 f caps hs hnf hk hg,h2 hk hg]
                 | some vs =>
                   rw[XZ ha] at hv;simp only[Qk,XZ ha,JH ha,JI ha,hv];cases hg:gc f with
                   | true=>rfl
                   | false =>
                     cases hk:keep f with
                     | false=>rfl
                     | true=>rw[h1 f caps hs hnf hk hg]
             | _=>rfl
           | _=>rfl
     | _=>rfl
   | invoke rcv nm =>
     have h0:=hx rcv (by simp[Op.operands,Call.operands,hc]);simp only[Xi h0];have hc1:XG P keep gc o F=true:=by unfold XG;simp[ho,hc]
     cases evV G rcv with
     | none=>rfl
     | some y =>
       cases y with
       | iface t v =>
         simp only;cases Qc P t v nm with
         | none=>rfl
         | some p=>exact zcd ha (hhk (by unfold hall;rw[hc1];rfl)) fun hv=>hco (by unfold WH;simp[hc1,ho,hv])
       | _=>rfl
   | builtin b =>
     simp only;unfold qL;split
     . rename_i t x h0 h1;have:=zaK (ha x (by rw[h1];simp));simp only[this]
     . rename_i t t' s y h1 h2;rw[zaK (ha y (by rw[h2];simp)),<- (ha (.tmp s) (by rw[h2];simp) s rfl).1];cases hs:F[s]? with
       | none=>rcases QG P t with _|⟨e,sz⟩ <;> rcases evC G k y with _|⟨sz',news⟩ <;> rfl
       | some z =>
         cases z with
         | v z =>
           have hk:h=k:=hhk (by
            have:Wr o F=true:=by unfold Wr;simp only[ho,hc,h2,hs]
            unfold hall;rw[this,Bool.true_or,Bool.or_true])
           rw[hk]
         | _=>rcases QG P t with _|⟨e,sz⟩ <;> rcases evC G k y with _|⟨sz',news⟩ <;> rfl
     . simp only[JH ha]
     . simp only[JH ha]
     . rfl
 | _=>rfl
structure Agree(P:Program)(keep gc:FuncId->Bool)(all:Array Oper)(o:Oper)(F G:List S)(h k:zd):Prop where
 len:F.length=G.length
 s:∀ t∈rdS P keep gc all o F,F[t]?=G[t]?
 b:∀ b∈rdH P keep gc all o F h,h[b]?=k[b]?
theorem Wu {α β : Type} {f g : α -> Option β} : ∀ {l : List α}, (∀ x ∈ l, f x = g x) -> l.filterMap f = l.filterMap g
 | [],_=>rfl
 | x :: l,hx=>by
   rw[List.filterMap_cons,List.filterMap_cons,hx x (zF ..),Wu (fun y hy=>hx y (zw _ hy))]
theorem JB{all:Array Oper}(ha:Agree P keep gc all o F G h k):∀ t∈o.looksAt all,zbz F G h h t:=fun t ht =>
 ⟨ha.s t (by unfold rdS;simp[ht]),fun d hd=>ha.s d (by
  unfold rdS;simp only[Zi,Z5];exact .inl (.inl (.inr ⟨t,ht,hd⟩))),fun b _=>rfl⟩
theorem ziz{all:Array Oper}(ha:Agree P keep gc all o F G h k)(hn:zfH P o.op=false):∀ t∈o.looksAt all,zbz F G h k t:=fun t ht =>
 ⟨ha.s t (by unfold rdS;simp[ht]),fun d hd=>ha.s d (by
  unfold rdS;simp only[Zi,Z5];exact .inl (.inl (.inr ⟨t,ht,hd⟩))),fun b hb=>ha.b b (by
  unfold rdH;rw[hn];rcases hb with hb|hb
  . exact zY _ (zY _ (Z5.2 ⟨t,ht,hb⟩))
  . exact zY _ (Zs _ (Z5.2 ⟨t,ht,hb⟩)))⟩
theorem ziA{all:Array Oper}{t:Nat}{c:Call}(ho:o.op=.call c)(hc:c.callee=.value (.tmp t)):t∈o.looksAt all:=by
 refine zY _ (Z5.2 ⟨.tmp t,?_,rfl⟩);simp[ho,Op.operands,Call.operands,hc]
theorem zce{all:Array Oper}(ha:Agree P keep gc all o F G h k):XG P keep gc o G=XG P keep gc o F:=by
 unfold XG;cases ho:o.op with
 | call c =>
   simp only;cases hc:c.callee with
   | value fo =>
     cases fo with
     | tmp t=>simp only[(JB ha t (ziA ho hc)).1]
     | _=>rfl
   | _=>rfl
 | _=>rfl
theorem zdG{all:Array Oper}(ha:Agree P keep gc all o F G h k):zk1 o G=zk1 o F:=by
 unfold zk1;cases ho:o.op with
 | build t ps =>
   have hx:∀ x∈ps.toList.map (·.2),Jv F G h h x:=fun x hx t ht=>by
    subst ht;refine JB ha t (zY _ (Z5.2 ⟨.tmp t,?_,rfl⟩));simpa[ho,Op.operands] using hx
   exact(zfU hx).symm
 | _=>rfl
theorem zlj{all:Array Oper}(ha:Agree P keep gc all o F G h k):hall P keep gc o G=hall P keep gc o F:=by
 unfold hall;rw[zce ha,zdG ha];congr 1;congr 1;unfold Wr;cases ho:o.op with
 | call c =>
   simp only;split
   . rename_i s l hcl has;have hl:s∈o.looksAt all:=by
      refine zY _ (Z5.2 ⟨.tmp s,?_,rfl⟩);simp[ho,Op.operands,Call.operands]
      exact .inr (by have : Operand.tmp s ∈ c.args.toList := by rw [has]; simp
                     simpa using this)
     rw[(JB ha s hl).1]
   . rfl
 | _=>rfl
theorem zdH{all:Array Oper}(ha:Agree P keep gc all o F G h k)(hc:hall P keep gc o F=true):h=k:=by
 have hb:∀ b,b < h.length+1->h[b]?=k[b]?:=fun b hb=>ha.b b (by unfold rdH;rw[if_pos hc];exact Zs _ (zZ.2 hb));apply ZU;intro i;by_cases hi:i < h.length+1
 . exact hb i hi
 . have h1:=hb h.length (by omega);rw[Zg (zl _)] at h1;have h2:=List.getElem?_eq_none_iff.1 h1.symm;rw[Zg (by omega),Zg (by omega)]
theorem zaL{all:Array Oper}(ha:Agree P keep gc all o F G h k)(hc:WH P keep gc o F=true):F=G:=by
 apply ZU;intro i;by_cases hi:i < F.length
 . exact ha.s i (by unfold rdS;rw[if_pos hc];exact Zs _ (zZ.2 hi))
 . rw[Zg (by omega),Zg (by have:=ha.len;omega)]
theorem ze5{all:Array Oper}(ha:Agree P keep gc all o F G h k):WH P keep gc o G=WH P keep gc o F:=by
 unfold WH;rw[zce ha,zdG ha];congr 1;cases ho:o.op with
 | call c =>
   have hx:∀ x∈c.args.toList,Jv F G h h x:=fun x hx t ht=>by
    subst ht;refine JB ha t (zY _ (Z5.2 ⟨.tmp t,?_,rfl⟩));simp[ho,Op.operands,Call.operands];exact .inr (by simpa using hx)
   simp only[XZ hx]
 | _=>rfl
theorem zcf{all:Array Oper}(ha:Agree P keep gc all o F G h k):rdS P keep gc all o G=rdS P keep gc all o F/\rdH P keep gc all o G k=rdH P keep gc all o F h:=by
 have h0:∀ t∈o.looksAt all,F[t]?=G[t]?:=fun t ht=>(JB ha t ht).1;refine⟨?_,?_⟩
 . unfold rdS;rw[Wu (f:=fun s=>zgA G[s]?) (g:=fun s=>zgA F[s]?) (fun t ht=>by rw[h0 t ht]),ze5 ha];cases hc:WH P keep gc o F with
   | false=>rfl
   | true=>rw[zaL ha hc]
 . unfold rdH;rw[Wu (f:=fun s=>blkOf G[s]?) (g:=fun s=>blkOf F[s]?) (fun t ht=>by rw[h0 t ht]),Wu (f:=fun s=>blkOf G[rt G s]?) (g:=fun s=>blkOf F[rt F s]?) (fun t ht=>by rw[(K3 (JB ha t ht)).2]),zlj ha];cases hc:hall P keep gc o F with
   | false=>rfl
   | true=>rw[zdH ha hc]
theorem zfV{all:Array Oper}(ha:Agree P keep gc all o F G h k):Ja G o.dst=Ja F o.dst:=by
 cases hd:o.dst with
 | none=>rfl
 | some d =>
   have:=ha.s d (by unfold rdS;simp[hd]);simp only[Ja,this]
theorem zdI{all:Array Oper}(ha:Agree P keep gc all o F G h k){R:Type}(K:List (Nat×S)->HE->Option R):zaw P rec keep gc vc all o F h K=zaw P rec keep gc vc all o G k K:=by
 have hx0:∀ x∈o.op.operands,Jv F G h h x:=fun x hx t ht=>by
  subst ht;refine JB ha t (zY _ (Z5.2 ⟨.tmp t,by simpa using hx,rfl⟩))
 have hx1:zfH P o.op=false->∀ x∈o.op.operands,Jv F G h k x:=fun hn x hx t ht=>by
  subst ht;refine ziz ha hn t (zY _ (Z5.2 ⟨.tmp t,by simpa using hx,rfl⟩))
 unfold zaw;rw[zn8 hx0 hx1 (zdH ha) (zaL ha)];cases hg:o.guard with
 | none=>rfl
 | some jw =>
   obtain⟨j,want⟩:=jw;simp only;cases hd:(all[j]?).bind (·.dst) with
   | none=>rfl
   | some d =>
     have:F[d]?=G[d]?:=(JB ha d (by simp[Oper.looksAt,hg,hd])).1;simp only[this]
end
section
variable {vc:Bool} {P:Program} {gc keep:FuncId->Bool} {rec:Rec}
def zmS(P:Program)(rec:Rec)(keep gc:FuncId->Bool)(vc:Bool)(all:Array Oper)(o:Oper)(F:List S)(h:zd)(us:List (Nat×S))(hs:HE):Prop :=
 ∀ (R':Type) (K':List (Nat×S)->HE->Option R'),zaw P rec keep gc vc all o F h K'=K' us hs
theorem zlk (hloc : JA gc rec) {all : Array Oper} {o : Oper} {F : List S} {h : zd} (hd : Ja F o.dst = true) {R : Type} {K : List (Nat × S) -> HE -> Option R} {r : R} (hx : zaw P rec keep gc vc all o F h K = some r) :
    ∃ us hs,K us hs=some r/\zmS P rec keep gc vc all o F h us hs:=by
 have hact:zbr P rec keep gc vc o F h K=some r->∃ us hs,K us hs=some r/\∀ (R':Type) (K':List (Nat×S)->HE->Option R'),zbr P rec keep gc vc o F h K'=K' us hs:=fun hx=>by
  obtain⟨us,hs,h1,h2⟩:=zfS hloc hd hx;exact⟨us,hs,h1,h2.1⟩
 unfold zaw at hx;unfold zmS zaw;cases hg:o.guard with
 | none =>
   simp only[hg] at hx ⊢;exact hact hx
 | some jw =>
   obtain⟨j,want⟩:=jw;simp only[hg] at hx ⊢;cases hdd:(all[j]?).bind (·.dst) with
   | none=>simp[hdd] at hx
   | some d =>
     simp only[hdd] at hx ⊢;cases hs:F[d]? with
     | none=>simp[hs] at hx
     | some y =>
       cases y with
       | sk=>simp only[hs] at hx ⊢;exact⟨_,_,hx,fun _ _=>rfl⟩
       | v z =>
         cases z with
         | bool b =>
           simp only[hs] at hx ⊢;cases b <;> cases want <;> simp only[if_true,if_false,zp] at hx ⊢ <;> first|exact hact hx|exact⟨_,_,hx,fun _ _=>rfl⟩
         | _=>simp[hs] at hx
       | _=>simp[hs] at hx
def ze6 (P : Program) (rec : Rec) (keep gc : FuncId -> Bool) (vc : Bool) (all : Array Oper) : List Fpr -> List S -> zd -> List S -> zd -> Prop
 | [],F,h,F',h'=>F=F'/\h=h'
 | x :: l,F,h,F',h'=>∃ o us hs,all[x.i]?=some o/\Ja F o.dst=true/\zmS P rec keep gc vc all o F h us hs/\x.r=rdS P keep gc all o F/\x.hr=rdH P keep gc all o F h/\x.w=us.map (·.1)/\x.hw=hwE h hs/\(∀ n,x.q=some n->n=h.length/\∃ h1,hs=.all h1/\pre h h1)/\ze6 P rec keep gc vc all l (Qe F us) (Xk h hs) F' h'
theorem zn9{all:Array Oper}{o:Oper}{R:Type}{F:List S}{k:List S->Option R}{r:R}(h:ztI all o F k=some r):k F=some r:=by
 unfold ztI at h;split at h
 . exact h
 . split at h
   . rename_i d hd;split at h
     . rename_i b hb;have hset:F.set d (.v (.bool b))=F:=by
        apply ZU;intro i;rw[Zd];split
        . rename_i e;subst e;rw[hb,if_pos (zi.1 hb).1]
        . rfl
       cases b <;> simpa[hset] using h
     . exact h
     . cases h
   . cases h
theorem zmT : ∀ {l : List Nat} {hr : List Nat} {n : Nat}, qok l hr = true -> n ∈ l -> qok [n] hr = true
 | m :: l,hr,n,h,hn=>by
   unfold qok at h;rw[zB] at h;rcases zL.1 hn with rfl|hn
   . unfold qok qok;rw[h.1];rfl
   . exact zmT h.2 hn
theorem qn{n:Nat}{l:List Nat}:qok [n] l=true ↔ ∀ b∈l,b < n:=by
 unfold qok qok;simp
def Dyn(all:Array Oper)(x y:Fpr):Prop:=zmK all x.i y.i=true->(∀ n,x.q=some n->qok [n] y.hr=true)/\(∀ n,y.q=some n->x.q=none->qok [n] x.hr=true)
theorem zsj{o:Oper}{h:zd}{hs:HE}{R:Type}{k:Option Nat->Option R}{r:R}(hx:qx P o h hs k=some r):∃ q,k q=some r/\∀ n,q=some n->n=h.length/\∃ h1,hs=.all h1/\pre h h1:=by
 unfold qx at hx;split at hx
 . exact⟨none,hx,fun n h=>by cases h⟩
 . split at hx
   . obtain⟨hp,hx⟩:=znU hx;exact⟨_,hx,fun n h=>by cases h;exact⟨rfl,_,rfl,hp⟩⟩
   . exact⟨none,hx,fun n h=>by cases h⟩
theorem zaM(hloc:JA gc rec){all:Array Oper}{R:Type}{K:List S->zd->Option R}{r:R}:∀ (l:List (Oper×Nat)) (acc:List Fpr) (F:List S) (h:zd),(∀ p∈l,all[p.2]?=some p.1) →
    zaa P rec keep gc vc all l acc F h K=some r->∃ L F' h',ze6 P rec keep gc vc all L F h F' h'/\L.map (·.i)=l.map (·.2)/\zdj all (acc++L)=true/\(∀ x∈acc,∀ y∈L,Dyn all x y)/\List.Pairwise (Dyn all) L/\K F' h'=some r
 | [],acc,F,h,hl,hx=>by
   unfold zaa at hx;split at hx
   . rename_i hok;exact⟨[],F,h,⟨rfl,rfl⟩,rfl,by simpa using hok,fun x _ y hy=>by simp at hy,List.Pairwise.nil,hx⟩
   . cases hx
 | (o,i) :: l,acc,F,h,hl,hx=>by
   unfold zaa at hx;have hx:=zn9 hx;split at hx
   . rename_i hd;split at hx
     . rename_i hq1;obtain⟨us,hs,h1,h2⟩:=zlk hloc hd hx;obtain⟨q,h3,h4⟩:=zsj h1;split at h3
       . rename_i hq2;obtain⟨L,F',h',r1,r2,r3,r5,r6,r4⟩:=zaM hloc l _ _ _ (fun p hp=>hl p (zw _ hp)) h3;refine⟨⟨i,rdS P keep gc all o F,us.map (·.1),rdH P keep gc all o F h,hwE h hs,hs.isAll,q⟩ :: L,F',h',⟨o,us,hs,hl (o,i) (zF ..),hd,h2,rfl,rfl,rfl,rfl,h4,r1⟩,by simp[r2],by simpa using r3,fun x hx' y hy=>?_,List.Pairwise.cons (fun y hy=>r5 _ (by simp) y hy) r6,r4⟩;rcases zL.1 hy with rfl|hy
         . intro hu;refine⟨fun n hn=>zmT hq1 (Z5.2 ⟨x,hx',?_⟩),fun n hn hnn=>?_⟩
           . simp only at hu;simp only[hn,hu,if_true]
           . simp only at hn hu;subst hn;refine qn.2 fun b hb=>qn.1 hq2 b (List.mem_flatMap.2 ⟨x,hx',?_⟩);simp only[hnn,hu,if_true];exact hb
         . exact r5 x (zY _ hx') y hy
       . cases h3
     . cases hx
   . cases hx
theorem ziB {all : Array Oper} : ∀ {L : List Fpr}, zdj all L = true -> List.Pairwise (Dyn all) L -> jp all L = true
 | [],_,_=>rfl
 | x :: L,h,hp=>by
   unfold zdj at h;unfold jp;rw[zB] at h ⊢;obtain⟨hx,hp⟩:=Xg.1 hp;refine⟨Zn.2 fun y hy=>?_,ziB h.2 hp⟩;have h1:=Zn.1 h.1 y hy;have h2:=hx y hy;unfold Dyn zmK at h2;cases hb:(TR.descM x.i all.toList 0 0).testBit y.i with
   | true=>rfl
   | false =>
     rw[hb] at h1 h2;obtain⟨d1,d2⟩:=h2 rfl;rw[WT] at h1 ⊢;unfold Fpr.ok Fpr.okq;unfold Fpr.okS at h1;cases hq:x.q with
     | none =>
       cases hr:y.q with
       | none=>simp only[hq,hr] at h1 ⊢;rw[h1];rfl
       | some n =>
         simp only[hq,hr,zB] at h1 ⊢;rw[h1.1,h1.2,d2 n hr hq];simp
     | some n =>
       cases hr:y.q with
       | none =>
         simp only[hq,hr,zB] at h1 ⊢;rw[h1.1,h1.2,d1 n hq];simp
       | some m=>simp only[hq,hr] at h1;cases h1
theorem zcg (hloc : JA gc rec) {all : Array Oper} {R : Type} {K : List S -> zd -> Option R} {r : R} (l : List (Oper × Nat)) (F : List S) (h : zd) (hl : ∀ p ∈ l, all[p.2]? = some p.1) (hx : zaa P rec keep gc vc all l [] F h K = some r) :
    ∃ L F' h',ze6 P rec keep gc vc all L F h F' h'/\L.map (·.i)=l.map (·.2)/\jp all ([]++L)=true/\K F' h'=some r:=by
 obtain⟨L,F',h',r1,r2,r3,_,r5,r6⟩:=zaM hloc l [] F h hl hx;exact⟨L,F',h',r1,r2,ziB r3 r5,r6⟩
theorem KB{a b:List Nat}(h:znT a b=true):∀ x∈a,x ∉ b:=fun x hx=>by
 have:=Zn.1 h x hx;simpa using this
theorem zdJ{w:Bool}{a b:List Nat}(h:zmJ w a b=true):∀ x∈a,x ∉ b:=by
 unfold zmJ at h;split at h
 . intro x _;have hb:b=[]:=by simpa using h
   rw[hb];simp
 . exact KB h
theorem zmU : ∀ (us : List (Nat × HB)) (h : zd) (k : Nat), k ∉ us.map (·.1) -> (XP h us)[k]? = h[k]?
 | [],_,_,_=>rfl
 | (j,s) :: us,h,k,hk=>by
   simp only[zS,zL,not_or] at hk;simp only[XP];rw[zmU us _ k hk.2,ze (fun e=>hk.1 e.symm)]
theorem zpN(us:List (Nat×S)):∀ (F:List S) (k:Nat) (s:S),k ∉ us.map (·.1)->Qe (F.set k s) us=(Qe F us).set k s:=by
 induction us with
 | nil=>intro F k s _;rfl
 | cons p us ih =>
   intro F k s hk;obtain⟨j,t⟩:=p;simp only[zS,zL,not_or] at hk;simp only[Qe];rw[List.set_comm _ _ hk.1,ih _ _ _ hk.2]
theorem zfW : ∀ (us vs : List (Nat × S)) (F : List S), (∀ x ∈ us.map (·.1), x ∉ vs.map (·.1)) -> Qe (Qe F us) vs = Qe (Qe F vs) us
 | [],vs,F,_=>rfl
 | (k,s) :: us,vs,F,hd=>by
   simp only[Qe];rw[zfW us vs _ (fun x hx=>hd x (by simp[hx]:x∈((k,s) :: us).map (·.1))),zpN vs _ _ _ (hd k (by simp))]
theorem zpO(us:List (Nat×HB)):∀ (F:zd) (k:Nat) (s:HB),k ∉ us.map (·.1)->XP (F.set k s) us=(XP F us).set k s:=by
 induction us with
 | nil=>intro F k s _;rfl
 | cons p us ih =>
   intro F k s hk;obtain⟨j,t⟩:=p;simp only[zS,zL,not_or] at hk;simp only[XP];rw[List.set_comm _ _ hk.1,ih _ _ _ hk.2]
theorem zfX : ∀ (us vs : List (Nat × HB)) (F : zd), (∀ x ∈ us.map (·.1), x ∉ vs.map (·.1)) -> XP (XP F us) vs = XP (XP F vs) us
 | [],vs,F,_=>rfl
 | (k,s) :: us,vs,F,hd=>by
   simp only[XP];rw[zfX us vs _ (fun x hx=>hd x (by simp[hx]:x∈((k,s) :: us).map (·.1))),zpO vs _ _ _ (hd k (by simp))]
theorem zdK : ∀ (us : List (Nat × HB)) (h : zd), (XP h us).length = h.length
 | [],_=>rfl
 | (k,s) :: us,h=>by simp only[XP];rw[zdK us];simp
theorem KC : ∀ (us : List (Nat × HB)) (h : zd), (∀ x ∈ us.map (·.1), h.length <= x) -> XP h us = h
 | [],_,_=>rfl
 | (k,s) :: us,h,hx=>by
   have hk:h.length<=k:=hx k (by simp);simp only[XP];rw[List.set_eq_of_length_le hk];exact KC us h (fun x hm=>hx x (by simp[hm]))
theorem zmV(e:HE)(h:zd)(b:Nat)(hb:b ∉ hwE h e):(Xk h e)[b]?=h[b]?:=by
 cases e with
 | sets l=>exact zmU l h b hb
 | all h' =>
   have:max h.length h'.length+1<=b:=by
    rcases ZX b (max h.length h'.length+1) with hlt|hge
    . exact absurd (zZ.2 hlt) hb
    . exact hge
   show h'[b]?=h[b]?;rw[Zg (by omega),Zg (by omega)]
theorem zmW(e:HE){h k:zd}(hl:h.length=k.length):hwE h e=hwE k e:=by
 cases e with
 | sets l=>rfl
 | all h'=>simp only[hwE,hl]
theorem zoa(e d:HE)(h:zd)(hd:∀ x∈hwE h e,x ∉ hwE (Xk h e) d):Xk (Xk h e) d=Xk (Xk h d) e/\hwE h d=hwE (Xk h e) d/\hwE (Xk h d) e=hwE h e:=by
 cases e with
 | sets l =>
   have hl:(Xk h (.sets l)).length=h.length:=zdK l h;cases d with
   | sets m=>exact⟨zfX l m h hd,rfl,rfl⟩
   | all h' =>
     refine⟨?_,(zmW _ hl).symm,rfl⟩;show h'=XP h' l;refine(KC l h' fun x hx=>?_).symm;have:=hd x hx;rw[zmW _ hl] at this;rcases ZX x (max h.length h'.length+1) with hlt|hge
     . exact absurd (zZ.2 hlt) this
     . omega
 | all h1 =>
   cases d with
   | sets m =>
     have hfar:∀ x∈m.map (·.1),max h.length h1.length+1<=x:=fun x hx=>by
      rcases ZX x (max h.length h1.length+1) with hlt|hge
      . exact absurd hx (hd x (zZ.2 hlt))
      . exact hge
     have e1:XP h m=h:=KC m h fun x hx=>by have:=hfar x hx;omega
     have e2:XP h1 m=h1:=KC m h1 fun x hx=>by have:=hfar x hx;omega
     refine⟨?_,rfl,?_⟩
     . show XP h1 m=h1;exact e2
     . show hwE (XP h m) _=_;rw[e1]
   | all h2 =>
     exact absurd (zZ.2 (by omega)) (hd 0 (zZ.2 (by omega)))
theorem ziC{h:zd}{e:HE}(he:(hwE h e).isEmpty=true):Xk h e=h/\∀ k:zd,Xk k e=k/\hwE k e=hwE h e:=by
 cases e with
 | sets l =>
   cases l with
   | nil=>exact⟨rfl,fun k=>⟨rfl,rfl⟩⟩
   | cons p l=>simp[hwE] at he
 | all h' =>
   have:0∈hwE h (.all h'):=zZ.2 (by omega);rw[List.isEmpty_iff.1 he] at this;cases this
theorem zob{all:Array Oper}{x y:Fpr}{l:List Fpr}{F F':List S}{h h':zd}(hok:x.ok y=true)(hr:ze6 P rec keep gc vc all (x :: y :: l) F h F' h'):ze6 P rec keep gc vc all (y :: x :: l) F h F' h':=by
 obtain⟨o,us,hs,a1,a2,a3,a4,a5,a6,a7,a8,p,vs,ks,b1,b2,b3,b4,b5,b6,b7,b8,hr⟩:=hr;have fin:(∀ z∈x.w,z ∉ y.r++y.w)->(∀ z∈y.w,z ∉ x.r)->(∀ b∈y.hr,(Xk h hs)[b]?=h[b]?)->(∀ b∈x.hr,h[b]?=(Xk h ks)[b]?)->Xk (Xk h hs) ks=Xk (Xk h ks) hs/\hwE h ks=hwE (Xk h hs) ks/\hwE (Xk h ks) hs=hwE h hs →
     (∀ n,y.q=some n->n=h.length/\∃ h1,ks=.all h1/\pre h h1)->(∀ n,x.q=some n->n=(Xk h ks).length/\∃ h1,hs=.all h1/\pre (Xk h ks) h1)->ze6 P rec keep gc vc all (y :: x :: l) F h F' h':=fun d1 d2 e1 e2 e3 e4 e5=>by
  obtain⟨c5,c6,c7⟩:=e3;have hy:Agree P keep gc all p (Qe F us) F (Xk h hs) h:=⟨zdD us F,fun t ht=>zcW us F t (fun hm=>d1 t (by rw[a6];exact hm) (by rw[b4];exact zY _ ht)),fun b hb=>e1 b (by rw[b5];exact hb)⟩;have hyr:=zcf hy;have hx:Agree P keep gc all o F (Qe F vs) h (Xk h ks):=⟨(zdD vs F).symm,fun t ht=>(zcW vs F t (fun hm=>d2 t (by rw[b6];exact hm) (by rw[a4];exact ht))).symm,fun b hb=>e2 b (by rw[a5];exact hb)⟩;have hxr:=zcf hx;refine⟨p,vs,ks,b1,by rw[zfV hy];exact b2,fun R' K'=>by rw[<- zdI hy];exact b3 R' K',by rw[b4,hyr.1],by rw[b5,hyr.2],b6,by rw[b7,c6],e4,
   o,us,hs,a1,by rw[zfV hx];exact a2,fun R' K'=>by rw[<- zdI hx];exact a3 R' K',by rw[a4,hxr.1],by rw[a5,hxr.2],a6,by rw[a7,c7],e5,?_⟩
  rw[zfW vs us F,<- c5]
  . exact hr
  . intro t ht hm;rw[<- a6] at hm;exact d1 t hm (by rw[b6];exact Zs _ ht)
 unfold Fpr.ok at hok;rw[Xx] at hok;rcases hok with hok|hok
 . unfold Fpr.ok0 at hok;simp only[zB] at hok;obtain⟨⟨⟨c1,c2⟩,c3⟩,c4⟩:=hok;have d3:=zdJ c3;have d4:=zdJ c4;have e3:=zoa hs ks h (fun b hb hm=>d3 b (by rw[a7];exact hb) (by rw[b7];exact Zs _ hm));refine fin (KB c1) (KB c2) (fun b hb=>zmV hs h b (fun hm=>d3 b (by rw[a7];exact hm) (zY _ hb))) (fun b hb=>(zmV ks h b (fun hm=>d4 b (by rw[b7,<- e3.2.1];exact hm) hb)).symm) e3 (fun n hn=>?_) (fun n hn=>?_)
   . obtain⟨k1,h1,rfl,k2⟩:=b8 n hn;cases hs with
     | sets m =>
       have hfar:∀ z∈m.map (·.1),h.length<=z:=fun z hz=>by
        have:=d3 z (by rw[a7];exact hz);rw[b7] at this;rcases ZX z h.length with hlt|hge
        . exact absurd (Zs _ (zZ.2 (by simp only[Xk,zdK];omega))) this
        . exact hge
       have hh:Xk h (.sets m)=h:=KC m h hfar;rw[hh] at k1 k2;exact⟨k1,_,rfl,k2⟩
     | all h2=>exact absurd (Zs _ (by rw[b7];exact zZ.2 (by omega))) (d3 0 (by rw[a7];exact zZ.2 (by omega)))
   . obtain⟨k1,h1,rfl,k2⟩:=a8 n hn;cases ks with
     | sets m =>
       have hfar:∀ z∈m.map (·.1),h.length<=z:=fun z hz=>by
        rcases ZX z h.length with hlt|hge
        . exact absurd (Zs _ (by rw[b7];exact hz)) (d3 z (by rw[a7];exact zZ.2 (by omega)))
        . exact hge
       have hh:Xk h (.sets m)=h:=KC m h hfar;rw[hh];exact⟨k1,_,rfl,k2⟩
     | all h2=>exact absurd (Zs _ (by rw[b7];exact zZ.2 (by omega))) (d3 0 (by rw[a7];exact zZ.2 (by omega)))
 . rw[zB] at hok;obtain⟨hsl,hq⟩:=hok;unfold Fpr.sl at hsl;rw[zB] at hsl;have d1:=KB hsl.1;have d2:=KB hsl.2;unfold Fpr.okq at hq;rw[Xx] at hq;rcases hq with hq|hq
   . split at hq
     . rename_i n hn;rw[zB,b7] at hq;obtain⟨k1,h1,rfl,k2⟩:=a8 n hn;obtain⟨s1,s2⟩:=ziC hq.1;have s3:=(s2 h).1;refine fin d1 d2 (fun b hb=>k2 b (by rw[<- k1];exact qn.1 hq.2 b hb)) (fun b _=>by rw[s3]) ⟨by rw[s3,s1],(s2 h).2,by rw[s3]⟩ (fun m hm=>?_) (fun m hm=>by rw[s3];exact a8 m hm);obtain⟨_,h2,e,_⟩:=b8 m hm;subst e;have:0∈hwE (Xk h (.all h1)) (.all h2):=zZ.2 (by omega);rw[List.isEmpty_iff.1 hq.1] at this;cases this
     . cases hq
   . split at hq
     . rename_i n hn;rw[zB,a7] at hq;obtain⟨s1,s2⟩:=ziC hq.1;rw[s1] at b8;obtain⟨k1,h1,rfl,k2⟩:=b8 n hn;refine fin d1 d2 (fun b _=>by rw[s1]) (fun b hb=>(k2 b (by rw[<- k1];exact qn.1 hq.2 b hb)).symm) ⟨by rw[s1];exact(s2 _).1.symm,by rw[s1],(s2 _).2⟩ b8 (fun m hm=>?_);obtain⟨_,h2,e,_⟩:=a8 m hm;subst e;have:0∈hwE h (.all h2):=zZ.2 (by omega);rw[List.isEmpty_iff.1 hq.1] at this;cases this
     . cases hq
theorem jH {all : Array Oper} {x : Fpr} {F' : List S} {h' : zd} : ∀ (pre post : List Fpr) (F : List S) (h : zd), (∀ p ∈ pre, p.ok x = true) -> ze6 P rec keep gc vc all (pre ++ x :: post) F h F' h' -> ze6 P rec keep gc vc all (x :: (pre ++ post)) F h F' h'
 | [],post,F,h,_,hr=>hr
 | p :: pre,post,F,h,hp,hr=>by
   obtain⟨o,us,hs,a1,a2,a3,a4,a5,a6,a7,a8,hr⟩:=hr;have:=jH pre post _ _ (fun q hq=>hp q (zw _ hq)) hr;exact zob (hp p (zF ..)) ⟨o,us,hs,a1,a2,a3,a4,a5,a6,a7,a8,this⟩
end
end Go.L
namespace Go.L
open Go.RowKit
section
variable {vc:Bool} {P:Program} {gc keep:FuncId->Bool} {rec:Rec} {all:Array Oper} {o:Oper} {F:List S} {h:zd}
open Classical in
theorem zdL (hrec : RecOk P gc rec) (hloc : JA gc rec) {i : Nat} (hi : all[i]? = some o) (hd : Ja F o.dst = true) {us : List (Nat × S)} {hs : HE} (hx : zmS P rec keep gc vc all o F h us hs)
    {g:G} {a:Act} {w:World} (hh:Hinv g h w) (hf:Finv g F a.tmps w) {K:Act->World->Prop} {Q:Exit->Act->World->Prop}
    (hK:∀ g' v w',Hinv g' (Xk h hs) w'->Finv g' (Qe F us) (a.put o.dst v).tmps w'->Step g w g' w'->K (a.put o.dst v) w'):wpOp P all Q i K a w:=by
 have hx0:=hx _ (fun us hs=>some (us,hs));have hdo:zbr P rec keep gc vc o F h (fun us hs=>some (us,hs))=some (us,hs)->Region.wanted o (yielded all a.tmps)=true->wpOp P all Q i K a w:=fun ha hw=>by
  obtain⟨us',hs',e,-,hop⟩:=zfS (keep:=keep) hloc hd ha;cases e;unfold wpOp;simp only[hi,hw,if_true];left;have h1:opx P rec keep gc vc o F h (fun F2 h2=>if F2=Qe F us/\h2=Xk h hs then some () else none) (fun _ _ _=>none)=some ():=by
   rw[hop];simp
  refine ql hrec h1 hh hf (fun F2 h2 g' v w' k1 k2 k3 k4=>?_) (fun x F2 h2 g' v w' k1=>by cases k1);split at k1
  . rename_i e;obtain⟨rfl,rfl⟩:=e;exact hK g' v w' k2 k3 k4
  . cases k1
 have hskip:some (wr o.dst .sk,HE.sets [])=some (us,hs)->Region.wanted o (yielded all a.tmps)=false->wpOp P all Q i K a w:=fun e hw=>by
  cases e;unfold wpOp;simp only[hi,hw,zp,if_false];refine hK g undef w hh ?_ (.refl _ _);rw[<- Y7 hd];exact hf.put o.dst .sk undef (fun k _ _=>rfl) (fun k e sz i c _ he=>by cases he)
 unfold zaw at hx0;cases hg:o.guard with
 | none =>
   simp only[hg] at hx0;exact hdo hx0 (by simp[Region.wanted,hg])
 | some jw =>
   obtain⟨j,want⟩:=jw;simp only[hg] at hx0;cases hdd:(all[j]?).bind (·.dst) with
   | none=>simp[hdd] at hx0
   | some d =>
     simp only[hdd] at hx0;have hlt:∀ y,F[d]?=some y->d < a.tmps.size:=fun y hy=>by rw[<- hf.len];exact(zi.1 hy).1
     cases hs':F[d]? with
     | none=>simp[hs'] at hx0
     | some y =>
       have hlt:=hlt y hs';cases y with
       | sk =>
         simp only[hs'] at hx0;refine hskip hx0 ?_;have hv:a.tmps.getD d undef=undef:=hf.fr d _ hs';have hval:a.tmps[d]?=some undef:=by
          rw[zX,Zc hlt] at hv;rw[Zc hlt];exact congrArg some hv
         have hy:yielded all a.tmps j=none:=by
          unfold yielded;rw[hdd];simp[hval,undef]
         simp[Region.wanted,hg,hy]
       | v z =>
         cases z with
         | bool b =>
           simp only[hs'] at hx0;have hbv:VR g.im g.io (.bool b) (a.eval (.tmp d)):=hf.getD hs';have hval:a.tmps[d]?=some (.bool b):=by
            generalize hev:a.eval (.tmp d)=v at hbv;cases hbv;rw[Zc hlt];have:a.tmps.getD d undef=.bool b:=hev;rw[zX,Zc hlt] at this;exact congrArg some this
           have hy:yielded all a.tmps j=some b:=by
            unfold yielded;rw[hdd];simp[hval]
           have hw:Region.wanted o (yielded all a.tmps)=(some b == some want):=by simp[Region.wanted,hg,hy]
           cases b <;> cases want <;> simp only[if_true,if_false,zp] at hx0 <;> first|exact hdo hx0 (by rw[hw];rfl)|exact hskip hx0 (by rw[hw];rfl)
         | _=>simp[hs'] at hx0
       | _=>simp[hs'] at hx0
theorem zag : ∀ {L : List Fpr}, jp all L = true -> ∀ {pre post : List Fpr} {x : Fpr}, L = pre ++ x :: post -> ∀ p ∈ pre, ((TR.descs .any p.i all.toList #[]).getD x.i false || p.ok x) = true
 | [],_,pre,post,x,e,p,hp=>by cases pre <;> cases e
 | y :: L,hok,[],post,x,e,p,hp=>by cases hp
 | y :: L,hok,q :: pre,post,x,e,p,hp=>by
   cases e;unfold jp at hok;rw[zB] at hok;rcases zL.1 hp with rfl|hp
   . have h1:=Zn.1 hok.1 x (by simp);rwa[TR.descM_bit] at h1
   . exact zag hok.2 rfl p hp
theorem zah : ∀ {pre post : List Fpr} {x : Fpr}, jp all (pre ++ x :: post) = true -> jp all (pre ++ post) = true
 | [],post,x,h=>by
   simp only[zU] at h ⊢;unfold jp at h;rw[zB] at h;exact h.2
 | p :: pre,post,x,h=>by
   simp only[Z1] at h ⊢;unfold jp at h ⊢;rw[zB] at h ⊢;refine⟨?_,zah h.2⟩;refine Zn.2 fun y hy=>Zn.1 h.1 y ?_;rcases Zi.1 hy with hy|hy
   . exact zY _ hy
   . exact Zs _ (zw _ hy)
theorem zoc (hrec : RecOk P gc rec) (hloc : JA gc rec) {F' : List S} {h' : zd} {g0 : G} {w0 : World} {a0 : Act} {ms : List Nat} {Q : Exit -> Act -> World -> Prop} (hms : ∀ o ∈ all.toList, ∀ d, o.dst = some d -> d ∈ ms)
    (hQ:∀ g' a' w',Hinv g' h' w'->Finv g' F' a'.tmps w'->Step g0 w0 g' w'->Pres ms a0 a'->Q .normal a' w')
    (hall:∀ l:Array Bool,l.size=all.size->TR.Closed .any all l->Region.ready .any all l=[]->TR.left all.size l=[]) :
    ∀ (fuel:Nat) (listed:Array Bool) (L:List Fpr) (F:List S) (h:zd) (g:G) (a:Act) (w:World),listed.size=all.size->L.map (·.i)=TR.left all.size listed->L.length<=fuel->TR.Closed .any all listed →
     jp all L=true->ze6 P rec keep gc vc all L F h F' h'->Hinv g h w->Finv g F a.tmps w->Step g0 w0 g w->Pres ms a0 a->wpAny P .any all Q fuel listed a w:=by
 intro fuel
 induction fuel with
 | zero =>
   intro listed L F h g a w hsz hL hlen hcl hok hr hh hf hs hp;have hl:L=[]:=ZI (by omega);subst hl;obtain⟨rfl,rfl⟩:=hr;refine⟨?_,hQ g a w hh hf hs hp⟩;refine Qi.2 fun i hi=>?_;obtain⟨h0,o,ho,_⟩:=mem_ready.1 hi;have:i∈TR.left all.size listed:=ZA.2 ⟨zZ.2 (ZN.1 ho).1,by simpa using h0⟩;rw[<- hL] at this;cases this
 | succ fuel ih =>
   intro listed L F h g a w hsz hL hlen hcl hok hr hh hf hs hp;refine⟨fun hrd=>?_,fun i hi=>?_⟩
   . have:=hall listed hsz hcl hrd;rw[this] at hL;have hl:L=[]:=by cases L <;> first|rfl|cases hL
     subst hl;obtain⟨rfl,rfl⟩:=hr;exact hQ g a w hh hf hs hp
   . obtain⟨h0,oi,hoi,hed⟩:=mem_ready.1 hi;have hin:i < all.size:=(ZN.1 hoi).1;have hmem:i∈TR.left all.size listed:=ZA.2 ⟨zZ.2 hin,by simpa using h0⟩;rw[<- hL] at hmem;obtain⟨x,hxL,hxi⟩:=Zv.1 hmem;obtain⟨pre,post,rfl⟩:=List.append_of_mem hxL;have hpre:∀ p∈pre,p.ok x=true:=fun p hpp=>by
      have h1:=zag hok rfl p hpp;rw[Xx] at h1;refine h1.resolve_left fun hdsc=>?_;rw[hxi] at hdsc;have hl:=TR.descs_listed hcl p.i i oi hoi hed hdsc;have hpl:p.i∈TR.left all.size listed:=by rw[<- hL];exact Zv.2 ⟨p,zY _ hpp,rfl⟩
      obtain⟨hpn,hpu⟩:=ZA.1 hpl;have hpn:=zZ.1 hpn;have hsz':p.i < listed.size:=by omega
      simp[hsz'] at hpu hl;rw[hl] at hpu;cases hpu
     have hr2:=jH pre post F h hpre hr;obtain⟨o,us,hs',a1,a2,a3,a4,a5,a6,a7,a8,hr3⟩:=hr2;rw[hxi] at a1;have:o=oi:=by rw[hoi] at a1;exact(Option.some.inj a1).symm
     subst this;have hset:TR.left all.size (listed.setIfInBounds i true)=(pre++post).map (·.i):=by
      have h1:TR.left all.size (listed.setIfInBounds i true)=(TR.left all.size listed).filter (fun k=>k != i):=by
       unfold TR.left;rw[List.filter_filter];refine List.filter_congr fun k hk=>?_;by_cases hki:k=i
       . subst hki;have:k < listed.size:=by omega
         simp[this]
       . rw[_root_.Go.getD_set_ne true (fun e=>hki e.symm)];simp[hki]
      have hnd:((pre++x :: post).map (·.i)).Nodup:=by rw[hL];exact List.Sublist.nodup List.filter_sublist List.nodup_range
      rw[h1,<- hL,Zu,zS,J4,Jf,Zu];rw[Zu,zS] at hnd;have hni:i ∉ pre.map (·.i)/\i ∉ post.map (·.i):=by
       rw[QW] at hnd;rw[<- hxi];exact⟨fun hc=>hnd.2.2 _ hc _ (zF ..) rfl,fun hc=>(ZP.1 hnd.2.1).1 hc⟩
      rw[Xp.2 (fun k hk=>by simp;rintro rfl;exact hni.1 hk),Xp.2 (fun k hk=>by simp;rintro rfl;exact hni.2 hk)];simp[hxi]
     have hcl':TR.Closed .any all (listed.setIfInBounds i true):=by
      intro k o hk hl e he hb;by_cases hki:k=i
      . subst hki;rw[hoi] at hk;cases hk;exact _root_.Go.getD_set_true (hed e he hb)
      . rw[_root_.Go.getD_set_ne false (fun e=>hki e.symm)] at hl;exact _root_.Go.getD_set_true (hcl k o hk hl e he hb)
     refine zdL hrec hloc hoi a2 a3 hh hf fun g' v w' k1 k2 k3=>?_;refine ih (listed.setIfInBounds i true) (pre++post) (Qe F us) (Xk h hs') g' _ w' (by simpa using hsz) hset.symm ?_ hcl' (zah hok) hr3 k1 k2 (hs.trans k3) (hp.trans (Pres.put a o.dst v fun k hk=>hms o (by
      have:=Array.mem_of_getElem? hoi;simpa using this) k hk))
     simp at hlen ⊢;omega
theorem zll (hrec : RecOk P gc rec) (hloc : JA gc rec) {F' : List S} {h' : zd} {g0 : G} {w0 : World} {a0 : Act} {ms : List Nat} {Q : Exit -> Act -> World -> Prop} (hms : ∀ o ∈ all.toList, ∀ d, o.dst = some d -> d ∈ ms) {kk : Nat}
    (hkk:kk+1=all.size) (hdep:∀ i,i < kk->(TR.descs .any i all.toList #[]).getD kk false=true)
    (hQ:∀ g' a' w',Hinv g' h' w'->Finv g' F' a'.tmps w'->Step g0 w0 g' w'->Pres ms a0 a'->wpOp P all Q kk (fun a w=>Q .normal a w) a' w')
    (hall:∀ l:Array Bool,l.size=all.size->TR.Closed .any all l->Region.ready .any all l=[]->TR.left all.size l=[]) :
    ∀ (fuel:Nat) (listed:Array Bool) (L:List Fpr) (F:List S) (h:zd) (g:G) (a:Act) (w:World),listed.size=all.size->L.map (·.i)++[kk]=TR.left all.size listed->L.length+1<=fuel->TR.Closed .any all listed →
     jp all L=true->ze6 P rec keep gc vc all L F h F' h'->Hinv g h w->Finv g F a.tmps w->Step g0 w0 g w->Pres ms a0 a->wpAny P .any all Q fuel listed a w:=by
 intro fuel
 induction fuel with
 | zero=>intro listed L F h g a w hsz hL hlen;omega
 | succ fuel ih =>
   intro listed L F h g a w hsz hL hlen hcl hok hr hh hf hs hp;refine⟨fun hrd=>?_,fun i hi=>?_⟩
   . have:=hall listed hsz hcl hrd;rw[this] at hL;simp at hL
   . obtain⟨h0,oi,hoi,hed⟩:=mem_ready.1 hi;have hin:i < all.size:=(ZN.1 hoi).1;have hmem:i∈TR.left all.size listed:=ZA.2 ⟨zZ.2 hin,by simpa using h0⟩;rw[<- hL] at hmem;by_cases hLn:L=[]
     . subst hLn;obtain⟨rfl,rfl⟩:=hr;have hik:i=kk:=by simpa using hmem
       subst hik;refine wpOp_mono (fun a' w' hq=>?_) (hQ g a w hh hf hs hp);have hleft:∀ k,k < all.size->(listed.setIfInBounds i true).getD k true=true:=fun k hk=>by
        by_cases hki:k=i
        . subst hki;have:k < listed.size:=by omega
          simp[this]
        . rw[_root_.Go.getD_set_ne true (fun e=>hki e.symm)];cases hb:listed.getD k true with
          | true=>rfl
          | false =>
            have:k∈TR.left all.size listed:=ZA.2 ⟨zZ.2 hk,by rw[hb];rfl⟩;rw[<- hL] at this;exact absurd (by simpa using this) hki
       have hrd:Region.ready .any all (listed.setIfInBounds i true)=[]:=Qi.2 fun j hj=>by
        obtain⟨h1,o,ho,_⟩:=mem_ready.1 hj;have:=hleft j (ZN.1 ho).1;rw[h1] at this;cases this
       cases fuel with
       | zero=>exact⟨hrd,hq⟩
       | succ fuel=>exact⟨fun _=>hq,fun j hj=>by rw[hrd] at hj;cases hj⟩
     obtain⟨y,hy⟩:∃ y,y∈L:=List.exists_mem_of_ne_nil L hLn;have hyl:y.i∈TR.left all.size listed:=by rw[<- hL];exact zY _ (Zv.2 ⟨y,hy,rfl⟩)
     have hnd0:(L.map (·.i)++[kk]).Nodup:=by rw[hL];exact List.Sublist.nodup List.filter_sublist List.nodup_range
     have hyk:y.i≠kk:=by
      intro e;rw[QW] at hnd0;exact hnd0.2.2 _ (Zv.2 ⟨y,hy,rfl⟩) kk (by simp) e
     have hik:i≠kk:=by
      rintro rfl;obtain⟨hyn,hyu⟩:=ZA.1 hyl;have hyn:=zZ.1 hyn;have hl:=TR.descs_listed hcl y.i i oi hoi hed (hdep y.i (by omega));have hsz':y.i < listed.size:=by omega
      simp[hsz'] at hyu hl;rw[hl] at hyu;cases hyu
     have hmemL:i∈L.map (·.i):=(Zi.1 hmem).resolve_right (by simpa using hik);obtain⟨x,hxL,hxi⟩:=Zv.1 hmemL;obtain⟨pre,post,rfl⟩:=List.append_of_mem hxL;have hpre:∀ p∈pre,p.ok x=true:=fun p hpp=>by
      have h1:=zag hok rfl p hpp;rw[Xx] at h1;refine h1.resolve_left fun hdsc=>?_;rw[hxi] at hdsc;have hl:=TR.descs_listed hcl p.i i oi hoi hed hdsc;have hpl:p.i∈TR.left all.size listed:=by rw[<- hL];exact zY _ (Zv.2 ⟨p,zY _ hpp,rfl⟩)
      obtain⟨hpn,hpu⟩:=ZA.1 hpl;have hpn:=zZ.1 hpn;have hsz':p.i < listed.size:=by omega
      simp[hsz'] at hpu hl;rw[hl] at hpu;cases hpu
     have hr2:=jH pre post F h hpre hr;obtain⟨o,us,hs',a1,a2,a3,a4,a5,a6,a7,a8,hr3⟩:=hr2;rw[hxi] at a1;have:o=oi:=by rw[hoi] at a1;exact(Option.some.inj a1).symm
     subst this;have hset:TR.left all.size (listed.setIfInBounds i true)=(pre++post).map (·.i)++[kk]:=by
      have h1:TR.left all.size (listed.setIfInBounds i true)=(TR.left all.size listed).filter (fun k=>k != i):=by
       unfold TR.left;rw[List.filter_filter];refine List.filter_congr fun k hk=>?_;by_cases hki:k=i
       . subst hki;have:k < listed.size:=by omega
         simp[this]
       . rw[_root_.Go.getD_set_ne true (fun e=>hki e.symm)];simp[hki]
      have hnd:((pre++x :: post).map (·.i)).Nodup:=by rw[QW] at hnd0;exact hnd0.1
      rw[h1,<- hL,J4,Zu,zS,J4,Jf,Zu];rw[Zu,zS] at hnd;have hni:i ∉ pre.map (·.i)/\i ∉ post.map (·.i):=by
       rw[QW] at hnd;rw[<- hxi];exact⟨fun hc=>hnd.2.2 _ hc _ (zF ..) rfl,fun hc=>(ZP.1 hnd.2.1).1 hc⟩
      rw[Xp.2 (fun k hk=>by simp;rintro rfl;exact hni.1 hk),Xp.2 (fun k hk=>by simp;rintro rfl;exact hni.2 hk)];have:(kk != i)=true:=by simp;exact fun e=>hik e.symm
      simp[hxi,this]
     have hcl':TR.Closed .any all (listed.setIfInBounds i true):=by
      intro k o hk hl e he hb;by_cases hki:k=i
      . subst hki;rw[hoi] at hk;cases hk;exact _root_.Go.getD_set_true (hed e he hb)
      . rw[_root_.Go.getD_set_ne false (fun e=>hki e.symm)] at hl;exact _root_.Go.getD_set_true (hcl k o hk hl e he hb)
     refine zdL hrec hloc hoi a2 a3 hh hf fun g' v w' k1 k2 k3=>?_;refine ih (listed.setIfInBounds i true) (pre++post) (Qe F us) (Xk h hs') g' _ w' (by simpa using hsz) hset.symm ?_ hcl' (zah hok) hr3 k1 k2 (hs.trans k3) (hp.trans (Pres.put a o.dst v fun k hk=>hms o (by
      have:=Array.mem_of_getElem? hoi;simpa using this) k hk))
     simp at hlen ⊢;omega
end
end Go.L
