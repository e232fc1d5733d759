/- Lopk Lloo: what the law needs of these -/import Derived.LoopN
import Derived.Test.YtclhmdhdpejhhaaGreatJsv8
set_option linter.unusedVariables false
set_option linter.unusedSimpArgs false
namespace Go.L
open Go.RowKit
def ziJ(im:Im)(w:World):Prop:=∀ p v,im p=some v->w.cell? p=some v
def RR (P : Program) (f : FuncId) (im : Im) (io : Io) : Res -> Ending -> Prop
 | .ret vs,.returned v=>∃ fn,P.funcs[f]?=some fn/\(fn.results.size=1->∃ x,vs=[x]/\VR im io x v)/\(fn.results.size≠1->∃ c,v=.tuple c/\VL im io vs c.toList)
 | .pan x,.panicked chain=>∃ v,chain=[{ v,recovered:=false }]/\VR im io x v
 | _,_=>False
def WX(P:Program)(f:FuncId)(g:G)(w:World)(r:Res)(h':ze)(e:Ending)(w':World):Prop :=
 ∃ g',Step g w g' w'/\Hinv g' h' w'/\(∀ β s,g'.ow β≠some (.slot s))/\RR P f g'.im g'.io r e
def Kw(P:Program)(f:FuncId)(im:Im)(io:Io)(w:World)(r:Res)(e:Ending)(w':World):Prop :=
 Below w.heap.size w w'/\∃ im',(∀ p v,im p=some v->im' p=some v)/\ziJ im' w'/\(∀ p v,im' p=some v->im p=some v\/w.heap.size<=p.block)/\RR P f im' io r e
def zhk(P:Program)(f:FuncId)(e sz:Nat)(g:G)(w:World)(l':List (List V))(vs:List V)(v0:Value)(h':ze)(en:Ending)(w':World):Prop :=
 ∃ g',Step g w g' w'/\Hinv g' h' w'/\SR g' w' #[] 0 (.own e sz l') v0/\RR P f g'.im g'.io (.ret vs) en
structure RecOk(P:Program)(gc:FuncId->Bool)(rec:Rec):Prop where
 nat:NatOk P
 fn:∀ f args h r,rec f args h=some r->∃ fn,P.funcs[f]?=some fn/\fn.body.isNone=false/\(fn.name == "runtime.NumGoroutine")=false
 heap:∀ f args h r h',YX P f=none->rec f args h=some (r,h')->∀ g vals w,Hinv g h w->(∀ β s,g.ow β≠some (.slot s))->VL g.im g.io args vals->Calls P f vals.toArray w (WX P f g w r h')
 pure:∀ f args h r h',YX P f=none->gc f=true->rec f args h=some (r,h')->h'=h/\∀ im io vals w,ziJ im w->VL im io args vals->Calls P f vals.toArray w (Kw P f im io w r)
 mutc:∀ f e sz l b args h l' b' vs h',YX P f=some (e,sz)->rec f (.sl sz l b :: args) h=some (.ret (.sl sz l' b' :: vs),h')->∀ g v0 vals w,Hinv g h w->(∀ β s,g.ow β=some (.slot s)->v0.ownBlock=some β)->SR g w #[] 0 (.own e sz l) v0->VL g.im g.io args vals →
  Calls P f (v0 :: vals).toArray w (zhk P f e sz g w l' vs v0 h')
theorem VR.simple{im im':Im}{io io':Io}{x:V}{y:Value}(h:VR im io x y):x.simple=true->VR im' io' x y:=by
 induction h with
 | int=>exact fun _=>.int _ _
 | bool=>exact fun _=>.bool _
 | str=>exact fun _=>.str _
 | val _ h=>exact fun _=>.val _ h
 | agg l c hl ho _ ih =>
   intro hs;refine .agg l c hl ho fun i x y h1 h2=>ih i x y h1 h2 ?_;have:∀ (l:List V),V.simple.simpleL l=true->∀ x∈l,x.simple=true:=by
    intro l
    induction l with
    | nil=>simp
    | cons a l ih =>
      intro h x hx;simp only[V.simple.simpleL,zE] at h;rcases zN.1 hx with rfl|hx
      . exact h.1
      . exact ih h.2 x hx
   exact this l (by simpa[V.simple] using hs) x (zM h1)
 | sl=>exact fun h=>by simp[V.simple] at h
 | ptr=>exact fun h=>by simp[V.simple] at h
 | iptr=>exact fun h=>by simp[V.simple] at h
 | map=>exact fun h=>by simp[V.simple] at h
 | row=>exact fun h=>by simp[V.simple] at h
 | rowN=>exact fun h=>by simp[V.simple] at h
 | rptr=>exact fun h=>by simp[V.simple] at h
 | fn=>exact fun h=>by simp[V.simple] at h
 | iface=>exact fun h=>by simp[V.simple] at h
 | yld=>exact fun h=>by simp[V.simple] at h
 | bf=>exact fun h=>by simp[V.simple] at h
 | mo=>exact fun h=>by simp[V.simple] at h
theorem zc4{l:List V}(h:V.simple.simpleL l=true):∀ x∈l,x.simple=true:=by
 induction l with
 | nil=>simp
 | cons a l ih =>
   intro x hx;simp only[V.simple.simpleL,zE] at h;rcases zN.1 hx with rfl|hx
   . exact h.1
   . exact ih h.2 x hx
theorem VL.simple{im im':Im}{io io':Io}{l:List V}{c:List Value}(h:VL im io l c)(hs:V.simple.simpleL l=true):VL im' io' l c :=
 ⟨h.1,fun i x y h1 h2=>(h.2 i x y h1 h2).simple (zc4 hs x (zM h1))⟩
section
variable {vc:Bool} {P:Program} {o:Oper} {a:Act} {g:G} {w:World} {F:List S} {h:ze} {gc keep:FuncId->Bool} {rec:Rec}
def G.hpOnly(g:G):G:={ g with ow:=fun β=>match g.ow β with|some (.hp b)=>some (.hp b)|_=>none }
theorem zos{g:G}{β b:Nat}:g.hpOnly.ow β=some (.hp b) ↔ g.ow β=some (.hp b):=by
 show (match g.ow β with|some (.hp b)=>some (Ow.hp b)|_=>none)=_ ↔ _;split
 . rename_i h;rw[h]
 . rename_i h;exact⟨(fun h'=>by cases h'),fun h'=>absurd h' (h b)⟩
theorem JI{g:G}{β:Nat}(h:g.ow β=none\/∃ s,g.ow β=some (.slot s)):g.hpOnly.ow β=none:=by
 show (match g.ow β with|some (.hp b)=>some (Ow.hp b)|_=>none)=_;rcases h with h|⟨s,h⟩ <;> rw[h]
theorem QA(g:G):∀ β s,g.hpOnly.ow β≠some (.slot s):=fun β s=>by
 show (match g.ow β with|some (.hp b)=>some (Ow.hp b)|_=>none)≠_;split <;> simp
theorem Hinv.hpOnly(hh:Hinv g h w):Hinv g.hpOnly h w where
 hp b x hx:=(hh.hp b x hx).keep (fun _ _ h=>h) (fun _ _ h=>h) fun β h2=>⟨zos.2 h2,rfl⟩
 io:=hh.io
 im p v hp:=⟨(hh.im p v hp).1,JI (.inl (hh.im p v hp).2)⟩
 ow β hβ:=hh.ow β fun h0=>hβ (JI (.inl h0))
theorem Yh {g' : G} {w' : World} {h' : ze} (hh : Hinv g h w) (hf : Finv g F a.tmps w) (hs : Step g.hpOnly w g' w') (hh' : Hinv g' h' w') (hns : ∀ β s, g'.ow β ≠ some (.slot s)) :
    ∃ g2,g2.im=g'.im/\g2.io=g'.io/\Hinv g2 h' w'/\Finv g2 F a.tmps w'/\Step g w g2 w':=by
 let g2:G:={ im:=g'.im,io:=g'.io,ow:=fun β=>match g.ow β with|some (.slot s)=>some (.slot s)|_=>g'.ow β }
 have hslot:∀ β s,g.ow β=some (.slot s)->g2.ow β=some (.slot s):=fun β s hβ=>by
  show (match g.ow β with|some (.slot s)=>some (Ow.slot s)|_=>g'.ow β)=_;rw[hβ]
 have helse:∀ β,(∀ s,g.ow β≠some (.slot s))->g2.ow β=g'.ow β:=fun β hβ=>by
  show (match g.ow β with|some (.slot s)=>some (Ow.slot s)|_=>g'.ow β)=_;split
  . rename_i s h;exact absurd h (hβ s)
  . rfl
 have hsg:∀ β s,g.ow β=some (.slot s)->g'.ow β=none/\w'.heap[β]?=w.heap[β]?:=fun β s hβ=>by
  have hlt:=hh.ow β (by rw[hβ];simp);have h0:g.hpOnly.ow β=none:=JI (.inr ⟨s,hβ⟩);exact⟨hs.ow β hlt h0,hs.block β hlt h0⟩
 refine⟨g2,rfl,rfl,⟨fun b x hx=>?_,hh'.io,fun p v hp=>?_,fun β hβ=>?_⟩,?_,⟨hs.im,hs.io,fun p v hp=>?_,fun β hβ h0=>?_,hs.os,hs.tape,hs.output,hs.size,fun β hβ h0=>hs.block β hβ (JI (.inl h0))⟩⟩
 . refine(hh'.hp b x hx).keep (fun _ _ h=>h) (fun _ _ h=>h) fun β h2=>⟨?_,rfl⟩;rw[helse β fun s hβ=>by rw[(hsg β s hβ).1] at h2;cases h2];exact h2
 . obtain⟨h1,h2⟩:=hh'.im p v hp;refine⟨h1,?_⟩;rw[helse p.block fun s hβ=>?_]
   . exact h2
   . rcases hs.imn p v hp with h3|h3|h3
     . have:=(hh.im p v h3).2;rw[hβ] at this;cases this
     . have:=hh.ow p.block (by rw[hβ];simp);omega
     . exact h3 (JI (.inr ⟨s,hβ⟩))
 . by_cases hsl:∃ s,g.ow β=some (.slot s)
   . obtain⟨s,hsl⟩:=hsl;exact Z1 (hh.ow β (by rw[hsl];simp)) hs.size
   . rw[helse β fun s h=>hsl ⟨s,h⟩] at hβ;exact hh'.ow β hβ
 . exact hf.keep hs.im hs.io fun β s hβ=>⟨hslot β s hβ,(hsg β s hβ).2⟩
 . rcases hs.imn p v hp with h3|h3|h3
   . exact .inl h3
   . exact .inr (.inl h3)
   . exact .inr (.inr fun h0=>h3 (JI (.inl h0)))
 . rw[helse β fun s h=>by rw[h0] at h;cases h];exact hs.ow β hβ (JI (.inl h0))
theorem zen{w':World}(hb:Below w.heap.size w w'):Step g w g w' :=
 ⟨fun _ _ h=>h,fun _ _ h=>h,fun _ _ h=>.inl h,fun _ _ h=>h,hb.os,hb.tape,hb.output,hb.size,fun β hβ _=>hb.block β hβ⟩
theorem Hinv.below{w':World}(hh:Hinv g h w)(hb:Below w.heap.size w w'):Hinv g h w' :=
 hh.keep rfl rfl (fun β h0 hlt=>⟨h0,hb.block β hlt⟩) (fun β b h0=>⟨h0,hb.block β (hh.ow β (by rw[h0];simp))⟩) (fun β h0=>Z1 (hh.ow β h0) hb.size)
theorem Finv.below{w':World}(hh:Hinv g h w)(hf:Finv g F a.tmps w)(hb:Below w.heap.size w w'):Finv g F a.tmps w' :=
 hf.keep (fun _ _ h=>h) (fun _ _ h=>h) fun β s h0=>⟨h0,hb.block β (hh.ow β (by rw[h0];simp))⟩
theorem zot(hh:Hinv g h w)(hf:Finv g F a.tmps w){x:Operand}{v:V}(he:evB F h x=some v):VR (fun p=>w.cell? p) g.io v (a.eval x):=by
 have hm:∀ p v,g.im p=some v->w.cell? p=some v:=fun p v hp=>(hh.im p v hp).1;cases x with
 | tmp t =>
   simp only[evB] at he;split at he
   . rename_i y hy;have hrow:(∃ b sz lo hi,y=.row b sz lo hi)\/Wp h y=some y:=by
      cases y <;> first|exact .inl ⟨_,_,_,_,rfl⟩|exact .inr rfl
     rcases hrow with ⟨b,sz,lo,hi,rfl⟩|hvb
     . simp only[Wp] at he;cases hr:jc h b sz lo hi with
       | none=>rw[hr] at he;cases he
       | some l =>
         rw[hr] at he;cases he;have hv:VR g.im g.io (.row b sz lo hi) (a.eval (.tmp t)):=by rw[<- QX hf t];exact hf.getD hy
         exact zv7 hh hr hv
     rw[hvb] at he;cases he;rw[<- QX hf t];exact VR.mono hm (fun _ _ h=>h) (hf.getD hy)
   . rename_i e sz l hx;cases he;obtain⟨xs,h1,h2,h3,h4⟩:=hf.getD hx;obtain⟨A,cap,ad,hv,hc,hmm,hA,hAb,hr⟩:=zbu h1 h2 h3;rw[<- QX hf t,hv];exact .sl sz l false A cap ad (fun k j=>xs.getD (k * sz+j) undef) hA (by simp) hc hmm h2 (fun k es j x hk hj=>(hr k es j x hk hj).1) (fun k es j x hk hj=>(hr k es j x hk hj).2.2.mono hm (fun _ _ h=>h))
   . cases he
 | const v=>exact Ys he
 | func f=>cases he;exact .fn f [] #[] rfl (by simp)
 | global n=>cases he
theorem zeo (hh : Hinv g h w) (hf : Finv g F a.tmps w) : ∀ {os : List Operand} {vs : List V}, YW F h os = some vs -> VL (fun p => w.cell? p) g.io vs (os.map a.eval)
 | [],vs,he=>by cases he;exact .nil
 | o :: os,vs,he=>by
   unfold YW at he;split at he
   . rename_i v r h1 h2;cases he;exact .cons (zot hh hf h1) (zeo hh hf h2)
   . cases he
theorem Ky {c : Call} {fo : Operand} {f : FuncId} {capv : Array Value} (ho : o.op = .call c) (hc : c.callee = .value fo) (hv : a.eval fo = .func (.func f) #[] capv) {fn : Func} (hfn : P.funcs[f]? = some fn) (hb : fn.body.isNone = false) (hn : (fn.name == "runtime.NumGoroutine") = false) :
    (execOp a.eval o).run P w=.ok (.enter f ((c.args.toList.map a.eval)++capv.toList).toArray) w:=by
 have harr:c.args.map a.eval++capv=((c.args.toList.map a.eval)++capv.toList).toArray:=by
  apply Array.ext';simp
 simp only[execOp,ho,resolve,hc,hv,Deferred.ofValue,Sem.run_bind,Sem.run_pure,Result.andThen_ok,invoke,callFunc,run_program,hfn,hn,hb,zt,if_false];rw[<- harr];simp
theorem Kz {f : FuncId} {vs : List V} {g' : G} {w' : World} {v : Value} {d : Option Nat} {F : List S} {h : ze} {R : Type} {K : List S -> ze -> Option R} {r : R} (hr : RR P f g'.im g'.io (.ret vs) (.returned v)) (hs : zco P f d vs F h K = some r) :
    ∃ s,K (put F d s) h=some r/\(∀ k T,SR g' w' T k s v)/\lin s=false/\∀ d sz i c,s≠.fp d sz i c:=by
 obtain⟨fn,hfn,h1,h2⟩:=hr;unfold zco zcn at hs;rw[hfn] at hs;simp only at hs;split at hs
 . rename_i hsz;obtain⟨x,rfl,hx⟩:=h1 (by simpa using hsz);exact⟨_,hs,fun _ _=>hx,rfl,by simp⟩
 . rename_i hsz;exact⟨_,hs,fun _ _=>h2 (by simpa using hsz),rfl,by simp⟩
theorem zhl (hrec : RecOk P gc rec) {c : Call} {fo : Operand} {f : FuncId} {caps : List V} {capv : Array Value} {R : Type} {K : List S -> ze -> Option R} {Z : V -> List S -> ze -> Option R} {r : R} (ho : o.op = .call c) (hc : c.callee = .value fo) (hv : a.eval fo = .func (.func f) #[] capv)
    (hcap:VL g.im g.io caps capv.toList) (hmu:YX P f=none) (hx:zcp P rec keep gc vc o f caps c.args.toList F h K Z=some r) (hh:Hinv g h w) (hf:Finv g F a.tmps w) {next:Act->World->Prop} {Q:Exit->Act->World->Prop}
    (hK:∀ F' h' g' v w',K F' h'=some r->Hinv g' h' w'->Finv g' F' (a.put o.dst v).tmps w'->Step g w g' w'->next (a.put o.dst v) w')
    (hZ:∀ x F' h' g' v w',Z x F' h'=some r->Hinv g' h' w'->VR g'.im g'.io x v->Finv g' F' a.tmps w'->Step g w g' w'->Q (.panic [{ v,recovered:=false }]) a w'):o.wp P a w next Q:=by
 unfold zcp at hx;split at hx
 . rename_i k e hnf;split at hx
   . rename_i hce;have hc0:caps=[]:=by simpa using hce
     subst hc0;have hcv:capv=#[]:=by
      have:=hcap.1;apply Array.ext';simpa using this.symm
     subst hcv;obtain⟨fn,hfn,hb,hn⟩:=hrec.nat.fn _ _ _ hnf;unfold Oper.wp;rw[Ky ho hc hv hfn hb hn,Oper.upon_enter];have:=zor (o:=o) hrec.nat hnf hx hh hf;rw[show (c.args.toList.map a.eval++(#[]:Array Value).toList)=c.args.toList.map a.eval from by simp];refine this.mono ?_;rintro en w' ⟨v',F',g',rfl,h1,h2,h3,h4⟩;exact hK F' h g' v' w' h1 h2 h3 h4
   . cases hx
 split at hx
 . split at hx
   . rename_i vs F1 h1 hev;obtain⟨g1,a1,a2,a3,a4⟩:=Jf hh hf hev;have hargs:VL g1.im g1.io (vs++caps) ((c.args.toList.map a.eval)++capv.toList):=a4.append (hcap.mono a3.im a3.io);split at hx
     . rename_i vs' h2 X0;obtain⟨fn,hfn,hb,hn⟩:=hrec.fn _ _ _ _ X0;unfold Oper.wp;rw[Ky ho hc hv hfn hb hn,Oper.upon_enter];refine(hrec.heap _ _ _ _ _ hmu X0 g1.hpOnly _ w a1.hpOnly (QA g1) hargs).mono ?_;rintro e w' ⟨g',s1,s2,s3,s4⟩;obtain⟨g2,e1,e2,b1,b2,b3⟩:=Yh a1 a2 s1 s2 s3;cases e with
       | returned v =>
         rw[<- e1,<- e2] at s4;obtain⟨s,hx',r1,r2,r3⟩:=Kz (w':=w') s4 hx;exact hK _ _ g2 v w' hx' b1 (b2.put o.dst s v (fun k _ _=>r1 k _) (fun k e sz i c _ he=>absurd he (r3 e sz i c))) (a3.trans b3)
       | panicked ch=>exact s4.elim
       | outgrown=>exact s4.elim
     . rename_i x h2 X0;obtain⟨fn,hfn,hb,hn⟩:=hrec.fn _ _ _ _ X0;unfold Oper.wp;rw[Ky ho hc hv hfn hb hn,Oper.upon_enter];refine(hrec.heap _ _ _ _ _ hmu X0 g1.hpOnly _ w a1.hpOnly (QA g1) hargs).mono ?_;rintro e w' ⟨g',s1,s2,s3,s4⟩;obtain⟨g2,e1,e2,b1,b2,b3⟩:=Yh a1 a2 s1 s2 s3;cases e with
       | returned v=>exact s4.elim
       | panicked ch =>
         obtain⟨v,rfl,hvr⟩:=s4;exact hZ x _ _ g2 v w' hx b1 (by rw[e1,e2];exact hvr) b2 (a3.trans b3)
       | outgrown=>exact s4.elim
     . cases hx
   . cases hx
 . split at hx
   . rename_i hgc;split at hx
     . rename_i vs hev;have hm:∀ p v,g.im p=some v->w.cell? p=some v:=fun p v hp=>(hh.im p v hp).1;have hargs:VL (fun p=>w.cell? p) g.io (vs++caps) ((c.args.toList.map a.eval)++capv.toList):=(zeo hh hf hev).append (hcap.mono hm (fun _ _ h=>h));split at hx
       . rename_i vs' h2 X0;split at hx
         . rename_i hsim;obtain⟨fn,hfn,hb,hn⟩:=hrec.fn _ _ _ _ X0;obtain⟨rfl,hp⟩:=hrec.pure _ _ _ _ _ hmu hgc X0;unfold Oper.wp;rw[Ky ho hc hv hfn hb hn,Oper.upon_enter];refine(hp _ _ _ w (fun p v hp=>hp) hargs).mono ?_;rintro e w' ⟨hbel,im',_,_,_,s4⟩;cases e with
           | returned v =>
             have s5:RR P f g.im g.io (.ret vs') (.returned v):=by
              obtain⟨fn,i1,i2,i3⟩:=s4;refine⟨fn,i1,fun hsz=>?_,fun hsz=>?_⟩
              . obtain⟨x,rfl,hvr⟩:=i2 hsz;exact⟨x,rfl,hvr.simple (zc4 hsim x (by simp))⟩
              . obtain⟨cc,i4,i5⟩:=i3 hsz;exact⟨cc,i4,i5.simple hsim⟩
             obtain⟨s,hx',r1,r2,r3⟩:=Kz (w':=w') s5 hx;exact hK _ _ g v w' hx' (hh.below hbel) ((hf.below hh hbel).put o.dst s v (fun k _ _=>r1 k _) (fun k e sz i c _ he=>absurd he (r3 e sz i c))) (zen hbel)
           | panicked ch=>exact s4.elim
           | outgrown=>exact s4.elim
         . cases hx
       . rename_i x h2 X0;split at hx
         . rename_i hsim;obtain⟨fn,hfn,hb,hn⟩:=hrec.fn _ _ _ _ X0;obtain⟨rfl,hp⟩:=hrec.pure _ _ _ _ _ hmu hgc X0;unfold Oper.wp;rw[Ky ho hc hv hfn hb hn,Oper.upon_enter];refine(hp _ _ _ w (fun p v hp=>hp) hargs).mono ?_;rintro e w' ⟨hbel,im',_,_,_,s4⟩;cases e with
           | returned v=>exact s4.elim
           | panicked ch =>
             obtain⟨v,rfl,hvr⟩:=s4;exact hZ x _ _ g v w' hx (hh.below hbel) (hvr.simple hsim) (hf.below hh hbel) (zen hbel)
           | outgrown=>exact s4.elim
         . cases hx
       . cases hx
     . cases hx
   . cases hx
theorem zhm{P:Program}{o:Oper}{f:FuncId}(hk:okV P o.type f=true){R:Type}(d:Option Nat)(vs:List V)(F:List S)(hp:ze)(K:List S->ze->Option R):zk8 (qs P o.type) d vs F hp K=zco P f d vs F hp K:=by
 unfold okV at hk;rw[zE,zE,beq_iff_eq] at hk;unfold zk8 zco;rw[hk.2.2];cases qs P o.type <;> rfl
theorem qJ (hrec : RecOk P gc rec) {f : FuncId} {pre : List V} {prev : List Value} {args : List Operand} {R : Type} {K : List S -> ze -> Option R} {Z : V -> List S -> ze -> Option R} {r : R} (hpre : VL g.im g.io pre prev)
    (hrun:∀ fn,P.funcs[f]?=some fn->fn.body.isNone=false->(fn.name == "runtime.NumGoroutine")=false->(execOp a.eval o).run P w=.ok (.enter f (prev++args.map a.eval).toArray) w)
    (hx:zd5 P rec keep vc o f pre args F h K Z=some r) (hh:Hinv g h w) (hf:Finv g F a.tmps w) {next:Act->World->Prop} {Q:Exit->Act->World->Prop}
    (hK:∀ F' h' g' v w',K F' h'=some r->Hinv g' h' w'->Finv g' F' (a.put o.dst v).tmps w'->Step g w g' w'->next (a.put o.dst v) w')
    (hZ:∀ x F' h' g' v w',Z x F' h'=some r->Hinv g' h' w'->VR g'.im g'.io x v->Finv g' F' a.tmps w'->Step g w g' w'->Q (.panic [{ v,recovered:=false }]) a w'):o.wp P a w next Q:=by
 unfold zd5 at hx;split at hx
 . rename_i hc;have hok:=hc.2;have hmu:YX P f=none:=by
    unfold okV at hok;rw[zE] at hok;simpa using hok.1
   split at hx
   . rename_i vs F1 h1 hev;obtain⟨g1,a1,a2,a3,a4⟩:=Jf hh hf hev;have hargs:VL g1.im g1.io (pre++vs) (prev++args.map a.eval):=(hpre.mono a3.im a3.io).append a4;split at hx
     . rename_i vs' h2 X0;rw[zhm hok] at hx;obtain⟨fn,hfn,hb,hn⟩:=hrec.fn _ _ _ _ X0;unfold Oper.wp;rw[hrun fn hfn hb hn,Oper.upon_enter];refine(hrec.heap _ _ _ _ _ hmu X0 g1.hpOnly _ w a1.hpOnly (QA g1) hargs).mono ?_;rintro e w' ⟨g',s1,s2,s3,s4⟩;obtain⟨g2,e1,e2,b1,b2,b3⟩:=Yh a1 a2 s1 s2 s3;cases e with
       | returned v =>
         rw[<- e1,<- e2] at s4;obtain⟨s,hx',r1,r2,r3⟩:=Kz (w':=w') s4 hx;exact hK _ _ g2 v w' hx' b1 (b2.put o.dst s v (fun k _ _=>r1 k _) (fun k e sz i c _ he=>absurd he (r3 e sz i c))) (a3.trans b3)
       | panicked ch=>exact s4.elim
       | outgrown=>exact s4.elim
     . rename_i x h2 X0;obtain⟨fn,hfn,hb,hn⟩:=hrec.fn _ _ _ _ X0;unfold Oper.wp;rw[hrun fn hfn hb hn,Oper.upon_enter];refine(hrec.heap _ _ _ _ _ hmu X0 g1.hpOnly _ w a1.hpOnly (QA g1) hargs).mono ?_;rintro e w' ⟨g',s1,s2,s3,s4⟩;obtain⟨g2,e1,e2,b1,b2,b3⟩:=Yh a1 a2 s1 s2 s3;cases e with
       | returned v=>exact s4.elim
       | panicked ch =>
         obtain⟨v,rfl,hvr⟩:=s4;exact hZ x _ _ g2 v w' hx b1 (by rw[e1,e2];exact hvr) b2 (a3.trans b3)
       | outgrown=>exact s4.elim
     . cases hx
   . cases hx
 . cases hx
theorem zlr {c : Call} {fo : Operand} {f : FuncId} {first : Array Value} (ho : o.op = .call c) (hc : c.callee = .value fo) (hv : a.eval fo = .func (.func f) first #[]) {fn : Func} (hfn : P.funcs[f]? = some fn) (hb : fn.body.isNone = false) (hn : (fn.name == "runtime.NumGoroutine") = false) :
    (execOp a.eval o).run P w=.ok (.enter f (first.toList++c.args.toList.map a.eval).toArray) w:=by
 have harr:first++c.args.map a.eval=(first.toList++c.args.toList.map a.eval).toArray:=by
  apply Array.ext';simp
 simp only[execOp,ho,resolve,hc,hv,Deferred.ofValue,Sem.run_bind,Sem.run_pure,Result.andThen_ok,invoke,callFunc,run_program,hfn,hn,hb,zt,if_false];rw[<- harr];simp
theorem ziK {t : TypeId} {y z : Value} {nm : String} {f : FuncId} {args : Array Value} (hm : ∀ n w, (method (n + 1) t y nm).run P w = .ok (f, z) w) {fn : Func} (hfn : P.funcs[f]? = some fn) (hb : fn.body.isNone = false) (hn : (fn.name == "runtime.NumGoroutine") = false) :
    (callMethod (.iface t y) nm args).run P w=.ok (.enter f (#[z]++args)) w:=by
 have h1:∀ w,(method (P.types.size+Made.depth) t y nm).run P w=.ok (f,z) w:=fun w=>by
  have h0:0 < Made.depth:=by decide
  have:P.types.size+Made.depth=(P.types.size+(Made.depth - 1))+1:=by omega
  rw[this];exact hm _ w
 simp only[callMethod,Sem.run_bind,run_program,Result.andThen_ok,h1,callFunc,hfn,hn,hb,zt,if_false,Sem.run_pure]
theorem ztd {c : Call} {rcv : Operand} {t : TypeId} {y z : Value} {nm : String} {f : FuncId} (ho : o.op = .call c) (hc : c.callee = .invoke rcv nm) (hv : a.eval rcv = .iface t y) (hm : ∀ n w, (method (n + 1) t y nm).run P w = .ok (f, z) w) {fn : Func} (hfn : P.funcs[f]? = some fn) (hb : fn.body.isNone = false) (hn : (fn.name == "runtime.NumGoroutine") = false) :
    (execOp a.eval o).run P w=.ok (.enter f ([z]++c.args.toList.map a.eval).toArray) w:=by
 have harr:#[z]++c.args.map a.eval=([z]++c.args.toList.map a.eval).toArray:=by
  apply Array.ext';simp
 have harr0:#[Value.iface t y]++c.args.map a.eval=(Value.iface t y :: c.args.toList.map a.eval).toArray:=by
  apply Array.ext';simp
 have hex:(#[Value.iface t y]++c.args.map a.eval).extract 1 (#[Value.iface t y]++c.args.map a.eval).size=c.args.map a.eval:=by
  apply Array.ext';simp[zU]
 have hg:(#[Value.iface t y]++c.args.map a.eval)[0]?=some (.iface t y):=by
  rw[harr0];rfl
 simp only[execOp,ho,resolve,hc,hv,Sem.run_bind,Sem.run_pure,Result.andThen_ok,invoke,hg,hex];rw[ziK hm hfn hb hn,harr]
theorem zqm {c : Call} {fo x : Operand} {rest : List Operand} {t : TypeId} {d : TypeDesc} {z : Value} {nm : String} {f : FuncId} (ho : o.op = .call c) (hc : c.callee = .value fo) (hv : a.eval fo = .func (.methodOf t nm) #[] #[]) (hargs : c.args.toList = x :: rest) (hu : P.underlying t = some d) (hni : zd2 P t = false) (hm : ∀ n w, (method (n + 1) t (a.eval x) nm).run P w = .ok (f, z) w) {fn : Func} (hfn : P.funcs[f]? = some fn) (hb : fn.body.isNone = false) (hn : (fn.name == "runtime.NumGoroutine") = false) :
    (execOp a.eval o).run P w=.ok (.enter f ([z]++rest.map a.eval).toArray) w:=by
 have hca:c.args=(x :: rest).toArray:=by rw[<- hargs]
 have harr:#[z]++(rest.map a.eval).toArray=([z]++rest.map a.eval).toArray:=by
  apply Array.ext';simp
 have hex:(c.args.map a.eval).extract 1 (c.args.map a.eval).size=(rest.map a.eval).toArray:=by
  rw[hca];apply Array.ext';simp[zU]
 have hg:(c.args.map a.eval)[0]?=some (a.eval x):=by rw[hca];simp
 simp only[execOp,ho,resolve,hc,hv,Deferred.ofValue,Sem.run_bind,Sem.run_pure,Result.andThen_ok,invoke,Array.empty_append,hg,hex,run_underlying hu];unfold zd2 at hni;rw[hu] at hni;rw[<- harr];cases d <;> first|(simp at hni;done)|exact ziK hm hfn hb hn
theorem zdC (hrec : RecOk P gc rec) {c : Call} {fo : Operand} {f : FuncId} {caps : List V} {capv : Array Value} {R : Type} {K : List S -> ze -> Option R} {r : R} (ho : o.op = .call c) (hc : c.callee = .value fo) (hv : a.eval fo = .func (.func f) #[] capv)
    (hcap:VL g.im g.io caps capv.toList) {e sz s b:Nat} (hmu:YX P f=some (e,sz)) {rest:List Operand} (hargs:c.args.toList=.tmp s :: rest) {vs:List V} {F1:List S} {h1:ze} (hev:YL vc F h rest=some (vs,F1,h1)) {l:List (List V)} (hF1:F1[rt F s]?=some (.v (.row b sz 0 l.length)))
    (hb:h1[b]?=some (.row e sz l true)) {l':List (List V)} {b':Bool} {rs:List V} {h2:ze} (X0:rec f (.sl sz l false :: (vs++caps)) (h1.set b .dead)=some (.ret (.sl sz l' b' :: rs),h2)) (hll:l'.length=l.length) (hx:zco P f o.dst rs F1 (h2.set b (.row e sz l' true)) K=some r) (hh:Hinv g h w) (hf:Finv g F a.tmps w) {next:Act->World->Prop} {Q:Exit->Act->World->Prop}
    (hK:∀ F' h' g' v w',K F' h'=some r->Hinv g' h' w'->Finv g' F' (a.put o.dst v).tmps w'->Step g w g' w'->next (a.put o.dst v) w'):o.wp P a w next Q:=by
 generalize hd:rt F s=d at hF1;obtain⟨g1,a1,a2,a3,a4⟩:=Jf hh hf hev;have hargv:VL g1.im g1.io (vs++caps) ((rest.map a.eval)++capv.toList):=a4.append (hcap.mono a3.im a3.io);have hv0s:a.eval (.tmp s)=a.tmps.getD d undef:=by rw[<- QX hf s,hd];rfl
 have hrow:=a2.fr d _ hF1;obtain⟨v0,xs,hio,o4,o1,o2,o3,oz⟩:=a1.hp b _ hb;have hown:=zla o1 (oz rfl);have hv0:a.tmps.getD d undef=v0:=by
  have key:∀ N v,VR g1.im g1.io (.row b sz 0 N) v->N=l.length->v=v0:=?_
  . exact key _ _ hrow rfl
  intro N v hrow hN;cases hrow with
  | row _ _ _ _ β o' cap u q0 q1 q2 q3 q4 =>
    rw[hio] at q0;injection q0 with q0;obtain⟨rfl,cur,_⟩:=zbv o1 q0;rcases q4 with h|⟨_,h⟩
    . rw[h,hN];simp
    . omega
  | rowN _ _ q0 =>
    rw[hio] at q0;injection q0 with q0;rcases o1.2 with ⟨h,_⟩|⟨β,o',cap,cur,h,_⟩
    . exact h.symm
    . rw[h] at q0;simp[tok] at q0
 have hlow:∀ β,g1.ow β≠none->β < w.heap.size:=a1.ow;have hblt:=(zj.1 hb).1
 let gm:G:={ g1 with ow:=fun β=>match g1.ow β with|some (.hp b2)=>if b2=b then(if v0.ownBlock=some β then some (.slot 0) else none) else some (.hp b2)|_=>none }
 have gm_def:∀ β,gm.ow β=(match g1.ow β with|some (.hp b2)=>if b2=b then(if v0.ownBlock=some β then some (Ow.slot 0) else none) else some (.hp b2)|_=>none):=fun _=>rfl;have gm_hp:∀ {β b2},gm.ow β=some (.hp b2) ↔ g1.ow β=some (.hp b2)/\b2≠b:=fun {β b2}=>by
  rw[gm_def];split
  . rename_i b3 h;rw[h];split
    . rename_i e;subst e;constructor
      . intro h;split at h <;> cases h
      . rintro ⟨h,hne⟩;cases h;exact absurd rfl hne
    . rename_i hne;constructor
      . intro h;cases h;exact⟨rfl,hne⟩
      . rintro ⟨h,_⟩;cases h;rfl
  . rename_i h;exact⟨fun h'=>(by cases h'),fun h'=>absurd h'.1 (h b2)⟩
 have gm_none:∀ {β},g1.ow β=none->gm.ow β=none:=fun {β} h=>by rw[gm_def,h]
 have gm_slot:∀ {β s'},gm.ow β=some (.slot s')->v0.ownBlock=some β:=fun {β s'} h=>by
  rw[gm_def] at h;split at h
  . split at h
    . split at h
      . assumption
      . cases h
    . cases h
  . cases h
 have gm_own:∀ {β},v0.ownBlock=some β->gm.ow β=some (.slot 0):=fun {β} h=>by
  rw[gm_def,o4 β h];simp[h]
 have gm_slot1:∀ {β s'},g1.ow β=some (.slot s')->gm.ow β=none:=fun {β s'} h=>by rw[gm_def,h]
 have gm_old:∀ {β},g1.ow β=some (.hp b)->v0.ownBlock≠some β->gm.ow β=none:=fun {β} h hne=>by
  rw[gm_def,h];simp[hne]
 have hhm:Hinv gm (h1.set b .dead) w:=⟨fun b2 x hx=>by
     rw[Zd] at hx;split at hx
     . first
         | (cases hx;trivial)
         | (split at hx
            . cases hx;trivial
            . cases hx)
     . rename_i hne;exact(a1.hp b2 x hx).keep (fun _ _ h=>h) (fun _ _ h=>h) fun β k2=>⟨gm_hp.2 ⟨k2,fun e=>hne e.symm⟩,rfl⟩,
  fun b2 β h=>by rw[zw];exact a1.io b2 β h,fun p v hp=>⟨(a1.im p v hp).1,gm_none (a1.im p v hp).2⟩,fun β hβ=>a1.ow β fun h0=>hβ (gm_none h0)⟩
 have hsr:SR gm w #[] 0 (.own e sz l) v0:=⟨xs,hown,o2,o3,fun β hβ=>gm_own hβ⟩;obtain⟨fn,hfn,hbd,hn⟩:=hrec.fn _ _ _ _ X0;unfold Oper.wp;rw[Ky ho hc hv hfn hbd hn,Oper.upon_enter];rw[hargs,zW,hv0s,hv0,Z4];refine(hrec.mutc f e sz l false (vs++caps) (h1.set b .dead) l' b' rs h2 hmu X0 gm v0 _ w hhm (fun β s' h=>gm_slot h) hsr hargv).mono ?_;rintro en w' ⟨g',t1,t2,t3,t4⟩;cases en with
 | panicked ch=>exact t4.elim
 | outgrown=>exact t4.elim
 | returned v =>
   obtain⟨ys,q1,q2,q3,q4⟩:=t3
   let g2:G:={ im:=g'.im,io:=g'.io,ow:=fun β=>match g1.ow β with|some (.slot s)=>some (.slot s)|some (.hp b2)=>if b2=b then some (.hp b) else(match g'.ow β with|some (.hp b)=>some (.hp b)|_=>none)|none=>(match g'.ow β with|some (.hp b)=>some (.hp b)|_=>none) }
   have g2_def:∀ β,g2.ow β=(match g1.ow β with|some (.slot s)=>some (.slot s)|some (.hp b2)=>if b2=b then some (.hp b) else(match g'.ow β with|some (.hp b)=>some (.hp b)|_=>none)|none=>(match g'.ow β with|some (.hp b)=>some (Ow.hp b)|_=>none)):=fun _=>rfl;have g2_slot:∀ {β s'},g1.ow β=some (.slot s')->g2.ow β=some (.slot s'):=fun {β s'} h=>by rw[g2_def,h]
   have g2_b:∀ {β},g1.ow β=some (.hp b)->g2.ow β=some (.hp b):=fun {β} h=>by rw[g2_def,h];simp
   have g2_else:∀ {β},(∀ s',g1.ow β≠some (.slot s'))->g1.ow β≠some (.hp b)->g2.ow β=(match g'.ow β with|some (.hp b)=>some (Ow.hp b)|_=>none):=fun {β} h hb=>by
    rw[g2_def];split
    . rename_i s' h';exact absurd h' (h s')
    . rename_i b2 h';rw[if_neg (by rintro rfl;exact hb h')]
    . rfl
   have hnone:∀ {β},β < w.heap.size->gm.ow β=none->g'.ow β=none:=fun {β} hlt h0=>t1.ow β hlt h0;have nob:∀ {β b2},g'.ow β=some (.hp b2)->(∀ s',g1.ow β≠some (.slot s'))/\g1.ow β≠some (.hp b):=fun {β b2} hb2=>by
    refine⟨fun s' hs'=>?_,fun hs'=>?_⟩
    . have hlt:=hlow β (by rw[hs'];simp);rw[hnone hlt (gm_slot1 hs')] at hb2;cases hb2
    . have hlt:=hlow β (by rw[hs'];simp);by_cases hβ:v0.ownBlock=some β
      . rw[q4 β hβ] at hb2;cases hb2
      . rw[hnone hlt (gm_old hs' hβ)] at hb2;cases hb2
   have hst:Step g1 w g2 w':=⟨t1.im,t1.io,fun p v hp=>?_,fun β hβ h0=>?_,t1.os,t1.tape,t1.output,t1.size,fun β hβ h0=>t1.block β hβ (gm_none h0)⟩
   rotate_left
   . rcases t1.imn p v hp with h3|h3|h3
     . exact .inl h3
     . exact .inr (.inl h3)
     . exact .inr (.inr fun h0=>h3 (gm_none h0))
   . rw[g2_else (fun s' h=>by rw[h0] at h;cases h) (by rw[h0];simp)];rw[t1.ow β hβ (gm_none h0)]
   have hio2:g'.io b=some (tok v0):=t1.io b _ hio;have hb2lt:b < h2.length:=t2.io b _ hio2;have hh2:Hinv g2 (h2.set b (.row e sz l' true)) w':=⟨fun b2 x hx=>?_,fun b2 β h=>by rw[zw];exact t2.io b2 β h,fun p v hp=>?_,fun β hβ=>?_⟩
   rotate_left
   . rw[Zd] at hx;split at hx
     . rename_i e0;subst e0;have hx':some (HB.row e sz l' true)=some x:=by
        first
         | exact hx
         | (rw[if_pos hb2lt] at hx;exact hx)
       cases hx';exact⟨v0,ys,hio2,fun β hβ=>g2_b (o4 β hβ),Y6 q1,q2,q3,fun _=>zaq q1⟩
     . refine(t2.hp b2 x hx).keep (fun _ _ h=>h) (fun _ _ h=>h) fun β k2=>⟨?_,rfl⟩;rw[g2_else (nob k2).1 (nob k2).2,k2]
   . obtain⟨k1,k2⟩:=t2.im p v hp;refine⟨k1,?_⟩;have key:g1.ow p.block=none\/(g1.ow p.block≠none/\p.block < w.heap.size):=by
      cases h:g1.ow p.block with
      | none=>exact .inl rfl
      | some x=>exact .inr ⟨by simp,hlow _ (by rw[h];simp)⟩
     rcases key with h0|⟨h0,hlt⟩
     . rw[g2_else (fun s' h=>by rw[h0] at h;cases h) (by rw[h0];simp),k2]
     . rcases t1.imn p v hp with h3|h3|h3
       . exact absurd (a1.im p v h3).2 h0
       . omega
       . by_cases hsl:∃ s',g1.ow p.block=some (.slot s')
         . obtain⟨s',hs'⟩:=hsl;exact absurd (gm_slot1 hs') h3
         . by_cases hbb:g1.ow p.block=some (.hp b)
           . by_cases hβ:v0.ownBlock=some p.block
             . rw[q4 _ hβ] at k2;cases k2
             . exact absurd (gm_old hbb hβ) h3
           . rw[g2_else (fun s' h=>hsl ⟨s',h⟩) hbb,k2]
   . by_cases hg1:g1.ow β=none
     . rw[g2_else (fun s' h=>by rw[hg1] at h;cases h) (by rw[hg1];simp)] at hβ;exact t2.ow β fun h0=>hβ (by rw[h0])
     . exact Z1 (hlow β hg1) t1.size
   have hf2:Finv g2 F1 a.tmps w':=a2.keep t1.im t1.io fun β s' hβ=>⟨g2_slot hβ,t1.block β (hlow β (by rw[hβ];simp)) (gm_slot1 hβ)⟩;obtain⟨sR,hx',r1,r2,r3⟩:=Kz (w':=w') (g':=g2) t4 hx;exact hK _ _ g2 v w' hx' hh2 (hf2.put o.dst sR v (fun k _ _=>r1 k _) (fun k e sz i c _ he=>absurd he (r3 e sz i c))) (a3.trans hst)
theorem qK (hrec : RecOk P gc rec) {c : Call} {fo : Operand} {f : FuncId} {caps : List V} {capv : Array Value} {R : Type} {K : List S -> ze -> Option R} {Z : V -> List S -> ze -> Option R} {r : R} (ho : o.op = .call c) (hc : c.callee = .value fo) (hv : a.eval fo = .func (.func f) #[] capv)
    (hcap:VL g.im g.io caps capv.toList) (hx:zd4 P rec keep gc vc o f caps c.args.toList F h K Z=some r) (hh:Hinv g h w) (hf:Finv g F a.tmps w) {next:Act->World->Prop} {Q:Exit->Act->World->Prop}
    (hK:∀ F' h' g' v w',K F' h'=some r->Hinv g' h' w'->Finv g' F' (a.put o.dst v).tmps w'->Step g w g' w'->next (a.put o.dst v) w')
    (hZ:∀ x F' h' g' v w',Z x F' h'=some r->Hinv g' h' w'->VR g'.im g'.io x v->Finv g' F' a.tmps w'->Step g w g' w'->Q (.panic [{ v,recovered:=false }]) a w'):o.wp P a w next Q:=by
 unfold zd4 at hx;split at hx
 case h_2 hmu=>exact zhl hrec ho hc hv hcap hmu hx hh hf hK hZ
 case h_1 e sz hmu =>
 unfold zuu at hx;split at hx
 case h_2=>cases hx
 rename_i s rest hargs;split at hx
 case h_2=>cases hx
 rename_i vs F1 h1 hev;split at hx
 case h_3=>cases hx
 case h_2 b0 s1 lo hi hF1 =>
  split at hx
  . rename_i e1 s3 l hb0;split at hx
    . rename_i hcond;obtain⟨⟨rfl,rfl,rfl⟩,rfl,rfl⟩:=hcond;split at hx
      . rename_i s2 l' b' rs h2 X0;split at hx
        . rename_i hs2;obtain⟨rfl,hll⟩:=hs2;exact zdC hrec ho hc hv hcap hmu hargs hev hF1 hb0 X0 hll hx hh hf hK
        . cases hx
      . cases hx
    . cases hx
  . cases hx
 rename_i e1 s1 l hF1;split at hx
 case isFalse=>cases hx
 rename_i hcond;obtain⟨⟨rfl,rfl⟩,hdst⟩:=hcond;split at hx
 case h_2=>cases hx
 rename_i s2 l' b' rs h2 X0;split at hx
 case isFalse=>cases hx
 rename_i hs2;subst hs2;generalize hd:rt F s=d at hF1 hdst hx;obtain⟨g1,a1,a2,a3,a4⟩:=Jf hh hf hev;have hargv:VL g1.im g1.io (vs++caps) ((rest.map a.eval)++capv.toList):=a4.append (hcap.mono a3.im a3.io);obtain⟨v0,hv0⟩:∃ v0,a.tmps.getD d undef=v0:=⟨_,rfl⟩;have hv0s:a.eval (.tmp s)=v0:=by rw[<- QX hf s,hd];exact hv0
 have hown:=a2.fr d _ hF1;rw[hv0] at hown;obtain⟨xs,o1,o2,o3,o4⟩:=hown;have hlow:∀ β,g1.ow β≠none->β < w.heap.size:=a1.ow
 let gm:G:={ g1 with ow:=fun β=>match g1.ow β with|some (.hp b)=>some (.hp b)|some (.slot _)=>if v0.ownBlock=some β then some (.slot 0) else none|none=>none }
 have gm_hp:∀ {β b},gm.ow β=some (.hp b) ↔ g1.ow β=some (.hp b):=fun {β b}=>by
  show (match g1.ow β with|some (.hp b)=>some (Ow.hp b)|some (.slot _)=>if v0.ownBlock=some β then some (.slot 0) else none|none=>none)=_ ↔ _;split
  . rename_i h;rw[h]
  . rename_i h;rw[h];split <;> simp
  . rename_i h;rw[h]
 have gm_none:∀ {β},g1.ow β=none->gm.ow β=none:=fun {β} h=>by
  show (match g1.ow β with|some (.hp b)=>some (Ow.hp b)|some (.slot _)=>if v0.ownBlock=some β then some (.slot 0) else none|none=>none)=_;rw[h]
 have gm_other:∀ {β s'},g1.ow β=some (.slot s')->v0.ownBlock≠some β->gm.ow β=none:=fun {β s'} h hne=>by
  show (match g1.ow β with|some (.hp b)=>some (Ow.hp b)|some (.slot _)=>if v0.ownBlock=some β then some (.slot 0) else none|none=>none)=_;rw[h];simp[hne]
 have gm_slot:∀ {β s'},gm.ow β=some (.slot s')->v0.ownBlock=some β:=fun {β s'} h=>by
  have h':(match g1.ow β with|some (.hp b)=>some (Ow.hp b)|some (.slot _)=>if v0.ownBlock=some β then some (.slot 0) else none|none=>none)=some (.slot s'):=h;split at h'
  . cases h'
  . split at h'
    . assumption
    . cases h'
  . cases h'
 have gm_own:∀ {β},v0.ownBlock=some β->gm.ow β=some (.slot 0):=fun {β} h=>by
  show (match g1.ow β with|some (.hp b)=>some (Ow.hp b)|some (.slot _)=>if v0.ownBlock=some β then some (.slot 0) else none|none=>none)=_;rw[o4 β h];simp[h]
 have hhm:Hinv gm h1 w:=⟨fun b x hx=>(a1.hp b x hx).keep (fun _ _ h=>h) (fun _ _ h=>h) fun β k2=>⟨gm_hp.2 k2,rfl⟩,a1.io,fun p v hp=>⟨(a1.im p v hp).1,gm_none (a1.im p v hp).2⟩,fun β hβ=>a1.ow β fun h0=>hβ (gm_none h0)⟩;have hsr:SR gm w #[] 0 (.own e1 s2 l) v0:=⟨xs,o1,o2,o3,fun β hβ=>gm_own hβ⟩;obtain⟨fn,hfn,hb,hn⟩:=hrec.fn _ _ _ _ X0;unfold Oper.wp;rw[Ky ho hc hv hfn hb hn,Oper.upon_enter];rw[hargs,zW,hv0s,Z4];refine(hrec.mutc f e1 s2 l false (vs++caps) h1 l' b' rs h2 hmu X0 gm v0 _ w hhm (fun β s' h=>gm_slot h) hsr hargv).mono ?_;rintro en w' ⟨g',t1,t2,t3,t4⟩;cases en with
 | panicked ch=>exact t4.elim
 | outgrown=>exact t4.elim
 | returned v =>
   obtain⟨ys,q1,q2,q3,q4⟩:=t3
   let g2:G:={ im:=g'.im,io:=g'.io,ow:=fun β=>match g1.ow β with|some (.slot s)=>some (.slot s)|_=>(match g'.ow β with|some (.hp b)=>some (.hp b)|_=>none) }
   have g2_slot:∀ {β s'},g1.ow β=some (.slot s')->g2.ow β=some (.slot s'):=fun {β s'} h=>by
    show (match g1.ow β with|some (.slot s)=>some (Ow.slot s)|_=>(match g'.ow β with|some (.hp b)=>some (.hp b)|_=>none))=_;rw[h]
   have g2_else:∀ {β},(∀ s',g1.ow β≠some (.slot s'))->g2.ow β=(match g'.ow β with|some (.hp b)=>some (Ow.hp b)|_=>none):=fun {β} h=>by
    show (match g1.ow β with|some (.slot s)=>some (Ow.slot s)|_=>(match g'.ow β with|some (.hp b)=>some (.hp b)|_=>none))=_;split
    . rename_i s' h';exact absurd h' (h s')
    . rfl
   have noslot:∀ {β b},g'.ow β=some (.hp b)->∀ s',g1.ow β≠some (.slot s'):=fun {β b} hb s' hs'=>by
    by_cases hβ:v0.ownBlock=some β
    . rw[q4 β hβ] at hb;cases hb
    . have hlt:=hlow β (by rw[hs'];simp);rw[t1.ow β hlt (gm_other hs' hβ)] at hb;cases hb
   have hst:Step g1 w g2 w':=⟨t1.im,t1.io,fun p v hp=>?_,fun β hβ h0=>?_,t1.os,t1.tape,t1.output,t1.size,fun β hβ h0=>t1.block β hβ (gm_none h0)⟩
   rotate_left
   . rcases t1.imn p v hp with h3|h3|h3
     . exact .inl h3
     . exact .inr (.inl h3)
     . exact .inr (.inr fun h0=>h3 (gm_none h0))
   . rw[g2_else fun s' h=>by rw[h0] at h;cases h];rw[t1.ow β hβ (gm_none h0)]
   have hh2:Hinv g2 h2 w':=⟨fun b x hx=>?_,t2.io,fun p v hp=>?_,fun β hβ=>?_⟩
   rotate_left
   . refine(t2.hp b x hx).keep (fun _ _ h=>h) (fun _ _ h=>h) fun β k2=>⟨?_,rfl⟩;rw[g2_else (noslot k2),k2]
   . obtain⟨k1,k2⟩:=t2.im p v hp;refine⟨k1,?_⟩;by_cases hsl:∃ s',g1.ow p.block=some (.slot s')
     . obtain⟨s',hs'⟩:=hsl;rcases t1.imn p v hp with h3|h3|h3
       . have:=(a1.im p v h3).2;rw[hs'] at this;cases this
       . have:=hlow p.block (by rw[hs'];simp);omega
       . by_cases hβ:v0.ownBlock=some p.block
         . rw[q4 _ hβ] at k2;cases k2
         . exact absurd (gm_other hs' hβ) h3
     . rw[g2_else fun s' h=>hsl ⟨s',h⟩,k2]
   . by_cases hsl:∃ s',g1.ow β=some (.slot s')
     . obtain⟨s',hs'⟩:=hsl;exact Z1 (hlow β (by rw[hs'];simp)) t1.size
     . rw[g2_else fun s' h=>hsl ⟨s',h⟩] at hβ;exact t2.ow β fun h0=>hβ (by rw[h0])
   have hf2:Finv g2 (F1.set d (.own e1 s2 l')) a.tmps w':=by
    refine⟨by rw[zw];exact a2.len,fun s' d' sz i c' hs'=>?_,fun s' x hs'=>?_⟩
    . rw[Zd] at hs';split at hs'
      . split at hs' <;> simp at hs'
      . obtain⟨x,hx1,hx2⟩:=a2.fp s' d' sz i c' hs';by_cases hdd:d=d'
        . subst hdd;exact⟨_,by rw[Zf (zj.1 hx1).1],rfl⟩
        . exact⟨x,by rw[zd hdd];exact hx1,hx2⟩
    . rw[Zd] at hs';split at hs'
      . rename_i hds;subst hds;split at hs'
        . cases hs';rw[hv0];exact⟨ys,q1,q2,q3,fun β hβ=>g2_slot (o4 β hβ)⟩
        . cases hs'
      . rename_i hds;refine(a2.fr s' x hs').keep2 t1.im t1.io fun hl β hβ=>⟨g2_slot hβ,?_⟩;have hne:v0.ownBlock≠some β:=fun hc=>by
         have:=o4 β hc;rw[hβ] at this;cases this;exact hds rfl
        exact t1.block β (hlow β (by rw[hβ];simp)) (gm_other hβ hne)
   obtain⟨sR,hx',r1,r2,r3⟩:=Kz (w':=w') (g':=g2) t4 hx;exact hK _ _ g2 v w' hx' hh2 (hf2.put o.dst sR v (fun k _ _=>r1 k _) (fun k e sz i c _ he=>absurd he (r3 e sz i c))) (a3.trans hst)
end
end Go.L
namespace Go.L
open Go.RowKit
section
variable {vc:Bool} {P:Program} {o:Oper} {a:Act} {g:G} {w:World} {F:List S} {h:ze} {gc keep:FuncId->Bool} {rec:Rec}
theorem fin {F' : List S} {h' : ze} {R : Type} {K : List S -> ze -> Option R} {r : R} (hd : QG P o a g w F' h') (hk : K F' h' = some r) {next : Act -> World -> Prop} {Q : Exit -> Act -> World -> Prop}
    (hK:∀ F' h' g' v w',K F' h'=some r->Hinv g' h' w'->Finv g' F' (a.put o.dst v).tmps w'->Step g w g' w'->next (a.put o.dst v) w'):o.wp P a w next Q:=by
 obtain⟨v,w',g',hrun,h1,h2,h3⟩:=hd;unfold Oper.wp;rcases hrun with hr|⟨hr,rfl⟩
 . rw[hr];exact hK _ _ g' v w' hk h1 h2 h3
 . rw[hr];exact hK _ _ g' undef w' hk h1 h2 h3
set_option maxHeartbeats 1000000 in
theorem zau (hrec : RecOk P gc rec) {R : Type} {K : List S -> ze -> Option R} {Z : V -> List S -> ze -> Option R} {r : R} (hx : opx P rec keep gc vc o F h K Z = some r) (hh : Hinv g h w) (hf : Finv g F a.tmps w) {next : Act -> World -> Prop} {Q : Exit -> Act -> World -> Prop}
    (hK:∀ F' h' g' v w',K F' h'=some r->Hinv g' h' w'->Finv g' F' (a.put o.dst v).tmps w'->Step g w g' w'->next (a.put o.dst v) w')
    (hZ:∀ x F' h' g' v w',Z x F' h'=some r->Hinv g' h' w'->VR g'.im g'.io x v->Finv g' F' a.tmps w'->Step g w g' w'->Q (.panic [{ v,recovered:=false }]) a w'):o.wp P a w next Q:=by
 unfold opx at hx;cases ho:o.op with
 | move x =>
   simp only[ho] at hx;obtain⟨F',h',hk,hd⟩:=zf5 (P:=P) (x:=x) (by simp[execOp,ho]) hh hf hx;exact fin hd hk hK
 | assign x =>
   simp only[ho] at hx;obtain⟨F',h',hk,hd⟩:=zf5 (P:=P) (x:=x) (by simp[execOp,ho]) hh hf hx;exact fin hd hk hK
 | pick c x y =>
   simp only[ho] at hx;split at hx
   . exact fin (zoo ho (by assumption) (by assumption) (by assumption) hh hf) hx hK
   . rename_i t p h1 h2 h3;split at hx
     . rename_i ht;subst ht;exact fin (zed ho h1 (by simpa using h2) hh hf) hx hK
     . cases hx
   . rename_i t p h1 h2 h3;split at hx
     . cases hx
     . rename_i ht;have ht':t=false:=by simpa using ht
       subst ht';exact fin (zed ho h1 (by simpa using h3) hh hf) hx hK
   . cases hx
 | alloc e =>
   simp only[ho] at hx;split at hx
   . exact fin (zle ho (by assumption) hh hf) hx hK
   . cases hx
 | box e x =>
   simp only[ho] at hx;split at hx
   . split at hx
     . exact fin (zp7 ho (by assumption) (by assumption) hh hf) hx hK
     . cases hx
   . cases hx
 | build t ps =>
   simp only[ho] at hx;split at hx
   . rename_i vs F1 h1 he;split at hx
     . rename_i cs hb;unfold Wz at hb;split at hb
       . rename_i z pl hz hp;exact fin (zll ho he hz hp hb hh hf) hx hK
       . rename_i z hz hp;split at hb
         . rename_i len sz ha;exact fin (ziC ho he hz ha hb hh hf) hx hK
         . cases hb
       . cases hb
     . cases hx
   . cases hx
 | buildSlice t n ps =>
   simp only[ho] at hx;split at hx
   . rename_i vs F1 h1 e sz he hez;split at hx
     . rename_i sz' l hb;unfold K6 at hb;split at hb
       . rename_i e2 sz2 z hez2 hz;rw[hez] at hez2;cases hez2;split at hb
         . rename_i hc;split at hb
           . rename_i l2 hl;cases hb;exact fin (zdr ho he hez hz hc hl hh hf) hx hK
           . cases hb
         . cases hb
       . cases hb
     . cases hx
   . cases hx
 | load t x =>
   simp only[ho] at hx;split at hx
   . rename_i n hn;obtain⟨cs,m,c,hp,hx⟩:=zcZ hx;split at hx
     . rename_i hc;split at hx
       . exact fin (zol ho hp hn hc (by assumption) hh hf) hx hK
       . cases hx
     . cases hx
   . cases hx
 | store t x y =>
   simp only[ho] at hx;split at hx
   . rename_i v F1 h1 n he hn;split at hx
     . rename_i hl;obtain⟨F2,h2,hw,hx⟩:=zix hx;exact fin (zlf ho he hn hl hw hh hf) hx hK
     . cases hx
   . cases hx
 | nilCheck x =>
   simp only[ho] at hx;split at hx
   . split at hx
     . split at hx
       . exact fin (zqj ho (by assumption) (by assumption) hh hf) hx hK
       . cases hx
     . cases hx
   obtain⟨F',h',hk,hd⟩:=zcu (P:=P) (k:=0) (x:=x) (fun q hq=>zhc ho hq) hh hf hx;exact fin hd hk hK
 | binOp op t x y t' =>
   simp only[ho] at hx;split at hx
   . split at hx
     . exact fin (ziB ho (by assumption) (by assumption) (by assumption) hh hf) hx hK
     . cases hx
   . cases hx
 | unOp op t x =>
   simp only[ho] at hx;split at hx
   . split at hx
     . exact fin (zop ho (by assumption) (by assumption) hh hf) hx hK
     . cases hx
   . cases hx
 | convert s d x =>
   simp only[ho] at hx;split at hx
   . rename_i hcs;split at hx
     . rename_i sz l hl;cases hu:u8s l with
       | none=>simp[hu] at hx
       | some ns =>
         simp only[hu,Z5] at hx;exact fin (zfu ho hcs hl hu hh hf) hx hK
     . cases hx
   split at hx
   . split at hx
     . exact fin (zhd ho (by assumption) (by assumption) hh hf) hx hK
     . cases hx
   . cases hx
 | makeFunc fn first caps =>
   simp only[ho] at hx;cases fn with
   | func f =>
     simp only at hx;split at hx
     . split at hx
       . exact fin (zfv ho (by assumption) (by assumption) hh hf) hx hK
       . cases hx
     . split at hx
       . split at hx
         . exact fin (zeh ho (by assumption) (by assumption) hh hf) hx hK
         . cases hx
       . cases hx
   | methodOf t nm =>
     simp only at hx;split at hx
     . rename_i hc;exact fin (zfw ho hc.1 hc.2 hh hf) hx hK
     . cases hx
   | _=>cases hx
 | makeMap t r' =>
   simp only[ho] at hx;cases r' with
   | none=>exact fin (zhe ho hh hf) hx hK
   | some _=>cases hx
 | makeSlice t l c =>
   simp only[ho] at hx;split at hx
   . rename_i n m e sz z hn hm he hz;split at hx
     . rename_i hc;obtain⟨hnm,hlt,hzl⟩:=hc;exact fin (zei ho hn hm he hz hnm hlt hzl hh hf) hx hK
     . cases hx
   . cases hx
 | slice t x lo hi mx =>
   simp only[ho] at hx;split at hx
   . rename_i e sz y F1 h1 he hev;split at hx
     . rename_i len hlen;split at hx
       . rename_i p q m hp hq hm;split at hx
         . rename_i z hz;cases y with
           | sl sz' l ex =>
             cases hlen;simp only[Je] at hz;split at hz
             . rename_i hc;cases hz;obtain⟨c1,c2,c3,c4,c5⟩:=hc;exact fin (zlm ho he hev c3 hp hq hm c1 c2 c4 c5 hh hf) hx hK
             . cases hz
           | row rr sz' u v =>
             cases hlen;simp only[Je] at hz;split at hz
             . rename_i hc;cases hz;obtain⟨⟨c1,c2,rfl⟩,rfl⟩:=hc;cases mx with
               | none=>exact fin (zej ho he hev hp hq c1 c2 hh hf) hx hK
               | some ym =>
                 simp only[zdn] at hm;cases hn:evN F1 ym <;> rw[hn] at hm <;> cases hm
             . split at hz
               . rename_i hc;cases hz;obtain⟨⟨rfl,c2,rfl⟩,rfl,hok⟩:=hc;cases mx with
                 | none=>simp[zdn] at hm
                 | some ym =>
                   simp only[zdn] at hm;cases hn:evN F1 ym with
                   | none=>rw[hn] at hm;cases hm
                   | some q =>
                     rw[hn] at hm;cases hm;cases hi with
                     | none=>simp at hok
                     | some yh=>exact fin (zds ho he hev hp hq hn c2 hh hf) hx hK
               . cases hz
           | _=>cases hlen
         . cases hx
       . cases hx
     . cases hx
   . cases hx
 | fieldAddr s x k =>
   simp only[ho] at hx;split at hx
   . rename_i off n ag hfa;obtain⟨F',h',hk,hd⟩:=zcu (P:=P) (k:=off) (x:=x) (fun q hq=>zft ho hfa hq) hh hf hx;exact fin hd hk hK
   . cases hx
 | field s x k =>
   simp only[ho] at hx;split at hx
   . split at hx
     . split at hx
       . exact fin (zlj ho (by assumption) (by assumption) (by assumption) (by assumption) hh hf) hx hK
       . cases hx
     . cases hx
   . cases hx
 | indexAddr t x i =>
   simp only[ho] at hx;split at hx
   . rename_i len sz ha;split at hx
     . rename_i n hn;split at hx
       . rename_i hlt;obtain⟨F',h',hk,hd⟩:=zcu (P:=P) (k:=n * sz) (x:=x) (fun q hq=>zhb ho ha hf hn hlt hq) hh hf hx;exact fin hd hk hK
       . cases hx
     . cases hx
   split at hx
   . rename_i n e sz hn he;cases x with
     | tmp s =>
       obtain⟨F',h',hk,hd⟩:=zlk ho hn he hh hf hx;exact fin hd hk hK
     | _=>cases hx
   . cases hx
 | lookup t m k ok =>
   simp only[ho] at hx;split at hx
   . split at hx
     . split at hx
       . split at hx
         . split at hx
           . have hd:=ziF (g:=g) (w:=w) (a:=a) ho (by assumption) (by assumption) (by assumption) (by assumption) (by assumption) (by assumption) (by assumption) (by assumption) (by assumption) (by assumption) hh hf;split at hx
             . rename_i hok;rw[hok] at hd;exact fin hd hx hK
             . rename_i hok;rw[show ok=false from by simpa using hok] at hd;exact fin hd hx hK
           . cases hx
         . cases hx
       . cases hx
     . cases hx
   . cases hx
 | mapUpdate t m k x =>
   simp only[ho] at hx;split at hx
   . split at hx
     . split at hx
       . split at hx
         . exact fin (qI (.inl ho) (by assumption) (by assumption) (by assumption) (by assumption) (by assumption) (by assumption) (by assumption) (by assumption) hh hf) hx hK
         . cases hx
       . cases hx
     . cases hx
   . cases hx
 | insert t m k x =>
   simp only[ho] at hx;split at hx
   . split at hx
     . split at hx
       . split at hx
         . exact fin (qI (.inr ho) (by assumption) (by assumption) (by assumption) (by assumption) (by assumption) (by assumption) (by assumption) (by assumption) hh hf) hx hK
         . cases hx
       . cases hx
     . cases hx
   . cases hx
 | index t x i =>
   simp only[ho] at hx;split at hx
   . split at hx
     . rename_i hc;split at hx
       . exact fin (ziA ho (by assumption) (by assumption) (by assumption) hc.1 hc.2 (by assumption) hh hf) hx hK
       . cases hx
     . cases hx
   . cases hx
 | extract x i =>
   simp only[ho] at hx;cases x with
   | tmp t =>
     simp only at hx;split at hx
     . split at hx
       . exact fin (zhf ho (by assumption) (by assumption) hh hf) hx hK
       . cases hx
     . cases hx
   | _=>cases hx
 | call c =>
   simp only[ho] at hx;cases hc:c.callee with
   | value fo =>
     simp only[hc] at hx;cases fo with
     | func f=>exact qK hrec (capv:=#[]) ho hc rfl .nil hx hh hf hK hZ
     | tmp t =>
       simp only at hx;split at hx
       . split at hx
         . rename_i f caps ht;split at hx
           . rename_i hok;rw[zbr _ _ _ _ _ hok] at hx;have hv:VR g.im g.io (.fn f caps) (a.eval (.tmp t)):=hf.getD ht;generalize hev:a.eval (.tmp t)=fv at hv;cases hv with
             | fn _ _ cv hl hcv=>exact qK hrec (capv:=cv) ho hc hev ⟨by simpa using hl,fun i x y h1 h2=>hcv i x y h1 (by simpa using h2)⟩ hx hh hf hK hZ
           . cases hx
         . rename_i f pre ht;have hv:VR g.im g.io (.bf f pre) (a.eval (.tmp t)):=hf.getD ht;generalize hev:a.eval (.tmp t)=fv at hv;cases hv with
           | bf _ _ cv hl hcv=>exact qJ hrec (prev:=cv.toList) ⟨by simpa using hl,fun i x y h1 h2=>hcv i x y h1 (by simpa using h2)⟩ (fun fn hfn hb hn=>zlr ho hc hev hfn hb hn) hx hh hf hK hZ
         . rename_i mt nm ht;have hv:VR g.im g.io (.mo mt nm) (a.eval (.tmp t)):=hf.getD ht;generalize hev:a.eval (.tmp t)=fv at hv;cases hv;unfold zuv at hx;split at hx
           . rename_i x rest hargs;split at hx
             . rename_i v F1 h1 he;split at hx
               . rename_i hti;split at hx
                 . rename_i f r hme;obtain⟨g1,a1,a2,a3,a4⟩:=Qk hh hf he;obtain⟨z,hz,hrun⟩:=zf7 hme a4;obtain⟨d,hd⟩:=Option.isSome_iff_exists.1 hti.2;exact qJ hrec (prev:=[z]) (.cons hz .nil) (fun fn hfn hb hn=>zqm ho hc hev hargs hd hti.1 hrun hfn hb hn) hx a1 a2 (fun F' h' g' v w' k1 k2 k3 k4=>hK F' h' g' v w' k1 k2 k3 (a3.trans k4)) (fun x F' h' g' v w' k1 k2 k3 k4 k5=>hZ x F' h' g' v w' k1 k2 k3 k4 (a3.trans k5))
                 . cases hx
               . cases hx
             . cases hx
           . cases hx
         . cases hx
       . split at hx
         . rename_i f caps ht;split at hx
           . rename_i hok;rw[zbr _ _ _ _ _ hok] at hx;have hv:VR g.im g.io (.fn f caps) (a.eval (.tmp t)):=hf.getD ht;generalize hev:a.eval (.tmp t)=fv at hv;cases hv with
             | fn _ _ cv hl hcv=>exact qK hrec (capv:=cv) ho hc hev ⟨by simpa using hl,fun i x y h1 h2=>hcv i x y h1 (by simpa using h2)⟩ hx hh hf hK hZ
           . cases hx
         . cases hx
     | _=>cases hx
   | invoke rcv m =>
     simp only[hc] at hx;split at hx
     . rename_i t v hev;split at hx
       . rename_i f r hme;have hv:=ZW hf hev;generalize hrv:a.eval rcv=rv at hv;cases hv with
         | iface _ _ y hy =>
           obtain⟨z,hz,hrun⟩:=zf7 hme hy;exact qJ hrec (prev:=[z]) (.cons hz .nil) (fun fn hfn hb hn=>ztd ho hc hrv hrun hfn hb hn) hx hh hf hK hZ
       . cases hx
     . cases hx
   | builtin b =>
     simp only[hc] at hx;unfold zfs at hx;split at hx
     . rename_i t x hts has;split at hx
       . rename_i e hu;split at hx
         . exact fin (zql ho hc hts has hu (by assumption) hh hf) hx hK
         . cases hx
       . rename_i hu;split at hx
         . exact fin (zhg ho hc hts has hu (by assumption) hh hf) hx hK
         . cases hx
       . rename_i k e hu;split at hx
         . split at hx
           . exact fin (zhh ho hc hts has hu (by assumption) (by assumption) hh hf) hx hK
           . cases hx
         . cases hx
       . cases hx
     . rename_i t t' s y hts has;split at hx
       . rename_i hit;obtain⟨kn,hkn⟩:∃ kn,P.underlying t'=some (.int kn):=by
          unfold zg6 at hit;split at hit
          . exact⟨_,by assumption⟩
          . cases hit
         split at hx
         . rename_i e sz z n x he hz hy hs;split at hx
           . rename_i hcond;obtain⟨c3,c4⟩:=hcond;split at hx
             . rename_i hcd;obtain⟨c1,c2⟩:=hcd;obtain⟨s1,rfl⟩:∃ s1,x=.sl s1 [] true:=by
                unfold zg7 at c1;split at c1
                . exact⟨_,rfl⟩
                . cases c1
               have hvv:=hf.getD hs;rw[QX hf] at hvv;exact fin (zbD ho hc hts has he hkn hz c4 hy c2 c3 hvv hh hf) hx hK
             . split at hx
               . rename_i hcd;split at hx
                 . rename_i yy h' hap;cases x with
                   | row b sz1 lo hi =>
                     simp only[Ws] at hap;split at hap
                     . rename_i e1 sz2 l zz hb;split at hap
                       . rename_i hcd;cases hap;obtain⟨⟨rfl,rfl,rfl⟩,⟨c5,c6⟩,c7⟩:=hcd;exact fin (zcv ho hc hts has (QX hf _) he hkn hz c4 hy c3 hs hb c5 c6 c7 hh hf) hx hK
                       . cases hap
                     . cases hap
                   | _=>simp[zmL] at hcd
                 . cases hx
               . split at hx
                 . rename_i hcd0 _ hnil;obtain⟨s1,rfl⟩:∃ s1,x=.sl s1 [] true:=by
                    unfold zg7 at hnil;split at hnil
                    . exact⟨_,rfl⟩
                    . cases hnil
                   obtain rfl:n=0:=Nat.eq_zero_of_not_pos fun h0=>hcd0 ⟨rfl,h0⟩;exact fin (zdx ho hc hts has (QX hf _) he hkn hy hs hh hf) hx hK
                 . cases hx
           . cases hx
         . cases hx
       split at hx
       . rename_i e sz sz' news x he hy hs;split at hx
         . rename_i hcond;obtain⟨rfl,hsz⟩:=hcond;split at hx
           . rename_i yv;split at hx
             . split at hx
               . rename_i z h' hz;cases yv with
                 | row b sz1 lo hi =>
                   simp only[Ws] at hz;split at hz
                   . rename_i e1 sz2 l zz hb;split at hz
                     . rename_i hcd;cases hz;obtain⟨⟨rfl,rfl,rfl⟩,⟨c1,c2⟩,c3⟩:=hcd;exact fin (zdu ho hc hts has (QX hf _) he hy hsz hs hb c1 c2 c3 hh hf) hx hK
                     . cases hz
                   . cases hz
                 | sl s1 l1 b1 =>
                   simp only[Ws] at hz;split at hz
                   . rename_i hem;obtain⟨hne,rfl⟩:=hem;have:news=[]:=by simpa using hne
                     subst this;cases hz;exact fin (zdv ho hc hts has (QX hf _) he hy hs hh hf) hx hK
                   split at hz
                   . cases hz;exact fin (zek ho hc hts has (QX hf _) he hy hsz hs rfl (by assumption) hh hf) hx hK
                   . cases hz
                 | _=>cases hz
               . cases hx
             . split at hx
               . exact fin (zc2 ho hc hts has (QX hf _) he hy hsz hs (by assumption) hh hf) hx hK
               . cases hx
           . split at hx
             . exact fin (zc2 ho hc hts has (QX hf _) he hy hsz hs (by assumption) hh hf) hx hK
             . cases hx
         . cases hx
       . cases hx
     . rename_i t t' y hts has;split at hx
       . rename_i e sz sz' news he hy;split at hx
         . rename_i hcond;obtain⟨rfl,hsz⟩:=hcond;split at hx
           . exact fin (zdw ho hc hts has he hy hsz (by assumption) hh hf) hx hK
           . cases hx
         . cases hx
       . cases hx
     . split at hx
       . split at hx
         . exact fin (zmR (mx:=false) ho hc (by assumption) (by assumption) hh hf) hx hK
         . cases hx
       . cases hx
     . split at hx
       . split at hx
         . exact fin (zmR (mx:=true) ho hc (by assumption) (by assumption) hh hf) hx hK
         . cases hx
       . cases hx
     . cases hx
 | makeInterface t x =>
   simp only[ho] at hx;split at hx
   . cases hx
   . rename_i hi;split at hx
     . exact fin (zeg ho (by simpa using hi) (by assumption) (by assumption) hh hf) hx hK
     . cases hx
 | typeAssert x xt t ok =>
   simp only[ho] at hx;split at hx
   . split at hx
     . exact fin (zdz ho (by assumption) (by assumption) hh hf) hx hK
     . cases hx
   . cases hx
 | panic x =>
   simp only[ho] at hx;split at hx
   . rename_i t v F1 h1 he;obtain⟨g1,a1,a2,a3,a4⟩:=Qk hh hf he;generalize hev:a.eval x=xv at a4;cases a4 with
     | iface _ _ y hy =>
       have hrun:(execOp a.eval o).run P w=.halt (.panic (.iface t y)) w:=by simp[execOp,ho,hev,Instr.panic]
       unfold Oper.wp;rw[hrun,Oper.upon_panic];exact hZ _ _ _ g1 _ w hx a1 (.iface t v y hy) a2 a3
   . cases hx
 | _=>simp only[ho] at hx;cases hx
end
end Go.L
namespace Go.L
open Go.RowKit
def Pres(ms:List Nat)(a a':Act):Prop:=a'.defers=a.defers/\a'.tmps.size=a.tmps.size/\∀ s,s ∉ ms->a'.tmps.getD s undef=a.tmps.getD s undef
theorem Pres.refl(ms:List Nat)(a:Act):Pres ms a a:=⟨rfl,rfl,fun _ _=>rfl⟩
theorem Pres.trans{ms:List Nat}{a b c:Act}(h:Pres ms a b)(k:Pres ms b c):Pres ms a c:=⟨k.1.trans h.1,k.2.1.trans h.2.1,fun s hs=>(k.2.2 s hs).trans (h.2.2 s hs)⟩
theorem Pres.put{ms:List Nat}(a:Act)(d:Option Nat)(v:Value)(hd:∀ k,d=some k->k∈ms):Pres ms a (a.put d v):=by
 cases d with
 | none=>exact .refl _ _
 | some k=>exact⟨rfl,by simp[Act.put],fun s hs=>getD_set_ne (by rintro rfl;exact hs (hd _ rfl))⟩
def ExR (g : G) : Ex -> Exit -> Prop
 | .nrm,.normal=>True
 | .ex i,.exit j=>i=j
 | .ret,.ret=>True
 | .pan x,.panic ch=>∃ v,ch=[{ v,recovered:=false }]/\VR g.im g.io x v
 | _,_=>False
section
variable {vc:Bool} {P:Program} {gc keep:FuncId->Bool} {rec:Rec} {R:Type} {r:R}
theorem ziL{o:Oper}{ts:List TypeId}{args:List Operand}{F:List S}{h:ze}{K:List S->ze->Option R}:zfs P vc o .min ts args F h K=(match YW F h args with|some vs=>(match mm false vs with|some v=>K (put F o.dst (.v v)) h|none=>none)|none=>none):=by
 unfold zfs;rfl
theorem ziM{o:Oper}{ts:List TypeId}{args:List Operand}{F:List S}{h:ze}{K:List S->ze->Option R}:zfs P vc o .max ts args F h K=(match YW F h args with|some vs=>(match mm true vs with|some v=>K (put F o.dst (.v v)) h|none=>none)|none=>none):=by
 unfold zfs;rfl
theorem zqn{mx:Bool}{vs:List V}{v:V}(h:mm mx vs=some v):∃ k p q,vs=[.int k p,.int k q]:=by
 unfold mm at h;split at h
 . split at h
   . rename_i hk;subst hk;exact⟨_,_,_,rfl⟩
   . cases h
 . cases h
theorem zqo{o:Oper}{a:Act}{g:G}{w:World}{F:List S}{h:ze}{K:List S->ze->Option R}{Z:V->List S->ze->Option R}(hx:opx P rec keep gc vc o F h K Z=some r)(hf:Finv g F a.tmps w):∀ x∈TR.asserted P o.op,TR.isInt (a.eval x)=true:=by
 have hint:∀ x k n,evV F x=some (.int k n)->TR.isInt (a.eval x)=true:=fun x k n he=>by
  have:=ZW hf he;generalize a.eval x=v at this;cases this;rfl
 have hint2:∀ (os:List Operand) (vs:List V),YW F h os=some vs->(∃ k p q,vs=[.int k p,.int k q])->∀ x∈os,TR.isInt (a.eval x)=true:=fun os vs he hv x hx=>by
  obtain⟨k,p,q,rfl⟩:=hv;obtain⟨i,hi⟩:=XM.1 hx;have hlen:os.length=2:=by
   have:∀ {os:List Operand} {vs:List V},YW F h os=some vs->os.length=vs.length:=by
    intro os
    induction os with
    | nil=>intro vs h;cases h;rfl
    | cons o os ih =>
      intro vs h;unfold YW at h;split at h
      . cases h;simp[ih (by assumption)]
      . cases h
   simpa using this he
  have hlt:=(zj.1 hi).1;have:i=0\/i=1:=by omega
  rcases this with rfl|rfl
  . obtain⟨y,hy,hv⟩:=jq he hf 0 k p rfl;rw[hi] at hy;cases hy;rw[hv];rfl
  . obtain⟨y,hy,hv⟩:=jq he hf 1 k q rfl;rw[hi] at hy;cases hy;rw[hv];rfl
 intro x hm;unfold TR.asserted at hm;split at hm
 . rename_i op t y z t' ho;split at hm
   . rename_i hi;obtain⟨k,hu⟩:=TR.intT_spec hi;unfold opx at hx;simp only[ho] at hx;split at hx
     . rename_i p q hp hq;split at hx
       . rename_i v hb;rw[zqd hu] at hb;unfold bop at hb;rw[hu] at hb;split at hb <;> rename_i e1 <;> first|(cases e1;done)|skip
         . have hm':=(Zj.1 hm).1;rcases zN.1 hm' with rfl|hm'
           . exact hint _ _ _ hp
           . rcases zN.1 hm' with rfl|hm'
             . exact hint _ _ _ hq
             . cases hm'
         . cases hb
       . cases hx
     . cases hx
   . cases hm
 . rename_i s d y ho;split at hm
   . rename_i hi;rw[zE] at hi;obtain⟨k,hu⟩:=TR.intT_spec hi.1;obtain⟨k',hu'⟩:=TR.intT_spec hi.2;unfold opx at hx;have hcs:zoh P s d=false:=by unfold zoh;rw[hu,hu']
     simp only[ho,hcs,zt,if_false] at hx;split at hx
     . rename_i p hp;split at hx
       . rename_i v hb;unfold cvt at hb;rw[hu,hu'] at hb;split at hb <;> rename_i e1 e2 <;> first|(cases e1;done)|skip
         . have hm':=(Zj.1 hm).1;rcases zN.1 hm' with rfl|hm'
           . exact hint _ _ _ hp
           . cases hm'
         . cases hb
       . cases hx
     . cases hx
   . cases hm
 . rename_i args ts ho;unfold opx at hx;simp only[ho] at hx;rw[ziL] at hx;split at hx
   . rename_i vs hv;split at hx
     . rename_i v hmm;exact hint2 _ vs hv (zqn hmm) x (Zj.1 hm).1
     . cases hx
   . cases hx
 . rename_i args ts ho;unfold opx at hx;simp only[ho] at hx;rw[ziM] at hx;split at hx
   . rename_i vs hv;split at hx
     . rename_i v hmm;exact hint2 _ vs hv (zqn hmm) x (Zj.1 hm).1
     . cases hx
   . cases hx
 . cases hm
def lst(P:Program)(as_:Bool)(l:List Oper):List Oper:=if as_ then TR.withAsserts P l else l
theorem za6 {all : Array Oper} {Q : Exit -> Act -> World -> Prop} {o : Oper} {a : Act} {w : World} {rest : List Oper} : ∀ (xs : List Operand), (∀ x ∈ xs, (TR.isInt (a.eval x) || !Region.wanted o (yielded all a.tmps)) = true) -> wpList P all Q rest a w -> wpList P all Q (xs.map (TR.assertOp o) ++ rest) a w
 | [],_,h=>h
 | x :: xs,hx,h=>TR.wpList_assert (hx x (by simp)) (za6 xs (fun y hy=>hx y (by simp[hy])) h)
theorem zep(hrec:RecOk P gc rec)(as_:Bool)(all:Array Oper){Z:V->List S->ze->Option R}{K:List S->ze->Option R}{Q:Exit->Act->World->Prop}(ms:List Nat):∀ (l:List Oper) (F:List S) (h:ze) (g:G) (a:Act) (w:World),
    zdo P rec keep gc vc all Z l F h K=some r->Hinv g h w->Finv g F a.tmps w->(∀ o∈l,∀ d,o.dst=some d->d∈ms) →
    (∀ F' h' g' a' w',K F' h'=some r->Hinv g' h' w'->Finv g' F' a'.tmps w'->Step g w g' w'->Pres ms a a'->Q .normal a' w') →
    (∀ x F' h' g' a' v w',Z x F' h'=some r->Hinv g' h' w'->VR g'.im g'.io x v->Finv g' F' a'.tmps w'->Step g w g' w'->Pres ms a a'->Q (.panic [{ v,recovered:=false }]) a' w') →
    wpList P all Q (lst P as_ l) a w
 | [],F,h,g,a,w,hx,hh,hf,hms,hK,hZ=>by
   have:lst P as_ []=[]:=by unfold lst;cases as_ <;> rfl
   rw[this];exact hK F h g a w hx hh hf (.refl _ _) (.refl _ _)
 | o :: l,F,h,g,a,w,hx,hh,hf,hms,hK,hZ=>by
   have hrest:∀ F' h' g' v w',zdo P rec keep gc vc all Z l F' h' K=some r->Hinv g' h' w'->Finv g' F' (a.put o.dst v).tmps w'->Step g w g' w'->wpList P all Q (lst P as_ l) (a.put o.dst v) w':=fun F' h' g' v w' hx' hh' hf' hs'=>by
    have hp:=Pres.put (ms:=ms) a o.dst v (fun k hk=>hms o (by simp) k hk)
    exact zep hrec as_ all ms l F' h' g' _ w' hx' hh' hf' (fun o' ho' => hms o' (by simp [ho'])) (fun F2 h2 g2 a2 w2 k1 k2 k3 k4 k5 => hK F2 h2 g2 a2 w2 k1 k2 k3 (hs'.trans k4) (hp.trans k5))
     (fun x F2 h2 g2 a2 u w2 k1 k2 k3 k4 k5 k6=>hZ x F2 h2 g2 a2 u w2 k1 k2 k3 k4 (hs'.trans k5) (hp.trans k6))
   have hlst:lst P as_ (o :: l)=(if as_ then(TR.asserted P o.op).map (TR.assertOp o) else[])++(o :: lst P as_ l):=by
    unfold lst;cases as_ <;> simp[TR.withAsserts]
   have hdo:∀ F,opx P rec keep gc vc o F h (fun F h=>zdo P rec keep gc vc all Z l F h K) Z=some r->Finv g F a.tmps w->Region.wanted o (yielded all a.tmps)=true->wpList P all Q (lst P as_ (o :: l)) a w:=fun F hx hf hw=>by
    rw[hlst];have hmain:wpList P all Q (o :: lst P as_ l) a w:=by
     unfold wpList;rw[if_pos hw];left;exact zau hrec hx hh hf hrest (fun x F' h' g' v w' k1 k2 k3 k4 k5=>hZ x F' h' g' a v w' k1 k2 k3 k4 k5 (.refl _ _))
    cases as_ with
    | false=>exact hmain
    | true=>exact za6 _ (fun x hxm=>by rw[zqo hx hf x hxm];rfl) hmain
   have hskip:∀ F,zdo P rec keep gc vc all Z l (put F o.dst .sk) h K=some r->Finv g F a.tmps w->Region.wanted o (yielded all a.tmps)=false->wpList P all Q (lst P as_ (o :: l)) a w:=fun F hx hf hw=>by
    rw[hlst];have hmain:wpList P all Q (o :: lst P as_ l) a w:=by
     unfold wpList;rw[if_neg (by rw[hw];simp)];exact hrest _ _ g undef w hx hh (hf.put o.dst .sk undef (fun k _ _=>rfl) (fun k e sz i c _ he=>by cases he)) (.refl _ _)
    cases as_ with
    | false=>exact hmain
    | true=>exact za6 _ (fun x hxm=>by rw[hw];simp) hmain
   unfold zdo at hx;simp only[je] at hx;split at hx
   . rename_i hg;exact hdo F hx hf (by simp[Region.wanted,hg])
   . rename_i j want hg;split at hx
     . rename_i d hd;split at hx
       . rename_i b hb;have hbv:VR g.im g.io (.bool b) (a.eval (.tmp d)):=hf.getD hb;have hlt:d < a.tmps.size:=by rw[<- hf.len];exact(zj.1 hb).1
         have hval:a.tmps[d]?=some (.bool b):=by
          generalize hev:a.eval (.tmp d)=v at hbv;cases hbv;rw[Za hlt];have:a.tmps.getD d undef=.bool b:=hev;rw[zY,Za hlt] at this;exact congrArg some this
         have hy:yielded all a.tmps j=some b:=by
          unfold yielded;rw[hd];simp[hval]
         have hw:Region.wanted o (yielded all a.tmps)=(some b == some want):=by simp[Region.wanted,hg,hy]
         have hset:F.set d (.v (.bool b))=F:=by
          apply ZM;intro i;rw[Zd];split
          . rename_i e;subst e;rw[hb,if_pos (zj.1 hb).1]
          . rfl
         cases b with
         | true =>
           simp only[if_true] at hx;rw[hset] at hx;cases want with
           | true=>exact hdo F (by simpa using hx) hf (by rw[hw];rfl)
           | false=>exact hskip F (by simpa using hx) hf (by rw[hw];rfl)
         | false =>
           simp only[zt,if_false] at hx;rw[hset] at hx;cases want with
           | true=>exact hskip F (by simpa using hx) hf (by rw[hw];rfl)
           | false=>exact hdo F (by simpa using hx) hf (by rw[hw];rfl)
       . rename_i hb;have hsk:a.eval (.tmp d)=undef:=hf.getD hb;have hlt:d < a.tmps.size:=by rw[<- hf.len];exact(zj.1 hb).1
         have hy:yielded all a.tmps j=none:=by
          unfold yielded;rw[hd];have:a.tmps[d]?=some undef:=by
           rw[Za hlt];have:a.tmps.getD d undef=undef:=hsk;rw[zY,Za hlt] at this;exact congrArg some this
          simp[this,undef]
         exact hskip F hx hf (by simp[Region.wanted,hg,hy])
       . cases hx
     . cases hx
end
end Go.L
namespace Go.L
open Go.RowKit
def J3(gc:FuncId->Bool)(rec:Rec):Prop:=∀ f args r h',gc f=true->rec f args []=some (r,h')->∀ h,rec f args h=some (r,h)
section
variable {vc:Bool} {P:Program} {o:Oper} {F:List S} {h:ze} {gc keep:FuncId->Bool} {rec:Rec}
theorem KA{d:Option Nat}(hd:JA F d=true)(s:S):put F d s=QL F (wr d s):=by
 cases d with
 | none=>rfl
 | some d =>
   unfold JA at hd;unfold put wr QL;simp only at hd ⊢;split at hd <;> first|(cases hd;done)|skip
   rename_i h1 h2 h3 h4;split
   . rename_i e;exact(h1 _ _ _ e).elim
   . rename_i e;exact(h2 _ _ e).elim
   . rename_i e;exact(h3 e).elim
   . rfl
theorem zv9{s:Nat}{x:V}(h:F[s]?=some (.v x)):rt F s=s:=by unfold rt;rw[h]
theorem zeq{x:Operand}{v:V}(hx:evV F x=some v):evE vc F h x=some (v,F,h):=by
 cases x with
 | tmp t =>
   simp only[evV] at hx;simp only[evE];split at hx
   . rename_i y hy;cases hx;simp only[hy]
   . cases hx
 | const c=>simp only[evV] at hx;simp only[evE,hx];rfl
 | func f=>cases hx;rfl
 | global g=>cases hx
theorem Wd : ∀ {xs : List Operand} {vs : List V}, jf F xs = some vs -> YL vc F h xs = some (vs, F, h)
 | [],vs,hx=>by cases hx;rfl
 | x :: xs,vs,hx=>by
   unfold jf at hx;split at hx
   . rename_i v vs' h1 h2;cases hx;unfold YL;simp only[zeq h1,Wd h2]
   . cases hx
theorem zhn{x:Operand}{cs:List V}{n c:Nat}(hx:place F h x=some (cs,n,c)){R:Type}(K:List V->Nat->Nat->Option R):YN F h x K=K cs n c:=by
 cases x with
 | tmp s =>
   unfold place at hx;unfold YN;cases hs:F[s]? with
   | none=>simp[hs] at hx
   | some y =>
     cases y with
     | bx n' cs'=>simp only[hs] at hx ⊢;cases hx;rfl
     | fp d sz i c' =>
       simp only[hs] at hx ⊢;cases hd:F[d]? with
       | none=>simp[hd] at hx
       | some z =>
         cases z with
         | bx n' cs' =>
           simp only[hd] at hx ⊢;by_cases hi:i=0
           . rw[if_pos hi] at hx ⊢;cases hx;rfl
           . rw[if_neg hi] at hx;cases hx
         | own e sz' l =>
           simp only[hd] at hx ⊢;by_cases hi:sz'=sz/\0 < sz
           . rw[if_pos hi] at hx ⊢;cases he:l[i]? with
             | none=>simp[he] at hx
             | some es=>simp only[he] at hx ⊢;cases hx;rfl
           . rw[if_neg hi] at hx;cases hx
         | _=>simp[hd] at hx
     | v z=>simp only[hs] at hx ⊢;rw[hx]
     | _=>simp[hs] at hx
 | _=>cases hx
theorem qL{k:Nat}{x:Operand}{d:Option Nat}{R:Type}{K:S->Option R}{r:R}(hm:Kj F k x d K=some r):∃ s,K s=some r/\∀ (R':Type) (K':S->Option R'),Kj F k x d K'=K' s:=by
 cases x with
 | tmp t =>
   simp only[Kj] at hm ⊢;split at hm
   . split at hm
     . cases hm
     . rename_i hd;exact⟨_,hm,fun R' K'=>if_neg hd⟩
   . split at hm
     . cases hm
     . rename_i ha;split at hm
       . cases hm
       . rename_i hd;exact⟨_,hm,fun R' K'=>by rw[if_neg ha,if_neg hd]⟩
   . split at hm
     . rename_i z hz;exact⟨_,hm,fun R' K'=>by simp only[hz]⟩
     . cases hm
   . cases hm
 | _=>cases hm
theorem ziN{vs:List V}{x:Operand}{R:Type}{K:List (Nat×S)->HE->Option R}{r:R}(hx:KQ F h vs x K=some r):∃ us hs,K us hs=some r ∧
    (∀ (R':Type) (K':List (Nat×S)->HE->Option R'),KQ F h vs x K'=K' us hs)/\(∀ (R':Type) (K':List S->ze->Option R'),zd3 F h vs x K'=K' (QL F us) (XA h hs))/\∀ p∈us,∃ y,F[p.1]?=some y/\lin y=true:=by
 cases x with
 | tmp s =>
   simp only[KQ] at hx;simp only[KQ,zd3];split at hx
   . rename_i n cs h1;split at hx
     . rename_i hc;refine⟨_,_,hx,?_⟩;simp only[h1,hc,if_true,QL,XA,Qc,implies_true,true_and];intro p hp;rw[ZE] at hp;subst hp;exact⟨_,h1,rfl⟩
     . cases hx
   . rename_i d sz i c' h1;split at hx
     . rename_i n cs h2;split at hx
       . rename_i hi;refine⟨_,_,hx,?_⟩;simp only[h1,h2,hi,and_self,if_true,QL,XA,Qc,implies_true,true_and];intro p hp;rw[ZE] at hp;subst hp;exact⟨_,h2,rfl⟩
       . cases hx
     . rename_i e sz' l h2;split at hx
       . rename_i hi;split at hx
         . rename_i es he;refine⟨_,_,hx,?_⟩;simp only[h1,h2,hi,and_self,if_true,he,QL,XA,Qc,implies_true,true_and];intro p hp;rw[ZE] at hp;subst hp;exact⟨_,h2,rfl⟩
         . cases hx
       . cases hx
     . cases hx
   . rename_i y h1;split at hx
     . rename_i b x h2;refine⟨_,_,hx,?_⟩;simp only[h1,h2,QL,XA,Qc,implies_true,true_and];intro p hp;cases hp
     . cases hx
   . cases hx
 | _=>cases hx
theorem YC : ∀ (us vs : List (Nat × S)) (F : List S), QL F (us ++ vs) = QL (QL F us) vs
 | [],_,_=>rfl
 | (k,s) :: us,vs,F=>by simp only[Z4,QL];exact YC us vs _
theorem zer : ∀ (us : List (Nat × S)) (F : List S), (QL F us).length = F.length
 | [],_=>rfl
 | (k,s) :: us,F=>by simp only[QL];rw[zer us];simp
theorem zdK : ∀ (us : List (Nat × S)) (F : List S) (k : Nat), k ∉ us.map (·.1) -> (QL F us)[k]? = F[k]?
 | [],_,_,_=>rfl
 | (j,s) :: us,F,k,hk=>by
   simp only[zW,zN,not_or] at hk;simp only[QL];rw[zdK us _ k hk.2,zd (fun e=>hk.1 e.symm)]
theorem zgc{us:List (Nat×S)}{d:Option Nat}(hd:JA F d=true)(hl:∀ p∈us,∃ y,F[p.1]?=some y/\lin y=true):JA (QL F us) d=true:=by
 cases d with
 | none=>rfl
 | some d =>
   unfold JA at hd ⊢;simp only at hd ⊢;rw[zdK]
   . exact hd
   . intro hm;obtain⟨p,hp,rfl⟩:=ZL.1 hm;obtain⟨y,hy,hly⟩:=hl p hp;rw[hy] at hd;cases y <;> simp[lin] at hly <;> simp at hd
theorem Kd{f:FuncId}{d:Option Nat}{vs:List V}{he:HE}(hd:JA F d=true){R:Type}{K:List (Nat×S)->HE->Option R}{r:R}(hx:zdq P f d vs he K=some r):∃ us,K us he=some r ∧
    (∀ (R':Type) (K':List (Nat×S)->HE->Option R'),zdq P f d vs he K'=K' us he)/\(∀ (R':Type) (K':List S->ze->Option R') (h:ze),zco P f d vs F h K'=K' (QL F us) h):=by
 have hp:∀ s,put F d s=QL F (wr d s):=fun s=>KA hd s;unfold zdq at hx;unfold zdq zco;split at hx
 . rename_i h1;split at hx
   . refine⟨_,hx,?_⟩;simp only[h1,if_true,hp,implies_true,and_self]
   . cases hx
 . rename_i h1;refine⟨_,hx,?_⟩;simp only[h1,if_false,hp,implies_true,and_self,zt]
theorem zes{d:Option Nat}(hd:JA F d=true){t:Nat}{y:S}(hy:F[t]?=some y)(hl:lin y=true)(x:S):put (F.set t .gone) d x=QL F ((t,.gone) :: wr d x):=by
 have:=zgc (us:=[(t,S.gone)]) hd (fun p hp=>by rw[ZE] at hp;subst hp;exact⟨y,hy,hl⟩);exact KA this x
theorem zou(hd:JA F o.dst=true){k e:Nat}{args:List Operand}{R:Type}{K:List (Nat×S)->HE->Option R}{r:R}(hx:qC o k e args F h K=some r):∃ us,K us (.sets [])=some r ∧
    (∀ (R':Type) (K':List (Nat×S)->HE->Option R'),qC o k e args F h K'=K' us (.sets []))/\(∀ (R':Type) (K':List S->ze->Option R') (h2:ze),zio o k e args F h (fun F=>K' F h2)=K' (QL F us) h2):=by
 unfold qC at hx;split at hx
 . split at hx
   . rename_i sz l h1;split at hx
     . rename_i hc;refine⟨_,hx,?_⟩;simp only[qC,zio,h1,hc,and_self,if_true,KA hd,implies_true]
     . cases hx
   . cases hx
 . split at hx
   . rename_i sz l h1;split at hx
     . rename_i hc;refine⟨_,hx,?_⟩;simp only[qC,zio,h1,hc,and_self,if_true,KA hd,implies_true]
     . cases hx
   . cases hx
 . split at hx
   . rename_i h1 h2 h3;split at hx
     . rename_i hc;refine⟨_,hx,?_⟩;simp only[qC,zio,h1,h2,h3,hc,and_self,if_true,zes hd h1 rfl,implies_true,not_false_eq_true,ne_eq]
     . cases hx
   . cases hx
 . split at hx
   . rename_i h1 h2 h3;split at hx
     . rename_i hc;refine⟨_,hx,?_⟩;simp only[qC,zio,h1,h2,h3,hc,and_self,if_true,zes hd h1 rfl,implies_true]
     . cases hx
   . cases hx
 . cases hx
theorem zte{F F':List S}{h h':ze}{x:Operand}{v:V}(hx:evE vc F h x=some (v,F',h')):F'.length=F.length:=by
 cases x with
 | tmp t =>
   simp only[evE] at hx;split at hx
   . cases hx;rfl
   . split at hx <;> (cases hx;simp)
   . cases hx;simp[YV]
   . split at hx
     . split at hx
       . split at hx <;> (cases hx;simp)
       . cases hx
     . split at hx
       . cases hx;simp[YV]
       . cases hx
     . cases hx
   . cases hx
 | const c =>
   simp only[evE] at hx;cases hv:ofValue c with
   | none=>simp[hv] at hx
   | some y=>simp[hv] at hx;rw[hx.2.1]
 | func f=>cases hx;rfl
 | global g=>cases hx
theorem zbH : ∀ {xs : List Operand} {F F' : List S} {h h' : ze} {vs : List V}, YL vc F h xs = some (vs, F', h') -> F'.length = F.length
 | [],F,F',h,h',vs,hx=>by cases hx;rfl
 | x :: xs,F,F',h,h',vs,hx=>by
   unfold YL at hx;split at hx
   . rename_i v F1 h1 e1;split at hx
     . rename_i vs2 F2 h2 e2;cases hx;rw[zbH e2,zte e1]
     . cases hx
   . cases hx
theorem zgd : ∀ (L : List S) (k : Nat) (F : List S), k + L.length <= F.length -> ∀ j, (QL F ((L.zipIdx k).map fun p => (p.2, p.1)))[j]? = if k <= j /\ j < k + L.length then L[j - k]? else F[j]?
 | [],k,F,hl,j=>by
   rw[if_neg (by intro h;simp at h;omega)];rfl
 | x :: L,k,F,hl,j=>by
   simp only[zD] at hl;simp only[List.zipIdx_cons,zW,QL];rw[zgd L (k+1) _ (by simp;omega)];simp only[zD];by_cases h1:k+1<=j/\j < k+1+L.length
   . rw[if_pos h1,if_pos (by omega),show j - k=(j - (k+1))+1 from by omega,zh]
   . rw[if_neg h1];by_cases h2:j=k
     . subst h2;rw[if_pos (by omega),Zf (by omega),X8];rfl
     . rw[if_neg (by omega),zd (Ne.symm h2)]
theorem zcx{F' F:List S}(hl:F'.length=F.length):QL F (zd6 F')=F':=by
 apply ZM;intro j;unfold zd6;rw[zgd F' 0 F (by omega)];by_cases hj:j < F'.length
 . rw[if_pos (by omega),Nat.sub_zero]
 . rw[if_neg (by omega),zS (by omega),zS (by omega)]
theorem ziO(hloc:J3 gc rec)(hd:JA F o.dst=true){f:FuncId}{caps:List V}{args:List Operand}{R:Type}{K:List (Nat×S)->HE->Option R}{r:R}(hx:QR P rec keep gc vc o f caps args F h K=some r):∃ us hs,K us hs=some r ∧
    (∀ (R':Type) (K':List (Nat×S)->HE->Option R'),QR P rec keep gc vc o f caps args F h K'=K' us hs)/\(∀ (R':Type) (K':List S->ze->Option R') (Z:V->List S->ze->Option R'),zcp P rec keep gc vc o f caps args F h K' Z=K' (QL F us) (XA h hs)):=by
 unfold QR at hx;unfold QR zcp;split at hx
 . rename_i k e hnf;split at hx
   . rename_i hc;obtain⟨us,k1,k2,k3⟩:=zou hd hx;refine⟨us,.sets [],k1,?_⟩;simp only[hc,if_true,k2,k3,XA,Qc,implies_true,and_self]
   . cases hx
 split at hx
 . rename_i hg;split at hx
   . rename_i hk;split at hx
     . rename_i vs h1;split at hx
       . rename_i vs' h' h2;obtain⟨us,k1,k2,k3⟩:=Kd hd hx;refine⟨us,.sets [],k1,?_⟩;simp only[hg,hk,if_true,h1,h2,k2,Wd h1,hloc f _ _ _ hg h2 h,k3,XA,Qc,implies_true,and_self]
       . cases hx
     . cases hx
   . rename_i hk;split at hx
     . rename_i vs h1;split at hx
       . rename_i vs' h' h2;split at hx
         . rename_i h3;obtain⟨us,k1,k2,k3⟩:=Kd hd hx;refine⟨us,.sets [],k1,?_⟩;simp only[hg,hk,if_true,if_false,h1,h2,k2,h3,hloc f _ _ _ hg h2 h,k3,XA,Qc,implies_true,and_self,zt]
         . cases hx
       . cases hx
     . cases hx
 . rename_i hg;split at hx
   . rename_i hk;split at hx
     . rename_i vs h1;split at hx
       . rename_i vs' h' h2;obtain⟨us,k1,k2,k3⟩:=Kd hd hx;refine⟨us,.all h',k1,?_⟩;simp only[hg,hk,if_true,if_false,h1,h2,k2,Wd h1,k3,XA,implies_true,and_self,zt]
       . cases hx
     . rename_i h1;split at hx
       . rename_i vs F' h0 h2;split at hx
         . rename_i hd2;split at hx
           . rename_i vs' h' h3;obtain⟨us,k1,k2,k3⟩:=Kd hd2 hx;refine⟨_,.all h',k1,?_⟩;have e1:∀ us,QL F (zd6 F'++us)=QL F' us:=fun us=>by rw[YC,zcx (zbH h2)]
             refine⟨fun R' K'=>?_,fun R' K' Z=>?_⟩
             . simp only[hg,hk,if_true,if_false,h1,h2,h3,hd2,zt];exact k2 R' (fun us e=>K' (zd6 F'++us) e)
             . simp only[hg,hk,if_true,if_false,h1,h2,h3,hd2,zt,XA,e1];exact k3 R' K' h'
           . cases hx
         . cases hx
       . cases hx
   . cases hx
theorem za7(hloc:J3 gc rec)(hd:JA F o.dst=true){f:FuncId}{caps:List V}{args:List Operand}{R:Type}{K:List (Nat×S)->HE->Option R}{r:R}(hx:WT P rec keep gc vc o f caps args F h K=some r):∃ us hs,K us hs=some r ∧
    (∀ (R':Type) (K':List (Nat×S)->HE->Option R'),WT P rec keep gc vc o f caps args F h K'=K' us hs)/\(∀ (R':Type) (K':List S->ze->Option R') (Z:V->List S->ze->Option R'),zd4 P rec keep gc vc o f caps args F h K' Z=K' (QL F us) (XA h hs)):=by
 unfold WT at hx;split at hx
 . cases hx
 . rename_i hmu;have:=ziO hloc hd hx;simp only[WT,zd4,hmu];exact this
theorem zc5(hd:JA F o.dst=true){f:FuncId}{pre:List V}{args:List Operand}{R:Type}{K:List (Nat×S)->HE->Option R}{r:R}(hx:jN P rec keep vc o f pre args F h K=some r):∃ us hs,K us hs=some r ∧
    (∀ (R':Type) (K':List (Nat×S)->HE->Option R'),jN P rec keep vc o f pre args F h K'=K' us hs)/\(∀ (R':Type) (K':List S->ze->Option R') (Z:V->List S->ze->Option R'),zd5 P rec keep vc o f pre args F h K' Z=K' (QL F us) (XA h hs)):=by
 unfold jN at hx;unfold jN zd5;split at hx
 . rename_i hc;have hok:=hc.2;have hu:∀ {R:Type} (d:Option Nat) (vs:List V) (e:HE) (K:List (Nat×S)->HE->Option R),zaL (qs P o.type) d vs e K=zdq P f d vs e K:=fun d vs e K=>by
    have hr:=hok;unfold okV at hr;rw[zE,zE,beq_iff_eq] at hr;unfold zaL zdq;rw[hr.2.2];cases qs P o.type <;> rfl
   simp only[if_pos hc];split at hx
   . rename_i vs h1;split at hx
     . rename_i vs' h' h2;rw[hu] at hx;obtain⟨us,k1,k2,k3⟩:=Kd hd hx;refine⟨us,.all h',k1,?_⟩;simp only[h1,h2,hu,zhm hok,k2,Wd h1,k3,XA,implies_true,and_self]
     . cases hx
   . rename_i h1;split at hx
     . rename_i vs F' h0 h2;split at hx
       . rename_i hd2;split at hx
         . rename_i vs' h' h3;rw[hu] at hx;obtain⟨us,k1,k2,k3⟩:=Kd hd2 hx;refine⟨_,.all h',k1,?_⟩;have e1:∀ us,QL F (zd6 F'++us)=QL F' us:=fun us=>by rw[YC,zcx (zbH h2)]
           refine⟨fun R' K'=>?_,fun R' K' Z=>?_⟩
           . simp only[h1,h2,h3,hd2,if_true,hu];exact k2 R' (fun us e=>K' (zd6 F'++us) e)
           . simp only[h2,h3,zhm hok,XA,e1];exact k3 R' K' h'
         . cases hx
       . cases hx
     . cases hx
 . cases hx
theorem zov(hd:JA F o.dst=true){b:Builtin}{ts:List TypeId}{args:List Operand}{R:Type}{K:List (Nat×S)->HE->Option R}{r:R}(hx:zaM P vc o b ts args F h K=some r):∃ us hs,K us hs=some r ∧
    (∀ (R':Type) (K':List (Nat×S)->HE->Option R'),zaM P vc o b ts args F h K'=K' us hs)/\(∀ (R':Type) (K':List S->ze->Option R') (Z:V->List S->ze->Option R'),zfs P vc o b ts args F h K'=K' (QL F us) (XA h hs)):=by
 have hp:∀ s,put F o.dst s=QL F (wr o.dst s):=fun s=>KA hd s;unfold zaM at hx;split at hx
 . rename_i t x;split at hx
   . rename_i e h1;split at hx
     . rename_i sz l h2;refine⟨_,_,hx,?_⟩;simp only[zaM,zfs,h1,h2,hp,XA,Qc,implies_true,and_self]
     . cases hx
   . cases hx
 . rename_i t t' s y;split at hx
   . rename_i e sz sz' news x h1 h2 h3;split at hx
     . rename_i hc;have hni:zg6 P t=false:=by unfold zg6;rw[(Qd h1).1]
       split at hx
       . rename_i hvc;split at hx
         . rename_i z h' h4;refine⟨_,_,hx,?_⟩;simp only[zaM,zfs,hni,zt,if_false,h1,h2,h3,zv9 h3,hc,hvc,h4,and_self,if_true,XA,hp,implies_true]
         . cases hx
       rename_i hvc;split at hx
       . rename_i l h4;refine⟨_,_,hx,?_⟩;obtain⟨s1,l1,b1,rfl⟩:∃ s1 l1 b1,x=.sl s1 l1 b1:=by
          cases x <;> first|exact⟨_,_,_,rfl⟩|(simp[app] at h4)
         have hvf:vc=false:=by simpa using hvc
         simp only[zaM,zfs,hni,h1,h2,h3,zv9 h3,hc,hvf,Bool.false_and,zt,if_false,h4,and_self,if_true,XA,Qc,implies_true,true_and];intro R' K' Z;have e1:put F (some s) .un=F.set s .un:=by unfold put;simp only[h3]
         rw[e1];have e2:JA (F.set s .un) o.dst=true:=by
          cases hdd:o.dst with
          | none=>rfl
          | some d =>
            rw[hdd] at hd;unfold JA at hd ⊢;simp only at hd ⊢;rw[Zd];by_cases e:s=d
            . subst e;simp only[(zj.1 h3).1,if_true]
            . rw[if_neg e];exact hd
         rw[KA e2];rfl
       . cases hx
     . cases hx
   . cases hx
 . split at hx
   . rename_i vs h1;split at hx
     . rename_i v h2;refine⟨_,_,hx,?_⟩;constructor
       . intro R' K';unfold zaM;split <;> simp_all
       . intro R' K' Z;rw[ziL];simp only[h1,h2,hp,XA,Qc]
     . cases hx
   . cases hx
 . split at hx
   . rename_i vs h1;split at hx
     . rename_i v h2;refine⟨_,_,hx,?_⟩;constructor
       . intro R' K';unfold zaM;split <;> simp_all
       . intro R' K' Z;rw[ziM];simp only[h1,h2,hp,XA,Qc]
     . cases hx
   . cases hx
 . cases hx
theorem zge{as_:Bool}(hd:JA F o.dst=true){x:Operand}{R:Type}{K:List (Nat×S)->HE->Option R}{r:R}(hx:jg P as_ o x F K=some r):∃ us hs,K us hs=some r ∧
    (∀ (R':Type) (K':List (Nat×S)->HE->Option R'),jg P as_ o x F K'=K' us hs)/\(∀ (R':Type) (K':List S->ze->Option R') (Z:V->List S->ze->Option R'),qB P as_ o x F h K'=K' (QL F us) (XA h hs)):=by
 have hp:∀ s,put F o.dst s=QL F (wr o.dst s):=fun s=>KA hd s;cases x with
 | tmp t =>
   simp only[jg] at hx;simp only[jg,qB];cases hs:F[t]? with
   | none=>simp[hs] at hx
   | some y =>
     cases y with
     | v a =>
       simp only[hs] at hx ⊢;exact⟨_,_,hx,by simp only[hp,XA,Qc,implies_true,and_self]⟩
     | tup a =>
       simp only[hs] at hx ⊢;exact⟨_,_,hx,by simp only[hp,XA,Qc,implies_true,and_self]⟩
     | own e sz l =>
       simp only[hs] at hx ⊢;cases as_ with
       | true =>
         simp only[if_true] at hx ⊢;exact⟨_,_,hx,by simp only[zes hd hs rfl,XA,Qc,implies_true,and_self]⟩
       | false =>
         simp only[zt,if_false] at hx ⊢;by_cases hne:o.dst=some t
         . rw[if_pos hne] at hx;cases hx
         . rw[if_neg hne] at hx;exact⟨_,_,hx,by simp only[if_neg hne,hp,XA,Qc,implies_true,and_self]⟩
     | bx m cs =>
       simp only[hs] at hx ⊢;by_cases hne:o.dst=some t
       . rw[if_pos hne] at hx;cases hx
       . rw[if_neg hne] at hx;exact⟨_,_,hx,by simp only[if_neg hne,hp,XA,Qc,implies_true,and_self]⟩
     | fp d sz i c =>
       simp only[hs] at hx ⊢;cases as_ with
       | true=>simp at hx
       | false =>
         simp only[Bool.false_or,beq_iff_eq,Bool.false_and,zt,if_false] at hx ⊢;by_cases hne:o.dst=some d
         . rw[if_pos hne] at hx;cases hx
         . rw[if_neg hne] at hx;exact⟨_,_,hx,by simp only[if_neg hne,hp,XA,Qc,implies_true,and_self]⟩
     | _=>simp[hs] at hx
 | const v =>
   simp only[jg] at hx;split at hx
   . split at hx
     . rename_i e sz he;exact⟨_,_,hx,fun R' K'=>by simp only[jg,he],fun R' K' Z=>by simp only[qB,he,hp,XA,Qc]⟩
     . cases hx
   . rename_i hn;split at hx
     . rename_i a ha;refine⟨_,_,hx,?_⟩;constructor
       . intro R' K';simp only[jg]
         first|(rw[ha];done)|(simp only[ha];done)|(split <;> simp_all)
       . intro R' K' Z;unfold qB;split
         . rename_i e;cases e
         . rename_i e;cases e;exact(hn rfl).elim
         . simp only[evV,ha,hp,XA,Qc]
     . cases hx
 | func f=>exact⟨_,_,hx,by simp only[jg,qB,evV,hp,XA,Qc,implies_true,and_self]⟩
 | global g=>cases hx
def zwa(P:Program)(rec:Rec)(keep gc:FuncId->Bool)(vc:Bool)(o:Oper)(F:List S)(h:ze)(us:List (Nat×S))(hs:HE):Prop :=
 (∀ (R':Type) (K':List (Nat×S)->HE->Option R'),zcq P rec keep gc vc o F h K'=K' us hs) ∧
 ∀ (R':Type) (K':List S->ze->Option R') (Z:V->List S->ze->Option R'),opx P rec keep gc vc o F h K' Z=K' (QL F us) (XA h hs)
set_option maxHeartbeats 2000000 in
theorem zgf (hloc : J3 gc rec) (hd : JA F o.dst = true) {R : Type} {K : List (Nat × S) -> HE -> Option R} {r : R} (hx : zcq P rec keep gc vc o F h K = some r) :
    ∃ us hs,K us hs=some r/\zwa P rec keep gc vc o F h us hs:=by
 have hp:∀ s,put F o.dst s=QL F (wr o.dst s):=fun s=>KA hd s;have hE:∀ {x v},evV F x=some v->evE vc F h x=some (v,F,h):=fun hx=>zeq hx;unfold zcq at hx;unfold zwa zcq opx;cases ho:o.op with
 | pick c a b =>
   simp only[ho] at hx ⊢;split at hx
   . rename_i h1 h2 h3;refine⟨_,_,hx,?_⟩;simp only[h1,h2,h3,hp,XA,Qc,implies_true,and_self]
   . rename_i t p h1 h2 h3;split at hx
     . rename_i ht;subst ht;refine⟨_,_,hx,?_⟩;simp only[h1,h2,h3,hp,XA,Qc,if_true,implies_true,and_self]
     . cases hx
   . rename_i t p h1 h2 h3;split at hx
     . cases hx
     . rename_i ht;refine⟨_,_,hx,?_⟩;simp only[h1,h2,h3,hp,XA,Qc,if_neg ht,implies_true,and_self]
   . cases hx
 | alloc e =>
   simp only[ho] at hx ⊢;split at hx
   . rename_i h1;refine⟨_,_,hx,?_⟩;simp only[h1,hp,XA,Qc,implies_true,and_self]
   . cases hx
 | box e x =>
   simp only[ho] at hx ⊢;split at hx
   . rename_i h1 h2;split at hx
     . rename_i hc;refine⟨_,_,hx,?_⟩;simp only[h1,hE h1,h2,hc,hp,XA,Qc,if_true,implies_true,and_self]
     . cases hx
   . cases hx
 | build t ps =>
   simp only[ho] at hx ⊢;split at hx
   . rename_i vs h1;split at hx
     . rename_i cs h2;refine⟨_,_,hx,?_⟩;simp only[h1,Wd h1,h2,hp,XA,Qc,implies_true,and_self]
     . cases hx
   . rename_i h1;split at hx
     . rename_i hw;split at hx
       . rename_i vs F' h0 h2;split at hx
         . rename_i hd2;split at hx
           . rename_i cs h3;refine⟨_,.all h0,hx,?_⟩;have e1:∀ us,QL F (zd6 F'++us)=QL F' us:=fun us=>by rw[YC,zcx (zbH h2)]
             simp only[h1,hw,h2,h3,hd2,if_true,XA,e1,KA hd2,implies_true,and_self]
           . cases hx
         . cases hx
       . cases hx
     . cases hx
 | buildSlice t n ps =>
   simp only[ho] at hx ⊢;split at hx
   . rename_i vs sz h1 h2;split at hx
     . rename_i l h3;refine⟨_,_,hx,?_⟩;simp only[h1,Wd h1,h2,h3,hp,XA,Qc,implies_true,and_self]
     . cases hx
   . cases hx
 | binOp op t x y c =>
   simp only[ho] at hx ⊢;split at hx
   . rename_i a b h1 h2;split at hx
     . rename_i v h3;refine⟨_,_,hx,?_⟩;simp only[h1,h2,h3,hp,XA,Qc,implies_true,and_self]
     . cases hx
   . cases hx
 | move x =>
   simp only[ho] at hx ⊢;exact zge hd hx
 | assign x =>
   simp only[ho] at hx ⊢;exact zge hd hx
 | load t x =>
   simp only[ho] at hx ⊢;split at hx
   . rename_i n h1;obtain⟨cs,m,c,hpl,hx⟩:=zcZ hx;split at hx
     . rename_i hc;split at hx
       . rename_i v hv;refine⟨_,_,hx,?_⟩;simp only[h1,zhn hpl,hc,hv,hp,XA,Qc,if_true,and_self,implies_true]
       . cases hx
     . cases hx
   . cases hx
 | store t x y =>
   simp only[ho] at hx ⊢;split at hx
   . rename_i v n h1 h2;split at hx
     . rename_i hc;obtain⟨us,hs,hx,hw1,hw2,hw3⟩:=ziN hx;refine⟨_,_,hx,?_⟩;simp only[h1,hE h1,h2,hc,hw1,hw2,if_true,implies_true,true_and];intro R' K' Z;rw[KA (zgc hd hw3),YC]
     . cases hx
   . cases hx
 | nilCheck x =>
   simp only[ho] at hx ⊢;split at hx
   . rename_i hnt;split at hx
     . rename_i y h1;split at hx
       . rename_i h3;refine⟨_,_,hx,?_⟩;simp only[hnt,h1,h3,hp,XA,Qc,if_true,implies_true,and_self]
       . cases hx
     . cases hx
   rename_i hnt;simp only[hnt,if_false,zt];obtain⟨s,hk,he⟩:=qL hx;refine⟨_,_,hk,?_⟩;simp only[he,hp,XA,Qc,implies_true,and_self]
 | unOp op t x =>
   simp only[ho] at hx ⊢;split at hx
   . rename_i a h1;split at hx
     . rename_i v h3;refine⟨_,_,hx,?_⟩;simp only[h1,h3,hp,XA,Qc,implies_true,and_self]
     . cases hx
   . cases hx
 | convert s d x =>
   simp only[ho] at hx ⊢;split at hx
   . rename_i hcs;split at hx
     . rename_i sz l hl;cases hu:u8s l with
       | none=>simp[hu] at hx
       | some ns =>
         simp only[hu,Z5] at hx;refine⟨_,_,hx,?_⟩;simp only[hcs,if_true,hl,hu,Z5,hp,XA,Qc,implies_true,and_self]
     . cases hx
   rename_i hcs;simp only[if_neg hcs];split at hx
   . rename_i a h1;split at hx
     . rename_i v h3;refine⟨_,_,hx,?_⟩;simp only[h1,h3,hp,XA,Qc,implies_true,and_self]
     . cases hx
   . cases hx
 | slice t x lo hi mx =>
   simp only[ho] at hx ⊢;split at hx
   . rename_i e sz y h1 h2;split at hx
     . rename_i len hl;split at hx
       . rename_i a b m h3 h4 h5;split at hx
         . rename_i z hz;refine⟨_,_,hx,?_⟩;simp only[h1,h2,hE h2,hl,h3,h4,h5,hz,hp,XA,Qc,implies_true,and_self]
         . cases hx
       . cases hx
     . cases hx
   . cases hx
 | fieldAddr s x k =>
   simp only[ho] at hx ⊢;split at hx
   . rename_i off n b h0;obtain⟨s,hk,he⟩:=qL hx;refine⟨_,_,hk,?_⟩;simp only[h0,he,hp,XA,Qc,implies_true,and_self]
   . cases hx
 | index t x i =>
   simp only[ho] at hx ⊢;split at hx
   . rename_i len e sz n cs h1 h2 h3;split at hx
     . rename_i hc;split at hx
       . rename_i v h4;refine⟨_,_,hx,?_⟩;simp only[h1,h2,h3,hc,h4,and_self,if_true,hp,XA,Qc,implies_true]
       . cases hx
     . cases hx
   . cases hx
 | field s x k =>
   simp only[ho] at hx ⊢;split at hx
   . rename_i off n ag cs h1 h2;split at hx
     . rename_i hc;split at hx
       . rename_i v h3;refine⟨_,_,hx,?_⟩;simp only[h1,h2,hc,h3,if_true,hp,XA,Qc,implies_true,and_self]
       . cases hx
     . cases hx
   . cases hx
 | indexAddr t x i =>
   simp only[ho] at hx ⊢;split at hx
   . rename_i len sz ha;split at hx
     . rename_i n hn;split at hx
       . rename_i hlt;obtain⟨s,hk,he⟩:=qL hx;refine⟨_,_,hk,?_⟩;simp only[ha,hn,hlt,if_true,he,hp,XA,Qc,implies_true,and_self]
       . cases hx
     . cases hx
   rename_i ha;split at hx
   . rename_i n e sz h1 h2;cases x with
     | tmp s =>
       simp only at hx ⊢;split at hx
       . rename_i e' sz' l h3;split at hx
         . rename_i hc;refine⟨_,_,hx,?_⟩;simp only[ha,h1,h2,h3,hc,not_false_eq_true,and_self,if_true,hp,XA,Qc,implies_true,ne_eq]
         . cases hx
       . rename_i y h3;split at hx
         . rename_i z hz;refine⟨_,_,hx,?_⟩;simp only[ha,h1,h2,h3,hz,zs5 hz,hp,XA,Qc,implies_true,and_self]
         . cases hx
       . cases hx
     | _=>simp only at hx;cases hx
   . cases hx
 | lookup t m k ok =>
   simp only[ho] at hx ⊢;split at hx
   . rename_i kt et b key h1 h2 h3;split at hx
     . rename_i es z ks h4 h5 h6;split at hx
       . rename_i r' zero h7 h8;split at hx
         . rename_i v h9;split at hx
           . rename_i hc;split at hx
             . rename_i hok;refine⟨_,_,hx,?_⟩;simp only[h1,h2,h3,h4,h5,h6,h7,h8,h9,hc,hok,and_self,if_true,hp,XA,Qc,implies_true]
             . rename_i hok;refine⟨_,_,hx,?_⟩;simp only[h1,h2,h3,h4,h5,h6,h7,h8,h9,hc,hok,and_self,if_true,hp,XA,Qc,implies_true,if_false,zt]
           . cases hx
         . cases hx
       . cases hx
     . cases hx
   . cases hx
 | mapUpdate t m k x =>
   simp only[ho] at hx ⊢;split at hx
   . rename_i kt et b key v h1 h2 h3 h4;split at hx
     . rename_i es ks h5 h6;split at hx
       . rename_i r' h7;split at hx
         . rename_i hc;refine⟨_,_,hx,?_⟩;simp only[h1,h2,h3,hE h4,h5,h6,h7,hc,and_self,if_true,hp,XA,Qc,implies_true]
         . cases hx
       . cases hx
     . cases hx
   . cases hx
 | insert t m k x =>
   simp only[ho] at hx ⊢;split at hx
   . rename_i kt et b key v h1 h2 h3 h4;split at hx
     . rename_i es ks h5 h6;split at hx
       . rename_i r' h7;split at hx
         . rename_i hc;refine⟨_,_,hx,?_⟩;simp only[h1,h2,h3,hE h4,h5,h6,h7,hc,and_self,if_true,hp,XA,Qc,implies_true]
         . cases hx
       . cases hx
     . cases hx
   . cases hx
 | extract x i =>
   simp only[ho] at hx ⊢;cases x with
   | tmp t =>
     simp only at hx ⊢;split at hx
     . rename_i l h1;split at hx
       . rename_i v h3;refine⟨_,_,hx,?_⟩;simp only[h1,h3,hp,XA,Qc,implies_true,and_self]
       . cases hx
     . cases hx
   | _=>simp only at hx;cases hx
 | call c =>
   simp only[ho] at hx ⊢;cases hc:c.callee with
   | value fo =>
     cases fo with
     | func f =>
       simp only[hc] at hx ⊢;exact za7 hloc hd hx
     | tmp t =>
       simp only[hc] at hx ⊢;by_cases hvc:vc=true
       . simp only[if_pos hvc] at hx ⊢;split at hx
         . rename_i f caps hs;split at hx
           . rename_i hok;rw[Y5 _ _ _ _ _ hok] at hx;simp only[hs,if_pos hok,zbr _ _ _ _ _ hok,Y5 _ _ _ _ _ hok];exact za7 hloc hd hx
           . cases hx
         . rename_i f pre hs;simp only[hs];exact zc5 hd hx
         . cases hx
       . simp only[if_neg hvc] at hx ⊢;split at hx
         . rename_i f caps hs;split at hx
           . rename_i hok;rw[Y5 _ _ _ _ _ hok] at hx;simp only[hs,if_pos hok,zbr _ _ _ _ _ hok,Y5 _ _ _ _ _ hok];exact za7 hloc hd hx
           . cases hx
         . cases hx
     | _=>simp only[hc] at hx;cases hx
   | invoke rcv nm =>
     simp only[hc] at hx ⊢;split at hx
     . rename_i t v hv;split at hx
       . rename_i f r hm;exact zc5 hd hx
       . cases hx
     . cases hx
   | builtin b =>
     simp only[hc] at hx ⊢;exact zov hd hx
 | _=>simp only[ho] at hx;cases hx
end
end Go.L
namespace Go.L
open Go.RowKit
section
variable {vc:Bool} {P:Program} {o:Oper} {F G:List S} {h k:ze} {gc keep:FuncId->Bool} {rec:Rec}
def zcy(F G:List S)(h k:ze)(t:Nat):Prop :=
 F[t]?=G[t]?/\(∀ d,zg9 F[t]?=some d->F[d]?=G[d]?)/\(∀ b,zcW F[t]?=some b\/zcW F[rt F t]?=some b->h[b]?=k[b]?)
def JV(F G:List S)(h k:ze)(x:Operand):Prop:=∀ t,x=.tmp t->zcy F G h k t
theorem jX{t:Nat}(hx:zcy F G h k t):rt F t=rt G t/\F[rt F t]?=G[rt G t]?:=by
 obtain⟨h1,h2,-⟩:=hx;have e:rt F t=rt G t:=by unfold rt;rw[h1]
 refine⟨e,?_⟩;rw[<- e];unfold rt;split
 . rename_i d sz i c hs;split
   . exact h2 d (by rw[hs];rfl)
   . exact h1
 . exact h1
theorem XB{x:Operand}(hx:JV F G h k x):evV F x=evV G x:=by
 cases x with
 | tmp t=>simp only[evV,(hx t rfl).1]
 | _=>rfl
theorem qM{x:Operand}(hx:JV F G h k x):evN F x=evN G x:=by simp only[evN,XB hx]
theorem qN{x:Operand}(hx:JV F G h k x):evC F h x=evC G k x:=by
 cases x with
 | tmp t =>
   have hb:=(hx t rfl).2.2;simp only[evC];rw[<- (jX (hx t rfl)).2];cases hs:F[rt F t]? with
   | none=>rfl
   | some y =>
     rw[hs] at hb;cases y with
     | v z =>
       cases z with
       | row b sz lo hi=>simp only[ZI,Wp,jc,hb b (.inr rfl)]
       | _=>rfl
     | _=>rfl
 | const v =>
   have key:∀ (H:List S) (hp:ze),evC H hp (.const v)=(match v with|.slice none 0 0=>some (0,[])|_=>none):=fun H hp=>by
    unfold evC;split
    . rename_i e;cases e
    . rename_i e;cases e;rfl
    . rename_i e1 e2;split
      . exact absurd rfl e2
      . rfl
   rw[key F h,key G k]
 | func f=>rfl
 | global g=>rfl
theorem zqp{x:Operand}(hx:JV F G h k x):evB F h x=evB G k x:=by
 cases x with
 | tmp t =>
   have hb:=(hx t rfl).2.2;simp only[evB];rw[<- (jX (hx t rfl)).2];cases hs:F[rt F t]? with
   | none=>rfl
   | some y =>
     rw[hs] at hb;cases y with
     | v z =>
       cases z with
       | row b sz lo hi=>simp only[ZI,Wp,jc,hb b (.inr rfl)]
       | _=>rfl
     | _=>rfl
 | _=>rfl
theorem zho(c:Value)(b i:Nat):qz c≠some (.ptr b i):=by
 intro h;unfold qz at h;split at h <;> cases h
theorem zfx(c:Value)(b i:Nat):ofValue c≠some (.ptr b i):=by
 intro h;unfold ofValue at h;split at h
 . rename_i cs;cases hc:KP cs.toList <;> rw[hc] at h <;> cases h
 . exact zho _ _ _ h
theorem zmU{x:Operand}(hx:JV F G h k x){b i:Nat}(hm:evV F x=some (.ptr b i)):h[b]?=k[b]?:=by
 cases x with
 | tmp s =>
   refine(hx s rfl).2.2 b (.inl ?_);simp only[evV] at hm;cases hs:F[s]? with
   | none=>simp[hs] at hm
   | some y =>
     cases y with
     | v z=>simp only[hs] at hm;cases hm;rfl
     | _=>simp[hs] at hm
 | const c=>exact absurd hm (zfx c b i)
 | func f=>cases hm
 | global g=>cases hm
theorem zow{x y:Operand}(hx:JV F G h k x)(hy:JV F G h k y){op:BinOp}{t:TypeId}{p q:V}(h1:evV F x=some p)(h2:evV F y=some q):Qq P h op t p q=Qq P k op t p q:=by
 unfold Qq;split
 . rw[zmU hx h1,zmU hy h2]
 . rfl
theorem Qw : ∀ {xs : List Operand}, (∀ x ∈ xs, JV F G h k x) -> jf F xs = jf G xs
 | [],_=>rfl
 | x :: xs,hx=>by
   have h1:=XB (hx x (zG ..));have h2:=Qw (xs:=xs) (fun y hy=>hx y (zu _ hy));simp only[jf,h1,h2]
theorem We : ∀ {xs : List Operand}, (∀ x ∈ xs, JV F G h k x) -> YW F h xs = YW G k xs
 | [],_=>rfl
 | x :: xs,hx=>by
   have h1:=zqp (hx x (zG ..));have h2:=We (xs:=xs) (fun y hy=>hx y (zu _ hy));simp only[YW,h1,h2]
theorem za8{x:Operand}(n:Nat)(d:Option Nat)(hx:JV F G h k x){R:Type}(K:S->Option R):Kj F n x d K=Kj G n x d K:=by
 cases x with
 | tmp t=>simp only[Kj,(hx t rfl).1]
 | _=>rfl
theorem ziP{t:Nat}{z:V}(hx:zcy F G h k t)(hs:F[t]?=some (.v z)):Zv h z=Zv k z:=by
 have h3:=hx.2.2;rw[hs] at h3;cases z with
 | ptr b o=>simp only[Zv,h3 b (.inl rfl)]
 | rptr b sz i c=>simp only[Zv,h3 b (.inl rfl)]
 | _=>rfl
theorem ziQ{t:Nat}{z:V}(hx:zcy F G h k t)(hs:F[t]?=some (.v z))(vs:List V):Zl h vs z=Zl k vs z:=by
 have h3:=hx.2.2;rw[hs] at h3;cases z with
 | ptr b o=>simp only[Zl,h3 b (.inl rfl)]
 | rptr b sz i c=>simp only[Zl,h3 b (.inl rfl)]
 | _=>rfl
theorem ziR{x:Operand}(hx:JV F G h k x){R:Type}(K:List V->Nat->Nat->Option R):YN F h x K=YN G k x K:=by
 cases x with
 | tmp t =>
   have h0:=hx t rfl;obtain⟨h1,h2,h3⟩:=hx t rfl;unfold YN;simp only;rw[<- h1];cases hs:F[t]? with
   | none=>rfl
   | some y =>
     rw[hs] at h2 h3;cases y with
     | fp d sz i c=>simp only[<- h2 d rfl]
     | v z=>simp only[ziP h0 hs]
     | _=>rfl
 | _=>rfl
theorem zhp{x:Operand}(hx:JV F G h k x)(vs:List V){R:Type}(K:List (Nat×S)->HE->Option R):KQ F h vs x K=KQ G k vs x K:=by
 cases x with
 | tmp t =>
   have h0:=hx t rfl;obtain⟨h1,h2,h3⟩:=hx t rfl;unfold KQ;simp only;rw[<- h1];cases hs:F[t]? with
   | none=>rfl
   | some y =>
     rw[hs] at h2 h3;cases y with
     | fp d sz i c=>simp only[<- h2 d rfl]
     | v z=>simp only[ziQ h0 hs]
     | _=>rfl
 | _=>rfl
theorem zhq(c:Value)(b:Nat):qz c≠some (.map b):=by
 intro h;unfold qz at h;split at h <;> cases h
theorem K8(c:Value)(b:Nat):ofValue c≠some (.map b):=by
 intro h;unfold ofValue at h;split at h
 . rename_i cs;cases hc:KP cs.toList <;> rw[hc] at h <;> cases h
 . exact zhq _ _ h
theorem zgg{as_:Bool}{x:Operand}(h0:JV F G h k x){R:Type}(K:List (Nat×S)->HE->Option R):jg P as_ o x F K=jg P as_ o x G K:=by
 cases x with
 | tmp t=>simp only[jg,(h0 t rfl).1]
 | _=>rfl
theorem zet{x:Operand}(hx:JV F G h k x):evI F x=evI G x:=by simp only[evI,XB hx]
theorem Wf{n e:Nat}{args:List Operand}(ha:∀ x∈args,JV F G h k x){R:Type}(K:List (Nat×S)->HE->Option R):qC o n e args F h K=qC o n e args G k K:=by
 unfold qC;split
 . rename_i x;have h1:=qN (ha x (by simp));simp only[h1]
 . rename_i x;have h1:=qN (ha x (by simp));simp only[h1]
 . rename_i s i y;obtain⟨e1,e2⟩:=jX (ha (.tmp s) (by simp) s rfl);obtain⟨e3,e4⟩:=jX (ha (.tmp y) (by simp) y rfl);have h1:=zet (ha i (by simp));simp only[e2,e4,h1];rw[e1,e3]
 . rename_i s i j;obtain⟨e1,e2⟩:=jX (ha (.tmp s) (by simp) s rfl);have h1:=zet (ha i (by simp));have h2:=zet (ha j (by simp));simp only[e2,h1,h2];rw[e1]
 . rfl
theorem zls{t:TypeId}(hp:∀ e,P.underlying t≠some (.pointer e)){h k:ze}{op:BinOp}{c:Bool}(x y:V):za3 P h op t c x y=za3 P k op t c x y:=by
 have hb:∀ h:ze,Qq P h op t x y=bop P op t x y:=fun h=>by
  unfold Qq;split
  . rename_i e _ _ _ _ he;exact absurd he (hp _)
  . rfl
 unfold za3;rw[hb h,hb k]
set_option maxHeartbeats 2000000 in
theorem zc6{f:FuncId}{pre:List V}{args:List Operand}{R:Type}{K:List (Nat×S)->HE->Option R}(ha:∀ x∈args,JV F G h k x)(hh:h=k)(hF:jf F args=none->F=G):jN P rec keep vc o f pre args F h K=jN P rec keep vc o f pre args G k K:=by
 subst hh;unfold jN;cases hv:jf F args with
 | some vs=>rw[Qw ha] at hv;simp only[hv]
 | none =>
   have:=hF hv;subst this;simp only[hv]
theorem ziS {α : Type} {f g : α -> Bool} : ∀ {l : List α}, (∀ x ∈ l, f x = g x) -> l.any f = l.any g
 | [],_=>rfl
 | x :: l,h=>by rw[List.any_cons,List.any_cons,h x (zG ..),ziS (fun y hy=>h y (zu _ hy))]
theorem zgh{xs:List Operand}(ha:∀ x∈xs,JV F G h k x):zpZ F xs=zpZ G xs:=ziS fun x hx=>by
 cases x with
 | tmp t=>simp only[(ha _ hx t rfl).1]
 | _=>rfl
theorem zox(hx0:∀ x∈o.op.operands,JV F G h h x)(hx1:zf4 P o.op=false->∀ x∈o.op.operands,JV F G h k x)(hhk:hall P keep gc o F=true->h=k)(hco:Ye P keep gc o F=true->F=G){R:Type}(K:List (Nat×S)->HE->Option R):zcq P rec keep gc vc o F h K=zcq P rec keep gc vc o G k K:=by
 unfold zcq;cases ho:o.op with
 | pick c a b =>
   have hx:=hx0;rw[ho] at hx;simp only[XB (hx c (by simp[Op.operands])),XB (hx a (by simp[Op.operands])),XB (hx b (by simp[Op.operands]))]
 | alloc e=>rfl
 | box e x=>have hx:=hx0;rw[ho] at hx;simp only[XB (hx x (by simp[Op.operands]))]
 | build t ps =>
   have hx:=hx0;rw[ho] at hx;have h1:=Qw (xs:=ps.toList.map (·.2)) (fun x hm=>hx x (by simpa[Op.operands] using hm));have h2:=zgh (xs:=ps.toList.map (·.2)) (fun x hm=>hx x (by simpa[Op.operands] using hm));simp only[h1];cases hv:jf G (ps.toList.map (·.2)) with
   | some vs=>rfl
   | none =>
     simp only[h2];cases hw:zpZ G (ps.toList.map (·.2)) with
     | false=>simp
     | true =>
       have hb:zk9 o F=true:=by unfold zk9;rw[ho];exact h2.trans hw
       obtain rfl:=hhk (by unfold hall;rw[hb];simp);obtain rfl:=hco (by unfold Ye;rw[hb];simp);rfl
 | buildSlice t n ps=>have hx:=hx0;rw[ho] at hx;have h1:=Qw (xs:=ps.toList.map (·.2)) (fun x hm=>hx x (by simpa[Op.operands] using hm));simp only[h1]
 | binOp op t x y c =>
   by_cases hnp:zf4 P o.op=true
   . rw[ho] at hx0 hnp;have hp:∀ e,P.underlying t≠some (.pointer e):=fun e he=>by simp[zf4,he] at hnp
     simp only[XB (hx0 x (by simp[Op.operands])),XB (hx0 y (by simp[Op.operands])),fun p q=>zls hp (h:=h) (k:=k) (op:=op) (c:=isC x || isC y) p q]
   have hx:=hx1 (by simpa using hnp);rw[ho] at hx;have h1:=hx x (by simp[Op.operands]);have h2:=hx y (by simp[Op.operands]);simp only;rw[<- XB h1,<- XB h2];cases e1:evV F x with
   | none=>rfl
   | some p =>
     cases e2:evV F y with
     | none=>rfl
     | some q =>
       have hbn:za3 P h op t (isC x || isC y) p q=za3 P k op t (isC x || isC y) p q:=by
        unfold za3;rw[zow h1 h2 e1 e2]
       simp only[hbn]
 | move x=>rw[ho] at hx0;exact zgg (hx0 x (by simp[Op.operands])) K
 | assign x=>rw[ho] at hx0;exact zgg (hx0 x (by simp[Op.operands])) K
 | load t x=>have hx:=hx1 (by rw[ho];rfl);rw[ho] at hx;simp only[ziR (hx x (by simp[Op.operands]))]
 | store t x y=>have hx:=hx1 (by rw[ho];rfl);rw[ho] at hx;simp only[zhp (hx x (by simp[Op.operands])),XB (hx y (by simp[Op.operands]))]
 | nilCheck x=>rw[ho] at hx0;simp only[za8 0 o.dst (hx0 x (by simp[Op.operands])),XB (hx0 x (by simp[Op.operands]))]
 | unOp op t x=>have hx:=hx0;rw[ho] at hx;simp only[XB (hx x (by simp[Op.operands]))]
 | convert s d x=>have hx:=hx1 (by rw[ho];rfl);rw[ho] at hx;simp only[XB (hx x (by simp[Op.operands])),qN (hx x (by simp[Op.operands]))]
 | slice t x lo hi mx =>
   have hx:=hx0;rw[ho] at hx;have h1:evV F x=evV G x:=XB (hx x (by simp[Op.operands]));have h2:∀ d,qq F d lo=qq G d lo:=fun d=>by
    cases lo with
    | none=>rfl
    | some y=>exact qM (hx y (by simp[Op.operands]))
   have h3:∀ d,qq F d hi=qq G d hi:=fun d=>by
    cases hi with
    | none=>rfl
    | some y=>exact qM (hx y (by simp[Op.operands]))
   have h4:zdn F mx=zdn G mx:=by
    cases mx with
    | none=>rfl
    | some y=>simp only[zdn,qM (hx y (by simp[Op.operands]))]
   simp only[h1,h2,h3,h4]
 | fieldAddr s x k'=>rw[ho] at hx0;simp only[fun n=>za8 (R:=R) n o.dst (hx0 x (by simp[Op.operands]))]
 | index t x i=>have hx:=hx0;rw[ho] at hx;simp only[XB (hx x (by simp[Op.operands])),qM (hx i (by simp[Op.operands]))]
 | field s x k'=>have hx:=hx0;rw[ho] at hx;simp only[XB (hx x (by simp[Op.operands]))]
 | indexAddr t x i =>
   have hx:=hx0;rw[ho] at hx;have h0:=hx x (by simp[Op.operands]);simp only[qM (hx i (by simp[Op.operands])),fun n=>za8 (R:=R) n o.dst h0];cases x with
   | tmp s =>
     obtain⟨e1,e2⟩:=jX (h0 s rfl);simp only[e2];rw[e1]
   | _=>rfl
 | lookup t m key ok =>
   have hx:=hx1 (by rw[ho];rfl);rw[ho] at hx;have h0:=hx m (by simp[Op.operands]);have hb:∀ b,evV G m=some (.map b)->h[b]?=k[b]?:=fun b hm=>by
    rw[<- XB h0] at hm;cases m with
    | tmp s =>
      refine(h0 s rfl).2.2 b (.inl ?_);simp only[evV] at hm;cases hs:F[s]? with
      | none=>simp[hs] at hm
      | some y =>
        cases y with
        | v z=>simp only[hs] at hm;cases hm;rfl
        | _=>simp[hs] at hm
    | const c=>exact absurd hm (K8 c b)
    | func f=>cases hm
    | global g=>cases hm
   simp only[XB (hx key (by simp[Op.operands])),XB h0];generalize evV G key=kk;generalize hmv:evV G m=mm at hb;cases hu:P.underlying t with
   | none=>rfl
   | some d =>
     cases d <;> try rfl
     cases mm with
     | none=>rfl
     | some z =>
       have hmo:Yy h z=Yy k z:=by
        unfold Yy;split
        . rename_i b;rw[hb b rfl]
        . rfl
        . rfl
       cases kk with
       | none=>rfl
       | some key'=>simp only[hmo]
 | mapUpdate t m key x =>
   have hx:=hx1 (by rw[ho];rfl);rw[ho] at hx;have h0:=hx m (by simp[Op.operands]);have hb:∀ b,evV G m=some (.map b)->h[b]?=k[b]?:=fun b hm=>by
    rw[<- XB h0] at hm;cases m with
    | tmp s =>
      refine(h0 s rfl).2.2 b (.inl ?_);simp only[evV] at hm;cases hs:F[s]? with
      | none=>simp[hs] at hm
      | some y =>
        cases y with
        | v z=>simp only[hs] at hm;cases hm;rfl
        | _=>simp[hs] at hm
    | const c=>exact absurd hm (K8 c b)
    | func f=>cases hm
    | global g=>cases hm
   simp only[XB (hx key (by simp[Op.operands])),XB (hx x (by simp[Op.operands])),XB h0];generalize evV G key=kk;generalize evV G x=xx;generalize hmv:evV G m=mm at hb;cases hu:P.underlying t with
   | none=>rfl
   | some d =>
     cases d <;> try rfl
     cases mm with
     | none=>rfl
     | some z =>
       cases z <;> try rfl
       rename_i b;cases kk with
       | none=>rfl
       | some key' =>
         cases xx with
         | none=>rfl
         | some x'=>simp only[hb b rfl]
 | insert t m key x =>
   have hx:=hx1 (by rw[ho];rfl);rw[ho] at hx;have h0:=hx m (by simp[Op.operands]);have hb:∀ b,evV G m=some (.map b)->h[b]?=k[b]?:=fun b hm=>by
    rw[<- XB h0] at hm;cases m with
    | tmp s =>
      refine(h0 s rfl).2.2 b (.inl ?_);simp only[evV] at hm;cases hs:F[s]? with
      | none=>simp[hs] at hm
      | some y =>
        cases y with
        | v z=>simp only[hs] at hm;cases hm;rfl
        | _=>simp[hs] at hm
    | const c=>exact absurd hm (K8 c b)
    | func f=>cases hm
    | global g=>cases hm
   simp only[XB (hx key (by simp[Op.operands])),XB (hx x (by simp[Op.operands])),XB h0];generalize evV G key=kk;generalize evV G x=xx;generalize hmv:evV G m=mm at hb;cases hu:P.underlying t with
   | none=>rfl
   | some d =>
     cases d <;> try rfl
     cases mm with
     | none=>rfl
     | some z =>
       cases z <;> try rfl
       rename_i b;cases kk with
       | none=>rfl
       | some key' =>
         cases xx with
         | none=>rfl
         | some x'=>simp only[hb b rfl]
 | extract x i =>
   have hx:=hx0;rw[ho] at hx;have h0:=hx x (by simp[Op.operands]);cases x with
   | tmp t=>simp only[(h0 t rfl).1]
   | _=>rfl
 | call c =>
   have hx:=hx1 (by rw[ho];rfl);rw[ho] at hx;have ha:∀ x∈c.args.toList,JV F G h k x:=fun x hm=>hx x (by simp[Op.operands,Call.operands];exact .inr (by simpa using hm));simp only;cases hc:c.callee with
   | value fo =>
     cases fo with
     | func f =>
       suffices hq:QR P rec keep gc vc o f [] c.args.toList F h K=QR P rec keep gc vc o f [] c.args.toList G k K by
        simp only[WT,hq]
       cases hnf:natF P f with
       | some ke=>simp only[QR,hnf,Wf ha]
       | none =>
         have h0:keep f=true->gc f=false->X0 P keep gc o F=true:=fun h1 h2=>by unfold X0;simp[ho,hc,h1,h2,hnf]
         have h1:keep f=true->gc f=false->h=k:=fun h1 h2=>hhk (by unfold hall;rw[h0 h1 h2];rfl);cases hv:jf F c.args.toList with
         | none =>
           have h2:keep f=true->gc f=false->F=G:=fun h1 h2=>hco (by unfold Ye;simp[h0 h1 h2,ho,hv]);rw[Qw ha] at hv;simp only[QR,Qw ha,We ha,Wf ha,hv];cases hg:gc f with
           | true=>rfl
           | false =>
             cases hk:keep f with
             | false=>rfl
             | true=>rw[h1 hk hg,h2 hk hg]
         | some vs =>
           rw[Qw ha] at hv;simp only[QR,Qw ha,We ha,Wf ha,hv];cases hg:gc f with
           | true=>rfl
           | false =>
             cases hk:keep f with
             | false=>rfl
             | true=>rw[h1 hk hg]
     | tmp t =>
       have h0:=hx (.tmp t) (by simp[Op.operands,Call.operands,hc]);have h00:∀ f caps,F[t]?=some (.v (.fn f caps))->natF P f=none->keep f=true->gc f=false->X0 P keep gc o F=true:=fun f caps h0 hn h1 h2=>by unfold X0;simp[ho,hc,h0,h1,h2,hn]
       have h1:∀ f caps,F[t]?=some (.v (.fn f caps))->natF P f=none->keep f=true->gc f=false->h=k:=fun f caps h0 hn h1 h2=>hhk (by unfold hall;rw[h00 f caps h0 hn h1 h2];rfl);simp only;rw[<- (h0 t rfl).1];by_cases hvc:vc=true
       . simp only[if_pos hvc];cases hs:F[t]? with
         | none=>rfl
         | some y =>
           cases y with
           | v z =>
             cases z with
             | fn f caps =>
               suffices hsf:WT P rec keep gc vc o f caps c.args.toList F h K=WT P rec keep gc vc o f caps c.args.toList G k K by
                by_cases hok:okV P o.type f=true
                . simp only[if_pos hok,Y5 _ _ _ _ _ hok,hsf]
                . simp only[if_neg hok]
               suffices hq:QR P rec keep gc vc o f caps c.args.toList F h K=QR P rec keep gc vc o f caps c.args.toList G k K by
                simp only[WT,hq]
               cases hnf:natF P f with
               | some ke=>simp only[QR,hnf,Wf ha]
               | none =>
                 cases hv:jf F c.args.toList with
                 | none =>
                   have h2:keep f=true->gc f=false->F=G:=fun h1 h2=>hco (by unfold Ye;simp[h00 f caps hs hnf h1 h2,ho,hv]);rw[Qw ha] at hv;simp only[QR,Qw ha,We ha,Wf ha,hv];cases hg:gc f with
                   | true=>rfl
                   | false =>
                     cases hk:keep f with
                     | false=>rfl
                     | true=>rw[h1 f caps hs hnf hk hg,h2 hk hg]
                 | some vs =>
                   rw[Qw ha] at hv;simp only[QR,Qw ha,We ha,Wf ha,hv];cases hg:gc f with
                   | true=>rfl
                   | false =>
                     cases hk:keep f with
                     | false=>rfl
                     | true=>rw[h1 f caps hs hnf hk hg]
             | bf f pre =>
               have hc1:X0 P keep gc o F=true:=by unfold X0;simp[ho,hc,hs]
               exact zc6 ha (hhk (by unfold hall;rw[hc1];rfl)) fun hv=>hco (by unfold Ye;simp[hc1,ho,hv])
             | _=>rfl
           | _=>rfl
       . simp only[if_neg hvc];cases hs:F[t]? with
         | none=>rfl
         | some y =>
           cases y with
           | v z =>
             cases z with
             | fn f caps =>
               suffices hsf:WT P rec keep gc vc o f caps c.args.toList F h K=WT P rec keep gc vc o f caps c.args.toList G k K by
                by_cases hok:okV P o.type f=true
                . simp only[if_pos hok,Y5 _ _ _ _ _ hok,hsf]
                . simp only[if_neg hok]
               suffices hq:QR P rec keep gc vc o f caps c.args.toList F h K=QR P rec keep gc vc o f caps c.args.toList G k K by
                simp only[WT,hq]
               cases hnf:natF P f with
               | some ke=>simp only[QR,hnf,Wf ha]
               | none =>
                 cases hv:jf F c.args.toList with
                 | none =>
                   have h2:keep f=true->gc f=false->F=G:=fun h1 h2=>hco (by unfold Ye;simp[h00 f caps hs hnf h1 h2,ho,hv]);rw[Qw ha] at hv;simp only[QR,Qw ha,We ha,Wf ha,hv];cases hg:gc f with
                   | true=>rfl
                   | false =>
                     cases hk:keep f with
                     | false=>rfl
                     | true=>rw[h1 f caps hs hnf hk hg,h2 hk hg]
                 | some vs =>
                   rw[Qw ha] at hv;simp only[QR,Qw ha,We ha,Wf ha,hv];cases hg:gc f with
                   | true=>rfl
                   | false =>
                     cases hk:keep f with
                     | false=>rfl
                     | true=>rw[h1 f caps hs hnf hk hg]
             | _=>rfl
           | _=>rfl
     | _=>rfl
   | invoke rcv nm =>
     have h0:=hx rcv (by simp[Op.operands,Call.operands,hc]);simp only[XB h0];have hc1:X0 P keep gc o F=true:=by unfold X0;simp[ho,hc]
     cases evV G rcv with
     | none=>rfl
     | some y =>
       cases y with
       | iface t v =>
         simp only;cases JR P t v nm with
         | none=>rfl
         | some p=>exact zc6 ha (hhk (by unfold hall;rw[hc1];rfl)) fun hv=>hco (by unfold Ye;simp[hc1,ho,hv])
       | _=>rfl
   | builtin b =>
     simp only;unfold zaM;split
     . rename_i t x h0 h1;have:=qN (ha x (by rw[h1];simp));simp only[this]
     . rename_i t t' s y h1 h2;rw[qN (ha y (by rw[h2];simp)),<- (ha (.tmp s) (by rw[h2];simp) s rfl).1];cases hs:F[s]? with
       | none=>rcases QQ P t with _|⟨e,sz⟩ <;> rcases evC G k y with _|⟨sz',news⟩ <;> rfl
       | some z =>
         cases z with
         | v z =>
           have hk:h=k:=hhk (by
            have:jj o F=true:=by unfold jj;simp only[ho,hc,h2,hs]
            unfold hall;rw[this,Bool.true_or,Bool.or_true])
           rw[hk]
         | _=>rcases QQ P t with _|⟨e,sz⟩ <;> rcases evC G k y with _|⟨sz',news⟩ <;> rfl
     . simp only[We ha]
     . simp only[We ha]
     . rfl
 | _=>rfl
structure Agree(P:Program)(keep gc:FuncId->Bool)(all:Array Oper)(o:Oper)(F G:List S)(h k:ze):Prop where
 len:F.length=G.length
 s:∀ t∈rdS P keep gc all o F,F[t]?=G[t]?
 b:∀ b∈rdH P keep gc all o F h,h[b]?=k[b]?
theorem WY {α β : Type} {f g : α -> Option β} : ∀ {l : List α}, (∀ x ∈ l, f x = g x) -> l.filterMap f = l.filterMap g
 | [],_=>rfl
 | x :: l,hx=>by
   rw[List.filterMap_cons,List.filterMap_cons,hx x (zG ..),WY (fun y hy=>hx y (zu _ hy))]
theorem J4{all:Array Oper}(ha:Agree P keep gc all o F G h k):∀ t∈o.looksAt all,zcy F G h h t:=fun t ht =>
 ⟨ha.s t (by unfold rdS;simp[ht]),fun d hd=>ha.s d (by
  unfold rdS;simp only[Zn,Z0];exact .inl (.inl (.inr ⟨t,ht,hd⟩))),fun b _=>rfl⟩
theorem ziT{all:Array Oper}(ha:Agree P keep gc all o F G h k)(hn:zf4 P o.op=false):∀ t∈o.looksAt all,zcy F G h k t:=fun t ht =>
 ⟨ha.s t (by unfold rdS;simp[ht]),fun d hd=>ha.s d (by
  unfold rdS;simp only[Zn,Z0];exact .inl (.inl (.inr ⟨t,ht,hd⟩))),fun b hb=>ha.b b (by
  unfold rdH;rw[hn];rcases hb with hb|hb
  . exact z9 _ (z9 _ (Z0.2 ⟨t,ht,hb⟩))
  . exact z9 _ (ZA _ (Z0.2 ⟨t,ht,hb⟩)))⟩
theorem ziU{all:Array Oper}{t:Nat}{c:Call}(ho:o.op=.call c)(hc:c.callee=.value (.tmp t)):t∈o.looksAt all:=by
 refine z9 _ (Z0.2 ⟨.tmp t,?_,rfl⟩);simp[ho,Op.operands,Call.operands,hc]
theorem zc7{all:Array Oper}(ha:Agree P keep gc all o F G h k):X0 P keep gc o G=X0 P keep gc o F:=by
 unfold X0;cases ho:o.op with
 | call c =>
   simp only;cases hc:c.callee with
   | value fo =>
     cases fo with
     | tmp t=>simp only[(J4 ha t (ziU ho hc)).1]
     | _=>rfl
   | _=>rfl
 | _=>rfl
theorem zeu{all:Array Oper}(ha:Agree P keep gc all o F G h k):zk9 o G=zk9 o F:=by
 unfold zk9;cases ho:o.op with
 | build t ps =>
   have hx:∀ x∈ps.toList.map (·.2),JV F G h h x:=fun x hx t ht=>by
    subst ht;refine J4 ha t (z9 _ (Z0.2 ⟨.tmp t,?_,rfl⟩));simpa[ho,Op.operands] using hx
   exact(zgh hx).symm
 | _=>rfl
theorem zlt{all:Array Oper}(ha:Agree P keep gc all o F G h k):hall P keep gc o G=hall P keep gc o F:=by
 unfold hall;rw[zc7 ha,zeu ha];congr 1;congr 1;unfold jj;cases ho:o.op with
 | call c =>
   simp only;split
   . rename_i s l hcl has;have hl:s∈o.looksAt all:=by
      refine z9 _ (Z0.2 ⟨.tmp s,?_,rfl⟩);simp[ho,Op.operands,Call.operands]
      exact .inr (by have : Operand.tmp s ∈ c.args.toList := by rw [has]; simp
                     simpa using this)
     rw[(J4 ha s hl).1]
   . rfl
 | _=>rfl
theorem zev{all:Array Oper}(ha:Agree P keep gc all o F G h k)(hc:hall P keep gc o F=true):h=k:=by
 have hb:∀ b,b < h.length+1->h[b]?=k[b]?:=fun b hb=>ha.b b (by unfold rdH;rw[if_pos hc];exact ZA _ (Zc.2 hb));apply ZM;intro i;by_cases hi:i < h.length+1
 . exact hb i hi
 . have h1:=hb h.length (by omega);rw[zS (zn _)] at h1;have h2:=XS.1 h1.symm;rw[zS (by omega),zS (by omega)]
theorem zbI{all:Array Oper}(ha:Agree P keep gc all o F G h k)(hc:Ye P keep gc o F=true):F=G:=by
 apply ZM;intro i;by_cases hi:i < F.length
 . exact ha.s i (by unfold rdS;rw[if_pos hc];exact ZA _ (Zc.2 hi))
 . rw[zS (by omega),zS (by have:=ha.len;omega)]
theorem zfy{all:Array Oper}(ha:Agree P keep gc all o F G h k):Ye P keep gc o G=Ye P keep gc o F:=by
 unfold Ye;rw[zc7 ha,zeu ha];congr 1;cases ho:o.op with
 | call c =>
   have hx:∀ x∈c.args.toList,JV F G h h x:=fun x hx t ht=>by
    subst ht;refine J4 ha t (z9 _ (Z0.2 ⟨.tmp t,?_,rfl⟩));simp[ho,Op.operands,Call.operands];exact .inr (by simpa using hx)
   simp only[Qw hx]
 | _=>rfl
theorem zc8{all:Array Oper}(ha:Agree P keep gc all o F G h k):rdS P keep gc all o G=rdS P keep gc all o F/\rdH P keep gc all o G k=rdH P keep gc all o F h:=by
 have h0:∀ t∈o.looksAt all,F[t]?=G[t]?:=fun t ht=>(J4 ha t ht).1;refine⟨?_,?_⟩
 . unfold rdS;rw[WY (f:=fun s=>zg9 G[s]?) (g:=fun s=>zg9 F[s]?) (fun t ht=>by rw[h0 t ht]),zfy ha];cases hc:Ye P keep gc o F with
   | false=>rfl
   | true=>rw[zbI ha hc]
 . unfold rdH;rw[WY (f:=fun s=>zcW G[s]?) (g:=fun s=>zcW F[s]?) (fun t ht=>by rw[h0 t ht]),WY (f:=fun s=>zcW G[rt G s]?) (g:=fun s=>zcW F[rt F s]?) (fun t ht=>by rw[(jX (J4 ha t ht)).2]),zlt ha];cases hc:hall P keep gc o F with
   | false=>rfl
   | true=>rw[zev ha hc]
theorem zgi{all:Array Oper}(ha:Agree P keep gc all o F G h k):JA G o.dst=JA F o.dst:=by
 cases hd:o.dst with
 | none=>rfl
 | some d =>
   have:=ha.s d (by unfold rdS;simp[hd]);simp only[JA,this]
theorem zew{all:Array Oper}(ha:Agree P keep gc all o F G h k){R:Type}(K:List (Nat×S)->HE->Option R):zbs P rec keep gc vc all o F h K=zbs P rec keep gc vc all o G k K:=by
 have hx0:∀ x∈o.op.operands,JV F G h h x:=fun x hx t ht=>by
  subst ht;refine J4 ha t (z9 _ (Z0.2 ⟨.tmp t,by simpa using hx,rfl⟩))
 have hx1:zf4 P o.op=false->∀ x∈o.op.operands,JV F G h k x:=fun hn x hx t ht=>by
  subst ht;refine ziT ha hn t (z9 _ (Z0.2 ⟨.tmp t,by simpa using hx,rfl⟩))
 unfold zbs;rw[zox hx0 hx1 (zev ha) (zbI ha)];cases hg:o.guard with
 | none=>rfl
 | some jw =>
   obtain⟨j,want⟩:=jw;simp only;cases hd:(all[j]?).bind (·.dst) with
   | none=>rfl
   | some d =>
     have:F[d]?=G[d]?:=(J4 ha d (by simp[Oper.looksAt,hg,hd])).1;simp only[this]
end
section
variable {vc:Bool} {P:Program} {gc keep:FuncId->Bool} {rec:Rec}
def zmV(P:Program)(rec:Rec)(keep gc:FuncId->Bool)(vc:Bool)(all:Array Oper)(o:Oper)(F:List S)(h:ze)(us:List (Nat×S))(hs:HE):Prop :=
 ∀ (R':Type) (K':List (Nat×S)->HE->Option R'),zbs P rec keep gc vc all o F h K'=K' us hs
theorem zlu (hloc : J3 gc rec) {all : Array Oper} {o : Oper} {F : List S} {h : ze} (hd : JA F o.dst = true) {R : Type} {K : List (Nat × S) -> HE -> Option R} {r : R} (hx : zbs P rec keep gc vc all o F h K = some r) :
    ∃ us hs,K us hs=some r/\zmV P rec keep gc vc all o F h us hs:=by
 have hact:zcq P rec keep gc vc o F h K=some r->∃ us hs,K us hs=some r/\∀ (R':Type) (K':List (Nat×S)->HE->Option R'),zcq P rec keep gc vc o F h K'=K' us hs:=fun hx=>by
  obtain⟨us,hs,h1,h2⟩:=zgf hloc hd hx;exact⟨us,hs,h1,h2.1⟩
 unfold zbs at hx;unfold zmV zbs;cases hg:o.guard with
 | none =>
   simp only[hg] at hx ⊢;exact hact hx
 | some jw =>
   obtain⟨j,want⟩:=jw;simp only[hg] at hx ⊢;cases hdd:(all[j]?).bind (·.dst) with
   | none=>simp[hdd] at hx
   | some d =>
     simp only[hdd] at hx ⊢;cases hs:F[d]? with
     | none=>simp[hs] at hx
     | some y =>
       cases y with
       | sk=>simp only[hs] at hx ⊢;exact⟨_,_,hx,fun _ _=>rfl⟩
       | v z =>
         cases z with
         | bool b =>
           simp only[hs] at hx ⊢;cases b <;> cases want <;> simp only[if_true,if_false,zt] at hx ⊢ <;> first|exact hact hx|exact⟨_,_,hx,fun _ _=>rfl⟩
         | _=>simp[hs] at hx
       | _=>simp[hs] at hx
def zfz (P : Program) (rec : Rec) (keep gc : FuncId -> Bool) (vc : Bool) (all : Array Oper) : List Fpr -> List S -> ze -> List S -> ze -> Prop
 | [],F,h,F',h'=>F=F'/\h=h'
 | x :: l,F,h,F',h'=>∃ o us hs,all[x.i]?=some o/\JA F o.dst=true/\zmV P rec keep gc vc all o F h us hs/\x.r=rdS P keep gc all o F/\x.hr=rdH P keep gc all o F h/\x.w=us.map (·.1)/\x.hw=hwE h hs/\(∀ n,x.q=some n->n=h.length/\∃ h1,hs=.all h1/\pre h h1)/\zfz P rec keep gc vc all l (QL F us) (XA h hs) F' h'
theorem zoy{all:Array Oper}{o:Oper}{R:Type}{F:List S}{k:List S->Option R}{r:R}(h:zva all o F k=some r):k F=some r:=by
 unfold zva at h;split at h
 . exact h
 . split at h
   . rename_i d hd;split at h
     . rename_i b hb;have hset:F.set d (.v (.bool b))=F:=by
        apply ZM;intro i;rw[Zd];split
        . rename_i e;subst e;rw[hb,if_pos (zj.1 hb).1]
        . rfl
       cases b <;> simpa[hset] using h
     . exact h
     . cases h
   . cases h
theorem zmW : ∀ {l : List Nat} {hr : List Nat} {n : Nat}, qok l hr = true -> n ∈ l -> qok [n] hr = true
 | m :: l,hr,n,h,hn=>by
   unfold qok at h;rw[zE] at h;rcases zN.1 hn with rfl|hn
   . unfold qok qok;rw[h.1];rfl
   . exact zmW h.2 hn
theorem zdL{n:Nat}{l:List Nat}:qok [n] l=true ↔ ∀ b∈l,b < n:=by
 unfold qok qok;simp
def Dyn(all:Array Oper)(x y:Fpr):Prop:=zmN all x.i y.i=true->(∀ n,x.q=some n->qok [n] y.hr=true)/\(∀ n,y.q=some n->x.q=none->qok [n] x.hr=true)
theorem ztf{o:Oper}{h:ze}{hs:HE}{R:Type}{k:Option Nat->Option R}{r:R}(hx:qx P o h hs k=some r):∃ q,k q=some r/\∀ n,q=some n->n=h.length/\∃ h1,hs=.all h1/\pre h h1:=by
 unfold qx at hx;split at hx
 . exact⟨none,hx,fun n h=>by cases h⟩
 . split at hx
   . obtain⟨hp,hx⟩:=zoj hx;exact⟨_,hx,fun n h=>by cases h;exact⟨rfl,_,rfl,hp⟩⟩
   . exact⟨none,hx,fun n h=>by cases h⟩
theorem zbJ(hloc:J3 gc rec){all:Array Oper}{R:Type}{K:List S->ze->Option R}{r:R}:∀ (l:List (Oper×Nat)) (acc:List Fpr) (F:List S) (h:ze),(∀ p∈l,all[p.2]?=some p.1) →
    jO P rec keep gc vc all l acc F h K=some r->∃ L F' h',zfz P rec keep gc vc all L F h F' h'/\L.map (·.i)=l.map (·.2)/\zd7 all (acc++L)=true/\(∀ x∈acc,∀ y∈L,Dyn all x y)/\List.Pairwise (Dyn all) L/\K F' h'=some r
 | [],acc,F,h,hl,hx=>by
   unfold jO at hx;split at hx
   . rename_i hok;exact⟨[],F,h,⟨rfl,rfl⟩,rfl,by simpa using hok,fun x _ y hy=>by simp at hy,List.Pairwise.nil,hx⟩
   . cases hx
 | (o,i) :: l,acc,F,h,hl,hx=>by
   unfold jO at hx;have hx:=zoy hx;split at hx
   . rename_i hd;split at hx
     . rename_i hq1;obtain⟨us,hs,h1,h2⟩:=zlu hloc hd hx;obtain⟨q,h3,h4⟩:=ztf h1;split at h3
       . rename_i hq2;obtain⟨L,F',h',r1,r2,r3,r5,r6,r4⟩:=zbJ hloc l _ _ _ (fun p hp=>hl p (zu _ hp)) h3;refine⟨⟨i,rdS P keep gc all o F,us.map (·.1),rdH P keep gc all o F h,hwE h hs,hs.isAll,q⟩ :: L,F',h',⟨o,us,hs,hl (o,i) (zG ..),hd,h2,rfl,rfl,rfl,rfl,h4,r1⟩,by simp[r2],by simpa using r3,fun x hx' y hy=>?_,List.Pairwise.cons (fun y hy=>r5 _ (by simp) y hy) r6,r4⟩;rcases zN.1 hy with rfl|hy
         . intro hu;refine⟨fun n hn=>zmW hq1 (Z0.2 ⟨x,hx',?_⟩),fun n hn hnn=>?_⟩
           . simp only at hu;simp only[hn,hu,if_true]
           . simp only at hn hu;subst hn;refine zdL.2 fun b hb=>zdL.1 hq2 b (List.mem_flatMap.2 ⟨x,hx',?_⟩);simp only[hnn,hu,if_true];exact hb
         . exact r5 x (z9 _ hx') y hy
       . cases h3
     . cases hx
   . cases hx
theorem ziV {all : Array Oper} : ∀ {L : List Fpr}, zd7 all L = true -> List.Pairwise (Dyn all) L -> qn all L = true
 | [],_,_=>rfl
 | x :: L,h,hp=>by
   unfold zd7 at h;unfold qn;rw[zE] at h ⊢;obtain⟨hx,hp⟩:=Z6.1 hp;refine⟨Zz.2 fun y hy=>?_,ziV h.2 hp⟩;have h1:=Zz.1 h.1 y hy;have h2:=hx y hy;unfold Dyn zmN at h2;cases hb:(TR.descM x.i all.toList 0 0).testBit y.i with
   | true=>rfl
   | false =>
     rw[hb] at h1 h2;obtain⟨d1,d2⟩:=h2 rfl;rw[Bool.false_or] at h1 ⊢;unfold Fpr.ok Fpr.okq;unfold Fpr.okS at h1;cases hq:x.q with
     | none =>
       cases hr:y.q with
       | none=>simp only[hq,hr] at h1 ⊢;rw[h1];rfl
       | some n =>
         simp only[hq,hr,zE] at h1 ⊢;rw[h1.1,h1.2,d2 n hr hq];simp
     | some n =>
       cases hr:y.q with
       | none =>
         simp only[hq,hr,zE] at h1 ⊢;rw[h1.1,h1.2,d1 n hq];simp
       | some m=>simp only[hq,hr] at h1;cases h1
theorem zc9 (hloc : J3 gc rec) {all : Array Oper} {R : Type} {K : List S -> ze -> Option R} {r : R} (l : List (Oper × Nat)) (F : List S) (h : ze) (hl : ∀ p ∈ l, all[p.2]? = some p.1) (hx : jO P rec keep gc vc all l [] F h K = some r) :
    ∃ L F' h',zfz P rec keep gc vc all L F h F' h'/\L.map (·.i)=l.map (·.2)/\qn all ([]++L)=true/\K F' h'=some r:=by
 obtain⟨L,F',h',r1,r2,r3,_,r5,r6⟩:=zbJ hloc l [] F h hl hx;exact⟨L,F',h',r1,r2,ziV r3 r5,r6⟩
theorem js{a b:List Nat}(h:zoi a b=true):∀ x∈a,x ∉ b:=fun x hx=>by
 have:=Zz.1 h x hx;simpa using this
theorem zex{w:Bool}{a b:List Nat}(h:zmM w a b=true):∀ x∈a,x ∉ b:=by
 unfold zmM at h;split at h
 . intro x _;have hb:b=[]:=by simpa using h
   rw[hb];simp
 . exact js h
theorem zmX : ∀ (us : List (Nat × HB)) (h : ze) (k : Nat), k ∉ us.map (·.1) -> (Qc h us)[k]? = h[k]?
 | [],_,_,_=>rfl
 | (j,s) :: us,h,k,hk=>by
   simp only[zW,zN,not_or] at hk;simp only[Qc];rw[zmX us _ k hk.2,zd (fun e=>hk.1 e.symm)]
theorem zqq(us:List (Nat×S)):∀ (F:List S) (k:Nat) (s:S),k ∉ us.map (·.1)->QL (F.set k s) us=(QL F us).set k s:=by
 induction us with
 | nil=>intro F k s _;rfl
 | cons p us ih =>
   intro F k s hk;obtain⟨j,t⟩:=p;simp only[zW,zN,not_or] at hk;simp only[QL];rw[List.set_comm _ _ hk.1,ih _ _ _ hk.2]
theorem zgj : ∀ (us vs : List (Nat × S)) (F : List S), (∀ x ∈ us.map (·.1), x ∉ vs.map (·.1)) -> QL (QL F us) vs = QL (QL F vs) us
 | [],vs,F,_=>rfl
 | (k,s) :: us,vs,F,hd=>by
   simp only[QL];rw[zgj us vs _ (fun x hx=>hd x (by simp[hx]:x∈((k,s) :: us).map (·.1))),zqq vs _ _ _ (hd k (by simp))]
theorem zqr(us:List (Nat×HB)):∀ (F:ze) (k:Nat) (s:HB),k ∉ us.map (·.1)->Qc (F.set k s) us=(Qc F us).set k s:=by
 induction us with
 | nil=>intro F k s _;rfl
 | cons p us ih =>
   intro F k s hk;obtain⟨j,t⟩:=p;simp only[zW,zN,not_or] at hk;simp only[Qc];rw[List.set_comm _ _ hk.1,ih _ _ _ hk.2]
theorem zgk : ∀ (us vs : List (Nat × HB)) (F : ze), (∀ x ∈ us.map (·.1), x ∉ vs.map (·.1)) -> Qc (Qc F us) vs = Qc (Qc F vs) us
 | [],vs,F,_=>rfl
 | (k,s) :: us,vs,F,hd=>by
   simp only[Qc];rw[zgk us vs _ (fun x hx=>hd x (by simp[hx]:x∈((k,s) :: us).map (·.1))),zqr vs _ _ _ (hd k (by simp))]
theorem zey : ∀ (us : List (Nat × HB)) (h : ze), (Qc h us).length = h.length
 | [],_=>rfl
 | (k,s) :: us,h=>by simp only[Qc];rw[zey us];simp
theorem jt : ∀ (us : List (Nat × HB)) (h : ze), (∀ x ∈ us.map (·.1), h.length <= x) -> Qc h us = h
 | [],_,_=>rfl
 | (k,s) :: us,h,hx=>by
   have hk:h.length<=k:=hx k (by simp);simp only[Qc];rw[Wy hk];exact jt us h (fun x hm=>hx x (by simp[hm]))
theorem zmY(e:HE)(h:ze)(b:Nat)(hb:b ∉ hwE h e):(XA h e)[b]?=h[b]?:=by
 cases e with
 | sets l=>exact zmX l h b hb
 | all h' =>
   have:max h.length h'.length+1<=b:=by
    rcases ZX b (max h.length h'.length+1) with hlt|hge
    . exact absurd (Zc.2 hlt) hb
    . exact hge
   show h'[b]?=h[b]?;rw[zS (by omega),zS (by omega)]
theorem zmZ(e:HE){h k:ze}(hl:h.length=k.length):hwE h e=hwE k e:=by
 cases e with
 | sets l=>rfl
 | all h'=>simp only[hwE,hl]
theorem zoz(e d:HE)(h:ze)(hd:∀ x∈hwE h e,x ∉ hwE (XA h e) d):XA (XA h e) d=XA (XA h d) e/\hwE h d=hwE (XA h e) d/\hwE (XA h d) e=hwE h e:=by
 cases e with
 | sets l =>
   have hl:(XA h (.sets l)).length=h.length:=zey l h;cases d with
   | sets m=>exact⟨zgk l m h hd,rfl,rfl⟩
   | all h' =>
     refine⟨?_,(zmZ _ hl).symm,rfl⟩;show h'=Qc h' l;refine(jt l h' fun x hx=>?_).symm;have:=hd x hx;rw[zmZ _ hl] at this;rcases ZX x (max h.length h'.length+1) with hlt|hge
     . exact absurd (Zc.2 hlt) this
     . omega
 | all h1 =>
   cases d with
   | sets m =>
     have hfar:∀ x∈m.map (·.1),max h.length h1.length+1<=x:=fun x hx=>by
      rcases ZX x (max h.length h1.length+1) with hlt|hge
      . exact absurd hx (hd x (Zc.2 hlt))
      . exact hge
     have e1:Qc h m=h:=jt m h fun x hx=>by have:=hfar x hx;omega
     have e2:Qc h1 m=h1:=jt m h1 fun x hx=>by have:=hfar x hx;omega
     refine⟨?_,rfl,?_⟩
     . show Qc h1 m=h1;exact e2
     . show hwE (Qc h m) _=_;rw[e1]
   | all h2 =>
     exact absurd (Zc.2 (by omega)) (hd 0 (Zc.2 (by omega)))
theorem ziW{h:ze}{e:HE}(he:(hwE h e).isEmpty=true):XA h e=h/\∀ k:ze,XA k e=k/\hwE k e=hwE h e:=by
 cases e with
 | sets l =>
   cases l with
   | nil=>exact⟨rfl,fun k=>⟨rfl,rfl⟩⟩
   | cons p l=>simp[hwE] at he
 | all h' =>
   have:0∈hwE h (.all h'):=Zc.2 (by omega);rw[List.isEmpty_iff.1 he] at this;cases this
theorem zoA{all:Array Oper}{x y:Fpr}{l:List Fpr}{F F':List S}{h h':ze}(hok:x.ok y=true)(hr:zfz P rec keep gc vc all (x :: y :: l) F h F' h'):zfz P rec keep gc vc all (y :: x :: l) F h F' h':=by
 obtain⟨o,us,hs,a1,a2,a3,a4,a5,a6,a7,a8,p,vs,ks,b1,b2,b3,b4,b5,b6,b7,b8,hr⟩:=hr;have fin:(∀ z∈x.w,z ∉ y.r++y.w)->(∀ z∈y.w,z ∉ x.r)->(∀ b∈y.hr,(XA h hs)[b]?=h[b]?)->(∀ b∈x.hr,h[b]?=(XA h ks)[b]?)->XA (XA h hs) ks=XA (XA h ks) hs/\hwE h ks=hwE (XA h hs) ks/\hwE (XA h ks) hs=hwE h hs →
     (∀ n,y.q=some n->n=h.length/\∃ h1,ks=.all h1/\pre h h1)->(∀ n,x.q=some n->n=(XA h ks).length/\∃ h1,hs=.all h1/\pre (XA h ks) h1)->zfz P rec keep gc vc all (y :: x :: l) F h F' h':=fun d1 d2 e1 e2 e3 e4 e5=>by
  obtain⟨c5,c6,c7⟩:=e3;have hy:Agree P keep gc all p (QL F us) F (XA h hs) h:=⟨zer us F,fun t ht=>zdK us F t (fun hm=>d1 t (by rw[a6];exact hm) (by rw[b4];exact z9 _ ht)),fun b hb=>e1 b (by rw[b5];exact hb)⟩;have hyr:=zc8 hy;have hx:Agree P keep gc all o F (QL F vs) h (XA h ks):=⟨(zer vs F).symm,fun t ht=>(zdK vs F t (fun hm=>d2 t (by rw[b6];exact hm) (by rw[a4];exact ht))).symm,fun b hb=>e2 b (by rw[a5];exact hb)⟩;have hxr:=zc8 hx;refine⟨p,vs,ks,b1,by rw[zgi hy];exact b2,fun R' K'=>by rw[<- zew hy];exact b3 R' K',by rw[b4,hyr.1],by rw[b5,hyr.2],b6,by rw[b7,c6],e4,
   o,us,hs,a1,by rw[zgi hx];exact a2,fun R' K'=>by rw[<- zew hx];exact a3 R' K',by rw[a4,hxr.1],by rw[a5,hxr.2],a6,by rw[a7,c7],e5,?_⟩
  rw[zgj vs us F,<- c5]
  . exact hr
  . intro t ht hm;rw[<- a6] at hm;exact d1 t hm (by rw[b6];exact ZA _ ht)
 unfold Fpr.ok at hok;rw[XU] at hok;rcases hok with hok|hok
 . unfold Fpr.ok0 at hok;simp only[zE] at hok;obtain⟨⟨⟨c1,c2⟩,c3⟩,c4⟩:=hok;have d3:=zex c3;have d4:=zex c4;have e3:=zoz hs ks h (fun b hb hm=>d3 b (by rw[a7];exact hb) (by rw[b7];exact ZA _ hm));refine fin (js c1) (js c2) (fun b hb=>zmY hs h b (fun hm=>d3 b (by rw[a7];exact hm) (z9 _ hb))) (fun b hb=>(zmY ks h b (fun hm=>d4 b (by rw[b7,<- e3.2.1];exact hm) hb)).symm) e3 (fun n hn=>?_) (fun n hn=>?_)
   . obtain⟨k1,h1,rfl,k2⟩:=b8 n hn;cases hs with
     | sets m =>
       have hfar:∀ z∈m.map (·.1),h.length<=z:=fun z hz=>by
        have:=d3 z (by rw[a7];exact hz);rw[b7] at this;rcases ZX z h.length with hlt|hge
        . exact absurd (ZA _ (Zc.2 (by simp only[XA,zey];omega))) this
        . exact hge
       have hh:XA h (.sets m)=h:=jt m h hfar;rw[hh] at k1 k2;exact⟨k1,_,rfl,k2⟩
     | all h2=>exact absurd (ZA _ (by rw[b7];exact Zc.2 (by omega))) (d3 0 (by rw[a7];exact Zc.2 (by omega)))
   . obtain⟨k1,h1,rfl,k2⟩:=a8 n hn;cases ks with
     | sets m =>
       have hfar:∀ z∈m.map (·.1),h.length<=z:=fun z hz=>by
        rcases ZX z h.length with hlt|hge
        . exact absurd (ZA _ (by rw[b7];exact hz)) (d3 z (by rw[a7];exact Zc.2 (by omega)))
        . exact hge
       have hh:XA h (.sets m)=h:=jt m h hfar;rw[hh];exact⟨k1,_,rfl,k2⟩
     | all h2=>exact absurd (ZA _ (by rw[b7];exact Zc.2 (by omega))) (d3 0 (by rw[a7];exact Zc.2 (by omega)))
 . rw[zE] at hok;obtain⟨hsl,hq⟩:=hok;unfold Fpr.sl at hsl;rw[zE] at hsl;have d1:=js hsl.1;have d2:=js hsl.2;unfold Fpr.okq at hq;rw[XU] at hq;rcases hq with hq|hq
   . split at hq
     . rename_i n hn;rw[zE,b7] at hq;obtain⟨k1,h1,rfl,k2⟩:=a8 n hn;obtain⟨s1,s2⟩:=ziW hq.1;have s3:=(s2 h).1;refine fin d1 d2 (fun b hb=>k2 b (by rw[<- k1];exact zdL.1 hq.2 b hb)) (fun b _=>by rw[s3]) ⟨by rw[s3,s1],(s2 h).2,by rw[s3]⟩ (fun m hm=>?_) (fun m hm=>by rw[s3];exact a8 m hm);obtain⟨_,h2,e,_⟩:=b8 m hm;subst e;have:0∈hwE (XA h (.all h1)) (.all h2):=Zc.2 (by omega);rw[List.isEmpty_iff.1 hq.1] at this;cases this
     . cases hq
   . split at hq
     . rename_i n hn;rw[zE,a7] at hq;obtain⟨s1,s2⟩:=ziW hq.1;rw[s1] at b8;obtain⟨k1,h1,rfl,k2⟩:=b8 n hn;refine fin d1 d2 (fun b _=>by rw[s1]) (fun b hb=>(k2 b (by rw[<- k1];exact zdL.1 hq.2 b hb)).symm) ⟨by rw[s1];exact(s2 _).1.symm,by rw[s1],(s2 _).2⟩ b8 (fun m hm=>?_);obtain⟨_,h2,e,_⟩:=a8 m hm;subst e;have:0∈hwE h (.all h2):=Zc.2 (by omega);rw[List.isEmpty_iff.1 hq.1] at this;cases this
     . cases hq
theorem qO {all : Array Oper} {x : Fpr} {F' : List S} {h' : ze} : ∀ (pre post : List Fpr) (F : List S) (h : ze), (∀ p ∈ pre, p.ok x = true) -> zfz P rec keep gc vc all (pre ++ x :: post) F h F' h' -> zfz P rec keep gc vc all (x :: (pre ++ post)) F h F' h'
 | [],post,F,h,_,hr=>hr
 | p :: pre,post,F,h,hp,hr=>by
   obtain⟨o,us,hs,a1,a2,a3,a4,a5,a6,a7,a8,hr⟩:=hr;have:=qO pre post _ _ (fun q hq=>hp q (zu _ hq)) hr;exact zoA (hp p (zG ..)) ⟨o,us,hs,a1,a2,a3,a4,a5,a6,a7,a8,this⟩
end
end Go.L
namespace Go.L
open Go.RowKit
section
variable {vc:Bool} {P:Program} {gc keep:FuncId->Bool} {rec:Rec} {all:Array Oper} {o:Oper} {F:List S} {h:ze}
open Classical in
theorem zez (hrec : RecOk P gc rec) (hloc : J3 gc rec) {i : Nat} (hi : all[i]? = some o) (hd : JA F o.dst = true) {us : List (Nat × S)} {hs : HE} (hx : zmV P rec keep gc vc all o F h us hs)
    {g:G} {a:Act} {w:World} (hh:Hinv g h w) (hf:Finv g F a.tmps w) {K:Act->World->Prop} {Q:Exit->Act->World->Prop}
    (hK:∀ g' v w',Hinv g' (XA h hs) w'->Finv g' (QL F us) (a.put o.dst v).tmps w'->Step g w g' w'->K (a.put o.dst v) w'):wpOp P all Q i K a w:=by
 have hx0:=hx _ (fun us hs=>some (us,hs));have hdo:zcq P rec keep gc vc o F h (fun us hs=>some (us,hs))=some (us,hs)->Region.wanted o (yielded all a.tmps)=true->wpOp P all Q i K a w:=fun ha hw=>by
  obtain⟨us',hs',e,-,hop⟩:=zgf (keep:=keep) hloc hd ha;cases e;unfold wpOp;simp only[hi,hw,if_true];left;have h1:opx P rec keep gc vc o F h (fun F2 h2=>if F2=QL F us/\h2=XA h hs then some () else none) (fun _ _ _=>none)=some ():=by
   rw[hop];simp
  refine zau hrec h1 hh hf (fun F2 h2 g' v w' k1 k2 k3 k4=>?_) (fun x F2 h2 g' v w' k1=>by cases k1);split at k1
  . rename_i e;obtain⟨rfl,rfl⟩:=e;exact hK g' v w' k2 k3 k4
  . cases k1
 have hskip:some (wr o.dst .sk,HE.sets [])=some (us,hs)->Region.wanted o (yielded all a.tmps)=false->wpOp P all Q i K a w:=fun e hw=>by
  cases e;unfold wpOp;simp only[hi,hw,zt,if_false];refine hK g undef w hh ?_ (.refl _ _);rw[<- KA hd];exact hf.put o.dst .sk undef (fun k _ _=>rfl) (fun k e sz i c _ he=>by cases he)
 unfold zbs at hx0;cases hg:o.guard with
 | none =>
   simp only[hg] at hx0;exact hdo hx0 (by simp[Region.wanted,hg])
 | some jw =>
   obtain⟨j,want⟩:=jw;simp only[hg] at hx0;cases hdd:(all[j]?).bind (·.dst) with
   | none=>simp[hdd] at hx0
   | some d =>
     simp only[hdd] at hx0;have hlt:∀ y,F[d]?=some y->d < a.tmps.size:=fun y hy=>by rw[<- hf.len];exact(zj.1 hy).1
     cases hs':F[d]? with
     | none=>simp[hs'] at hx0
     | some y =>
       have hlt:=hlt y hs';cases y with
       | sk =>
         simp only[hs'] at hx0;refine hskip hx0 ?_;have hv:a.tmps.getD d undef=undef:=hf.fr d _ hs';have hval:a.tmps[d]?=some undef:=by
          rw[zY,Za hlt] at hv;rw[Za hlt];exact congrArg some hv
         have hy:yielded all a.tmps j=none:=by
          unfold yielded;rw[hdd];simp[hval,undef]
         simp[Region.wanted,hg,hy]
       | v z =>
         cases z with
         | bool b =>
           simp only[hs'] at hx0;have hbv:VR g.im g.io (.bool b) (a.eval (.tmp d)):=hf.getD hs';have hval:a.tmps[d]?=some (.bool b):=by
            generalize hev:a.eval (.tmp d)=v at hbv;cases hbv;rw[Za hlt];have:a.tmps.getD d undef=.bool b:=hev;rw[zY,Za hlt] at this;exact congrArg some this
           have hy:yielded all a.tmps j=some b:=by
            unfold yielded;rw[hdd];simp[hval]
           have hw:Region.wanted o (yielded all a.tmps)=(some b == some want):=by simp[Region.wanted,hg,hy]
           cases b <;> cases want <;> simp only[if_true,if_false,zt] at hx0 <;> first|exact hdo hx0 (by rw[hw];rfl)|exact hskip hx0 (by rw[hw];rfl)
         | _=>simp[hs'] at hx0
       | _=>simp[hs'] at hx0
theorem za9 : ∀ {L : List Fpr}, qn all L = true -> ∀ {pre post : List Fpr} {x : Fpr}, L = pre ++ x :: post -> ∀ p ∈ pre, ((TR.descs .any p.i all.toList #[]).getD x.i false || p.ok x) = true
 | [],_,pre,post,x,e,p,hp=>by cases pre <;> cases e
 | y :: L,hok,[],post,x,e,p,hp=>by cases hp
 | y :: L,hok,q :: pre,post,x,e,p,hp=>by
   cases e;unfold qn at hok;rw[zE] at hok;rcases zN.1 hp with rfl|hp
   . have h1:=Zz.1 hok.1 x (by simp);rwa[TR.descM_bit] at h1
   . exact za9 hok.2 rfl p hp
theorem zba : ∀ {pre post : List Fpr} {x : Fpr}, qn all (pre ++ x :: post) = true -> qn all (pre ++ post) = true
 | [],post,x,h=>by
   simp only[zX] at h ⊢;unfold qn at h;rw[zE] at h;exact h.2
 | p :: pre,post,x,h=>by
   simp only[Z4] at h ⊢;unfold qn at h ⊢;rw[zE] at h ⊢;refine⟨?_,zba h.2⟩;refine Zz.2 fun y hy=>Zz.1 h.1 y ?_;rcases Zn.1 hy with hy|hy
   . exact z9 _ hy
   . exact ZA _ (zu _ hy)
theorem zoB (hrec : RecOk P gc rec) (hloc : J3 gc rec) {F' : List S} {h' : ze} {g0 : G} {w0 : World} {a0 : Act} {ms : List Nat} {Q : Exit -> Act -> World -> Prop} (hms : ∀ o ∈ all.toList, ∀ d, o.dst = some d -> d ∈ ms)
    (hQ:∀ g' a' w',Hinv g' h' w'->Finv g' F' a'.tmps w'->Step g0 w0 g' w'->Pres ms a0 a'->Q .normal a' w')
    (hall:∀ l:Array Bool,l.size=all.size->TR.Closed .any all l->Region.ready .any all l=[]->TR.left all.size l=[]) :
    ∀ (fuel:Nat) (listed:Array Bool) (L:List Fpr) (F:List S) (h:ze) (g:G) (a:Act) (w:World),listed.size=all.size->L.map (·.i)=TR.left all.size listed->L.length<=fuel->TR.Closed .any all listed →
     qn all L=true->zfz P rec keep gc vc all L F h F' h'->Hinv g h w->Finv g F a.tmps w->Step g0 w0 g w->Pres ms a0 a->wpAny P .any all Q fuel listed a w:=by
 intro fuel
 induction fuel with
 | zero =>
   intro listed L F h g a w hsz hL hlen hcl hok hr hh hf hs hp;have hl:L=[]:=Zr (by omega);subst hl;obtain⟨rfl,rfl⟩:=hr;refine⟨?_,hQ g a w hh hf hs hp⟩;refine QO.2 fun i hi=>?_;obtain⟨h0,o,ho,_⟩:=mem_ready.1 hi;have:i∈TR.left all.size listed:=Zj.2 ⟨Zc.2 (ZB.1 ho).1,by simpa using h0⟩;rw[<- hL] at this;cases this
 | succ fuel ih =>
   intro listed L F h g a w hsz hL hlen hcl hok hr hh hf hs hp;refine⟨fun hrd=>?_,fun i hi=>?_⟩
   . have:=hall listed hsz hcl hrd;rw[this] at hL;have hl:L=[]:=by cases L <;> first|rfl|cases hL
     subst hl;obtain⟨rfl,rfl⟩:=hr;exact hQ g a w hh hf hs hp
   . obtain⟨h0,oi,hoi,hed⟩:=mem_ready.1 hi;have hin:i < all.size:=(ZB.1 hoi).1;have hmem:i∈TR.left all.size listed:=Zj.2 ⟨Zc.2 hin,by simpa using h0⟩;rw[<- hL] at hmem;obtain⟨x,hxL,hxi⟩:=ZL.1 hmem;obtain⟨pre,post,rfl⟩:=List.append_of_mem hxL;have hpre:∀ p∈pre,p.ok x=true:=fun p hpp=>by
      have h1:=za9 hok rfl p hpp;rw[XU] at h1;refine h1.resolve_left fun hdsc=>?_;rw[hxi] at hdsc;have hl:=TR.descs_listed hcl p.i i oi hoi hed hdsc;have hpl:p.i∈TR.left all.size listed:=by rw[<- hL];exact ZL.2 ⟨p,z9 _ hpp,rfl⟩
      obtain⟨hpn,hpu⟩:=Zj.1 hpl;have hpn:=Zc.1 hpn;have hsz':p.i < listed.size:=by omega
      simp[hsz'] at hpu hl;rw[hl] at hpu;cases hpu
     have hr2:=qO pre post F h hpre hr;obtain⟨o,us,hs',a1,a2,a3,a4,a5,a6,a7,a8,hr3⟩:=hr2;rw[hxi] at a1;have:o=oi:=by rw[hoi] at a1;exact(Option.some.inj a1).symm
     subst this;have hset:TR.left all.size (listed.setIfInBounds i true)=(pre++post).map (·.i):=by
      have h1:TR.left all.size (listed.setIfInBounds i true)=(TR.left all.size listed).filter (fun k=>k != i):=by
       unfold TR.left;rw[List.filter_filter];refine List.filter_congr fun k hk=>?_;by_cases hki:k=i
       . subst hki;have:k < listed.size:=by omega
         simp[this]
       . rw[_root_.Go.getD_set_ne true (fun e=>hki e.symm)];simp[hki]
      have hnd:((pre++x :: post).map (·.i)).Nodup:=by rw[hL];exact List.Sublist.nodup Jw List.nodup_range
      rw[h1,<- hL,Zo,zW,JQ,List.filter_cons,Zo];rw[Zo,zW] at hnd;have hni:i ∉ pre.map (·.i)/\i ∉ post.map (·.i):=by
       rw[Qi] at hnd;rw[<- hxi];exact⟨fun hc=>hnd.2.2 _ hc _ (zG ..) rfl,fun hc=>(Zt.1 hnd.2.1).1 hc⟩
      rw[XO.2 (fun k hk=>by simp;rintro rfl;exact hni.1 hk),XO.2 (fun k hk=>by simp;rintro rfl;exact hni.2 hk)];simp[hxi]
     have hcl':TR.Closed .any all (listed.setIfInBounds i true):=by
      intro k o hk hl e he hb;by_cases hki:k=i
      . subst hki;rw[hoi] at hk;cases hk;exact _root_.Go.getD_set_true (hed e he hb)
      . rw[_root_.Go.getD_set_ne false (fun e=>hki e.symm)] at hl;exact _root_.Go.getD_set_true (hcl k o hk hl e he hb)
     refine zez hrec hloc hoi a2 a3 hh hf fun g' v w' k1 k2 k3=>?_;refine ih (listed.setIfInBounds i true) (pre++post) (QL F us) (XA h hs') g' _ w' (by simpa using hsz) hset.symm ?_ hcl' (zba hok) hr3 k1 k2 (hs.trans k3) (hp.trans (Pres.put a o.dst v fun k hk=>hms o (by
      have:=Array.mem_of_getElem? hoi;simpa using this) k hk))
     simp at hlen ⊢;omega
theorem zlv (hrec : RecOk P gc rec) (hloc : J3 gc rec) {F' : List S} {h' : ze} {g0 : G} {w0 : World} {a0 : Act} {ms : List Nat} {Q : Exit -> Act -> World -> Prop} (hms : ∀ o ∈ all.toList, ∀ d, o.dst = some d -> d ∈ ms) {kk : Nat}
    (hkk:kk+1=all.size) (hdep:∀ i,i < kk->(TR.descs .any i all.toList #[]).getD kk false=true)
    (hQ:∀ g' a' w',Hinv g' h' w'->Finv g' F' a'.tmps w'->Step g0 w0 g' w'->Pres ms a0 a'->wpOp P all Q kk (fun a w=>Q .normal a w) a' w')
    (hall:∀ l:Array Bool,l.size=all.size->TR.Closed .any all l->Region.ready .any all l=[]->TR.left all.size l=[]) :
    ∀ (fuel:Nat) (listed:Array Bool) (L:List Fpr) (F:List S) (h:ze) (g:G) (a:Act) (w:World),listed.size=all.size->L.map (·.i)++[kk]=TR.left all.size listed->L.length+1<=fuel->TR.Closed .any all listed →
     qn all L=true->zfz P rec keep gc vc all L F h F' h'->Hinv g h w->Finv g F a.tmps w->Step g0 w0 g w->Pres ms a0 a->wpAny P .any all Q fuel listed a w:=by
 intro fuel
 induction fuel with
 | zero=>intro listed L F h g a w hsz hL hlen;omega
 | succ fuel ih =>
   intro listed L F h g a w hsz hL hlen hcl hok hr hh hf hs hp;refine⟨fun hrd=>?_,fun i hi=>?_⟩
   . have:=hall listed hsz hcl hrd;rw[this] at hL;simp at hL
   . obtain⟨h0,oi,hoi,hed⟩:=mem_ready.1 hi;have hin:i < all.size:=(ZB.1 hoi).1;have hmem:i∈TR.left all.size listed:=Zj.2 ⟨Zc.2 hin,by simpa using h0⟩;rw[<- hL] at hmem;by_cases hLn:L=[]
     . subst hLn;obtain⟨rfl,rfl⟩:=hr;have hik:i=kk:=by simpa using hmem
       subst hik;refine wpOp_mono (fun a' w' hq=>?_) (hQ g a w hh hf hs hp);have hleft:∀ k,k < all.size->(listed.setIfInBounds i true).getD k true=true:=fun k hk=>by
        by_cases hki:k=i
        . subst hki;have:k < listed.size:=by omega
          simp[this]
        . rw[_root_.Go.getD_set_ne true (fun e=>hki e.symm)];cases hb:listed.getD k true with
          | true=>rfl
          | false =>
            have:k∈TR.left all.size listed:=Zj.2 ⟨Zc.2 hk,by rw[hb];rfl⟩;rw[<- hL] at this;exact absurd (by simpa using this) hki
       have hrd:Region.ready .any all (listed.setIfInBounds i true)=[]:=QO.2 fun j hj=>by
        obtain⟨h1,o,ho,_⟩:=mem_ready.1 hj;have:=hleft j (ZB.1 ho).1;rw[h1] at this;cases this
       cases fuel with
       | zero=>exact⟨hrd,hq⟩
       | succ fuel=>exact⟨fun _=>hq,fun j hj=>by rw[hrd] at hj;cases hj⟩
     obtain⟨y,hy⟩:∃ y,y∈L:=List.exists_mem_of_ne_nil L hLn;have hyl:y.i∈TR.left all.size listed:=by rw[<- hL];exact z9 _ (ZL.2 ⟨y,hy,rfl⟩)
     have hnd0:(L.map (·.i)++[kk]).Nodup:=by rw[hL];exact List.Sublist.nodup Jw List.nodup_range
     have hyk:y.i≠kk:=by
      intro e;rw[Qi] at hnd0;exact hnd0.2.2 _ (ZL.2 ⟨y,hy,rfl⟩) kk (by simp) e
     have hik:i≠kk:=by
      rintro rfl;obtain⟨hyn,hyu⟩:=Zj.1 hyl;have hyn:=Zc.1 hyn;have hl:=TR.descs_listed hcl y.i i oi hoi hed (hdep y.i (by omega));have hsz':y.i < listed.size:=by omega
      simp[hsz'] at hyu hl;rw[hl] at hyu;cases hyu
     have hmemL:i∈L.map (·.i):=(Zn.1 hmem).resolve_right (by simpa using hik);obtain⟨x,hxL,hxi⟩:=ZL.1 hmemL;obtain⟨pre,post,rfl⟩:=List.append_of_mem hxL;have hpre:∀ p∈pre,p.ok x=true:=fun p hpp=>by
      have h1:=za9 hok rfl p hpp;rw[XU] at h1;refine h1.resolve_left fun hdsc=>?_;rw[hxi] at hdsc;have hl:=TR.descs_listed hcl p.i i oi hoi hed hdsc;have hpl:p.i∈TR.left all.size listed:=by rw[<- hL];exact z9 _ (ZL.2 ⟨p,z9 _ hpp,rfl⟩)
      obtain⟨hpn,hpu⟩:=Zj.1 hpl;have hpn:=Zc.1 hpn;have hsz':p.i < listed.size:=by omega
      simp[hsz'] at hpu hl;rw[hl] at hpu;cases hpu
     have hr2:=qO pre post F h hpre hr;obtain⟨o,us,hs',a1,a2,a3,a4,a5,a6,a7,a8,hr3⟩:=hr2;rw[hxi] at a1;have:o=oi:=by rw[hoi] at a1;exact(Option.some.inj a1).symm
     subst this;have hset:TR.left all.size (listed.setIfInBounds i true)=(pre++post).map (·.i)++[kk]:=by
      have h1:TR.left all.size (listed.setIfInBounds i true)=(TR.left all.size listed).filter (fun k=>k != i):=by
       unfold TR.left;rw[List.filter_filter];refine List.filter_congr fun k hk=>?_;by_cases hki:k=i
       . subst hki;have:k < listed.size:=by omega
         simp[this]
       . rw[_root_.Go.getD_set_ne true (fun e=>hki e.symm)];simp[hki]
      have hnd:((pre++x :: post).map (·.i)).Nodup:=by rw[Qi] at hnd0;exact hnd0.1
      rw[h1,<- hL,JQ,Zo,zW,JQ,List.filter_cons,Zo];rw[Zo,zW] at hnd;have hni:i ∉ pre.map (·.i)/\i ∉ post.map (·.i):=by
       rw[Qi] at hnd;rw[<- hxi];exact⟨fun hc=>hnd.2.2 _ hc _ (zG ..) rfl,fun hc=>(Zt.1 hnd.2.1).1 hc⟩
      rw[XO.2 (fun k hk=>by simp;rintro rfl;exact hni.1 hk),XO.2 (fun k hk=>by simp;rintro rfl;exact hni.2 hk)];have:(kk != i)=true:=by simp;exact fun e=>hik e.symm
      simp[hxi,this]
     have hcl':TR.Closed .any all (listed.setIfInBounds i true):=by
      intro k o hk hl e he hb;by_cases hki:k=i
      . subst hki;rw[hoi] at hk;cases hk;exact _root_.Go.getD_set_true (hed e he hb)
      . rw[_root_.Go.getD_set_ne false (fun e=>hki e.symm)] at hl;exact _root_.Go.getD_set_true (hcl k o hk hl e he hb)
     refine zez hrec hloc hoi a2 a3 hh hf fun g' v w' k1 k2 k3=>?_;refine ih (listed.setIfInBounds i true) (pre++post) (QL F us) (XA h hs') g' _ w' (by simpa using hsz) hset.symm ?_ hcl' (zba hok) hr3 k1 k2 (hs.trans k3) (hp.trans (Pres.put a o.dst v fun k hk=>hms o (by
      have:=Array.mem_of_getElem? hoi;simpa using this) k hk))
     simp at hlen ⊢;omega
end
end Go.L
