/- Lopa: what the law needs of these -/import Derived.LaidEql
import Derived.Laws.StructEq
import Derived.Test.YtclhmdhdpejhhaaGreatJsv3
set_option linter.unusedVariables false
set_option linter.unusedSimpArgs false
namespace Go.L
open Go.RowKit
def QG(P:Program)(o:Oper)(a:Act)(g:G)(w:World)(F:List S)(h:ze):Prop :=
 ∃ v w' g',((execOp a.eval o).run P w=.ok (.value v) w'\/((execOp a.eval o).run P w=.ok .skip w'/\v=undef))/\Hinv g' h w'/\Finv g' F (a.put o.dst v).tmps w'/\Step g w g' w'
section
variable {vc:Bool} {P:Program} {o:Oper} {a:Act} {g:G} {w:World} {F:List S} {h:ze}
theorem za4 {g' : G} {w' : World} {F' : List S} {h' : ze} {v : Value} {x : S} (hrun : (execOp a.eval o).run P w = .ok (.value v) w') (hh : Hinv g' h' w') (hf : Finv g' F' a.tmps w') (hs : Step g w g' w')
    (hx:∀ k T,SR g' w' T k x v) (hnl:lin x=false) (hnf:∀ d sz i c,x≠.fp d sz i c):QG P o a g w (put F' o.dst x) h' :=
 ⟨v,w',g',.inl hrun,hh,hf.put o.dst x v (fun k _ _=>hx k _) (fun k e sz i c _ he=>absurd he (hnf e sz i c)),hs⟩
theorem XI {g' : G} {w' : World} {F' : List S} {h' : ze} {v : Value} {x : V} (hrun : (execOp a.eval o).run P w = .ok (.value v) w') (hh : Hinv g' h' w') (hf : Finv g' F' a.tmps w') (hs : Step g w g' w')
    (hx:VR g'.im g'.io x v):QG P o a g w (put F' o.dst (.v x)) h':=za4 hrun hh hf hs (fun _ _=>hx) rfl (by simp)
theorem zbx {v : Value} {d sz i c : Nat} (hrun : (execOp a.eval o).run P w = .ok (.value v) w) (hh : Hinv g h w) (hf : Finv g F a.tmps w) (hne : o.dst ≠ some d)
    (hx:SR g w a.tmps 0 (.fp d sz i c) v) (hl:∃ x,F[d]?=some x/\lin x=true):QG P o a g w (put F o.dst (.fp d sz i c)) h :=
 ⟨v,w,g,.inl hrun,hh,hf.put o.dst _ v (fun k hk _=>by
  have e:(a.tmps.setIfInBounds k v).getD d undef=a.tmps.getD d undef:=getD_set_ne (by rintro rfl;exact hne hk);simp only[SR,e] at hx ⊢;exact hx) (fun k e sz' i' c' hk he=>by
  cases he;exact⟨by rintro rfl;exact hne hk,hl⟩),.refl _ _⟩
theorem zby {F' : List S} {h' : ze} {g1 : G} {w1 : World} {ob : Obj} {v : Value} {x : S} (hrun : (execOp a.eval o).run P w = .ok (.value v) (w1.alloc ob)) (hh : Hinv g1 h' w1) (hf : Finv g1 F' a.tmps w1) (hs : Step g w g1 w1)
    (hx:∀ k T,o.dst=some k->SR (g1.own w1.heap.size (some (.slot k))) (w1.alloc ob) T k x v) (hnf:∀ d sz i c,x≠.fp d sz i c):QG P o a g w (put F' o.dst x) h':=by
 refine⟨v,_,g1.own w1.heap.size (o.dst.map .slot),.inl hrun,hh.alloc ob _,(hf.alloc hh ob _).put o.dst x v (fun k hk _=>?_) (fun k e sz i c _ he=>absurd he (hnf e sz i c)),hs.trans (.alloc hh ob _)⟩;rw[hk];exact hx k _ hk
theorem Qd{t e sz:Nat}(h:QQ P t=some (e,sz)):P.underlying t=some (.slice e)/\∃ i,P.info? e=some i/\i.size=sz/\0 < sz/\i.bytes<=65536/\∃ z,i.zero=some z/\z.cells.size=sz:=by
 unfold QQ at h;split at h
 . rename_i e' he;split at h
   . rename_i i hi;split at h
     . rename_i z hz;split at h
       . cases h
       . rename_i hn;cases h;exact⟨he,i,hi,rfl,by omega,by omega,z,hz,by omega⟩
     . cases h
   . cases h
 . cases h
theorem jS{t n:Nat}(h:Jy P t=some n):(∃ i,P.info? t=some i/\i.size=n)/\∃ d,P.underlying t=some d:=by
 unfold Jy at h;split at h
 . rename_i i d hi hd;cases h;exact⟨⟨i,hi,rfl⟩,d,hd⟩
 . cases h
theorem zcs{t n:Nat}(h:Jy P t=some n)(w:World):(sizeOf t).run P w=.ok n w:=by
 obtain⟨⟨i,hi,hn⟩,_⟩:=jS h;simp[sizeOf,typeInfo,hi,hn]
theorem zct{t:Nat}{d:TypeDesc}(h:P.underlying t=some d)(w:World):(isAgg t).run P w=.ok (XY P t) w:=by
 unfold isAgg XY;simp only[Sem.run_bind,run_underlying h,Result.andThen_ok,h];cases d <;> rfl
theorem Finv.drop(hf:Finv g F a.tmps w)(t:Nat):Finv g (Go.L.put F (some t) .un) a.tmps w:=by
 have:=hf.put (a:=a) (some t) .un (a.tmps.getD t undef) (fun k _ _=>trivial) (fun k e sz i c _ he=>by cases he);have he:(a.put (some t) (a.tmps.getD t undef)).tmps=a.tmps:=by
  show a.tmps.setIfInBounds t _=_;apply Array.ext_getElem?;intro j;rw[Array.getElem?_setIfInBounds];split
  . rename_i hj;subst hj;split
    . rename_i hlt;rw[Za hlt];simp[Array.getD,hlt]
    . rename_i hge;rw[X2 (by omega)]
  . rfl
 rw[he] at this;exact this
theorem zld{t:Nat}{x:S}(h:(put F (some t) .un)[t]?=some x):x=.un:=by
 simp only[put] at h;split at h <;> (rw[Zd] at h;simp at h;exact h.2.symm)
theorem Finv.keep3 {g g' : G} {w w' : World} {F : List S} {T : Array Value} (h : Finv g F T w) (him : ∀ p v, g.im p = some v -> g'.im p = some v) (hio : ∀ b β, g.io b = some β -> g'.io b = some β)
    (how:∀ s x,F[s]?=some x->lin x=true->x≠.gone->∀ β,g.ow β=some (.slot s)->g'.ow β=some (.slot s)/\w'.heap[β]?=w.heap[β]?):Finv g' F T w' :=
 ⟨h.len,h.fp,fun s x hx=>by
  cases x with
  | gone=>trivial
  | _=>exact(h.fr s _ hx).keep2 him hio fun hl β hβ=>how s _ hx hl (by simp) β hβ⟩
theorem Finv.give(hf:Finv g F a.tmps w){d:Nat}{x:S}(hx:F[d]?=some x)(hl:lin x=true):Finv g (F.set d .gone) a.tmps w:=by
 refine⟨by simp[hf.len],fun s d' sz i c hs=>?_,fun s y hy=>?_⟩
 . rw[Zd] at hs;by_cases hsd:d=s
   . rw[if_pos hsd] at hs;split at hs <;> cases hs
   . rw[if_neg hsd] at hs;obtain⟨z,hz,hlz⟩:=hf.fp s d' sz i c hs;by_cases hdd:d=d'
     . subst hdd;exact⟨.gone,by rw[Zf (zj.1 hx).1],rfl⟩
     . exact⟨z,by rw[zd hdd];exact hz,hlz⟩
 . rw[Zd] at hy;by_cases hsd:d=s
   . rw[if_pos hsd] at hy;split at hy
     . cases hy;trivial
     . cases hy
   . rw[if_neg hsd] at hy;exact hf.fr s y hy
theorem ziz {t e sz : Nat} {l : List (List V)} (hrun : (execOp a.eval o).run P w = .ok (.value (a.eval (.tmp t))) w) (hh : Hinv g h w) (hf : Finv g F a.tmps w) (hx : F[t]? = some (.own e sz l)) :
    QG P o a g w (put (F.set t .gone) o.dst (.own e sz l)) h:=by
 obtain⟨xs,h1,h2,h3,h4⟩:=hf.getD hx;have hf1:=hf.give hx rfl;cases hob:(a.eval (.tmp t)).ownBlock with
 | none =>
   refine⟨_,w,g,.inl hrun,hh,hf1.put o.dst (.own e sz l) _ (fun k _ _=>?_) (fun k e sz i c _ he=>by cases he),.refl _ _⟩;exact⟨xs,h1,h2,h3,fun β hβ=>by rw[hob] at hβ;cases hβ⟩
 | some β =>
   have how:=h4 β hob;have hlt:=hh.ow β (by rw[how];simp);have hne:∀ b,g.ow b≠some (.slot t)->b≠β:=fun b hb e=>hb (by rw[e];exact how);refine⟨_,w,g.own β (o.dst.map .slot),.inl hrun,?_,?_,?_⟩
   . refine hh.keep rfl rfl (fun b h0 _=>⟨?_,rfl⟩) (fun b b' hb=>⟨?_,rfl⟩) (fun b hb=>?_)
     . rw[G.own_ne _ _ (hne b (by rw[h0];simp))];exact h0
     . rw[G.own_ne _ _ (hne b (by rw[hb];simp))];exact hb
     . by_cases hbb:b=β
       . omega
       . rw[G.own_ne _ _ hbb] at hb;exact hh.ow b hb
   . refine Finv.put ?_ o.dst (.own e sz l) _ (fun k hk _=>show SR _ _ _ _ (.own e sz l) _ from⟨xs,h1,h2,h3,fun b hb=>?_⟩) (fun k e sz i c _ he=>by cases he)
     . refine hf1.keep3 (fun _ _ h=>h) (fun _ _ h=>h) fun s x hx' hl hng b hb=>⟨?_,rfl⟩;rw[G.own_ne _ _]
       . exact hb
       . rintro rfl;rw[how] at hb;injection hb with hb;injection hb with hb;subst hb;rw[Zf (zj.1 hx).1] at hx';cases hx';exact hng rfl
     . rw[hob] at hb;cases hb;rw[hk];exact G.own_same _ _ _
   . exact⟨fun _ _ h=>h,fun _ _ h=>h,fun _ _ h=>.inl h,fun b hb h0=>by rw[G.own_ne _ _ (hne b (by rw[h0];simp))];exact h0,rfl,rfl,rfl,zn _,fun _ _ _=>rfl⟩
theorem zf5 {x : Operand} (ho : (execOp a.eval o).run P w = .ok (.value (a.eval x)) w) (hh : Hinv g h w) (hf : Finv g F a.tmps w) {R : Type} {K : List S -> ze -> Option R} {r : R}
    {as_:Bool} (hm:qB P as_ o x F h K=some r):∃ F' h',K F' h'=some r/\QG P o a g w F' h':=by
 cases x with
 | tmp t =>
   simp only[qB] at hm;split at hm
   . rename_i y hy;exact⟨_,_,hm,XI ho hh hf (.refl _ _) (hf.getD hy)⟩
   . rename_i l hy;exact⟨_,_,hm,za4 (x:=.tup l) ho hh hf (.refl _ _) (fun _ _=>hf.getD hy) rfl (by simp)⟩
   . rename_i e sz l hy;split at hm
     . exact⟨_,_,hm,ziz ho hh hf hy⟩
     . split at hm
       . cases hm
       . rename_i hne;exact⟨_,_,hm,zbx ho hh hf hne (by simp only[SR,qA,beq_self_eq_true,Bool.and_self,if_true];rfl) ⟨_,hy,rfl⟩⟩
   . rename_i n cs hy;split at hm
     . cases hm
     . rename_i hne;obtain⟨β,ty,c,hv,hb,_⟩:=hf.getD hy;refine⟨_,_,hm,zbx ho hh hf hne ?_ ⟨_,hy,rfl⟩⟩;simp only[SR,Yf,zt,if_false];refine⟨β,by simpa using hv,?_⟩;have:a.tmps.getD t undef=.pointer (some ⟨β,0,none⟩):=hv;rw[this];rfl
   . rename_i d sz i c hy;split at hm
     . rename_i e sz' l hd;split at hd
       . rename_i hc;split at hm
         . rename_i hdd;simp only[zE] at hc;have hval:a.eval (.tmp t)=a.eval (.tmp d):=(hf.getD hy).name hc.1.2;rw[hval] at ho;refine⟨_,_,hm,⟨_,w,g,.inl ho,hh,?_,.refl _ _⟩⟩;have hself:(a.put o.dst (a.eval (.tmp d))).tmps=a.tmps:=by
            rw[hdd];show a.tmps.setIfInBounds d (a.tmps.getD d undef)=a.tmps;apply Array.ext_getElem?;intro i;rw[Array.getElem?_setIfInBounds];split
            . rename_i e;subst e;split
              . rename_i hlt;rw[Za hlt];rfl
              . rename_i hge;rw[X2 (by omega)]
            . rfl
           rw[hself];exact hf
         . simp only[zE] at hc;have hval:a.eval (.tmp t)=a.eval (.tmp d):=(hf.getD hy).name hc.1.2;rw[hval] at ho;exact⟨_,_,hm,ziz ho hh hf hd⟩
       . cases hd
     . split at hm
       . cases hm
       . rename_i hne;exact⟨_,_,hm,zbx ho hh hf hne (hf.getD hy) (hf.fp _ _ _ _ _ hy)⟩
   . cases hm
 | const v =>
   have key:(match evV F (.const v) with|some v=>K (put F o.dst (.v v)) h|none=>none)=some r->∃ F' h',K F' h'=some r/\QG P o a g w F' h':=fun hm=>by
    split at hm
    . rename_i y hy;exact⟨_,_,hm,XI ho hh hf (.refl _ _) (ZW hf hy)⟩
    . cases hm
   by_cases hn:v=.slice none 0 0
   . subst hn;change (match QQ P o.type with|some (e,sz)=>K (L.put F o.dst (.own e sz [])) h|none=>none)=some r at hm;split at hm
     . rename_i e sz he;obtain⟨hu,i,hi,hsz,hpos,hby,_⟩:=Qd he;refine⟨_,_,hm,⟨_,w,g,.inl ho,hh,hf.put o.dst (.own e sz []) _ (fun k _ _=>show SR _ _ _ _ (.own e sz []) _ from⟨[],World.ownsRow_nil _ _ _ _,by simp,.nil,fun β hβ=>by simp[Act.eval,Value.ownBlock] at hβ⟩) (fun k e sz i c _ he=>by cases he),.refl _ _⟩⟩
     . cases hm
   . refine key ?_;unfold qB at hm;split at hm
     . rename_i hc;cases hc
     . rename_i hc;cases hc;exact absurd rfl hn
     . exact hm
 | func f =>
   change (match evV F (.func f) with|some v=>K (L.put F o.dst (.v v)) h|none=>none)=some r at hm;split at hm
   . rename_i y hy;exact⟨_,_,hm,XI ho hh hf (.refl _ _) (ZW hf hy)⟩
   . cases hm
 | global n=>simp[qB,evV] at hm
theorem Q9{t:Nat}{cs:List V}(hz:Q1 P t=some cs):∃ i z,P.info? t=some i/\i.zero=some z/\z.cells.size=i.size/\(∀ im io,VL im io cs z.cells.toList)/\Ones cs/\cs.length=i.size/\z.cells.toList.length=i.size:=by
 unfold Q1 at hz;split at hz
 . rename_i i hi;split at hz
   . rename_i z hz';split at hz
     . rename_i hs;have hl:=fun im io=>(Yq (im:=im) (io:=io) hz).1;refine⟨i,z,hi,hz',hs,hl,(Yq (im:=fun _=>none) (io:=fun _=>none) hz).2,?_,by simpa using hs⟩;have:=(hl (fun _=>none) (fun _=>none)).1;simp at this;omega
     . cases hz
   . cases hz
 . cases hz
theorem YB{t:Nat}{i:TypeInfo}{z:Value}(hi:P.info? t=some i)(hz:i.zero=some z)(w:World):(zeroValue t).run P w=.ok z w:=by simp[zeroValue,typeInfo,hi,hz]
theorem zle{e:TypeId}{cs:List V}(ho:o.op=.alloc e)(hz:Q1 P e=some cs)(hh:Hinv g h w)(hf:Finv g F a.tmps w):QG P o a g w (put F o.dst (.bx cs.length cs)) h:=by
 obtain⟨i,z,hi,hz',hs,hl,hon,hlen,_⟩:=Q9 hz;refine zby (ob:=.cells z.cells e) (v:=.pointer (some ⟨w.heap.size,0,none⟩)) ?_ hh hf (.refl _ _) (fun k T hk=>⟨w.heap.size,e,z.cells,rfl,heap_alloc_new w _,rfl,hon,hl _ _,G.own_same _ _ _⟩) (by simp);simp[execOp,ho,Instr.alloc,YB hi hz',newVar,newRow]
theorem zp7{e:TypeId}{x:Operand}{v:V}{F':List S}{h':ze}{n:Nat}(ho:o.op=.box e x)(he:evE vc F h x=some (v,F',h'))(hn:v.cells.length=n)(hh:Hinv g h w)(hf:Finv g F a.tmps w):QG P o a g w (put F' o.dst (.bx n v.cells)) h':=by
 obtain⟨g1,hh1,hf1,hs1,hv1⟩:=Qk hh hf he;have hc:=hv1.cells;refine zby (ob:=.cells (a.eval x).cells e) (v:=.pointer (some ⟨w.heap.size,0,none⟩)) ?_ hh1 hf1 hs1 (fun k T hk=>⟨w.heap.size,e,(a.eval x).cells,rfl,heap_alloc_new w _,hn,hc.2,hc.1,G.own_same _ _ _⟩) (by simp);simp[execOp,ho,Instr.box,newVar,newRow]
theorem jT {im : Im} {io : Io} {cs : List V} {c n : Nat} {ag : Bool} {x : V} (hx : Jd ag cs c n = some x) (hc : c + n <= cs.length) {ys : List Value} (hl : VL im io ((cs.drop c).take n) ys) (hon : Ones cs) (hn : ag = false -> 0 < n) :
    if ag then VR im io x (.agg ys.toArray) else ∃ y,ys[0]?=some y/\VR im io x y:=by
 unfold Jd at hx;cases ag with
 | true =>
   simp at hx;subst hx;exact VL.agg (by simpa using hl) ((hon.drop _).take _)
 | false =>
   simp at hx;have:((cs.drop c).take n)[0]?=some x:=by
    rw[Ze,if_pos (hn rfl),Zh];simpa using hx
   obtain⟨y,hy,hv⟩:=hl.get this;exact⟨y,hy,hv⟩
theorem zec {t : TypeId} {x : Operand} {cs : List V} {m c n : Nat} {v : V} (hp : place F h x = some (cs, m, c)) (hn : Jy P t = some n) (hc : c + n <= m /\ 0 < n) (hv : Jd (XY P t) cs c n = some v)
    (hh:Hinv g h w) (hf:Finv g F a.tmps w):∃ q u,a.eval x=.pointer (some q)/\(loadVar t q).run P w=.ok u w/\VR g.im g.io v u:=by
 obtain⟨q,hq,hlen,hon,hr⟩:=ziw hh hf hp;obtain⟨i,hi,hin⟩:=jS hn;have hex:∃ ys:List Value,VL g.im g.io ((cs.drop c).take n) ys/\∀ (j:Nat) u,ys[j]?=some u->w.cell? (q.add j)=some u:=by
  refine⟨(List.range n).map fun j=>(w.cell? (q.add j)).getD undef,⟨by simp;omega,fun j x y hx hy=>?_⟩,fun j u hu=>?_⟩
  . rw[Ze] at hx;split at hx
    . rename_i hj;rw[Zh] at hx;obtain⟨u,hu,hvr⟩:=hr j x hx;rw[zF,Qe hj] at hy;simp[hu] at hy;subst hy;exact hvr
    . cases hx
  . have hj:j < n:=by have:=(zj.1 hu).1;simpa using this
    rw[zF,Qe hj] at hu;have hcj:c+j < cs.length:=by omega
    obtain⟨u',hu',_⟩:=hr j _ (zf hcj);simp[hu'] at hu;rw[<- hu];exact hu'
 obtain⟨ys,hys,hcell⟩:=hex;have hylen:ys.length=n:=by rw[<- hys.1];simp;omega
 obtain⟨_,d,hu⟩:=jS hn;have hpart:=jT hv (by omega) hys hon (fun _=>hc.2);cases hag:XY P t with
 | true =>
   rw[hag] at hpart;have hl:=run_loadCells_list (P:=P) w q ys hcell;rw[hylen] at hl;refine⟨q,.agg ys.toArray,hq,?_,by simpa using hpart⟩;simp[loadVar,zct hu,hag,zcs hn,hl]
 | false =>
   rw[hag] at hpart;obtain⟨y,hy,hvr⟩:=by simpa using hpart
   have h0:=hcell 0 y hy;rw[show q.add 0=q from rfl] at h0;exact⟨q,y,hq,by simp[loadVar,zct hu,hag,h0],hvr⟩
theorem zol {t : TypeId} {x : Operand} {cs : List V} {m c n : Nat} {v : V} (ho : o.op = .load t x) (hp : place F h x = some (cs, m, c)) (hn : Jy P t = some n) (hc : c + n <= m /\ 0 < n) (hv : Jd (XY P t) cs c n = some v)
    (hh:Hinv g h w) (hf:Finv g F a.tmps w):QG P o a g w (put F o.dst (.v v)) h:=by
 obtain⟨q,u,hq,hrun,hvr⟩:=zec hp hn hc hv hh hf;refine XI (v:=u) ?_ hh hf (.refl _ _) hvr;simp[execOp,ho,hq,Instr.loadAt,Instr.sureAddr,hrun]
end
end Go.L
namespace Go.L
open Go.RowKit
section
variable {P:Program}
def reg(P:Program)(t:TypeId)(cs:List Value):Value:=if XY P t then .agg cs.toArray else cs.getD 0 undef
theorem zbz{t:TypeId}{fs:Array Field}(h:P.underlying t=some (.struct fs))(cs:List Value):reg P t cs=.agg cs.toArray:=by simp[reg,XY,h]
theorem zar{t:TypeId}(h:XY P t=false)(x:Value):reg P t [x]=x:=by simp[reg,h]
theorem jU : ∀ {ks ks' : List Nat} {l m : List V} {b : Bool}, eqK (ks ++ ks') l m = some b -> ∃ b1 b2, eqK ks (l.take ks.length) (m.take ks.length) = some b1 /\ eqK ks' (l.drop ks.length) (m.drop ks.length) = some b2 /\ b = (b1 && b2)
 | [],ks',l,m,b,h=>⟨true,b,by simp[eqK],by simpa using h,by simp⟩
 | k :: ks,ks',l,m,b,h=>by
   rw[Z4] at h;unfold eqK at h;split at h
   . rename_i e;cases e
   . rename_i e;cases e;split at h
     . rename_i hk;split at h
       . rename_i r hr;cases h;obtain⟨b1,b2,h1,h2,h3⟩:=jU hr;refine⟨_,b2,by simp[eqK,hk,h1];rfl,by simpa using h2,by rw[h3,Bool.and_assoc]⟩
       . cases h
     . cases h
   . rename_i e;cases e;split at h
     . rename_i r hr;cases h;obtain⟨b1,b2,h1,h2,h3⟩:=jU hr;refine⟨_,b2,by simp[eqK,h1];rfl,by simpa using h2,by rw[h3,Bool.and_assoc]⟩
     . cases h
   . rename_i e;cases e;split at h
     . rename_i r hr;cases h;obtain⟨b1,b2,h1,h2,h3⟩:=jU hr;refine⟨_,b2,by simp[eqK,h1];rfl,by simpa using h2,by rw[h3,Bool.and_assoc]⟩
     . cases h
   . cases h
theorem KS : ∀ {ks : List Nat} {l m : List V} {b : Bool}, eqK ks l m = some b -> l.length = ks.length /\ m.length = ks.length
 | [],l,m,b,h=>by
   unfold eqK at h;split at h <;> first|(rename_i e;cases e;done)|cases h|skip
   exact⟨rfl,rfl⟩
 | k :: ks,l,m,b,h=>by
   unfold eqK at h;split at h
   . rename_i e;cases e
   . rename_i e;cases e;split at h
     . split at h
       . rename_i r hr;have:=KS hr;simp[this]
       . cases h
     . cases h
   . rename_i e;cases e;split at h
     . rename_i r hr;have:=KS hr;simp[this]
     . cases h
   . rename_i e;cases e;split at h
     . rename_i r hr;have:=KS hr;simp[this]
     . cases h
   . cases h
theorem zs8{l m:List V}{b:Bool}(h:eqK [] l m=some b):b=true:=by
 cases l <;> cases m <;> simp[eqK] at h;exact h
theorem jo{t:TypeId}{n:Nat}(hn:Jy P t=some n){cs:Array Value}{off:Nat}(hoff:off+n<=cs.size)(hpos:XY P t=false->0 < n)(w:World):(part t cs off).run P w=.ok (reg P t ((cs.toList.drop off).take n)) w:=by
 obtain⟨_,d,hd⟩:=jS hn;unfold part reg;simp only[Sem.run_bind,zct hd,Result.andThen_ok];cases hag:XY P t with
 | true =>
   simp[zcs hn];apply Array.ext';simp[List.take_drop,List.extract_eq_take_drop] <;> skip
 | false =>
   have:=hpos hag;have hlt:off < cs.size:=by omega
   simp[Za hlt,Ze,this]
   try rw[Zh]
   try simp[hlt]
theorem qF{im:Im}{io:Io}:∀ (d:Nat) (t:TypeId) (ks:List Nat),kds P d t=some ks->∀ (D:Nat),d<=D->∀ (l m:List V) (cs ds:List Value) (b:Bool) (w:World),VL im io l cs->VL im io m ds->eqK ks l m=some b →
    (Op.equalIn D t (reg P t cs) (reg P t ds)).run P w=.ok b w
 | 0,t,ks,h,_,_,_,_,_,_,_,_,_,_,_=>by simp[kds] at h
 | d+1,t,ks,h,0,hD,_,_,_,_,_,_,_,_,_=>by omega
 | d+1,t,ks,h,D+1,hD,l,m,cs,ds,b,w,hl,hm,he=>by
   unfold kds at h;split at h
   . rename_i k hu;cases h;have hag:XY P t=false:=by simp[XY,hu]
     unfold eqK at he;split at he <;> first|(rename_i e;cases e;done)|cases he|skip
     rename_i e;cases e;split at he
     . rename_i hk;subst hk;split at he
       . rename_i r hr;cases he;obtain⟨rfl,rfl,hr⟩:(_=([]:List V))/\(_=([]:List V))/\_:=by
          have:=KS hr;exact⟨z7.1 this.1,z7.1 this.2,hr⟩
         simp[eqK] at hr;subst hr;obtain⟨x,r1,rfl,hx,h1⟩:=hl.uncons;obtain⟨y,r2,rfl,hy,h2⟩:=hm.uncons;cases hx;cases hy;obtain rfl:=z7.1 h1.1.symm;obtain rfl:=z7.1 h2.1.symm;rw[zar hag,zar hag,run_equalIn_int w D t _ _ _ _ hu];simp
       . cases he
     . cases he
   . rename_i hu;cases h;have hag:XY P t=false:=by simp[XY,hu]
     unfold eqK at he;split at he <;> first|(rename_i e;cases e;done)|cases he|skip
     rename_i e;cases e;split at he
     . rename_i r hr;cases he;obtain⟨rfl,rfl,hr⟩:(_=([]:List V))/\(_=([]:List V))/\_:=by
        have:=KS hr;exact⟨z7.1 this.1,z7.1 this.2,hr⟩
       simp[eqK] at hr;subst hr;obtain⟨x,r1,rfl,hx,h1⟩:=hl.uncons;obtain⟨y,r2,rfl,hy,h2⟩:=hm.uncons;cases hx;cases hy;obtain rfl:=z7.1 h1.1.symm;obtain rfl:=z7.1 h2.1.symm;rw[zar hag,zar hag,run_equalIn_bool w D t _ _ hu];simp
     . cases he
   . rename_i hu;cases h;have hag:XY P t=false:=by simp[XY,hu]
     unfold eqK at he;split at he <;> first|(rename_i e;cases e;done)|cases he|skip
     rename_i e;cases e;split at he
     . rename_i r hr;cases he;obtain⟨rfl,rfl,hr⟩:(_=([]:List V))/\(_=([]:List V))/\_:=by
        have:=KS hr;exact⟨z7.1 this.1,z7.1 this.2,hr⟩
       simp[eqK] at hr;subst hr;obtain⟨x,r1,rfl,hx,h1⟩:=hl.uncons;obtain⟨y,r2,rfl,hy,h2⟩:=hm.uncons;cases hx;cases hy;obtain rfl:=z7.1 h1.1.symm;obtain rfl:=z7.1 h2.1.symm;rw[zar hag,zar hag,run_equalIn_string w D t _ _ hu];simp
     . cases he
   . rename_i fs hu;split at h
     . cases h
     . rename_i hst;rw[zbz hu,zbz hu];have hfo:P.fieldsOf t=fs:=by simp[Program.fieldsOf,hu]
       rw[run_equalIn_struct w D t _ _ (by rw[hfo];exact hu) (by simpa using hst),hfo];have key:∀ (fl:List Field) (acc:List Nat),fl.foldlM (fun(acc:List Nat) f=>if f.name≠ "_"/\f.offset=acc.length then(match kds P d f.type with|some ks=>if Jy P f.type=some ks.length then some (acc++ks) else none|none=>none) else none) acc=some ks →
           ∀ b,(∃ ks',ks=acc++ks'/\eqK ks' (l.drop acc.length) (m.drop acc.length)=some b)->(Op.eqFields D cs.toArray ds.toArray fl).run P w=.ok b w:=by
        intro fl
        induction fl with
        | nil =>
          intro acc hf b hb;simp at hf;subst hf;obtain⟨ks',h1,h2⟩:=hb;have:ks'=[]:=by simpa using h1
          subst this;obtain rfl:=zs8 h2;simp[Op.eqFields]
        | cons f fl ih =>
          intro acc hf b hb;rw[JF] at hf;simp only[bind,Qx] at hf;obtain⟨acc',ha,hf⟩:=hf;split at ha
          . rename_i hn;split at ha
            . rename_i kf hkf;split at ha
              . rename_i hsz;cases ha;obtain⟨ks',h1,h2⟩:=hb;obtain⟨ks2,h3⟩:∃ ks2,ks=(acc++kf)++ks2:=by
                 have mono:∀ (fl:List Field) (acc:List Nat),fl.foldlM (fun(acc:List Nat) f=>if f.name≠ "_"/\f.offset=acc.length then(match kds P d f.type with|some ks=>if Jy P f.type=some ks.length then some (acc++ks) else none|none=>none) else none) acc=some ks->∃ r,ks=acc++r:=by
                  intro fl
                  induction fl with
                  | nil=>intro acc h;simp at h;exact⟨[],by simp[h]⟩
                  | cons f fl ih =>
                    intro acc h;rw[JF] at h;simp only[bind,Qx] at h;obtain⟨acc',ha,h⟩:=h;obtain⟨r,hr⟩:=ih _ h;split at ha
                    . split at ha
                      . split at ha
                        . cases ha;exact⟨_,by rw[hr,List.append_assoc]⟩
                        . cases ha
                      . cases ha
                    . cases ha
                 exact mono fl _ hf
                have h4:ks'=kf++ks2:=by
                 have:=h1.symm.trans h3;rw[List.append_assoc] at this;exact List.append_cancel_left this
                subst h4;obtain⟨b1,b2,e1,e2,e3⟩:=jU h2;have hlen:=KS he;rw[h3] at hlen;simp at hlen;have hkpos:XY P f.type=false->0 < kf.length:=fun hag=>by
                 rcases d with _|d
                 . simp[kds] at hkf
                 . unfold kds at hkf;split at hkf
                   . cases hkf;simp
                   . cases hkf;simp
                   . cases hkf;simp
                   . rename_i fs' hu';simp[XY,hu'] at hag
                   . cases hkf
                have p1:=jo hsz (cs:=cs.toArray) (off:=f.offset) (by have:=hl.1;rw[hn.2];simp;omega) hkpos w;have p2:=jo hsz (cs:=ds.toArray) (off:=f.offset) (by have:=hm.1;rw[hn.2];simp;omega) hkpos w;have p3:=qF (im:=im) (io:=io) d f.type kf hkf D (by omega) _ _ _ _ b1 w ((hl.drop acc.length).take kf.length) ((hm.drop acc.length).take kf.length) e1;rw[hn.2] at p1 p2;have ihf:=ih (acc++kf) hf b2 ⟨ks2,h3,by simpa[List.drop_drop] using e2⟩;simp only[Op.eqFields,hn.1,ne_eq,not_false_eq_true,if_true,Sem.run_bind,hn.2,p1,p2,Result.andThen_ok];have p3':(Op.equalIn D f.type (reg P f.type (List.take kf.length (List.drop acc.length cs))) (reg P f.type (List.take kf.length (List.drop acc.length ds)))).run P w=.ok b1 w:=p3;simp only[p3',Result.andThen_ok,Sem.run_ite,Sem.run_pure,ihf,e3];cases b1 <;> simp
              . cases ha
            . cases ha
          . cases ha
       exact key fs.toList [] h b ⟨ks,by simp,by simpa using he⟩
   . cases h
end
end Go.L
namespace Go.L
open Go.RowKit
section
variable {vc:Bool} {P:Program} {o:Oper} {a:Act} {g:G} {w:World} {F:List S} {h:ze}
theorem zom(op:BinOp)(t:TypeId)(k:IntKind)(p q:Int)(h:zdH op=false):binOp op t (.int k p) (.int k q)=(match op with
    | .add|.sub|.mul=>Op.intArith op k p q
    | .quo|.rem=>Op.intDiv op k p q
    | .and|.or|.xor|.andNot=>Op.intBits op k p q
    | _=>Op.intCmp op p q):=by
 cases op <;> first|(simp[zdH] at h;done)|(simp only[binOp,ne_eq,not_true_eq_false,if_false])
theorem zp8{op:BinOp}{t:TypeId}{k:IntKind}{p q:Int}{v:V}(hb:zs4 op k p q=some v)(w:World):∃ u,(binOp op t (.int k p) (.int k q)).run P w=.ok u w/\∀ im io,VR im io v u:=by
 have hs:zdH op=false:=by cases op <;> first|rfl|(simp[zs4] at hb)
 rw[zom op t k p q hs];cases op <;> simp only[zs4] at hb
 case quo =>
  split at hb
  . cases hb
  . rename_i h0;cases hb;exact⟨_,by simp only[Op.intDiv,h0,if_false,Sem.run_pure],fun _ _=>.int _ _⟩
 case rem =>
  split at hb
  . cases hb
  . rename_i h0;cases hb;exact⟨_,by simp only[Op.intDiv,h0,if_false,Sem.run_pure],fun _ _=>.int _ _⟩
 all_goals
  first
   | cases hb;done
   | (cases hb;exact⟨_,rfl,fun _ _=>.int _ _⟩)
   | (cases hb;exact⟨_,rfl,fun _ _=>.bool _⟩)
theorem zp9{op:BinOp}{t:TypeId}{k:IntKind}{p q:Int}{v:V}(hb:zu9 op k p q=some v)(w:World):∃ u,(∀ k',(binOp op t (.int k p) (.int k' q)).run P w=.ok u w)/\∀ im io,VR im io v u:=by
 unfold zu9 at hb;split at hb
 . cases hb
 . rename_i h0;cases op <;> simp only at hb
   case shl=>cases hb;exact⟨_,fun k'=>by simp only[binOp,Op.shift,h0,if_false,Sem.run_pure],fun _ _=>.int _ _⟩
   case shr=>cases hb;exact⟨_,fun k'=>by simp only[binOp,Op.shift,h0,if_false,Sem.run_pure],fun _ _=>.int _ _⟩
   all_goals cases hb
theorem zmP(op:BinOp)(t:TypeId)(x y:Operand)(k k':IntKind)(p q:Int):(eqGuard op t x y (.int k p) (.int k' q)).run P w=.ok () w:=by cases op <;> rfl
theorem zqa(op:BinOp)(t:TypeId)(x y:Operand)(p q:Bool):(eqGuard op t x y (.bool p) (.bool q)).run P w=.ok () w:=by cases op <;> rfl
theorem zs9(op:BinOp)(t:TypeId)(x y:Operand)(p q:ByteArray):(eqGuard op t x y (.string p) (.string q)).run P w=.ok () w:=by cases op <;> rfl
theorem zas(op:BinOp)(t:TypeId)(x y:Operand)(p q:Option Addr):(eqGuard op t x y (.pointer p) (.pointer q)).run P w=.ok () w:=by cases op <;> rfl
theorem zat(d:Nat){t e:TypeId}(hu:P.underlying t=some (.pointer e))(q:Option Addr):(Op.equalIn (d+1) t (.pointer none) (.pointer q)).run P w=.ok q.isNone w:=by simp[Op.equalIn,run_underlying hu]
theorem Y9(d:Nat){t e:TypeId}(hu:P.underlying t=some (.pointer e))(p:Addr):(Op.equalIn (d+1) t (.pointer (some p)) (.pointer none)).run P w=.ok false w:=by simp[Op.equalIn,run_underlying hu]
theorem zon(d:Nat){t e:TypeId}{ti:TypeInfo}(hu:P.underlying t=some (.pointer e))(hti:P.info? e=some ti)(hsz:ti.size≠0){p q:Addr}{r:Bool}(hs:(sameAddr p q).run P w=.ok r w):(Op.equalIn (d+1) t (.pointer (some p)) (.pointer (some q))).run P w=.ok r w:=by simp[Op.equalIn,run_underlying hu,sizeOf,typeInfo,hti,hsz,hs]
theorem JS(t:TypeId)(p q:Option Addr):(binOp .eql t (.pointer p) (.pointer q)).run P w=((Op.equalIn 10000 t (.pointer p) (.pointer q)).run P w).andThen fun b w'=>.ok (.bool b) w':=by
 simp only[binOp];simp[Op.equal,Op.maxDepth]
theorem JT(t:TypeId)(p q:Option Addr):(binOp .neq t (.pointer p) (.pointer q)).run P w=((Op.equalIn 10000 t (.pointer p) (.pointer q)).run P w).andThen fun b w'=>.ok (.bool (!b)) w':=by
 simp only[binOp];simp[Op.equal,Op.maxDepth]
theorem zta {im : Im} {io : Io} {op : BinOp} {t : TypeId} {x y : V} {r : V} {u v : Value} (hb : bop P op t x y = some r) (hx : VR im io x u) (hy : VR im io y v) (X Y : Operand) (w : World) :
    ∃ z,(do eqGuard op t X Y u v;binOp op t u v).run P w=.ok z w/\VR im io r z:=by
 unfold bop at hb;split at hb
 . rename_i hu;cases hx;cases hy;split at hb
   . obtain⟨z,hz,hr⟩:=zp9 (P:=P) (t:=t) hb w;exact⟨z,by simp[zmP,hz],hr _ _⟩
   . split at hb
     . rename_i hk;subst hk;obtain⟨z,hz,hr⟩:=zp8 (P:=P) (t:=t) hb w;exact⟨z,by simp[zmP,hz],hr _ _⟩
     . cases hb
 . rename_i hu;cases hx;cases hy;split at hb
   . rename_i he;cases hb;refine⟨_,?_,.bool _⟩;rw[Sem.run_bind,zqa];cases op <;> simp[YM] at he
     . simp[binOp,run_equal_bool w t _ _ hu,neg]
     . simp[binOp,run_equal_bool w t _ _ hu,neg]
   . cases hb
 . rename_i hu;cases hx;cases hy;split at hb
   . rename_i he;cases hb;refine⟨_,?_,.bool _⟩;rw[Sem.run_bind,zs9];cases op <;> simp[YM] at he
     . simp[binOp,Op.stringOp,neg]
     . simp[binOp,Op.stringOp,neg]
   . cases hb
 . rename_i fs l m hu;cases hx with
   | agg _ c hl ho hc =>
     cases hy with
     | agg _ d hl2 ho2 hd =>
       split at hb
       . rename_i he;simp only[zE,Bool.not_eq_true'] at he;split at hb
         . rename_i ks hks;split at hb
           . rename_i b hb';cases hb;refine⟨_,?_,.bool _⟩;rw[Sem.run_bind,run_eqGuard_agg w op t X Y c d he.2];have hq:=qF (P:=P) (im:=im) (io:=io) 12 t ks hks 10000 (by decide) l m c.toList d.toList b w ⟨by simpa using hl,fun i x y h1 h2=>hc i x y h1 (by simpa using h2)⟩ ⟨by simpa using hl2,fun i x y h1 h2=>hd i x y h1 (by simpa using h2)⟩ hb';rw[zbz hu,zbz hu] at hq;cases op <;> simp[YM] at he
             . simp at hq;rw[Result.andThen_ok,run_eql_struct w,hq];rfl
             . simp at hq;rw[Result.andThen_ok,run_neq_struct w,hq];rfl
           . cases hb
         . cases hb
       . cases hb
 . rename_i hu;cases hx;cases hy;split at hb
   . rename_i he;cases hb;refine⟨_,?_,.bool _⟩;rw[Sem.run_bind,zas];cases op <;> simp[YM] at he
     . rw[Result.andThen_ok,JS,zat 9999 hu];rfl
     . rw[Result.andThen_ok,JT,zat 9999 hu];rfl
   . cases hb
 . rename_i hu;cases hx;cases hy;split at hb
   . rename_i he;cases hb;refine⟨_,?_,.bool _⟩;rw[Sem.run_bind,zas];cases op <;> simp[YM] at he
     . rw[Result.andThen_ok,JS,zat 9999 hu];rfl
     . rw[Result.andThen_ok,JT,zat 9999 hu];rfl
   . cases hb
 . rename_i hu;cases hx;cases hy;split at hb
   . rename_i he;cases hb;refine⟨_,?_,.bool _⟩;rw[Sem.run_bind,zas];cases op <;> simp[YM] at he
     . rw[Result.andThen_ok,JS,Y9 9999 hu];rfl
     . rw[Result.andThen_ok,JT,Y9 9999 hu];rfl
   . cases hb
 . rename_i hu;cases hx;cases hy;split at hb
   . rename_i he;cases hb;refine⟨_,?_,.bool _⟩;rw[Sem.run_bind,zas];cases op <;> simp[YM] at he
     . rw[Result.andThen_ok,JS,Y9 9999 hu];rfl
     . rw[Result.andThen_ok,JT,Y9 9999 hu];rfl
   . cases hb
 . rename_i hu;cases hx;cases hy;split at hb
   . rename_i he;cases hb;refine⟨_,?_,.bool _⟩;rw[Sem.run_bind,zas];cases op <;> simp[YM] at he
     . rw[Result.andThen_ok,JS,Y9 9999 hu];rfl
     . rw[Result.andThen_ok,JT,Y9 9999 hu];rfl
   . cases hb
 . cases hb
end
end Go.L
namespace Go.L
open Go.RowKit
section
variable {vc:Bool} {P:Program} {o:Oper} {a:Act} {g:G} {w:World} {F:List S} {h:ze}
theorem zed {c x y : Operand} {t : Bool} {p : V} (ho : o.op = .pick c x y) (hc : evV F c = some (.bool t)) (hx : evV F (if t then x else y) = some p) (hh : Hinv g h w) (hf : Finv g F a.tmps w) :
    QG P o a g w (put F o.dst (.v p)) h:=by
 have h1:=ZW hf hc;generalize hcv:a.eval c=cv at h1;cases h1;refine XI (v:=if t then a.eval x else a.eval y) ?_ hh hf (.refl _ _) ?_
 . simp[execOp,ho,hcv,asBool]
 . have:=ZW hf hx;cases t <;> simpa using this
theorem zoo {c x y : Operand} {t : Bool} {p q : V} (ho : o.op = .pick c x y) (hc : evV F c = some (.bool t)) (hx : evV F x = some p) (hy : evV F y = some q) (hh : Hinv g h w) (hf : Finv g F a.tmps w) :
    QG P o a g w (put F o.dst (.v (if t then p else q))) h:=by
 have h1:=ZW hf hc;generalize hcv:a.eval c=cv at h1;cases h1;refine XI (v:=if t then a.eval x else a.eval y) ?_ hh hf (.refl _ _) ?_
 . simp[execOp,ho,hcv,asBool]
 . cases t
   . exact ZW hf hy
   . exact ZW hf hx
theorem zlf {t : TypeId} {x y : Operand} {v : V} {n : Nat} {F1 F2 : List S} {h1 h2 : ze} (ho : o.op = .store t x y) (he : evE vc F h y = some (v, F1, h1)) (hn : Jy P t = some n) (hl : v.cells.length = n) (hw : write F1 h1 v.cells x = some (F2, h2))
    (hh:Hinv g h w) (hf:Finv g F a.tmps w):QG P o a g w (put F2 o.dst .sk) h2:=by
 obtain⟨g1,a1,a2,a3,a4⟩:=Qk hh hf he;have hc:=a4.cells;obtain⟨q,w',hq,hrun,b1,b2,b3⟩:=ziy P a1 a2 hc.1 hc.2 hw;refine⟨undef,w',g1,.inr ⟨?_,rfl⟩,b1,b2.put o.dst .sk _ (fun k _ _=>rfl) (fun k e sz i c _ he=>by cases he),a3.trans b3⟩;have hsz:(a.eval y).cells.size=n:=by rw[<- hl,hc.1.1];simp
 simp[execOp,ho,hq,Instr.storeAt,Instr.sureAddr,storeVar,zcs hn,hsz,hrun]
theorem zlg(hh:Hinv g h w)(hf:Finv g F a.tmps w){k:Nat}{x:Operand}{s:S}(hp:zs6 F k x=some s):∃ q:Addr,a.eval x=.pointer (some q) ∧
    ((∃ d sz i c,s=.fp d sz i c/\SR g w a.tmps 0 (.fp d sz i c) (.pointer (some (q.add k)))/\∃ y,F[d]?=some y/\lin y=true)\/∃ v,s=.v v/\VR g.im g.io v (.pointer (some (q.add k)))):=by
 have hadd:∀ (β o:Nat),(⟨β,o,none⟩:Addr).add k=⟨β,o+k,none⟩:=fun β o=>by unfold Addr.add;split <;> simp_all
 unfold zs6 at hp;split at hp
 . rename_i t;split at hp
   . rename_i n cs hs;cases hp;obtain⟨β,ty,c,hv,hb,_⟩:=hf.getD hs;refine⟨_,hv,.inl ⟨t,0,0,k,rfl,?_,_,hs,rfl⟩⟩;simp only[SR,Yf,zt,if_false];refine⟨β,by rw[hadd,Jr],?_⟩;have:a.tmps.getD t undef=.pointer (some ⟨β,0,none⟩):=hv;rw[this];rfl
   . rename_i d sz i c hs;split at hp
     . cases hp
     . rename_i hn;have hn':qA sz i=false:=by simpa using hn
       cases hp;obtain⟨β,hv,hb⟩:=(hf.getD hs).ptr hn';refine⟨_,hv,.inl ⟨d,sz,i,c+k,rfl,?_,hf.fp _ _ _ _ _ hs⟩⟩;simp only[SR,hn',zt,if_false];exact⟨β,by rw[hadd,ZR],hb⟩
   . rename_i y hs;split at hp
     case h_2=>cases hp
     rename_i z0 hz0;cases hp;cases y with
     | ptr b o' =>
       cases hz0;have hv:VR g.im g.io (.ptr b o') (a.eval (.tmp t)):=hf.getD hs;generalize a.eval (.tmp t)=v at hv;cases hv with
       | ptr _ _ β h=>exact⟨_,rfl,.inr ⟨_,rfl,by rw[hadd];exact .ptr _ _ _ h⟩⟩
     | iptr n cs o' =>
       cases hz0;have hv:VR g.im g.io (.iptr n cs o') (a.eval (.tmp t)):=hf.getD hs;generalize a.eval (.tmp t)=v at hv;cases hv with
       | iptr _ _ _ q ys hl ho hi hr =>
         refine⟨_,rfl,.inr ⟨_,rfl,?_⟩⟩;rw[show (q.add o').add k=q.add (o'+k) from by
          unfold Addr.add;by_cases h1:o'=0 <;> by_cases h2:k=0 <;> simp[h1,h2,ZR]]
         exact .iptr _ _ _ q ys hl ho hi hr
     | rptr b sz i c =>
       cases hz0;have hv:VR g.im g.io (.rptr b sz i c) (a.eval (.tmp t)):=hf.getD hs;generalize a.eval (.tmp t)=v at hv;cases hv with
       | rptr _ _ _ _ β o cap h =>
         refine⟨_,rfl,.inr ⟨_,rfl,?_⟩⟩;rw[zcr,ZR,ZR];exact .rptr _ _ _ _ _ _ _ h
     | _=>cases hz0
   . cases hp
 . cases hp
theorem zwS(q:Addr):q.add 0=q:=rfl
theorem zlh{k:Nat}{x:Operand}{d:Option Nat}{R:Type}{K:S->Option R}{r:R}(hm:Kj F k x d K=some r):∃ s,zs6 F k x=some s/\K s=some r/\∀ e sz i c,s=.fp e sz i c->d≠some e:=by
 cases x with
 | tmp t =>
   simp only[Kj] at hm;simp only[zs6];split at hm
   . rename_i n cs hs;split at hm
     . cases hm
     . rename_i hd;exact⟨_,rfl,hm,fun e sz i c he=>by cases he;exact hd⟩
   . rename_i e sz i c hs;split at hm
     . cases hm
     . rename_i ha;split at hm
       . cases hm
       . rename_i hd;exact⟨_,if_neg ha,hm,fun e sz i c he=>by cases he;exact hd⟩
   . rename_i y hs;split at hm
     . rename_i z hz;exact⟨_,by simp only[hz],hm,fun e sz i c he=>by cases he⟩
     . cases hm
   . cases hm
 | _=>cases hm
theorem zcu {k : Nat} {x : Operand} {R : Type} {K : List S -> ze -> Option R} {r : R} (hrun : ∀ q, a.eval x = .pointer (some q) -> (execOp a.eval o).run P w = .ok (.value (.pointer (some (q.add k)))) w) (hh : Hinv g h w) (hf : Finv g F a.tmps w)
    (hm:Kj F k x o.dst (fun s=>K (put F o.dst s) h)=some r):∃ F' h',K F' h'=some r/\QG P o a g w F' h':=by
 obtain⟨s,hp,hk,hne⟩:=zlh hm;obtain⟨q,hq,hs⟩:=zlg hh hf hp;rcases hs with ⟨d,sz,i,c,rfl,hsr,hl⟩|⟨v,rfl,hv⟩
 . exact⟨_,_,hk,zbx (hrun q hq) hh hf (hne _ _ _ _ rfl) hsr hl⟩
 . exact⟨_,_,hk,XI (hrun q hq) hh hf (.refl _ _) hv⟩
theorem zee{s:TypeId}{k off n:Nat}{ag:Bool}(hf:fAt P s k=some (off,n,ag)):∃ fs f,P.underlying s=some (.struct fs)/\fs[k]?=some f/\f.offset=off/\Jy P f.type=some n/\0 < n/\XY P f.type=ag:=by
 unfold fAt at hf;split at hf
 . rename_i fs hs;split at hf
   . rename_i f hk;split at hf
     . rename_i m hm;split at hf
       . cases hf
       . cases hf;exact⟨fs,f,hs,hk,rfl,hm,by omega,rfl⟩
     . cases hf
   . cases hf
 . cases hf
theorem zft{s:TypeId}{x:Operand}{k off n:Nat}{ag:Bool}(ho:o.op=.fieldAddr s x k)(hf:fAt P s k=some (off,n,ag)){q:Addr}(hq:a.eval x=.pointer (some q)):(execOp a.eval o).run P w=.ok (.value (.pointer (some (q.add off)))) w:=by
 obtain⟨fs,f,hu,hk,rfl,hn,hpos,_⟩:=zee hf;have:n≠0:=by omega
 simp[execOp,ho,hq,Instr.fieldAt,run_underlying hu,hk,Instr.sureAddr,fieldPlace,zcs hn,this]
theorem zli{t len sz:Nat}(h:zcU P t=some (len,sz)):∃ e i,P.underlying t=some (.array len e)/\P.info? e=some i/\i.size=sz:=by
 unfold zcU at h;split at h
 . rename_i len' e hu;split at h
   . rename_i i hi;split at h
     . cases h
     . cases h;exact⟨e,i,hu,hi,rfl⟩
   . cases h
 . cases h
theorem zhb{t len sz n:Nat}{x i:Operand}(ho:o.op=.indexAddr t x i)(ha:zcU P t=some (len,sz))(hf:Finv g F a.tmps w)(hi:evN F i=some n)(hlt:n < len){q:Addr}(hq:a.eval x=.pointer (some q)):(execOp a.eval o).run P w=.ok (.value (.pointer (some (q.add (n * sz))))) w:=by
 obtain⟨e,ti,hu,hti,hsz⟩:=zli ha;obtain⟨k,hk⟩:=QD hf hi;have hsize:∀ w,(sizeOf e).run P w=.ok sz w:=fun w=>by simp[sizeOf,typeInfo,hti,hsz]
 simp[execOp,ho,hq,hk,Instr.indexAt,asIntOf,run_underlying hu,hlt,hsize,Instr.sureAddr]
theorem zhc{x:Operand}(ho:o.op=.nilCheck x){q:Addr}(hq:a.eval x=.pointer (some q)):(execOp a.eval o).run P w=.ok (.value (.pointer (some (q.add 0)))) w:=by
 simp[execOp,ho,hq,zwS]
theorem zlj {s : TypeId} {x : Operand} {k off n : Nat} {ag : Bool} {cs : List V} {v : V} (ho : o.op = .field s x k) (hfa : fAt P s k = some (off, n, ag)) (hx : evV F x = some (.agg cs)) (hl : off + n <= cs.length) (hv : Jd ag cs off n = some v)
    (hh:Hinv g h w) (hf:Finv g F a.tmps w):QG P o a g w (put F o.dst (.v v)) h:=by
 obtain⟨fs,f,hu,hk,rfl,hn,hpos,rfl⟩:=zee hfa;have h1:=ZW hf hx;generalize hcv:a.eval x=cv at h1;cases h1 with
 | agg _ c hl' hon hc =>
   have hvl:VL g.im g.io cs c.toList:=⟨by simpa using hl',fun i x y h1 h2=>hc i x y h1 (by simpa using h2)⟩;have hp:=jT hv hl ((hvl.drop f.offset).take n) hon (fun _=>hpos);have hrun:=jo hn (cs:=c) (off:=f.offset) (by omega) (fun _=>hpos) w;refine XI (v:=reg P f.type ((c.toList.drop f.offset).take n)) ?_ hh hf (.refl _ _) ?_
   . simp only[execOp,ho,hcv,Instr.field,Sem.run_bind,run_underlying hu,Result.andThen_ok,hk,asAgg,Sem.run_pure,hrun]
   . unfold reg;cases hag:XY P f.type with
     | true=>rw[hag] at hp;simpa using hp
     | false =>
       rw[hag] at hp;obtain⟨y,hy,hvr⟩:=by simpa using hp
       simp only[zt,if_false];rw[zO,hy];exact hvr
theorem ziA {t : TypeId} {x i : Operand} {len n sz : Nat} {e : TypeId} {cs : List V} {v : V} (ho : o.op = .index t x i) (ha : aAt P t = some (len, e, sz)) (hi : evN F i = some n) (hx : evV F x = some (.agg cs)) (hn : n < len) (hl : n * sz + sz <= cs.length) (hv : Jd (XY P e) cs (n * sz) sz = some v)
    (hh:Hinv g h w) (hf:Finv g F a.tmps w):QG P o a g w (put F o.dst (.v v)) h:=by
 unfold aAt at ha;split at ha
 . rename_i len' e' hu;split at ha
   . rename_i m hm;split at ha
     . cases ha
     . rename_i hpos;cases ha;obtain⟨k,hk⟩:=QD hf hi;have h1:=ZW hf hx;generalize hcv:a.eval x=cv at h1;cases h1 with
       | agg _ c hl' hon hc =>
         have hvl:VL g.im g.io cs c.toList:=⟨by simpa using hl',fun i x y h1 h2=>hc i x y h1 (by simpa using h2)⟩;have hp:=jT hv hl ((hvl.drop (n * sz)).take sz) hon (fun _=>Nat.pos_of_ne_zero hpos);have hrun:=jo hm (cs:=c) (off:=n * sz) (by omega) (fun _=>Nat.pos_of_ne_zero hpos) w;have hsz:∀ w,(sizeOf e).run P w=.ok sz w:=zcs hm;refine XI (v:=reg P e ((c.toList.drop (n * sz)).take sz)) ?_ hh hf (.refl _ _) ?_
         . have hr:(0:Int)<=(n:Int)/\(n:Int) < (len:Int):=by omega
           simp[execOp,ho,hcv,hk,Instr.index,asIntOf,run_underlying hu,hr,hsz,hrun];omega
         . unfold reg;cases hag:XY P e with
           | true=>rw[hag] at hp;simpa using hp
           | false =>
             rw[hag] at hp;obtain⟨y,hy,hvr⟩:=by simpa using hp
             simp only[zt,if_false];rw[zO,hy];exact hvr
   . cases ha
 . cases ha
theorem zop{op:UnOp}{t:TypeId}{x:Operand}{p v:V}(ho:o.op=.unOp op t x)(hx:evV F x=some p)(hv:uop op p=some v)(hh:Hinv g h w)(hf:Finv g F a.tmps w):QG P o a g w (put F o.dst (.v v)) h:=by
 have h1:=ZW hf hx;generalize hcv:a.eval x=cv at h1;unfold uop at hv;split at hv
 . cases hv;cases h1;exact XI (v:=.int _ _) (by simp[execOp,ho,hcv,Op.unary,Op.intArith]) hh hf (.refl _ _) (.int _ _)
 . cases hv;cases h1;refine XI (v:=.int _ _) ?_ hh hf (.refl _ _) (.int _ _);simp only[execOp,ho,hcv,Op.unary,Op.intBits,Sem.run_bind,Sem.run_pure,Result.andThen_ok]
 . cases hv;cases h1;exact XI (v:=.bool _) (by simp[execOp,ho,hcv,Op.unary]) hh hf (.refl _ _) (.bool _)
 . cases hv
theorem zhd{s d:TypeId}{x:Operand}{p v:V}(ho:o.op=.convert s d x)(hx:evV F x=some p)(hv:cvt P s d p=some v)(hh:Hinv g h w)(hf:Finv g F a.tmps w):QG P o a g w (put F o.dst (.v v)) h:=by
 have h1:=ZW hf hx;generalize hcv:a.eval x=cv at h1;unfold cvt at hv;split at hv
 . rename_i hs hd;cases hv;cases h1;exact XI (v:=.int _ _) (by simp[execOp,ho,hcv,convert,run_underlying hs,run_underlying hd,Conv.intToInt]) hh hf (.refl _ _) (.int _ _)
 . rename_i hs hd;cases hv;cases h1;exact XI (v:=.string _) (by simp[execOp,ho,hcv,convert,run_underlying hs,run_underlying hd]) hh hf (.refl _ _) (.str _)
 . cases hv
theorem zf6 {im : Im} {io : Io} : ∀ {l : List (List V)} {ns : List Int}, u8s l = some ns -> ns.length = l.length /\ ∀ (k : Nat) n, ns[k]? = some n -> l[k]? = some [.int .u8 n]
 | [],ns,h=>by cases h;simp
 | es :: l,ns,h=>by
   unfold u8s at h;split at h
   . rename_i e;cases e
   . rename_i n l' e;cases e;split at h
     . rename_i r hr;cases h;obtain⟨h1,h2⟩:=zf6 (im:=im) (io:=io) hr;refine⟨by simp[h1],fun k m hk=>?_⟩;cases k with
       | zero=>simp at hk;subst hk;rfl
       | succ k=>simpa using h2 k m (by simpa using hk)
     . cases h
   . cases h
theorem zfu{s d:TypeId}{x:Operand}{sz:Nat}{l:List (List V)}{ns:List Int}(ho:o.op=.convert s d x)(hc:zoh P s d=true)(hx:evC F h x=some (sz,l))(hv:u8s l=some ns)(hh:Hinv g h w)(hf:Finv g F a.tmps w):QG P o a g w (put F o.dst (.v (.str (strOfNums ns)))) h:=by
 obtain⟨A,cap,ad,hev,hA,hs,ys,hr⟩:=Wc hh hf hx;obtain⟨u1,u2⟩:=zf6 (im:=g.im) (io:=g.io) hv;unfold zoh at hc;split at hc
 . rename_i e hs1 hd1;split at hc
   . rename_i he1;refine XI (v:=.string (strOfNums ns)) ?_ hh hf (.refl _ _) (.str _);have hcell:∀ (j:Nat) v,(ns.map (Value.int .u8))[j]?=some v->w.cell? (ad.add j)=some v:=fun j v hj=>by
      rw[zF] at hj;cases hn:ns[j]? with
      | none=>rw[hn] at hj;cases hj
      | some n =>
        rw[hn] at hj;cases hj;have h1:=u2 j n hn;have hsz:sz=1:=by have:=(hs _ (zM h1)).1;simpa using this.symm
        obtain⟨h2,h3⟩:=hr j _ 0 _ h1 rfl;rw[hsz,Z9,z8] at h2;generalize ys j 0=y at h2 h3;cases h3;exact h2
     have hkey:(convert s d (.slice A l.length cap)).run P w=.ok (.string (strOfNums ns)) w:=by
      cases A with
      | none =>
        have hl:l=[]:=by rcases hA with h|h <;> first|exact h|cases h
        subst hl;have:ns=[]:=by cases ns with
         | nil=>rfl
         | cons=>simp at u1
        subst this;exact run_convert_bytes_nil (P:=P) w s e hs1 he1 _ cap d hd1
      | some q =>
        have hq:∀ (j:Nat) v,(ns.map (Value.int .u8))[j]?=some v->w.cell? (q.add j)=some v:=fun j v hj=>by
         rcases hA with h|h
         . subst h;have:ns=[]:=by cases ns with
            | nil=>rfl
            | cons=>simp at u1
           subst this;simp at hj
         . cases h;exact hcell j v hj
        have hl:=run_loadCells_list (P:=P) w q (ns.map (Value.int .u8)) hq;rw[zp] at hl;rw[run_convert_bytes_string w s d e _ _ cap hs1 he1 hd1,<- u1,run_bytesToString w _ _ cap ns hl,foldl_push_bytes];simp[strOfNums,ByteArray.empty,ByteArray.emptyWithCapacity];rfl
     simp only[execOp,ho,hev,Sem.run_bind,hkey,Result.andThen_ok,Sem.run_pure]
   . cases hc
 . cases hc
theorem zqb{h:ze}{op:BinOp}{t:TypeId}{k:IntKind}{x y:V}(hu:P.underlying t=some (.int k)):Qq P h op t x y=bop P op t x y:=by
 unfold Qq;rw[hu]
theorem zqc {op : BinOp} {t : TypeId} {x y : V} {r : V} {u v : Value} (hh : Hinv g h w) (hb : Qq P h op t x y = some r) (hx : VR g.im g.io x u) (hy : VR g.im g.io y v) (X Y : Operand) :
    ∃ z,(do eqGuard op t X Y u v;binOp op t u v).run P w=.ok z w/\VR g.im g.io r z:=by
 unfold Qq at hb;split at hb
 . rename_i e p i q j hu;split at hb
   . rename_i hc;rw[zE] at hc;obtain⟨he,hs⟩:=hc;obtain⟨ti,hti,hsz⟩:∃ ti,P.info? e=some ti/\ti.size≠0:=by
      cases hi:P.info? e with
      | none=>rw[hi] at hs;simp at hs
      | some ti=>rw[hi] at hs;exact⟨ti,rfl,by simpa using hs⟩
     split at hb
     . rename_i m1 c1 m2 c2 hp hq;cases hb;obtain⟨β1,i1,o1,t1,d1,b1,_⟩:=hh.hp p _ hp;obtain⟨β2,i2,o2,t2,d2,b2,_⟩:=hh.hp q _ hq;cases hx with
       | ptr _ _ β1' e1 =>
         cases hy with
         | ptr _ _ β2' e2 =>
           rw[i1] at e1;cases e1;rw[i2] at e2;cases e2;have hsame:(sameAddr ⟨β1,i,none⟩ ⟨β2,j,none⟩).run P w=.ok (p == q && i == j) w:=by
            by_cases hpq:p=q
            . subst hpq;rw[i1] at i2;cases i2;by_cases hij:i=j
              . subst hij;rw[run_sameAddr_same w];simp
              . rw[run_sameAddr_other w (a:=⟨β1,i,none⟩) (b:=⟨β1,j,none⟩) (by simp[hij]) b1 b1];simp[hij]
            . have hne:β1≠β2:=by rintro rfl;rw[o1] at o2;cases o2;exact hpq rfl
              rw[run_sameAddr_other w (a:=⟨β1,i,none⟩) (b:=⟨β2,j,none⟩) (by simp[hne]) b1 b2];simp[hpq]
           have heq:(Op.equalIn 10000 t (.pointer (some ⟨β1,i,none⟩)) (.pointer (some ⟨β2,j,none⟩))).run P w=.ok (p == q && i == j) w:=by
            exact zon 9999 hu hti hsz hsame
           refine⟨_,?_,.bool _⟩;rw[Sem.run_bind,zas];cases op <;> simp[YM] at he
           . rw[Result.andThen_ok,JS,heq];rfl
           . rw[Result.andThen_ok,JT,heq];rfl
     . cases hb
   . cases hb
 . exact zta hb hx hy X Y w
theorem zqd{h:ze}{op:BinOp}{t:TypeId}{c:Bool}{k:IntKind}{x y:V}(hu:P.underlying t=some (.int k)):za3 P h op t c x y=bop P op t x y:=by
 unfold za3;rw[hu];exact zqb hu
theorem zqe(d:Nat){t:TypeId}{ms}(hu:P.underlying t=some (.interface ms)):(Op.equalIn (d+1) t .nilIface .nilIface).run P w=.ok true w:=by
 simp only[Op.equalIn,Sem.run_bind,run_underlying hu,Result.andThen_ok];rfl
theorem zqf(d:Nat){t:TypeId}{ms}(hu:P.underlying t=some (.interface ms))(t':TypeId)(u:Value):(Op.equalIn (d+1) t (.iface t' u) .nilIface).run P w=.ok false w:=by
 simp only[Op.equalIn,Sem.run_bind,run_underlying hu,Result.andThen_ok];rfl
theorem zmQ{X:Operand}(h:isC X=true):∃ v,X=.const v:=by cases X <;> first|exact⟨_,rfl⟩|cases h
theorem zqg(d:Nat){t:TypeId}{ps rs:Array TypeId}{vr:Bool}(hu:P.underlying t=some (.func ps rs vr)):(Op.equalIn (d+1) t .nilFunc .nilFunc).run P w=.ok true w:=by simp[Op.equalIn,run_underlying hu]
theorem zqh(d:Nat){t:TypeId}{ps rs:Array TypeId}{vr:Bool}(hu:P.underlying t=some (.func ps rs vr))(fn:Fn)(first caps:Array Value):(Op.equalIn (d+1) t (.func fn first caps) .nilFunc).run P w=.ok false w:=by simp[Op.equalIn,run_underlying hu]
theorem zef {im : Im} {io : Io} {op : BinOp} {t : TypeId} {ps rs : Array TypeId} {vr : Bool} {r : V} {fn : Fn} {first caps : Array Value} {X Y : Operand} (hu : P.underlying t = some (.func ps rs vr)) (hb : (if YM op = true then some (V.bool (neg op false)) else none) = some r) :
    ∃ z,(do eqGuard op t X Y (.func fn first caps) .nilFunc;binOp op t (.func fn first caps) .nilFunc).run P w=.ok z w/\VR im io r z:=by
 split at hb
 . rename_i hc;cases hb;refine⟨_,?_,.bool _⟩;have hg:(eqGuard op t X Y (.func fn first caps) .nilFunc).run P w=.ok () w:=by cases op <;> rfl
   rw[Sem.run_bind,hg,Result.andThen_ok];have he:(Op.equal t (.func fn first caps) .nilFunc).run P w=.ok false w:=zqh 9999 hu fn first caps
   cases op <;> simp[YM] at hc
   . show (do Pure.pure (Value.bool (← Op.equal t (.func fn first caps) .nilFunc)):Sem Value).run P w=_;rw[Sem.run_bind,he];rfl
   . show (do Pure.pure (Value.bool (!(← Op.equal t (.func fn first caps) .nilFunc))):Sem Value).run P w=_;rw[Sem.run_bind,he];rfl
 . cases hb
theorem zqi {op : BinOp} {t : TypeId} {x y : V} {r : V} {u v : Value} (X Y : Operand) (hh : Hinv g h w) (hb : za3 P h op t (isC X || isC Y) x y = some r) (hx : VR g.im g.io x u) (hy : VR g.im g.io y v) :
    ∃ z,(do eqGuard op t X Y u v;binOp op t u v).run P w=.ok z w/\VR g.im g.io r z:=by
 unfold za3 at hb;split at hb
 . rename_i ms hu;cases hx;cases hy;split at hb
   . rename_i hc;rw[zE] at hc;cases hb;have hg:(eqGuard op t X Y .nilIface .nilIface).run P w=.ok () w:=by
      have:=hc.2;rw[XU] at this;rcases this with h|h
      . obtain⟨c,rfl⟩:=zmQ h;cases op <;> rfl
      . obtain⟨c,rfl⟩:=zmQ h;cases X <;> cases op <;> rfl
     refine⟨_,?_,.bool _⟩;rw[Sem.run_bind,hg,Result.andThen_ok];have he:(Op.equal t .nilIface .nilIface).run P w=.ok true w:=by
      exact zqe 9999 hu
     cases op <;> simp[YM] at hc
     . show (do Pure.pure (Value.bool (← Op.equal t .nilIface .nilIface)):Sem Value).run P w=_;rw[Sem.run_bind,he];rfl
     . show (do Pure.pure (Value.bool (!(← Op.equal t .nilIface .nilIface))):Sem Value).run P w=_;rw[Sem.run_bind,he];rfl
   . cases hb
 . rename_i ms t' x' hu;cases hy;cases hx with
   | iface _ _ u' hu' =>
   split at hb
   . rename_i hc;cases hb;have hg:(eqGuard op t X Y (.iface t' u') .nilIface).run P w=.ok () w:=by
      unfold eqGuard;cases op <;> rfl
     refine⟨_,?_,.bool _⟩;rw[Sem.run_bind,hg,Result.andThen_ok];have he:(Op.equal t (.iface t' u') .nilIface).run P w=.ok false w:=by
      exact zqf 9999 hu t' u'
     cases op <;> simp[YM] at hc
     . show (do Pure.pure (Value.bool (← Op.equal t (.iface t' u') .nilIface)):Sem Value).run P w=_;rw[Sem.run_bind,he];rfl
     . show (do Pure.pure (Value.bool (!(← Op.equal t (.iface t' u') .nilIface))):Sem Value).run P w=_;rw[Sem.run_bind,he];rfl
   . cases hb
 . rename_i ps rs vr hu;cases hx;cases hy;split at hb
   . rename_i hc;cases hb;refine⟨_,?_,.bool _⟩;have hg:(eqGuard op t X Y .nilFunc .nilFunc).run P w=.ok () w:=by cases op <;> rfl
     rw[Sem.run_bind,hg,Result.andThen_ok];have he:(Op.equal t .nilFunc .nilFunc).run P w=.ok true w:=zqg 9999 hu;cases op <;> simp[YM] at hc
     . show (do Pure.pure (Value.bool (← Op.equal t .nilFunc .nilFunc)):Sem Value).run P w=_;rw[Sem.run_bind,he];rfl
     . show (do Pure.pure (Value.bool (!(← Op.equal t .nilFunc .nilFunc))):Sem Value).run P w=_;rw[Sem.run_bind,he];rfl
   . cases hb
 . rename_i ps rs vr f cs hu;cases hy;cases hx with
   | fn _ _ c=>exact zef hu hb
 . rename_i ps rs vr f cs hu;cases hy;cases hx with
   | bf _ _ c=>exact zef hu hb
 . rename_i ps rs vr t' nm hu;cases hy;cases hx with
   | mo=>exact zef hu hb
 . exact zqc hh hb hx hy X Y
theorem ziB{op:BinOp}{t t':TypeId}{x y:Operand}{p q v:V}(ho:o.op=.binOp op t x y t')(hx:evV F x=some p)(hy:evV F y=some q)(hv:za3 P h op t (isC x || isC y) p q=some v)(hh:Hinv g h w)(hf:Finv g F a.tmps w):QG P o a g w (put F o.dst (.v v)) h:=by
 obtain⟨z,hz,hvr⟩:=zqi x y hh hv (ZW hf hx) (ZW hf hy);refine XI (v:=z) ?_ hh hf (.refl _ _) hvr;simp only[execOp,ho];rw[Sem.run_bind,hz];rfl
theorem zeg {t : TypeId} {x : Operand} {v : V} {F1 : List S} {h1 : ze} {u : TypeDesc} (ho : o.op = .makeInterface t x) (hi : zd2 P t = false) (hu : P.underlying t = some u) (he : evE vc F h x = some (v, F1, h1)) (hh : Hinv g h w) (hf : Finv g F a.tmps w) :
    QG P o a g w (put F1 o.dst (.v (.iface t v))) h1:=by
 obtain⟨g1,a1,a2,a3,a4⟩:=Qk hh hf he;refine XI (v:=.iface t (a.eval x)) ?_ a1 a2 a3 (.iface t v _ a4);unfold zd2 at hi;rw[hu] at hi;simp only[execOp,ho,Instr.makeInterface,Sem.run_bind,run_underlying hu,Result.andThen_ok];cases u <;> first|rfl|cases hi
theorem zfv {f : FuncId} {first caps : Array Operand} {vs : List V} {F1 : List S} {h1 : ze} (ho : o.op = .makeFunc (.func f) first caps) (h0 : first.size = 0) {z : Bool} (he : zin z vc F h caps.toList = some (vs, F1, h1)) (hh : Hinv g h w) (hf : Finv g F a.tmps w) :
    QG P o a g w (put F1 o.dst (.v (.fn f vs))) h1:=by
 obtain⟨g1,a1,a2,a3,a4⟩:=zcY hh hf he;obtain rfl:first=#[]:=QP h0
 refine XI (v:=.func (.func f) #[] (caps.map a.eval)) ?_ a1 a2 a3 (.fn f vs _ (by rw[a4.1];simp) fun i x y h1 h2=>a4.2 i x y h1 (by simpa using h2));simp[execOp,ho,Instr.makeFunc]
theorem zeh {f : FuncId} {first caps : Array Operand} {vs : List V} {F1 : List S} {h1 : ze} (ho : o.op = .makeFunc (.func f) first caps) (h0 : caps.size = 0) (he : YL vc F h first.toList = some (vs, F1, h1)) (hh : Hinv g h w) (hf : Finv g F a.tmps w) :
    QG P o a g w (put F1 o.dst (.v (.bf f vs))) h1:=by
 obtain⟨g1,a1,a2,a3,a4⟩:=Jf hh hf he;obtain rfl:caps=#[]:=QP h0;refine XI (v:=.func (.func f) (first.map a.eval) #[]) ?_ a1 a2 a3 (.bf f vs _ (by rw[a4.1];simp) fun i x y h1 h2=>a4.2 i x y h1 (by simpa using h2));simp[execOp,ho,Instr.makeFunc]
theorem zfw {t : TypeId} {nm : String} {first caps : Array Operand} (ho : o.op = .makeFunc (.methodOf t nm) first caps) (h0 : first.size = 0) (h1 : caps.size = 0) (hh : Hinv g h w) (hf : Finv g F a.tmps w) :
    QG P o a g w (put F o.dst (.v (.mo t nm))) h:=by
 obtain rfl:first=#[]:=QP h0
 obtain rfl:caps=#[]:=QP h1;refine XI (v:=.func (.methodOf t nm) #[] #[]) ?_ hh hf (.refl _ _) (.mo t nm);simp[execOp,ho,Instr.makeFunc]
theorem zqj{x:Operand}{y:V}(ho:o.op=.nilCheck x)(hx:evV F x=some y)(hy:zog y=true)(hh:Hinv g h w)(hf:Finv g F a.tmps w):QG P o a g w (put F o.dst (.v y)) h:=by
 have h1:=ZW hf hx;generalize hcv:a.eval x=cv at h1;refine XI (v:=cv) ?_ hh hf (.refl _ _) h1;cases h1 <;> first|(simp[zog] at hy;done)|simp[execOp,ho,hcv]
theorem zc0 {im : Im} {io : Io} : ∀ (r : List FieldStep) (t : TypeId) (v : V) (y : Value) {xt : TypeId} {x : V}, zdI P r t v = some (xt, x) -> VR im io v y -> ∃ z, VR im io x z /\ ∀ w, (follow r t (.val y)).run P w = .ok (xt, .val z) w
 | [],t,v,y,xt,x,h,hv=>by
   cases h;exact⟨y,hv,fun w=>by simp[follow]⟩
 | s :: r,t,v,y,xt,x,h,hv=>by
   unfold zdI at h;split at h
   . cases h
   . rename_i hd;split at h
     . rename_i off n ag ft cs hfa hft;split at h
       . rename_i hl;split at h
         . rename_i u hu;obtain⟨fs,f,hst,hk,rfl,hn,hpos,rfl⟩:=zee hfa;have hty:f.type=ft:=by
            unfold fTy at hft;rw[hst] at hft;simp only[hk,Z5] at hft;exact Option.some.inj hft
           cases hv with
           | agg _ c hl' hon hc =>
             have hvl:VL im io cs c.toList:=⟨by simpa using hl',fun i x y h1 h2=>hc i x y h1 (by simpa using h2)⟩;have hp:=jT hu hl ((hvl.drop f.offset).take n) hon (fun _=>hpos);have hvr:VR im io u (reg P f.type ((c.toList.drop f.offset).take n)):=by
              unfold reg;cases hag:XY P f.type with
              | true=>rw[hag] at hp;simpa using hp
              | false =>
                rw[hag] at hp;obtain⟨y,hy,hvr⟩:=by simpa using hp
                simp only[zt,if_false];rw[zO,hy];exact hvr
             rw[<- hty] at h;obtain⟨z,hz,hrun⟩:=zc0 r f.type u _ h hvr;refine⟨z,hz,fun w=>?_⟩;have hpr:=jo hn (cs:=c) (off:=f.offset) (by omega) (fun _=>hpos) w;have hd':s.deref=false:=by simpa using hd
             simp only[follow,Sem.run_bind,run_underlying hst,Result.andThen_ok,hk,hd',zt,if_false,hpr];exact hrun w
         . cases h
       . cases h
     . cases h
theorem zf7{im:Im}{io:Io}{t:TypeId}{v r:V}{nm:String}{f:FuncId}{y:Value}(h:JR P t v nm=some (f,r))(hv:VR im io v y):∃ z,VR im io r z/\∀ n w,(method (n+1) t y nm).run P w=.ok (f,z) w:=by
 unfold JR at h;split at h
 . rename_i i hi;split at h
   . rename_i m hm;split at h
     . rename_i f' pr xt x hmf hfo;obtain⟨z,hz,hrun⟩:=zc0 _ _ _ _ hfo hv;split at h
       . rename_i e hu;cases h;refine⟨z,hz,fun n w=>?_⟩;simp only[method,Sem.run_bind,typeInfo,run_program,hi,Result.andThen_ok,Sem.run_pure,hm,hrun,hmf,receiverAt,run_underlying hu,Place.get]
       . cases h
       . cases h
       . cases h
       . rename_i d hnp hu;cases h;refine⟨z,hz,fun n w=>?_⟩;have hr:∀ o w,(receiverAt xt (.val z) false o).run P w=.ok z w:=fun o w=>by
          unfold receiverAt;simp only[Sem.run_bind,run_underlying hu,Result.andThen_ok];cases d <;> first|(exact absurd rfl (by assumption))|simp[Place.get]
         simp only[method,Sem.run_bind,typeInfo,run_program,hi,Result.andThen_ok,Sem.run_pure,hm,hrun,hmf,hr]
     . cases h
   . cases h
 . cases h
theorem zhe{t:TypeId}(ho:o.op=.makeMap t none)(hh:Hinv g h w)(hf:Finv g F a.tmps w):QG P o a g w (put F o.dst (.v (.map h.length))) (h++[.map []]):=by
 have hnone:g.io h.length=none:=by
  cases hi:g.io h.length with
  | none=>rfl
  | some b=>have:=hh.io _ _ hi;omega
 let g':G:={ im:=g.im,io:=fun b=>if b=h.length then some w.heap.size else g.io b,ow:=fun b=>if b=w.heap.size then some (.hp h.length) else g.ow b }
 have hio:∀ b β,g.io b=some β->g'.io b=some β:=fun b β' hb=>by
  show (if b=h.length then some w.heap.size else g.io b)=some β';split
  . rename_i e;subst e;rw[hnone] at hb;cases hb
  . exact hb
 have how':∀ b,b≠w.heap.size->g'.ow b=g.ow b:=fun b hb=>if_neg hb;have hioN:g'.io h.length=some w.heap.size:=if_pos rfl;have howβ:g'.ow w.heap.size=some (.hp h.length):=if_pos rfl;refine XI (g':=g') (w':=w.alloc (.map #[] 0)) (v:=.map (some w.heap.size)) (by simp[execOp,ho,Instr.makeMap]) ⟨fun b y hy=>?_,fun b b' hb=>?_,fun p v hp=>?_,fun b hb=>?_⟩ ?_ ⟨fun _ _ h=>h,hio,fun _ _ h=>.inl h,fun b hb h0=>?_,rfl,rfl,rfl,by simp,fun b hb _=>Below.heap_alloc _ _ _ hb⟩ (.map _ _ hioN)
 . rw[ZP] at hy;split at hy
   . refine(hh.hp b y hy).keep (fun _ _ h=>h) hio fun b' h2=>?_;have hlt:=hh.ow b' (by rw[h2];simp);exact⟨by rw[how' b' (by omega)];exact h2,Below.heap_alloc _ _ _ hlt⟩
   . rename_i hge;have hbl:b - h.length=0:=by
      have:=(zj.1 hy).1;simp at this;omega
     have hbeq:b=h.length:=by omega
     subst hbeq;simp at hy;subst hy;exact⟨_,hioN,howβ,#[],0,heap_alloc_new w _,rfl,by simp⟩
 . have hb:(if b=h.length then some w.heap.size else g.io b)=some b':=hb;split at hb
   . rename_i e;rw[e];simp
   . have:=hh.io _ _ hb;simp;omega
 . obtain⟨h1,h2⟩:=hh.im p v hp;have hlt:=jR h1;exact⟨by rw[World.cell?_of_block (w:=w) (Below.heap_alloc _ _ _ hlt)];exact h1,by rw[how' _ (by omega)];exact h2⟩
 . by_cases hbb:b=w.heap.size
   . subst hbb;simp
   . rw[how' b hbb] at hb;have:=hh.ow b hb;simp;omega
 . refine hf.keep (fun _ _ h=>h) hio fun b s hb=>?_;have hlt:=hh.ow b (by rw[hb];simp);exact⟨by rw[how' b (by omega)];exact hb,Below.heap_alloc _ _ _ hlt⟩
 . rw[how' b (by omega)];exact h0
theorem zlk {t e sz n s : Nat} {i : Operand} {R : Type} {K : List S -> ze -> Option R} {r : R} (ho : o.op = .indexAddr t (.tmp s) i) (hi : evN F i = some n) (he : QQ P t = some (e, sz)) (hh : Hinv g h w) (hf : Finv g F a.tmps w)
    (hm:(match F[rt F s]? with
        | some (.own _ sz' l)=>if sz'=sz/\n < l.length/\o.dst≠some (rt F s) then K (put F o.dst (.fp (rt F s) sz n 0)) h else none
        | some (.v y)=>(match Jz sz n y with|some z=>K (put F o.dst (.v z)) h|none=>none)
        | _=>none)=some r):∃ F' h',K F' h'=some r/\QG P o a g w F' h':=by
 obtain⟨k,hk⟩:=QD hf hi;obtain⟨hu,ti,hti,hsz,hpos,_⟩:=Qd he;have hsize:∀ w,(sizeOf e).run P w=.ok sz w:=fun w=>by simp[sizeOf,typeInfo,hti,hsz]
 have hrun:∀ (q:Addr) (len cap:Nat),a.eval (.tmp s)=.slice (some q) len cap->n < len->(execOp a.eval o).run P w=.ok (.value (.pointer (some (q.add (n * sz))))) w:=fun q len cap hq hlt=>by
  simp[execOp,ho,hq,hk,Instr.indexAt,asIntOf,run_underlying hu,hlt,hsize]
 have hrt:=QX hf s;split at hm
 . rename_i e' sz' l hs;split at hm
   . rename_i hc;obtain⟨rfl,hlt,hne⟩:=hc;obtain⟨xs,h1,h2,h3,h4⟩:=hf.getD hs;rcases h1.2 with ⟨hnil,hz⟩|⟨β,cap,cur,hb,_⟩
     . omega
     . refine⟨_,_,hm,zbx (v:=.pointer (some ((⟨β,0,none⟩:Addr).add (n * sz')))) (hrun _ _ _ (by rw[<- hrt];exact hb) hlt) hh hf hne ?_ ⟨_,hs,rfl⟩⟩;simp only[SR,zea hpos,zt,if_false];refine⟨β,?_,?_⟩
       . congr 2;unfold Addr.add;split <;> simp_all
       . have:a.tmps.getD (rt F s) undef=.slice (some ⟨β,0,none⟩) l.length cap:=hb;rw[this];rfl
   . cases hm
 . rename_i y hs;split at hm
   case h_2=>cases hm
   rename_i z0 hz0;cases y with
   | sl sz' l ex =>
     simp only[Jz] at hz0;split at hz0
     . rename_i hc;subst hc;split at hz0
       . rename_i es hes;cases hz0;have hv:VR g.im g.io (.sl sz' l ex) (a.eval (.tmp s)):=by rw[<- hrt];exact hf.getD hs
         have hlt:=(zj.1 hes).1;generalize hev:a.eval (.tmp s)=v at hv;cases hv with
         | sl _ _ _ A cap ad ys hA hx hc hm' hs' hi' hr =>
           rcases hA with hA|hA
           . subst hA;simp at hes
           . subst hA;refine⟨_,_,hm,XI (hrun _ _ _ hev hlt) hh hf (.refl _ _) ?_⟩;have:=VR.iptr (im:=g.im) (io:=g.io) sz' es 0 (ad.add (n * sz')) (fun j=>ys n j) (hs' es (zM hes)).1 (hs' es (zM hes)).2 (fun j x hx=>?_) (fun j x hx=>hr n es j x hes hx)
             . exact this
             . rw[show (ad.add (n * sz')).add j=ad.add (n * sz'+j) from by
                 unfold Addr.add;by_cases h1:n * sz'=0 <;> by_cases h2:j=0 <;> simp[h1,h2,ZR]]
               exact hi' n es j x hes hx
       . cases hz0
     . cases hz0
   | row b sz' lo hi2 =>
     simp only[Jz] at hz0;split at hz0
     . rename_i hc;obtain⟨rfl,hlt⟩:=hc;cases hz0;have hv:VR g.im g.io (.row b sz' lo hi2) (a.eval (.tmp s)):=by rw[<- hrt];exact hf.getD hs
       generalize hev:a.eval (.tmp s)=v at hv;cases hv with
       | row _ _ _ _ β o' cap u q0 q1 q2 q3 q4 =>
         refine⟨_,_,hm,XI (hrun _ _ _ hev hlt) hh hf (.refl _ _) ?_⟩;have hu':u=o'+lo * sz':=by rcases q4 with h|⟨h,_⟩ <;> first|exact h|omega
         have:=VR.rptr (im:=g.im) (io:=g.io) b sz' (lo+n) 0 β o' cap q0;rw[zcr,hu',show o'+lo * sz'+n * sz'=o'+((lo+n) * sz'+0) by rw[Nat.add_mul];omega];exact this
       | rowN=>omega
     . cases hz0
   | _=>cases hz0
 . cases hm
theorem zhf{t i:Nat}{l:List V}{v:V}(ho:o.op=.extract (.tmp t) i)(hx:F[t]?=some (.tup l))(hv:l[i]?=some v)(hh:Hinv g h w)(hf:Finv g F a.tmps w):QG P o a g w (put F o.dst (.v v)) h:=by
 obtain⟨c,hc,hl⟩:=hf.getD hx;obtain⟨y,hy,hvr⟩:=hl.get hv;have hy':c[i]?=some y:=by simpa using hy
 exact XI (v:=y) (by simp[execOp,ho,hc,Instr.extract,hy']) hh hf (.refl _ _) hvr
theorem jq {hp : ze} : ∀ {os : List Operand} {vs : List V}, YW F hp os = some vs -> Finv g F a.tmps w -> ∀ (i : Nat) k n, vs[i]? = some (.int k n) -> ∃ o, os[i]? = some o /\ a.eval o = .int k n
 | [],vs,h,_,i,k,n,hv=>by cases h;simp at hv
 | o :: os,vs,h,hf,i,k,n,hv=>by
   unfold YW at h;split at h
   . rename_i v r h1 h2;cases h;cases i with
     | zero =>
       simp at hv;subst hv;refine⟨o,rfl,?_⟩;cases o with
       | tmp t =>
         simp only[evB] at h1;split at h1
         . rename_i y hy;have h1':y=.int k n:=by
            cases y with
            | row b sz lo hi =>
              simp only[Wp] at h1;cases hr:jc hp b sz lo hi with
              | none=>rw[hr] at h1;cases h1
              | some l=>rw[hr] at h1;cases h1
            | _=>cases h1 <;> rfl
           subst h1';have:=hf.getD hy;rw[QX hf] at this;generalize a.eval (.tmp t)=z at this;cases this;rfl
         . cases h1
         . cases h1
       | const c =>
         have:=Ys (im:=fun _=>none) (io:=fun _=>none) h1;generalize hz:a.eval (.const c)=z;have hz':c=z:=hz;rw[hz'] at this;cases this;rfl
       | func f=>cases h1
       | global f=>cases h1
     | succ i=>exact jq h2 hf i k n (by simpa using hv)
   . cases h
theorem zmR{mx:Bool}{c:Call}{vs:List V}{v:V}(ho:o.op=.call c)(hc:c.callee=.builtin (if mx then .max else .min))(he:YW F h c.args.toList=some vs)(hv:mm mx vs=some v)(hh:Hinv g h w)(hf:Finv g F a.tmps w):QG P o a g w (put F o.dst (.v v)) h:=by
 unfold mm at hv;split at hv
 . rename_i k p k' q;split at hv
   . rename_i hk;subst hk;cases hv;obtain⟨x,hx,hx'⟩:=jq he hf 0 k p rfl;obtain⟨y,hy,hy'⟩:=jq he hf 1 k q rfl;have hlen:c.args.toList=[x,y]:=by
      have:∀ {os:List Operand} {vs:List V},YW F h os=some vs->os.length=vs.length:=by
       intro os
       induction os with
       | nil=>intro vs h;cases h;rfl
       | cons o os ih => intro vs h; unfold YW at h; split at h
                         . cases h;simp[ih (by assumption)]
                         . cases h
      have hl:=this he
      match hcl:c.args.toList,hl with
      | [x',y'],_=>rw[hcl] at hx hy;simp at hx hy;rw[hx,hy]
     have hargs:(c.args.map a.eval).toList=[.int k p,.int k q]:=by simp[hlen,hx',hy']
     cases mx with
     | true =>
       refine XI (v:=.int k (if p < q then q else p)) ?_ hh hf (.refl _ _) (.int _ _);simp only[execOp,ho,resolve,hc,if_true,Sem.run_bind,Sem.run_pure,Result.andThen_ok,invoke,builtin,Builtin.max_,hargs];simp[Builtin.max2]
     | false =>
       refine XI (v:=.int k (if q < p then q else p)) ?_ hh hf (.refl _ _) (.int _ _);simp only[execOp,ho,resolve,hc,zt,if_false,Sem.run_bind,Sem.run_pure,Result.andThen_ok,invoke,builtin,Builtin.min_,hargs];simp[Builtin.min2]
   . cases hv
 . cases hv
end
end Go.L
