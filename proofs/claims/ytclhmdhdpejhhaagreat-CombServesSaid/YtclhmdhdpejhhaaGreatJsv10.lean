/- Lin Lopy Lfin Lenc Lset Lend: what the law needs of these -/import Derived.TacticsIn
import Derived.OrdersIn
import Derived.LoopNIn
import Derived.RangeFuncLeaves
import Derived.RangeFuncCalls
import Derived.RangeFuncRecord
import Derived.RecoverIn
import Derived.Scope
import Derived.Test.YtclhmdhdpejhhaaGreatJsv9
set_option linter.unusedVariables false
namespace Go.L
def WF(r:Option Nat):Fence:={ Fence.wide with round:=r }
theorem ziX(r:Option Nat)(f:FuncId):(WF r).fn f:=trivial
section
variable {P:Program} {ro:Option Nat} {n:Nat}
theorem zeA{f:FuncId}{args:Array Value}{w:World}{R:Ending->World->Prop}(h:Calls P f args w R):CallsIn (WF ro) n P f args w R:=by
 have h1:CallsIn Fence.wide n P f args w R:=callsIn_wide.2 h;cases ro with
 | none=>exact h1
 | some l=>exact h1.inRound l
theorem zoC{row:String}{args:Array Value}{w:World}{R:Value->World->Prop}(h:Rows P row args w R):RowsIn (WF ro) n P row args w R:=fun c cs _=>by
 obtain⟨v,w',r,s⟩:=h c cs;have s':=stepsIn_wide.2 s;have:Machine.fenced P (WF ro)=Machine.fenced P Fence.wide:=by cases ro <;> rfl
 exact⟨v,w',r,by rw[this];exact s'⟩
theorem zm0{o:Oper}{a:Act}{w:World}{K:Act->World->Prop}{Q:Exit->Act->World->Prop}(hd:∀ c,o.op≠.defer c)(h:o.wp P a w K Q):o.wpIn (WF ro) n P a w K Q:=by
 refine⟨fun f _=>ziX ro f,?_⟩;rw[Oper.semAt_eq _ _ _ hd];unfold Oper.wp at h;have hn:(WF ro).depth.isSome=true->1<=n:=fun h=>by simp[WF,Fence.wide] at h
 generalize (execOp a.eval o).run P w=r at h;cases r with
 | ok x w' =>
   cases x <;> simp only[Oper.upon] at h <;> first|exact h|exact⟨hn,zeA h⟩|exact⟨hn,zoC h⟩
 | halt x w'=>cases x <;> simp only[Oper.upon] at h <;> exact h
theorem zgl{ops:List Oper}(h:zir ops=true){o:Oper}(ho:o∈ops):∀ c,o.op≠.defer c:=fun c hc=>by
 have:=Zz.1 h o ho;rw[hc] at this;cases this
variable {ops:Array Oper} {Q:Exit->Act->World->Prop}
theorem ztg(hd:zir ops.toList=true)(hQ:¬ LetsOut Q){i:Nat}{K K':Act->World->Prop}(hk:∀ a w,K a w->K' a w){a:Act}{w:World}(h:wpOp P ops Q i K a w):wpOpIn (WF ro) n P ops Q i K' a w:=by
 unfold wpOp at h;unfold wpOpIn;cases ho:ops[i]? with
 | none=>rw[ho] at h;exact hk _ _ h
 | some o =>
   rw[ho] at h;simp only at h ⊢;have hm:o∈ops.toList:=by
    have:=Array.mem_of_getElem? ho;simpa using this
   split at h
   . rename_i hw;rw[if_pos hw];rcases h with h|⟨_,h⟩
     . exact zm0 (zgl hd hm) (Oper.wp_mono hk h)
     . exact absurd h hQ
   . rename_i hw;rw[if_neg hw];exact⟨fun f _=>ziX ro f,hk _ _ h⟩
theorem ziY (hd : zir ops.toList = true) (hQ : ¬ LetsOut Q) {md : Region.Mode} : ∀ (fuel : Nat) (listed : Array Bool) (a : Act) (w : World), wpAny P md ops Q fuel listed a w -> wpAnyIn (WF ro) n P md ops Q fuel listed a w
 | 0,listed,a,w,h=>h
 | fuel+1,listed,a,w,h=>⟨h.1,fun i hi=>ztg hd hQ (fun a w h=>ziY hd hQ fuel _ a w h) (h.2 i hi)⟩
theorem zaO {id : Nat} {a : Act} {w : World} (hm : P.follows .mixedOrders = true) (hd : zir ops.toList = true) (hQ : ¬ LetsOut Q)
    (h:wpAny P .any ops Q ops.size (Array.replicate ops.size false) a { w with drawn:=w.drawn+1 }):(Code.region id ops true).wpIn (WF ro) n P Q a w :=
 wpIn_region_any hm (ziY hd hQ _ _ _ _ h)
theorem zqs{c:Code}{a:Act}{w:World}(h:c.wpIn (WF ro) n P (Exit.noGoto Q) a w):(Code.scope c).wpIn (WF ro) n P Q a w:=by
 intro b k cs hro hb hr;have hs1:StepsIn (Machine.fenced P (WF ro)) P (lone (b.atR a (.code (.scope c) :: k)) cs w) (lone (b.atR a (.code c :: .inScope c :: k)) cs w) :=
  .one (fenced_calm hb hr rfl) (step_lone_go (by simp[stepG,stepG.exec,Frame.atR]))
 have hs2:∀ a w,StepsIn (Machine.fenced P (WF ro)) P (lone (b.atR a (.inScope c :: k)) cs w) (lone (b.atR a k) cs w):=fun a w =>
  .one (fenced_calm hb hr rfl) (step_lone_go (by simp[stepG,stepG.exec,Frame.atR]))
 obtain⟨e,a₁,w₁,hq,harr⟩:=h b (.inScope c :: k) cs hro hb hr;cases e with
 | normal=>exact⟨.normal,a₁,w₁,hq,hs1.trans (StepsIn.trans harr (hs2 _ _))⟩
 | exit id =>
   refine⟨.exit id,a₁,w₁,hq,.of_steps hs1 ⟨fun k' hk=>harr.1 k' (by simpa[exitTo] using hk),fun hr hk=>harr.2 hr (by simpa[exitTo] using hk)⟩⟩
 | goto l=>exact hq.elim
 | ret=>exact⟨.ret,a₁,w₁,hq,.of_steps (b:=b) (k:=k) (cs:=cs) (e:=.ret) hs1 harr⟩
 | panic ch=>exact⟨.panic ch,a₁,w₁,hq,.of_steps (b:=b) (k:=k) (cs:=cs) (e:=.panic ch) hs1 harr⟩
 | outgrown=>exact⟨_,a₁,w₁,hq,.of_steps (b:=b) (k:=k) (cs:=cs) (e:=.outgrown) hs1 harr⟩
end
end Go.L
set_option linter.unusedSimpArgs false
namespace Go.L
open Go.RowKit
def zoD(P:Program)(ry:Ry):Prop:=∀ b vs h t h',ry b vs h=some (t,h')->∀ g l vals w,Hinv g h w->(∀ β s,g.ow β≠some (.slot s))->g.io b=some l->VL g.im g.io vs vals →
 ∃ fn tmps as_ bd,(Instr.yield l vals.toArray).run P w=.ok (.round l fn tmps as_ bd) w/\RoundIn Fence.wide 0 P l fn tmps as_ bd w (fun e w'=>∃ g',Step g w g' w'/\Hinv g' h' w'/\(∀ β s,g'.ow β≠some (.slot s))/\e=.returned (.bool t))
theorem zgm(P:Program):zoD P (fun _ _ _=>none):=fun b vs h t h' hx=>by cases hx
def DfR (g : G) : Df -> Deferred -> Prop
 | .call f vs,d=>∃ cap as_,d={ target:=.fn (.func f) cap,args:=as_ }/\VL g.im g.io vs (as_.toList++cap.toList)
 | .mark b,d=>∃ β,d={ target:=.collected β,args:=#[] }/\g.io b=some β
theorem DfR.mono{g g':G}(him:∀ p v,g.im p=some v->g'.im p=some v)(hio:∀ b β,g.io b=some β->g'.io b=some β){x:Df}{d:Deferred}(h:DfR g x d):DfR g' x d:=by
 cases x with
 | call f vs=>obtain⟨cap,as_,e,h⟩:=h;exact⟨cap,as_,e,h.mono him hio⟩
 | mark b=>obtain⟨β,e,h⟩:=h;exact⟨β,e,hio _ _ h⟩
def DR (g : G) : List Df -> List Deferred -> List Deferred -> Prop
 | [],l,base=>l=base
 | x :: D,l,base=>∃ d r,l=d :: r/\DfR g x d/\DR g D r base
theorem DR.mono {g g' : G} (him : ∀ p v, g.im p = some v -> g'.im p = some v) (hio : ∀ b β, g.io b = some β -> g'.io b = some β) {base : List Deferred} : ∀ {D : List Df} {l : List Deferred}, DR g D l base -> DR g' D l base
 | [],_,h=>h
 | x :: D,_,⟨d,r,e,h1,h2⟩=>⟨d,r,e,h1.mono him hio,h2.mono him hio⟩
theorem DR.step{g g':G}{w w':World}(hs:Step g w g' w'){base l:List Deferred}{D:List Df}(h:DR g D l base):DR g' D l base:=h.mono hs.im hs.io
theorem DR.append {g : G} {base l l' : List Deferred} : ∀ {D D' : List Df}, DR g D' l' l -> DR g D l base -> DR g (D' ++ D) l' base
 | D,[],h',h=>by cases h';exact h
 | D,x :: D',⟨d,r,e,h1,h2⟩,h=>⟨d,r,e,h1,DR.append h2 h⟩
theorem put_defers(a:Act)(d:Option Tmp)(v:Value):(a.put d v).defers=a.defers:=by cases d <;> rfl
section
variable {vc:Bool} {P:Program} {gc keep:FuncId->Bool} {rec:Rec} {ry:Ry} {R:Type} {r:R} {o:Oper} {a:Act} {g:G} {w:World} {F:List S} {h:ze} {ro:Option Nat} {n:Nat}
theorem zoE(hf:Finv g F a.tmps w){fo:Operand}{f:FuncId}{caps:List V}(he:evF F fo=some (f,caps)):∃ capv,a.eval fo=.func (.func f) #[] capv/\VL g.im g.io caps capv.toList:=by
 unfold evF at he;split at he
 . cases he;exact⟨#[],rfl,.nil⟩
 . split at he
   . rename_i f' caps' ht;cases he;have hv:=hf.getD ht;generalize a.eval _=v at hv ⊢;change VR g.im g.io (.fn f caps) v at hv;cases hv with
     | fn _ _ c hl hc=>exact⟨c,rfl,⟨by simpa using hl,fun i x y h1 h2=>hc i x y h1 (by simpa using h2)⟩⟩
   . cases he
 . cases he
theorem zqt{l f tmps as_ bd}{R:Ending->World->Prop}(h:RoundIn Fence.wide 0 P l f tmps as_ bd w R):RoundIn (WF ro) n P l f tmps as_ bd w R:=by
 obtain⟨h1,h2⟩:=h;refine⟨trivial,fun c cs _=>?_⟩;have:=h2 c cs (room_wide _);have e:Machine.fenced P (WF ro)=Machine.fenced P Fence.wide:=by cases ro <;> rfl
 rw[e];exact this
theorem zoF{c:Call}{t:Nat}{l:Nat}(ho:o.op=.call c)(hc:c.callee=.value (.tmp t))(hv:a.eval (.tmp t)=.func (.yield l) #[] #[]):(execOp a.eval o).run P w=(Instr.yield l (c.args.toList.map a.eval).toArray).run P w:=by
 have harr:c.args.map a.eval=(c.args.toList.map a.eval).toArray:=by apply Array.ext';simp
 simp only[execOp,ho,resolve,hc,hv,Deferred.ofValue,Sem.run_bind,Sem.run_pure,Result.andThen_ok,invoke,harr];simp
theorem zoG (hrec : RecOk P gc rec) (hry : zoD P ry) (hro : ro = none \/ ∀ c, o.op ≠ .defer c) {D : List Df} {base : List Deferred} {K Z} (hx : opy P rec keep gc vc ry o F h D K Z = some r) (hh : Hinv g h w) (hf : Finv g F a.tmps w) (hD : DR g D a.defers base)
    {next:Act->World->Prop} {Q:Exit->Act->World->Prop}
    (hK:∀ F' h' D' g' a' v w',K F' h' D'=some r->Hinv g' h' w'->Finv g' F' a'.tmps w'->Step g w g' w'->DR g' D' a'.defers base->a'.tmps=(a.put o.dst v).tmps->next a' w')
    (hZ:∀ x F' h' D' g' v w',Z x F' h' D'=some r->Hinv g' h' w'->VR g'.im g'.io x v->Finv g' F' a.tmps w'->Step g w g' w'->DR g' D' a.defers base->Q (.panic [{ v,recovered:=false }]) a w'):o.wpIn (WF ro) n P a w next Q:=by
 have hold:opx P rec keep gc vc o F h (fun F h=>K F h D) (fun v F h=>Z v F h D)=some r->(∀ c,o.op≠.defer c)->o.wpIn (WF ro) n P a w next Q:=fun hx hd =>
  zm0 hd (zau hrec hx hh hf (fun F' h' g' v w' k1 k2 k3 k4 => hK F' h' D g' _ v w' k1 k2 k3 k4 (by rw [put_defers]; exact hD.step k4) rfl)
   (fun x F' h' g' v w' k1 k2 k3 k4 k5=>hZ x F' h' D g' v w' k1 k2 k3 k4 k5 (hD.step k5)))
 unfold opy at hx;split at hx
 . rename_i c ho;rcases hro with rfl|hro
   case inr=>exact absurd ho (hro c)
   split at hx
   . rename_i fo hc;split at hx
     . rename_i f caps hfo;split at hx
       . rename_i vs F1 h1 hev;obtain⟨capv,hfv,hcap⟩:=zoE hf hfo;obtain⟨g1,a1,a2,a3,a4⟩:=Jf hh hf hev;refine⟨fun f _=>ziX _ f,?_⟩;have hrun:(o.semAt (WF none).round a.eval).run P w=.ok (.defer { target:=.fn (.func f) capv,args:=c.args.map a.eval }) w:=by
          show (execOp a.eval o).run P w=_;simp only[execOp,ho,resolve,hc,hfv,Deferred.ofValue,Sem.run_bind,Sem.run_pure,Result.andThen_ok];simp
         rw[hrun,Oper.uponIn_defer];refine hK _ _ _ g1 _ undef w hx a1 ?_ a3 ?_ ?_
         . have:({ a with defers:={ target:=.fn (.func f) capv,args:=c.args.map a.eval } :: a.defers }.put o.dst undef).tmps=(a.put o.dst undef).tmps:=by cases o.dst <;> rfl
           rw[this];exact a2.put o.dst .sk undef (fun k _ _=>rfl) (fun k e sz i c _ he=>by cases he)
         . rw[put_defers];refine⟨_,_,rfl,⟨capv,_,rfl,?_⟩,hD.step a3⟩;have:=a4.append (hcap.mono a3.im a3.io);simpa using this
         . cases o.dst <;> rfl
       . cases hx
     . cases hx
   . cases hx
 . rename_i c ho;have hnd:∀ c,o.op≠.defer c:=fun c hc=>by rw[ho] at hc;cases hc
   split at hx
   . rename_i t hc;split at hx
     . rename_i b hb;split at hx
       . rename_i vs F1 h1 hev;split at hx
         . rename_i tb h2 X0;obtain⟨g1,a1,a2,a3,a4⟩:=Jf hh hf hev;have hyv:VR g.im g.io (.yld b) (a.eval (.tmp t)):=hf.getD hb;obtain⟨l,hl,hlio⟩:∃ l,a.eval (.tmp t)=.func (.yield l) #[] #[]/\g.io b=some l:=by
            generalize a.eval (.tmp t)=v at hyv;cases hyv with
            | yld _ l h=>exact⟨l,rfl,h⟩
           obtain⟨fn,tmps,as_,bd,hy,hround⟩:=hry b vs h1 tb h2 X0 g1.hpOnly l _ w a1.hpOnly (QA g1) (a3.io _ _ hlio) a4;refine⟨fun f _=>ziX _ f,?_⟩;rw[Oper.semAt_eq _ _ _ hnd,zoF ho hc hl,hy,Oper.uponIn_round];refine⟨fun h=>by simp[WF,Fence.wide] at h,(zqt hround).mono ?_⟩;rintro e w' ⟨g',s1,s2,s3,rfl⟩;obtain⟨g2,e1,e2,b1,b2,b3⟩:=Yh a1 a2 s1 s2 s3;refine hK _ _ _ g2 _ (.bool tb) w' hx b1 (b2.put o.dst _ _ (fun k _ _=>.bool tb) (fun k e sz i c _ he=>by cases he)) (a3.trans b3) ?_ rfl;rw[put_defers];exact hD.step (a3.trans b3)
         . cases hx
       . cases hx
     . exact hold hx hnd
   . exact hold hx hnd
 . rename_i h1 h2;exact hold hx (fun c hc=>h1 c hc)
def Prs(ms:List Nat)(a a':Act):Prop:=a'.tmps.size=a.tmps.size/\∀ s,s ∉ ms->a'.tmps.getD s undef=a.tmps.getD s undef
theorem Prs.refl(ms:List Nat)(a:Act):Prs ms a a:=⟨rfl,fun _ _=>rfl⟩
theorem Prs.trans{ms:List Nat}{a b c:Act}(h:Prs ms a b)(k:Prs ms b c):Prs ms a c:=⟨k.1.trans h.1,fun s hs=>(k.2 s hs).trans (h.2 s hs)⟩
theorem Prs.sub{ms ms':List Nat}{a b:Act}(h:Prs ms a b)(hs:∀ s∈ms,s∈ms'):Prs ms' a b:=⟨h.1,fun s hn=>h.2 s fun hm=>hn (hs s hm)⟩
theorem Pres.prs{ms:List Nat}{a b:Act}(h:Pres ms a b):Prs ms a b:=h.2
theorem Prs.put{ms:List Nat}(a:Act)(d:Option Nat)(v:Value)(hd:∀ k,d=some k->k∈ms){a':Act}(ha:a'.tmps=(a.put d v).tmps):Prs ms a a':=by
 have:=(Pres.put (ms:=ms) a d v hd).prs;exact⟨by rw[ha];exact this.1,fun s hs=>by rw[ha];exact this.2 s hs⟩
theorem zeB(hrec:RecOk P gc rec)(hry:zoD P ry)(all:Array Oper){base:List Deferred}{Z:V->List S->ze->List Df->Option R}{K:List S->ze->List Df->Option R}{Q:Exit->Act->World->Prop}(ms:List Nat):∀ (l:List Oper) (F:List S) (h:ze) (D:List Df) (g:G) (a:Act) (w:World),
    (ro=none\/∀ o∈l,∀ c,o.op≠.defer c) →
    zdp P rec keep gc vc ry all Z l F h D K=some r->Hinv g h w->Finv g F a.tmps w->DR g D a.defers base->(∀ o∈l,∀ d,o.dst=some d->d∈ms) →
    (∀ F' h' D' g' a' w',K F' h' D'=some r->Hinv g' h' w'->Finv g' F' a'.tmps w'->Step g w g' w'->Prs ms a a'->DR g' D' a'.defers base->Q .normal a' w') →
    (∀ x F' h' D' g' a' v w',Z x F' h' D'=some r->Hinv g' h' w'->VR g'.im g'.io x v->Finv g' F' a'.tmps w'->Step g w g' w'->Prs ms a a'->DR g' D' a'.defers base->Q (.panic [{ v,recovered:=false }]) a' w') →
    wpListIn (WF ro) n P all Q l a w
 | [],F,h,D,g,a,w,hro,hx,hh,hf,hD,hms,hK,hZ=>hK F h D g a w hx hh hf (.refl _ _) (.refl _ _) hD
 | o :: l,F,h,D,g,a,w,hro,hx,hh,hf,hD,hms,hK,hZ=>by
   have hrest:∀ F' h' D' g' a' v w',zdp P rec keep gc vc ry all Z l F' h' D' K=some r->Hinv g' h' w'->Finv g' F' a'.tmps w'->Step g w g' w'->DR g' D' a'.defers base->a'.tmps=(a.put o.dst v).tmps->wpListIn (WF ro) n P all Q l a' w':=fun F' h' D' g' a' v w' hx' hh' hf' hs' hD' ha'=>by
    have hp:Prs ms a a':=Prs.put a o.dst v (fun k hk=>hms o (by simp) k hk) ha'
    exact zeB hrec hry all ms l F' h' D' g' _ w' (hro.imp id fun h o' ho' => h o' (by simp [ho'])) hx' hh' hf' hD' (fun o' ho' => hms o' (by simp [ho'])) (fun F2 h2 D2 g2 a2 w2 k1 k2 k3 k4 k5 k6 => hK F2 h2 D2 g2 a2 w2 k1 k2 k3 (hs'.trans k4) (hp.trans k5) k6)
     (fun x F2 h2 D2 g2 a2 u w2 k1 k2 k3 k4 k5 k6 k7=>hZ x F2 h2 D2 g2 a2 u w2 k1 k2 k3 k4 (hs'.trans k5) (hp.trans k6) k7)
   have hdo:∀ F,opy P rec keep gc vc ry o F h D (fun F h D=>zdp P rec keep gc vc ry all Z l F h D K) Z=some r->Finv g F a.tmps w->Region.wanted o (yielded all a.tmps)=true->wpListIn (WF ro) n P all Q (o :: l) a w:=fun F hx hf hw=>by
    unfold wpListIn;rw[if_pos hw];exact zoG hrec hry (hro.imp id fun h=>h o (by simp)) hx hh hf hD hrest (fun x F' h' D' g' v w' k1 k2 k3 k4 k5 k6=>hZ x F' h' D' g' a v w' k1 k2 k3 k4 k5 (.refl _ _) k6)
   have hskip:∀ F,zdp P rec keep gc vc ry all Z l (put F o.dst .sk) h D K=some r->Finv g F a.tmps w->Region.wanted o (yielded all a.tmps)=false->wpListIn (WF ro) n P all Q (o :: l) a w:=fun F hx hf hw=>by
    unfold wpListIn;rw[if_neg (by rw[hw];simp)];exact⟨fun f _=>ziX _ f,hrest _ _ _ g _ undef w hx hh (hf.put o.dst .sk undef (fun k _ _=>rfl) (fun k e sz i c _ he=>by cases he)) (.refl _ _) (by rw[put_defers];exact hD) rfl⟩
   unfold zdp at hx;simp only[je] at hx;split at hx
   . rename_i hg;exact hdo F hx hf (by simp[Region.wanted,hg])
   . rename_i j want hg;split at hx
     . rename_i d hd;split at hx
       . rename_i b hb;have hbv:VR g.im g.io (.bool b) (a.eval (.tmp d)):=hf.getD hb;have hlt:d < a.tmps.size:=by rw[<- hf.len];exact(zj.1 hb).1
         have hval:a.tmps[d]?=some (.bool b):=by
          generalize hev:a.eval (.tmp d)=v at hbv;cases hbv;rw[Za hlt];have:a.tmps.getD d undef=.bool b:=hev;rw[zY,Za hlt] at this;exact congrArg some this
         have hy:yielded all a.tmps j=some b:=by
          unfold yielded;rw[hd];simp[hval]
         have hw:Region.wanted o (yielded all a.tmps)=(some b == some want):=by simp[Region.wanted,hg,hy]
         have hset:F.set d (.v (.bool b))=F:=by
          apply ZM;intro i;rw[Zd];split
          . rename_i e;subst e;rw[hb,if_pos (zj.1 hb).1]
          . rfl
         cases b with
         | true =>
           simp only[if_true] at hx;rw[hset] at hx;cases want with
           | true=>exact hdo F (by simpa using hx) hf (by rw[hw];rfl)
           | false=>exact hskip F (by simpa using hx) hf (by rw[hw];rfl)
         | false =>
           simp only[zt,if_false] at hx;rw[hset] at hx;cases want with
           | true=>exact hskip F (by simpa using hx) hf (by rw[hw];rfl)
           | false=>exact hdo F (by simpa using hx) hf (by rw[hw];rfl)
       . rename_i hb;have hsk:a.eval (.tmp d)=undef:=hf.getD hb;have hlt:d < a.tmps.size:=by rw[<- hf.len];exact(zj.1 hb).1
         have hy:yielded all a.tmps j=none:=by
          unfold yielded;rw[hd];have:a.tmps[d]?=some undef:=by
           rw[Za hlt];have:a.tmps.getD d undef=undef:=hsk;rw[zY,Za hlt] at this;exact congrArg some this
          simp[this,undef]
         exact hskip F hx hf (by simp[Region.wanted,hg,hy])
       . cases hx
     . cases hx
end
end Go.L
namespace Go.L
open Go.RowKit
section
variable {vc:Bool} {P:Program} {gc keep:FuncId->Bool} {rec:Rec} {ry:Ry} {R:Type} {r:R}
theorem qP (ms : List Nat) : ∀ (F : List S) (i s : Nat) (x : S), F[s]? = some x -> lin x = true -> ∃ k n e, (i + s, k, n, e) ∈ XW ms i F /\ k ≠ 0
 | [],i,s,x,h,_=>by simp at h
 | y :: F,i,s,x,h,hl=>by
   cases s with
   | zero =>
     simp at h;subst h;cases y with
     | own e sz l=>exact⟨1,sz,e,by simp[XW]⟩
     | bx n cs=>exact⟨2,n,0,by simp[XW]⟩
     | gone=>exact⟨3,0,0,by simp[XW]⟩
     | _=>simp[lin] at hl
   | succ s =>
     obtain⟨k,n,e,hm,hk⟩:=qP ms F (i+1) s x (by simpa using h) hl;refine⟨k,n,e,?_,hk⟩;rw[show i+(s+1)=i+1+s from by omega];cases y <;> simp only[XW] <;> first|exact hm|exact zu _ hm|(split <;> first|exact hm|exact zu _ hm)
theorem zbb (ms : List Nat) (cs : List (Nat × Nat × Nat × Nat)) : ∀ (F : List S) (i s : Nat) (y : S), (WA ms cs i F)[s]? = some y -> y = .un \/ (F[s]? = some y /\ (∀ d sz j c, y = .fp d sz j c -> qA sz j = true /\ d ∉ ms) /\ ((i + s) ∈ ms -> ∃ k n e, (i + s, k, n, e) ∈ cs))
 | [],i,s,y,h=>by simp[WA] at h
 | x :: F,i,s,y,h=>by
   cases s with
   | zero =>
     simp[WA] at h;subst h;split
     . exact .inl rfl
     . rename_i hn;have hcar:i+0∈ms->∃ k n e,(i+0,k,n,e)∈cs:=fun hm=>by
        simp only[z8] at hm ⊢;rcases Classical.em (∃ k n e,(i,k,n,e)∈cs) with h'|h'
        . exact h'
        . exfalso;have h1:ms.contains i=true:=by simpa using hm
          have h2:cs.any (fun p=>p.1 == i)=false:=by
           rw[List.any_eq_false];rintro ⟨a,b,c,d⟩ hmem;simp;rintro rfl;exact h' ⟨b,c,d,hmem⟩
          exact hn (by rw[h1,h2];rfl)
       cases x with
       | fp d sz j c =>
         simp only;split
         . rename_i hc;refine .inr ⟨rfl,fun d' sz' j' c' e=>?_,hcar⟩;cases e;exact hc
         . exact .inl rfl
       | _=>exact .inr ⟨rfl,by simp,hcar⟩
   | succ s =>
     have:=zbb ms cs F (i+1) s y (by simpa[WA] using h);rw[show i+(s+1)=i+1+s from by omega];simpa using this
theorem jY (ms : List Nat) (cs : List (Nat × Nat × Nat × Nat)) : ∀ (F : List S) (i : Nat), (WA ms cs i F).length = F.length
 | [],_=>rfl
 | x :: F,i=>by simp[WA,jY ms cs F]
theorem qQ (st : List V) : ∀ (cs : List (Nat × Nat × Nat × Nat)) (F : List S) (i : Nat), (Wb F st cs i).length = F.length
 | [],F,i=>rfl
 | (s,k,n,e) :: cs,F,i=>by rw[Wb,qQ st cs];simp
theorem zda{F':List S}:∀ (cs:List (Nat×Nat×Nat×Nat)) (F:List S) (st pre st':List V),Kk F' cs=some st'->st=pre++st'->F'.length=F.length->∀ s y,(Wb F st cs pre.length)[s]?=some y →
    ((∃ k n e,(s,k,n,e)∈cs)/\F'[s]?=some y/\(lin y=true\/∃ v,y=.v v))\/((¬ ∃ k n e,(s,k,n,e)∈cs)/\F[s]?=some y)
 | [],F,st,pre,st',hg,hst,hl,s,y,h=>.inr ⟨by simp,h⟩
 | (s0,k,n,e) :: cs,F,st,pre,st',hg,hst,hl,s,y,h=>by
   unfold Kk at hg;have key:∀ (x:S) (v:V) (rr:List V),F'[s0]?=some x->Kk F' cs=some rr->st'=v :: rr->zux k n e v=x->(lin x=true\/∃ v,x=.v v) →
       ((∃ k' n' e',(s,k',n',e')∈(s0,k,n,e) :: cs)/\F'[s]?=some y/\(lin y=true\/∃ v,y=.v v))\/((¬ ∃ k' n' e',(s,k',n',e')∈(s0,k,n,e) :: cs)/\F[s]?=some y):=fun x v rr hx hrr hv hxe hxl=>by
    subst hv;have hgv:gv st pre.length=v:=by
     unfold gv;rw[hst,zO,zJ (zn _)];simp
    rw[Wb,hgv] at h;have h':(Wb (F.set s0 x) st cs (pre++[v]).length)[s]?=some y:=by
     rw[zL,ZG,<- hxe];exact h
    rcases zda cs (F.set s0 x) st (pre++[v]) rr hrr (by rw[hst];simp) (by simpa using hl) s y h' with ⟨⟨k',n',e',hm⟩,h2,h3⟩|⟨h1,h2⟩
    . exact .inl ⟨⟨k',n',e',zu _ hm⟩,h2,h3⟩
    . rw[Zd] at h2;split at h2
      . rename_i he;subst he;split at h2
        . cases h2;exact .inl ⟨⟨k,n,e,by simp⟩,hx,hxl⟩
        . cases h2
      . rename_i hne;refine .inr ⟨?_,h2⟩;rintro ⟨k',n',e',hm⟩;rcases zN.1 hm with he|hm
        . cases he;exact hne rfl
        . exact h1 ⟨k',n',e',hm⟩
   split at hg
   . rename_i e' sz l rr hx hrr;split at hg
     . rename_i hc;obtain⟨rfl,rfl,rfl⟩:=hc;cases hg;exact key _ _ _ hx hrr rfl rfl (.inl rfl)
     . cases hg
   . rename_i m l rr hx hrr;split at hg
     . rename_i hc;obtain⟨rfl,rfl⟩:=hc;cases hg;exact key _ _ _ hx hrr rfl rfl (.inl rfl)
     . cases hg
   . rename_i x rr hx hrr;split at hg
     . rename_i hc;subst hc;cases hg;exact key _ _ _ hx hrr rfl rfl (.inr ⟨_,rfl⟩)
     . cases hg
   . rename_i rr hx hrr;split at hg
     . rename_i hc;subst hc;cases hg;exact key _ _ _ hx hrr rfl rfl (.inl rfl)
     . cases hg
   . cases hg
theorem zeC {F' : List S} : ∀ (cs : List (Nat × Nat × Nat × Nat)) (st : List V), Kk F' cs = some st -> ∀ s k n e, (s, k, n, e) ∈ cs -> k ≠ 0 -> ∃ x, F'[s]? = some x /\ lin x = true
 | [],st,hg,s,k,n,e,hm,hk=>by cases hm
 | (s0,k0,n0,e0) :: cs,st,hg,s,k,n,e,hm,hk=>by
   unfold Kk at hg;have hrest:∀ rr,Kk F' cs=some rr->(s,k,n,e)∈cs->∃ x,F'[s]?=some x/\lin x=true:=fun rr hrr hm=>zeC cs rr hrr s k n e hm hk;split at hg
   . rename_i e' sz l rr hx hrr;rcases zN.1 hm with he|hm
     . cases he;exact⟨_,hx,rfl⟩
     . exact hrest rr hrr hm
   . rename_i m l rr hx hrr;rcases zN.1 hm with he|hm
     . cases he;exact⟨_,hx,rfl⟩
     . exact hrest rr hrr hm
   . rename_i x rr hx hrr;split at hg
     . rename_i hc;rcases zN.1 hm with he|hm
       . cases he;exact absurd hc hk
       . exact hrest rr hrr hm
     . cases hg
   . rename_i rr hx hrr;rcases zN.1 hm with he|hm
     . cases he;exact⟨_,hx,rfl⟩
     . exact hrest rr hrr hm
   . cases hg
theorem ziZ {g g' : G} {F F' : List S} {a a' : Act} {w w' : World} {ms : List Nat} {st : List V} (hf : Finv g F a.tmps w) (hf' : Finv g' F' a'.tmps w') (hs : Step g w g' w') (hp : Prs ms a a') (hg : Kk F' (XW ms 0 F) = some st) :
    Finv g' (Wb (WA ms (XW ms 0 F) 0 F) st (XW ms 0 F) 0) a'.tmps w':=by
 have hlen:F'.length=F.length:=by rw[hf'.len,hf.len,hp.1]
 have hget:=zda (F':=F') (XW ms 0 F) (WA ms (XW ms 0 F) 0 F) st [] st hg rfl (by rw[jY];exact hlen);have hnofp:∀ (s d sz i c:Nat),(Wb (WA ms (XW ms 0 F) 0 F) st (XW ms 0 F) 0)[s]?=some (S.fp d sz i c)->F[s]?=some (.fp d sz i c)/\d ∉ ms:=fun s d sz i c hx=>by
  rcases hget s _ hx with ⟨_,_,h|⟨v,h⟩⟩|⟨_,h⟩
  . cases h
  . cases h
  . rcases zbb _ _ _ _ _ _ h with h|⟨h0,h,_⟩
    . cases h
    . exact⟨h0,(h _ _ _ _ rfl).2⟩
 refine⟨by rw[qQ,jY,hf.len,hp.1],fun s d sz i c hx=>?_,fun s y hy=>?_⟩
 . obtain⟨h1,h2⟩:=hnofp s d sz i c hx;obtain⟨z,hz,hlz⟩:=hf.fp s d sz i c h1;obtain⟨k,n,e,hm,hk⟩:=qP ms F 0 d z hz hlz;rw[zq] at hm;obtain⟨x',hx',hlx'⟩:=zeC _ _ hg d k n e hm hk;have hdl:d < (Wb (WA ms (XW ms 0 F) 0 F) st (XW ms 0 F) 0).length:=by
    rw[qQ,jY];exact(zj.1 hz).1
   obtain⟨y',hy'⟩:∃ y',(Wb (WA ms (XW ms 0 F) 0 F) st (XW ms 0 F) 0)[d]?=some y':=⟨_,zf hdl⟩;refine⟨y',hy',?_⟩;rcases hget d y' hy' with ⟨_,h,_⟩|⟨hn,_⟩
   . rw[hx'] at h;cases h;exact hlx'
   . exact absurd ⟨k,n,e,hm⟩ hn
 rcases hget s y hy with ⟨_,h,_⟩|⟨hn,h⟩
 . exact hf'.fr s y h
 . rcases zbb _ _ _ _ _ _ h with rfl|⟨h1,h2,h3⟩
   . trivial
   . rw[zq] at h3;have hns:s ∉ ms:=fun hm=>hn (h3 hm);have hnl:lin y=false:=by
      cases hl:lin y with
      | false=>rfl
      | true =>
        obtain⟨k,n,e,hm,_⟩:=qP ms F 0 s y h1 hl;rw[zq] at hm;exact absurd ⟨k,n,e,hm⟩ hn
     rw[hp.2 s hns];have:=(hf.fr s y h1).keep2 (g':=g') (w':=w') hs.im hs.io (fun hl=>by rw[hnl] at hl;cases hl);exact this.vals fun d sz i c he=>hp.2 d (h2 d sz i c he).2
theorem zbc {a : Act} {w : World} {h : ze} : ∀ (l : List Nat) {F : List S} {g : G}, Hinv g h w -> Finv g F a.tmps w -> ∃ g', Hinv g' h w /\ Finv g' (jm l F) a.tmps w /\ Step g w g' w
 | [],F,g,hh,hf=>⟨g,hh,hf,.refl _ _⟩
 | i :: l,F,g,hh,hf=>by
   unfold jm;split
   . rename_i e sz x hx;obtain⟨g1,a1,a2,a3,_⟩:=Qk (vc:=false) (o:=.tmp i) (x:=.sl sz x false) (F':=(F.map (er1 i)).set i (.v (.sl sz x false))) (h':=h) hh hf (by simp[evE,hx]);obtain⟨g2,b1,b2,b3⟩:=zbc l a1 a2;exact⟨g2,b1,b2,a3.trans b3⟩
   . exact zbc l hh hf
theorem qR {g : G} {a : Act} {w : World} (ops : Array Oper) : ∀ (l : List Oper) {F : List S}, Finv g F a.tmps w -> Finv g (WU ops l F) a.tmps w
 | [],F,hf=>hf
 | o :: l,F,hf=>by
   unfold WU;refine qR ops l ?_;split
   . split
     . split
       . exact hf.drop _
       . exact hf
     . split
       . exact hf.drop _
       . exact hf
     . split
       . exact hf.drop _
       . exact hf
     . exact hf
   . exact hf
theorem jZ {a : Act} {w : World} : ∀ (n : Nat) {F F' : List S} {h h' : ze} {g : G}, zp1 vc n F h = some (F', h') -> Hinv g h w -> Finv g F a.tmps w -> ∃ g', Hinv g' h' w /\ Finv g' F' a.tmps w /\ Step g w g' w
 | 0,F,F',h,h',g,hx,hh,hf=>by cases hx;exact⟨g,hh,hf,.refl _ _⟩
 | n+1,F,F',h,h',g,hx,hh,hf=>by
   unfold zp1 at hx;split at hx
   . split at hx
     . rename_i v F1 h1 he;obtain⟨g1,a1,a2,a3,_⟩:=Qk hh hf he;obtain⟨g2,b1,b2,b3⟩:=jZ n hx a1 a2;exact⟨g2,b1,b2,a3.trans b3⟩
     . cases hx
   . split at hx
     . rename_i v F1 h1 he;obtain⟨g1,a1,a2,a3,_⟩:=Qk hh hf he;obtain⟨g2,b1,b2,b3⟩:=jZ n hx a1 a2;exact⟨g2,b1,b2,a3.trans b3⟩
     . cases hx
   . exact jZ n hx hh hf
theorem j0 {a : Act} {w : World} : ∀ (l : List Nat) {F F' : List S} {h h' : ze} {g : G}, zp2 vc l F h = some (F', h') -> Hinv g h w -> Finv g F a.tmps w -> ∃ g', Hinv g' h' w /\ Finv g' F' a.tmps w /\ Step g w g' w
 | [],F,F',h,h',g,hx,hh,hf=>by cases hx;exact⟨g,hh,hf,.refl _ _⟩
 | n :: l,F,F',h,h',g,hx,hh,hf=>by
   unfold zp2 at hx;split at hx
   . split at hx
     . rename_i v F1 h1 he;obtain⟨g1,a1,a2,a3,_⟩:=Qk hh hf he;obtain⟨g2,b1,b2,b3⟩:=j0 l hx a1 a2;exact⟨g2,b1,b2,a3.trans b3⟩
     . cases hx
   . split at hx
     . rename_i v F1 h1 he;obtain⟨g1,a1,a2,a3,_⟩:=Qk hh hf he;obtain⟨g2,b1,b2,b3⟩:=j0 l hx a1 a2;exact⟨g2,b1,b2,a3.trans b3⟩
     . cases hx
   . exact j0 l hx hh hf
theorem setRow_heap{w:World}{β k:Nat}{o:Obj}(h:k≠β):(w.putObj β o).heap[k]?=w.heap[k]?:=World.putObj_heap_other h
theorem Hinv.putB{g:G}{h:ze}{w:World}(hh:Hinv g h w){b β:Nat}(how:g.ow β=some (.hp b))(o:Obj)(x:HB)(hx:BR g (w.putObj β o) b x):Hinv g (h.set b x) (w.putObj β o) where
 hp b' y hy:=by
  rw[Zd] at hy;split at hy
  . rename_i e;subst e;split at hy
    . cases hy;exact hx
    . cases hy
  . rename_i hne;refine(hh.hp b' y hy).keep (fun _ _ h=>h) (fun _ _ h=>h) fun β' h2=>⟨h2,World.putObj_heap_other ?_⟩;rintro rfl;rw[how] at h2;cases h2;exact hne rfl
 io b' β' hb:=by rw[zw];exact hh.io b' β' hb
 im p v hp:=by
  obtain⟨h1,h2⟩:=hh.im p v hp;exact⟨by rw[World.cell?_of_block (w:=w) (World.putObj_heap_other fun e=>by rw[e,how] at h2;cases h2)];exact h1,h2⟩
 ow β' h:=by simpa using hh.ow β' h
theorem Step.putObj{g:G}{w:World}{β:Nat}(how:g.ow β≠none)(o:Obj):Step g w g (w.putObj β o) :=
 ⟨fun _ _ h=>h,fun _ _ h=>h,fun _ _ h=>.inl h,fun _ _ h=>h,rfl,rfl,rfl,by simp,fun β' _ h=>World.putObj_heap_other fun e=>how (by rw[<- e];exact h)⟩
theorem Finv.putObj{g:G}{F:List S}{T:Array Value}{w:World}(hf:Finv g F T w){β b:Nat}(how:g.ow β=some (.hp b))(o:Obj):Finv g F T (w.putObj β o) :=
 hf.keep (fun _ _ h=>h) (fun _ _ h=>h) fun β' s h=>⟨h,World.putObj_heap_other fun e=>by rw[e,how] at h;cases h⟩
def G.push(g:G)(w:World)(h:ze):G:={ im:=g.im,io:=fun b=>if b=h.length then some w.heap.size else g.io b,ow:=fun b=>if b=w.heap.size then some (.hp h.length) else g.ow b }
theorem zi0 {g : G} {h : ze} {w : World} (hh : Hinv g h w) (o : Obj) (x : HB) (hx : (g.push w h).io h.length = some w.heap.size -> (g.push w h).ow w.heap.size = some (.hp h.length) -> (∀ b β, g.io b = some β -> (g.push w h).io b = some β) -> (w.alloc o).heap[w.heap.size]? = some o -> BR (g.push w h) (w.alloc o) h.length x) :
    Hinv (g.push w h) (h++[x]) (w.alloc o)/\Step g w (g.push w h) (w.alloc o)/\(∀ (F:List S) (T:Array Value),Finv g F T w->Finv (g.push w h) F T (w.alloc o)):=by
 have hnone:g.io h.length=none:=by
  cases hi:g.io h.length with
  | none=>rfl
  | some b=>have:=hh.io _ _ hi;omega
 have hio:∀ b β,g.io b=some β->(g.push w h).io b=some β:=fun b β' hb=>by
  show (if b=h.length then some w.heap.size else g.io b)=some β';split
  . rename_i e;subst e;rw[hnone] at hb;cases hb
  . exact hb
 have how':∀ b,b≠w.heap.size->(g.push w h).ow b=g.ow b:=fun b hb=>if_neg hb;have hioN:(g.push w h).io h.length=some w.heap.size:=if_pos rfl;have howβ:(g.push w h).ow w.heap.size=some (.hp h.length):=if_pos rfl;refine⟨⟨fun b y hy=>?_,fun b b' hb=>?_,fun p v hp=>?_,fun b hb=>?_⟩,⟨fun _ _ h=>h,hio,fun _ _ h=>.inl h,fun b hb h0=>by rw[how' b (by omega)];exact h0,rfl,rfl,rfl,by simp,fun b hb _=>Below.heap_alloc _ _ _ hb⟩,fun F T hf=>?_⟩
 . rw[ZP] at hy;split at hy
   . refine(hh.hp b y hy).keep (fun _ _ h=>h) hio fun b' h2=>?_;have hlt:=hh.ow b' (by rw[h2];simp);exact⟨by rw[how' b' (by omega)];exact h2,Below.heap_alloc _ _ _ hlt⟩
   . rename_i hge;have hbl:b - h.length=0:=by
      have:=(zj.1 hy).1;simp at this;omega
     have hbeq:b=h.length:=by omega
     subst hbeq;simp at hy;subst hy;exact hx hioN howβ hio (heap_alloc_new w _)
 . have hb:(if b=h.length then some w.heap.size else g.io b)=some b':=hb;split at hb
   . rename_i e;rw[e];simp
   . have:=hh.io _ _ hb;simp;omega
 . obtain⟨h1,h2⟩:=hh.im p v hp;have hlt:=jR h1;exact⟨by rw[World.cell?_of_block (w:=w) (Below.heap_alloc _ _ _ hlt)];exact h1,by rw[how' _ (by omega)];exact h2⟩
 . by_cases hbb:b=w.heap.size
   . subst hbb;simp
   . rw[how' b hbb] at hb;have:=hh.ow b hb;simp;omega
 . refine hf.keep (fun _ _ h=>h) hio fun b s hb=>?_;have hlt:=hh.ow b (by rw[hb];simp);exact⟨by rw[how' b (by omega)];exact hb,Below.heap_alloc _ _ _ hlt⟩
theorem zdb {ro : Option Nat} {id : Nat} {ops : Array Oper} {Q : Exit -> Act -> World -> Prop} {a : Act} {w : World} (hdr : P.follows .mixedOrders = true) (hro : ro = none \/ zir ops.toList = true)
    (h:wpAny P .any ops (TR.Only Q) ops.size (Array.replicate ops.size false) a w.drew):(Code.region id ops true).wpIn (WF ro) 0 P Q a w:=by
 rcases hro with rfl|hro
 . exact wpIn_wide.2 (Code.wp_mono (Q:=TR.Only Q) (fun e a w q=>by cases e <;> first|exact q|exact q.elim) (wp_region_any hdr h))
 . refine wpIn_mono (Q:=TR.Only Q) (zaO hdr hro ?_ h) (fun e a w q=>by cases e <;> first|exact q|exact q.elim);rintro ⟨a,w,hq⟩;exact hq.elim
def zm1(Q:Exit->Act->World->Prop):Exit->Act->World->Prop:=fun e a w=>e≠.outgrown/\Q e a w
theorem zhr {ro : Option Nat} {id : Nat} {ops : Array Oper} {Q : Exit -> Act -> World -> Prop} {a : Act} {w : World} (hdr : P.follows .mixedOrders = true) (hro : ro = none \/ zir ops.toList = true)
    (h:wpAny P .any ops (zm1 Q) ops.size (Array.replicate ops.size false) a w.drew):(Code.region id ops true).wpIn (WF ro) 0 P Q a w:=by
 rcases hro with rfl|hro
 . exact wpIn_wide.2 (Code.wp_mono (Q:=zm1 Q) (fun e a w q=>q.2) (wp_region_any hdr h))
 . refine wpIn_mono (Q:=zm1 Q) (zaO hdr hro ?_ h) (fun e a w q=>q.2);rintro ⟨a,w,hq⟩;exact hq.1 rfl
theorem Qr(hrec:RecOk P gc rec)(hloc:J3 gc rec)(hry:zoD P ry)(n:Nat)(hdr:P.follows .mixedOrders=true){ro:Option Nat}:∀ (c:Code) (ms:List Nat),(∀ s∈Wq c,s∈ms)->(ro=none\/QT c=true)->∀ (F:List S) (h:ze) (D:List Df) (K:Ex->List S->ze->List Df->Option R) (base:List Deferred) (g:G) (a:Act) (w:World) (Q:Exit->Act->World->Prop),
    exec P rec keep gc vc ry (zV n) (textDraws P) c F h D K=some r->Hinv g h w->Finv g F a.tmps w->DR g D a.defers base →
    (∀ e F' h' D' g' a' w' e',K e F' h' D'=some r->Hinv g' h' w'->Finv g' F' a'.tmps w'->Step g w g' w'->Prs ms a a'->DR g' D' a'.defers base->ExR g' e e'->Q e' a' w')->c.wpIn (WF ro) 0 P Q a w
 | .skip,ms,hms,hro,F,h,D,K,base,g,a,w,Q,hx,hh,hf,hD,hK=>wpIn_skip (hK .nrm F h D g a w .normal hx hh hf (.refl _ _) (.refl _ _) hD trivial)
 | .label l,ms,hms,hro,F,h,D,K,base,g,a,w,Q,hx,hh,hf,hD,hK=>wpIn_label (hK .nrm F h D g a w .normal hx hh hf (.refl _ _) (.refl _ _) hD trivial)
 | .exit id,ms,hms,hro,F,h,D,K,base,g,a,w,Q,hx,hh,hf,hD,hK=>wpIn_exit (hK (.ex id) F h D g a w (.exit id) hx hh hf (.refl _ _) (.refl _ _) hD rfl)
 | .ret,ms,hms,hro,F,h,D,K,base,g,a,w,Q,hx,hh,hf,hD,hK=>wpIn_ret (hK .ret F h D g a w .ret hx hh hf (.refl _ _) (.refl _ _) hD trivial)
 | .region id ops d,ms,hms,hro,F,h,D,K,base,g,a,w,Q,hx,hh,hf,hD,hK=>by
   have hmods:∀ o∈ops.toList,∀ k,o.dst=some k->k∈ms:=fun o ho k hk=>hms k (by
    simp only[Wq];exact Z0.2 ⟨o,ho,hk⟩)
   have hro':ro=none\/zir ops.toList=true:=hro.imp (fun h=>h) fun h=>h;unfold exec at hx;simp only[je] at hx;cases d with
   | false =>
     simp only[zt,if_false] at hx;refine wpIn_region_list ?_
     exact zeB (keep := keep) hrec hry ops (Q := Q) (base := base) ms ops.toList F h D g a w (hro'.imp (fun h => h) fun h o ho => zgl h ho) hx hh hf hD hmods (fun F' h' D' g' a' w' k1 k2 k3 k4 k5 k6 => hK .nrm F' h' D' g' a' w' .normal k1 k2 k3 k4 k5 k6 trivial)
      (fun x F' h' D' g' a' v w' k1 k2 k3 k4 k5 k6 k7=>hK (.pan x) F' h' D' g' a' w' (.panic _) k1 k2 k4 k5 k6 k7 ⟨v,rfl,k3⟩)
   | true =>
     simp only[if_true] at hx;have hfull:TR.left ops.size (Array.replicate ops.size false)=List.range ops.size:=by
      refine XO.2 fun k hk=>?_;have:=Zc.1 hk;simp[this]
     have hcl0:TR.Closed .any ops (Array.replicate ops.size false):=by
      intro i o hi hl;exfalso;rw[zY,Wx] at hl;split at hl <;> simp at hl
     split at hx
     . rename_i hb0;rw[zE,zE] at hb0;have hb:=hb0.1;have htl:=hb0.2;split at hx
       . rename_i ol hol;have hpos:0 < ops.size:=by
          rcases WE ops.size with h0|h0
          . have:ops.toList=[]:=Zr (by simpa using h0);rw[this] at hol;cases hol
          . exact h0
         have hkk:(ops.size - 1)+1=ops.size:=by omega
         have hlast:ops[ops.size - 1]?=some ol:=by
          rw[List.getLast?_eq_getElem?] at hol;simpa using hol
         unfold zuw at htl;rw[hol] at htl;simp only[zE] at htl;have hog:ol.guard=none:=Option.isNone_iff_eq_none.1 htl.2.1;have hdep:∀ i,i < ops.size - 1->(TR.descs .any i ops.toList #[]).getD (ops.size - 1) false=true:=fun i hi=>by
          have:=Zz.1 htl.2.2 i (Zc.2 hi);rw[TR.descM_eq i ops.toList 0 0 #[] rfl (by simp)] at this;exact this
         have hzip':∀ p∈ops.toList.dropLast.zipIdx,ops[p.2]?=some p.1:=fun p hp=>by
          have:=XC.1 hp;rw[List.getElem?_dropLast] at this;split at this
          . simpa using this
          . cases this
         obtain⟨L,F',h',r1,r2,r3,r4⟩:=zc9 hloc ops.toList.dropLast.zipIdx (WU ops ops.toList F) h hzip' hx;have hLi:L.map (·.i)=List.range (ops.size - 1):=by
          rw[r2];apply List.ext_getElem <;> simp
         refine zhr hdr hro' ?_
         refine zlv (P := P) (gc := gc) (keep := keep) (rec := rec) hrec hloc (F' := F') (h' := h') (g0 := g) (w0 := w) (a0 := a) (ms := ms) (Q := zm1 Q) (all := ops) hmods hkk hdep
          (fun g' a' w' k1 k2 k3 k4=>?_) (fun l hl _=>TR.ready_nil hb.2 hl) ops.size (Array.replicate ops.size false) L (WU ops ops.toList F) h g a _ (by simp) (by rw[hfull,hLi,<- List.range_succ];show List.range (ops.size - 1+1)=_;rw[hkk])
          (by have:=congrArg List.length hLi;simp at this;omega) hcl0 (by simpa using r3) r1 hh.drew (qR ops _ hf.drew) (Step.drew g w) (.refl _ _)
         have hmem:ol∈ops.toList:=List.mem_of_getLast? hol;unfold wpOp;rw[hlast];simp only[Region.wanted,hog,if_true];left;refine zau hrec r4 k1 k2 (fun F2 h2 g2 v w2 q1 q2 q3 q4=>⟨by simp,?_⟩) (fun x F2 h2 g2 v w2 q1 q2 q3 q4 q5=>⟨by simp,?_⟩)
         . exact hK .nrm F2 h2 D g2 _ w2 .normal q1 q2 q3 (k3.trans q4) (k4.prs.trans (Prs.put a' ol.dst v (fun k hk=>hmods ol hmem k hk) rfl)) (by rw[put_defers,k4.1];exact hD.step (k3.trans q4)) trivial
         . exact hK (.pan x) F2 h2 D g2 _ w2 (.panic _) q1 q2 q4 (k3.trans q5) k4.prs (by rw[k4.1];exact hD.step (k3.trans q5)) ⟨v,rfl,q3⟩
       . cases hx
     split at hx
     . rename_i hdraw;refine zdb hdr hro' ?_;have hB:(TR.textB (TR.cls P) ops && TR.backB ops)=true:=by
        unfold textDraws at hdraw;rw[zE] at hdraw;rw[TR.fastB_ok hdraw.1,hdraw.2];rfl
       have hops:ops=ops.toList.toArray:=by simp
       have := zep (keep := keep) hrec true ops (Q := Exit.then (fun a w => Q .normal a w) (fun _ _ _ => False)) ms ops.toList F h g a w.drew hx hh.drew hf.drew hmods
        (fun F' h' g' a' w' k1 k2 k3 k4 k5=>hK .nrm F' h' D g' a' w' .normal k1 k2 k3 ((Step.drew g w).trans k4) k5.prs (by rw[k5.1];exact(hD.step (Step.drew g w)).step k4) trivial)
        (fun x F' h' g' a' v w' k1 k2 k3 k4 k5 k6=>by cases k1)
       have key:=TR.any_region_text (l:=ops.toList) (Q:=Q) (TR.cls_ok _) (by rw[<- hops];exact hB) (by rw[<- hops];exact this);rw[<- hops] at key;exact key
     . split at hx
       . rename_i hb;rw[zE] at hb;have hzip:∀ p∈ops.toList.zipIdx,ops[p.2]?=some p.1:=fun p hp=>by
          have:=XC.1 hp;simpa using this
         have hfull:TR.left ops.size (Array.replicate ops.size false)=List.range ops.size:=by
          refine XO.2 fun k hk=>?_;have:=Zc.1 hk;simp[this]
         have key:∀ (F1:List S) (h1:ze) (g1:G),Hinv g1 h1 w->Finv g1 F1 a.tmps w->Step g w g1 w->jO P rec keep gc vc ops ops.toList.zipIdx [] (WU ops ops.toList F1) h1 (fun F h=>K .nrm F h D)=some r->(Code.region id ops true).wpIn (WF ro) 0 P Q a w:=by
          intro F1 h1 g1 hh1 hf1 hs1 hx1;refine zdb hdr hro' ?_;obtain⟨L,F',h',r1,r2,r3,r4⟩:=zc9 hloc ops.toList.zipIdx (WU ops ops.toList F1) h1 hzip hx1;have hLi:L.map (·.i)=List.range ops.size:=by
           rw[r2];apply List.ext_getElem <;> simp
          refine zoB (P := P) (gc := gc) (keep := keep) (rec := rec) hrec hloc (F' := F') (h' := h') (g0 := g1) (w0 := w) (a0 := a) (ms := ms) (Q := TR.Only Q) (all := ops) hmods
           (fun g' a' w' k1 k2 k3 k4=>hK .nrm F' h' D g' a' w' .normal r4 k1 k2 (hs1.trans k3) k4.prs (by rw[k4.1];exact hD.step (hs1.trans k3)) trivial) (fun l hl _=>TR.ready_nil hb.2 hl) ops.size (Array.replicate ops.size false) L (WU ops ops.toList F1) h1 g1 a _ (by simp) (by rw[hfull];exact hLi)
           (by have:=congrArg List.length hLi;simp at this;omega) ?_ (by simpa using r3) r1 hh1.drew (qR ops _ hf1.drew) (Step.drew g1 w) (.refl _ _)
          intro i o hi hl;exfalso;rw[zY,Wx] at hl;split at hl <;> simp at hl
         split at hx
         . split at hx
           . rename_i F1 h1 hesc;obtain⟨g1,hh1,hf1,hs1⟩:=j0 _ hesc hh hf;exact key F1 h1 g1 hh1 hf1 hs1 hx
           . cases hx
         . exact key F h g hh hf (.refl _ _) hx
       . cases hx
 | .seq x y,ms,hms,hro,F,h,D,K,base,g,a,w,Q,hx,hh,hf,hD,hK=>by
   have hrox:ro=none\/QT x=true:=hro.imp (fun h=>h) fun h=>by simp only[QT,zE] at h;exact h.1
   have hroy:ro=none\/QT y=true:=hro.imp (fun h=>h) fun h=>by simp only[QT,zE] at h;exact h.2
   unfold exec at hx;refine wpIn_seq ?_;refine Qr hrec hloc hry n hdr x ms (fun s hs=>hms s (by simp[Wq,hs])) hrox F h D _ base g a w _ hx hh hf hD ?_;intro e F1 h1 D1 g1 a1 w1 e' hk hh1 hf1 hs1 hp1 hD1 he;cases e with
   | nrm =>
     cases e' <;> simp[ExR] at he;refine Qr hrec hloc hry n hdr y ms (fun s hs=>hms s (by simp[Wq,hs])) hroy F1 h1 D1 K base g1 a1 w1 Q hk hh1 hf1 hD1 ?_;intro e2 F2 h2 D2 g2 a2 w2 e2' hk2 hh2 hf2 hs2 hp2 hD2 he2;exact hK e2 F2 h2 D2 g2 a2 w2 e2' hk2 hh2 hf2 (hs1.trans hs2) (hp1.trans hp2) hD2 he2
   | ex i =>
     have:=hK _ F1 h1 D1 g1 a1 w1 e' hk hh1 hf1 hs1 hp1 hD1 he;cases e' <;> simp[ExR] at he;exact this
   | ret =>
     have:=hK _ F1 h1 D1 g1 a1 w1 e' hk hh1 hf1 hs1 hp1 hD1 he;cases e' <;> simp[ExR] at he;exact this
   | pan v =>
     have:=hK _ F1 h1 D1 g1 a1 w1 e' hk hh1 hf1 hs1 hp1 hD1 he;cases e' <;> simp[ExR] at he;exact this
 | .cond c x y,ms,hms,hro,F,h,D,K,base,g,a,w,Q,hx,hh,hf,hD,hK=>by
   have hrox:ro=none\/QT x=true:=hro.imp (fun h=>h) fun h=>by simp only[QT,zE] at h;exact h.1
   have hroy:ro=none\/QT y=true:=hro.imp (fun h=>h) fun h=>by simp only[QT,zE] at h;exact h.2
   unfold exec at hx;have hxm:∀ s∈Wq x,s∈ms:=fun s hs=>hms s (by simp[Wq,hs]);have hym:∀ s∈Wq y,s∈ms:=fun s hs=>hms s (by simp[Wq,hs]);cases c with
   | tmp t =>
     simp only at hx;split at hx
     . rename_i b hb;have hbv:VR g.im g.io (.bool b) (a.eval (.tmp t)):=hf.getD hb;have hev:a.eval (.tmp t)=.bool b:=by
        generalize a.eval (.tmp t)=v at hbv;cases hbv;rfl
       have hset:F.set t (.v (.bool b))=F:=by
        apply ZM;intro i;rw[Zd];split
        . rename_i e;subst e;rw[hb,if_pos (zj.1 hb).1]
        . rfl
       refine wpIn_cond hev ?_;cases b with
       | true =>
         simp only[if_true] at hx ⊢;rw[hset] at hx;exact Qr hrec hloc hry n hdr x ms hxm hrox F h D K base g a w Q hx hh hf hD hK
       | false =>
         simp only[zt,if_false] at hx ⊢;rw[hset] at hx;exact Qr hrec hloc hry n hdr y ms hym hroy F h D K base g a w Q hx hh hf hD hK
     . cases hx
   | const v =>
     cases v <;> simp only at hx <;> first|(cases hx;done)|skip
     rename_i b;refine wpIn_cond (t:=b) rfl ?_;cases b with
     | true=>exact Qr hrec hloc hry n hdr x ms hxm hrox F h D K base g a w Q hx hh hf hD hK
     | false=>exact Qr hrec hloc hry n hdr y ms hym hroy F h D K base g a w Q hx hh hf hD hK
   | func f=>cases hx
   | global f=>cases hx
 | .scope b,ms,hms,hro,F,h,D,K,base,g,a,w,Q,hx,hh,hf,hD,hK=>by
   unfold exec at hx;refine zqs ?_;refine Qr hrec hloc hry n hdr b ms (fun s hs=>hms s (by simpa[Wq] using hs)) (hro.imp (fun h=>h) fun h=>by simpa[QT] using h) F h D _ base g a w _ hx hh hf hD ?_;intro e F1 h1 D1 g1 a1 w1 e' hk hh1 hf1 hs1 hp1 hD1 he;have:=hK e F1 h1 D1 g1 a1 w1 e' hk hh1 hf1 hs1 hp1 hD1 he;cases e' <;> first|exact this|(cases e <;> simp[ExR] at he)
 | .block id b,ms,hms,hro,F,h,D,K,base,g,a,w,Q,hx,hh,hf,hD,hK=>by
   unfold exec at hx;refine wpIn_block ?_;refine Qr hrec hloc hry n hdr b ms (fun s hs=>hms s (by simpa[Wq] using hs)) (hro.imp (fun h=>h) fun h=>by simpa[QT] using h) F h D _ base g a w _ hx hh hf hD ?_;intro e F1 h1 D1 g1 a1 w1 e' hk hh1 hf1 hs1 hp1 hD1 he;cases e with
   | nrm =>
     cases e' <;> simp[ExR] at he;exact hK .nrm F1 h1 D1 g1 a1 w1 .normal hk hh1 hf1 hs1 hp1 hD1 trivial
   | ex i =>
     cases e' <;> simp[ExR] at he;subst he;simp only at hk;simp only[Exit.inBlock];split at hk
     . rename_i hi;rw[if_pos hi];exact hK .nrm F1 h1 D1 g1 a1 w1 .normal hk hh1 hf1 hs1 hp1 hD1 trivial
     . rename_i hi;rw[if_neg hi];exact hK (.ex i) F1 h1 D1 g1 a1 w1 (.exit i) hk hh1 hf1 hs1 hp1 hD1 rfl
   | ret =>
     have:=hK .ret F1 h1 D1 g1 a1 w1 e' hk hh1 hf1 hs1 hp1 hD1 he;cases e' <;> simp[ExR] at he;exact this
   | pan v =>
     have:=hK (.pan v) F1 h1 D1 g1 a1 w1 e' hk hh1 hf1 hs1 hp1 hD1 he;cases e' <;> simp[ExR] at he;exact this
 | .loop b,ms,hms,hro,F0,h,D,K,base,g0,a,w,Q,hx,hh0,hf0,hD0,hK0=>by
   unfold exec at hx;simp only at hx;obtain⟨g,hh,hf,hs0⟩:=zbc (valsOf P b) hh0 hf0;have hD:DR g D a.defers base:=hD0.step hs0;have hrob:ro=none\/QT b=true:=hro.imp (fun h=>h) fun h=>by simpa[QT] using h
   have hK:∀ e F' h' D' g' a' w' e',K e F' h' D'=some r->Hinv g' h' w'->Finv g' F' a'.tmps w'->Step g w g' w'->Prs ms a a'->DR g' D' a'.defers base->ExR g' e e'->Q e' a' w':=fun e F' h' D' g' a' w' e' k1 k2 k3 k4 k5 k6 k7=>hK0 e F' h' D' g' a' w' e' k1 k2 k3 (hs0.trans k4) k5 k6 k7;generalize jm (valsOf P b) F0=F at hx hf;split at hx
   . rename_i st hst;have hbm:∀ s∈Wq b,s∈ms:=fun s hs=>hms s (by simpa[Wq] using hs);have key:∀ (m:Nat) (st:List V) (h':ze) (g':G) (a':Act) (w':World),zV m (fun st h next=>exec P rec keep gc vc ry (zV n) (textDraws P) b (Wb (WA (Wq b) (XW (Wq b) 0 F) 0 F) st (XW (Wq b) 0 F) 0) h [] (fun e F' h D1=>match e with
         | .nrm=>(match D1 with|[]=>(match Kk F' (XW (Wq b) 0 F) with|some st=>next st h|none=>none)|_=>none)
         | e=>K e F' h (D1++D))) st h'=some r->Hinv g' h' w'->Finv g' (Wb (WA (Wq b) (XW (Wq b) 0 F) 0 F) st (XW (Wq b) 0 F) 0) a'.tmps w'->Step g w g' w'->Prs (Wq b) a a'->a'.defers=a.defers->Code.roundsIn (WF ro) 0 P b Q m a' w':=by
      intro m
      induction m with
      | zero=>intro st h' g' a' w' hx;cases hx
      | succ m ih =>
        intro st h' g' a' w' hx hh' hf' hs' hp' hd';rw[roundsIn_succ];rw[zV] at hx;refine Qr hrec hloc hry n hdr b (Wq b) (fun s hs=>hs) hrob _ h' [] _ a.defers g' a' w' _ hx hh' hf' hd' ?_;intro e F1 h1 D1 g1 a1 w1 e' hk hh1 hf1 hs1 hp1 hD1 he;have hDD:DR g1 (D1++D) a1.defers base:=hD1.append (hD.step (hs'.trans hs1));cases e with
        | nrm =>
          cases e' <;> simp[ExR] at he;simp only at hk;split at hk
          . split at hk
            . rename_i st1 hst1;exact ih st1 h1 g1 a1 w1 hk hh1 (ziZ hf hf1 (hs'.trans hs1) (hp'.trans hp1) hst1) (hs'.trans hs1) (hp'.trans hp1) hD1
            . cases hk
          . cases hk
        | ex i =>
          have:=hK _ F1 h1 _ g1 a1 w1 e' hk hh1 hf1 (hs'.trans hs1) ((hp'.trans hp1).sub hbm) hDD he;cases e' <;> simp[ExR] at he;exact this
        | ret =>
          have:=hK _ F1 h1 _ g1 a1 w1 e' hk hh1 hf1 (hs'.trans hs1) ((hp'.trans hp1).sub hbm) hDD he;cases e' <;> simp[ExR] at he;exact this
        | pan v =>
          have:=hK _ F1 h1 _ g1 a1 w1 e' hk hh1 hf1 (hs'.trans hs1) ((hp'.trans hp1).sub hbm) hDD he;cases e' <;> simp[ExR] at he;exact this
     exact wpIn_loop_rounds n (key n st h g a w hx hh (ziZ hf hf (.refl _ _) (.refl _ _) hst) (.refl _ _) (.refl _ _) rfl)
   . cases hx
 | .rangeFunc gop ps as_ bd,ms,hms,hro,F0,h0,D,K,base,g0,a,w,Q,hx,hh0,hf0,hD0,hK=>by
   have hron:ro=none:=hro.resolve_right (by simp[QT]);subst hron;unfold exec at hx;simp only[je] at hx;split at hx
   . rename_i F h hesc;obtain⟨g1,hh1,hf1,hs1⟩:=jZ _ hesc hh0 hf0;split at hx
     . rename_i f caps hev;split at hx
       . rename_i hc;rw[zE,zE] at hc;have hmu:YX P f=none:=by simpa using hc.1
         have hvf:=ZW hf1 hev;obtain⟨capv,hfv,hcap⟩:∃ capv,a.eval gop=.func (.func f) #[] capv/\VL g1.im g1.io caps capv.toList:=by
          generalize a.eval gop=v at hvf;cases hvf with
          | fn _ _ c hl hcc=>exact⟨c,rfl,⟨by simpa using hl,fun i x y h1 h2=>hcc i x y h1 (by simpa using h2)⟩⟩
         refine wpIn_rangeFunc ?_;intro fn _;obtain⟨p1,p2,p3⟩:=zi0 hh1 (.deferred (some [])) .defb (fun i1 i2 i3 i4=>⟨_,i1,i2,i4⟩);generalize hg2:g1.push w h=g2 at p1 p2 p3;have hio2:g2.io h.length=some w.heap.size:=by rw[<- hg2];exact if_pos rfl
         have hf2:=p3 F a.tmps hf1
         obtain ⟨q1, q2, q3⟩ := zi0 p1 (.loop { state := .ready, pending := none, fn := fn, tmps := a.tmps, params := ps, assign := as_, body := bd, defers := w.heap.size })
          (.loop h.length vc (F.map frV) ps.toList as_ bd .ready) (fun i1 i2 i3 i4=>⟨_,w.heap.size,fn,a.tmps,i1,i2,i3 _ _ hio2,by simpa[LSt.st,LSt.pe] using i4,by rw[zp];exact hf2.len,fun i x hx=>by
           rw[zF] at hx;cases hF:F[i]? with
           | none=>rw[hF] at hx;cases hx
           | some y =>
             rw[hF] at hx;cases y <;> simp[frV] at hx;subst hx;exact VR.mono (fun _ _ h=>h) i3 (hf2.fr i _ hF)⟩)
         rw[List.append_assoc] at q1;have hioL:(g2.push (w.alloc (.deferred (some []))) (h++[HB.defb])).io (h.length+1)=some (w.heap.size+1):=by
          show (if h.length+1=(h++[HB.defb]).length then some (w.alloc (.deferred (some []))).heap.size else g2.io (h.length+1))=_;rw[if_pos (by simp)];simp
         generalize g2.push (w.alloc (.deferred (some []))) (h++[HB.defb])=g3 at q1 q2 q3 hioL;have hf3:=q3 F a.tmps hf2;have hs3:Step g0 w g3 ((w.alloc (.deferred (some []))).alloc (.loop { state:=.ready,pending:=none,fn:=fn,tmps:=a.tmps,params:=ps,assign:=as_,body:=bd,defers:=w.heap.size })):=hs1.trans (p2.trans q2);have hs13:Step g1 w g3 ((w.alloc (.deferred (some []))).alloc (.loop { state:=.ready,pending:=none,fn:=fn,tmps:=a.tmps,params:=ps,assign:=as_,body:=bd,defers:=w.heap.size })):=p2.trans q2;generalize hw3:(w.alloc (.deferred (some []))).alloc (.loop { state:=.ready,pending:=none,fn:=fn,tmps:=a.tmps,params:=ps,assign:=as_,body:=bd,defers:=w.heap.size })=w3 at q1 q2 q3 hf3 hs3 hs13;unfold clN at hx;split at hx
         . rename_i vs h' X0;simp only[lpE] at hx;obtain⟨fnr,hfn,hb,hn⟩:=hrec.fn _ _ _ _ X0;have hargs:VL g3.im g3.io (.yld (h.length+1) :: caps) (.func (.yield (w.heap.size+1)) #[] #[] :: capv.toList):=.cons (.yld _ _ hioL) (hcap.mono hs13.im hs13.io);refine⟨w.heap.size+1,[{ target:=.collected w.heap.size,args:=#[] }],w3,{ target:=.fn (.func f) capv,args:=#[.func (.yield (w.heap.size+1)) #[] #[]] },w3,f,(.func (.yield (w.heap.size+1)) #[] #[] :: capv.toList).toArray,w3,?_,?_,fun _ _=>trivial,?_,fun h=>by simp[WF,Fence.wide] at h,?_⟩
           . rw[<- hw3];exact run_enterLoop_outer _ _ _ _ _
           . simp only[resolve,hfv];simp[go_sem]
           . have harr:#[Value.func (.yield (w.heap.size+1)) #[] #[]]++capv=(Value.func (.yield (w.heap.size+1)) #[] #[] :: capv.toList).toArray:=by apply Array.ext';simp
             simp only[invoke,callFunc,Sem.run_bind,run_program,Result.andThen_ok,hfn,hn,hb,zt,if_false,harr];rfl
           . refine(zeA (ro:=none) (n:=0) (hrec.heap _ _ _ _ _ hmu X0 g3.hpOnly _ w3 q1.hpOnly (QA g3) hargs)).mono ?_;rintro e w' ⟨g',s1,s2,s3',s4⟩;obtain⟨g4,e1,e2,b1,b2,b3⟩:=Yh q1 hf3 s1 s2 s3';have hs4:Step g0 w g4 w':=hs3.trans b3;have hD4:DR g4 (.mark h.length :: D) ({ target:=.collected w.heap.size,args:=#[] } :: a.defers) base :=
              ⟨_,_,rfl,⟨w.heap.size,rfl,b3.io _ _ (q2.io _ _ hio2)⟩,hD0.step hs4⟩
             have hioL4:g4.io (h.length+1)=some (w.heap.size+1):=b3.io _ _ hioL;cases e with
             | panicked ch=>exact s4.elim
             | outgrown=>exact s4.elim
             | returned v =>
               have hend:∀ d' vc' fr' ps' as' bd' st',h'[h.length+1]?=some (.loop d' vc' fr' ps' as' bd' st')->st'.st≠.busy →
                   ∃ o,(Instr.endLoop (w.heap.size+1)).run P w'=.ok st'.pe (w'.putObj (w.heap.size+1) o)/\Hinv g4 (h'.set (h.length+1) .dead) (w'.putObj (w.heap.size+1) o)/\Finv g4 F a.tmps (w'.putObj (w.heap.size+1) o)/\Step g4 w' g4 (w'.putObj (w.heap.size+1) o):=by
                intro d' vc' fr' ps' as' bd' st' hb' hst;obtain⟨β,δ,fn',T,i1,i2,i3,i4,i5⟩:=b1.hp _ _ hb';rw[hioL4] at i1;cases i1;exact⟨_,run_endLoop i4 hst,b1.putB i2 _ .dead trivial,b2.putObj i2 _,Step.putObj (by rw[i2];simp) _⟩
               split at hx
               . rename_i hb';obtain⟨o,k1,k2,k3,k4⟩:=hend _ _ _ _ _ _ _ hb' (by simp[LSt.st]);exact⟨none,_,k1,hK .nrm F _ _ g4 { a with defers:=[{ target:=.collected w.heap.size,args:=#[] }]++a.defers } _ .normal hx k2 k3 (hs4.trans k4) ⟨rfl,fun _ _=>rfl⟩ (hD4.step k4) trivial⟩
               . rename_i hb';obtain⟨o,k1,k2,k3,k4⟩:=hend _ _ _ _ _ _ _ hb' (by simp[LSt.st]);exact⟨some .ret,_,k1,wpIn_ret (hK .ret F _ _ g4 { a with defers:=[{ target:=.collected w.heap.size,args:=#[] }]++a.defers } _ .ret hx k2 k3 (hs4.trans k4) ⟨rfl,fun _ _=>rfl⟩ (hD4.step k4) trivial)⟩
               . cases hx
         . cases hx
       . cases hx
     . cases hx
   . cases hx
 | .goto ..,ms,hms,hro,F,h,D,K,base,g,a,w,Q,hx,hh,hf,hD,hK=>by unfold exec at hx;cases hx
 | .refuse ..,ms,hms,hro,F,h,D,K,base,g,a,w,Q,hx,hh,hf,hD,hK=>by unfold exec at hx;cases hx
end
end Go.L
namespace Go.L
open Go.RowKit
section
variable {vc:Bool} {P:Program} {gc keep:FuncId->Bool} {rec:Rec} {ry:Ry} {R:Type} {r:R}
theorem Ke{l:List V}(h:V.free.freeL l=true):∀ x∈l,x.free=true:=by
 induction l with
 | nil=>simp
 | cons a l ih =>
   intro x hx;simp only[V.free.freeL,zE] at h;rcases zN.1 hx with rfl|hx
   . exact h.1
   . exact ih h.2 x hx
theorem zlw{l:List (List V)}(h:V.free.freeLL l=true):∀ x∈l,V.free.freeL x=true:=by
 induction l with
 | nil=>simp
 | cons a l ih =>
   intro x hx;simp only[V.free.freeLL,zE] at h;rcases zN.1 hx with rfl|hx
   . exact h.1
   . exact ih h.2 x hx
theorem VR.free{im:Im}{io io':Io}{x:V}{y:Value}(h:VR im io x y):x.free=true->VR im io' x y:=by
 induction h with
 | int=>exact fun _=>.int _ _
 | bool=>exact fun _=>.bool _
 | str=>exact fun _=>.str _
 | val _ h=>exact fun _=>.val _ h
 | agg l c hl ho _ ih =>
   intro hs;exact .agg l c hl ho fun i x y h1 h2=>ih i x y h1 h2 (Ke (by simpa[V.free] using hs) x (zM h1))
 | sl sz l x A cap ad ys hA hx hc hm hs hi _ ih =>
   intro hf;exact .sl sz l x A cap ad ys hA hx hc hm hs hi fun k es j x h1 h2=>ih k es j x h1 h2 (Ke (zlw (by simpa[V.free] using hf) es (zM h1)) x (zM h2))
 | ptr=>exact fun h=>by simp[V.free] at h
 | iptr=>exact fun h=>by simp[V.free] at h
 | map=>exact fun h=>by simp[V.free] at h
 | row=>exact fun h=>by simp[V.free] at h
 | rowN=>exact fun h=>by simp[V.free] at h
 | rptr=>exact fun h=>by simp[V.free] at h
 | fn f l c hl _ ih =>
   intro hs;exact .fn f l c hl fun i x y h1 h2=>ih i x y h1 h2 (Ke (by simpa[V.free] using hs) x (zM h1))
 | iface t x y _ ih=>intro hs;exact .iface t x y (ih (by simpa[V.free] using hs))
 | yld b l h=>intro hs;simp[V.free] at hs
 | bf f l c hl _ ih =>
   intro hs;exact .bf f l c hl fun i x y h1 h2=>ih i x y h1 h2 (Ke (by simpa[V.free] using hs) x (zM h1))
 | mo t nm=>intro _;exact .mo t nm
theorem VL.free{im:Im}{io io':Io}{l:List V}{c:List Value}(h:VL im io l c)(hs:V.free.freeL l=true):VL im io' l c :=
 ⟨h.1,fun i x y h1 h2=>(h.2 i x y h1 h2).free (Ke hs x (zM h1))⟩
end
section
variable {vc:Bool} {P:Program} {gc keep:FuncId->Bool} {rec:Rec} {ry:Ry} {R:Type} {r:R}
def zqu (T : Array Value) : ResultVar -> Sem Value
 | .tmp t=>Pure.pure (T.getD t undef)
 | .cell x t=>do loadVar t (← asAddr (T.getD x undef))
theorem j6{a:Act}{w:World}:∀ {rs:List ResultVar} {F F':List S} {h h':ze} {vs:List V} {g:G},Hinv g h w->Finv g F a.tmps w->Km P vc F h rs=some (vs,F',h') →
    ∃ g' us,Hinv g' h' w/\Finv g' F' a.tmps w/\Step g w g' w/\VL g'.im g'.io vs us/\(rs.mapM (m:=Sem) (zqu a.tmps)).run P w=.ok us w
 | [],F,F',h,h',vs,g,hh,hf,he=>by cases he;exact⟨g,[],hh,hf,.refl _ _,.nil,rfl⟩
 | .tmp t :: rs,F,F',h,h',vs,g,hh,hf,he=>by
   unfold Km at he;split at he
   . rename_i v F1 h1 h2;split at he
     . rename_i vs2 F2 h3 h4;cases he;obtain⟨g1,a1,a2,a3,a4⟩:=Qk hh hf h2;obtain⟨g2,us,b1,b2,b3,b4,b5⟩:=j6 a1 a2 h4;refine⟨g2,a.tmps.getD t undef :: us,b1,b2,a3.trans b3,.cons (a4.mono b3.im b3.io) b4,?_⟩;rw[W8];simp only[zqu,Sem.run_bind,Sem.run_pure,Result.andThen_ok,b5]
     . cases he
   . cases he
 | .cell x t :: rs,F,F',h,h',vs,g,hh,hf,he=>by
   unfold Km at he;split at he
   . rename_i v hcv;split at he
     . rename_i vs2 F2 h3 h4;cases he;unfold zit at hcv;split at hcv
       . rename_i cs m c n hp hn;split at hcv
         . rename_i hc;obtain⟨q,u,hq,hrun,hvr⟩:=zec (P:=P) hp hn hc hcv hh hf;obtain⟨g2,us,b1,b2,b3,b4,b5⟩:=j6 hh hf h4;refine⟨g2,u :: us,b1,b2,b3,.cons (hvr.mono b3.im b3.io) b4,?_⟩;have hq':a.tmps.getD x undef=.pointer (some q):=hq;rw[W8];simp only[zqu,hq',asAddr,Sem.run_bind,Sem.run_pure,Result.andThen_ok,hrun,b5]
         . cases hcv
       . cases hcv
     . cases he
   . cases he
theorem zdc {fn : Func} {a : Act} {w : World} {us : List Value} (h : (fn.results.toList.mapM (m := Sem) (zqu a.tmps)).run P w = .ok us w) (hl : us.length = fn.results.size) :
    ∃ v,(results fn a.tmps).run P w=.ok v w/\(fn.results.size=1->us=[v])/\(fn.results.size≠1->v=.tuple us.toArray):=by
 have e:results fn a.tmps=(do let vs ← fn.results.mapM (m:=Sem) (zqu a.tmps);Pure.pure (if h:vs.size=1 then vs[0] else .tuple vs)):=by
  unfold results;congr 1
 rw[e,Wo];simp only[Sem.run_bind,Sem.run_map,h,Result.andThen_ok];by_cases hs:us.length=1
 . obtain⟨v,rfl⟩:=ZS.1 hs;exact⟨v,by simp,fun _=>rfl,fun h=>absurd (by rw[<- hl];rfl) h⟩
 . exact⟨.tuple us.toArray,by simp[hs],fun h=>absurd (by rw[hl];exact h) hs,fun _=>rfl⟩
theorem zeD{g:G}{w:World}{nt:Nat}{args:List V}{vals:List Value}(hlen:¬ nt < args.length)(hv:VL g.im g.io args vals):Finv g (jP nt args) (vals.toArray++Array.replicate (nt - vals.toArray.size) undef) w:=by
 have hvl:vals.length=args.length:=hv.1.symm;unfold jP;refine⟨by simp[hvl],fun s d sz i c' hs=>?_,fun s x hs=>?_⟩
 . rw[ZP] at hs;split at hs
   . rw[zF] at hs;cases ha:args[s]? <;> rw[ha] at hs <;> simp at hs
   . rw[Zw] at hs;split at hs <;> simp at hs
 . rw[ZP] at hs;split at hs
   . rename_i hlt;rw[zp] at hlt;rw[zF,zf hlt] at hs;cases hs;obtain⟨y,hy,hvr⟩:=hv.get (zf hlt);have:(vals.toArray++Array.replicate (nt - vals.toArray.size) undef).getD s undef=y:=by
      rw[zY,Jj (by simpa[hvl] using hlt)];simp[hy]
     rw[this];exact hvr
   . rw[Zw] at hs;split at hs
     . cases hs;trivial
     . cases hs
theorem zgn{g:G}{w:World}:∀ (ps:List Nat) (ys:List V) (vals:List Value) (F:List S) (T:Array Value),ys.length=ps.length->VL g.im g.io ys vals->Finv g F T w->(∀ (s:Nat) (x:S),F[s]?=some x->lin x=false/\∀ d sz i c,x≠.fp d sz i c) →
    Finv g (ziq ps ys F) ((ps.zip vals).foldl (fun(t:Array Value) (x:Nat×Value)=>t.setIfInBounds x.1 x.2) T) w
 | [],ys,vals,F,T,hl,hv,hf,hn=>by
   have:ys=[]:=Zr hl;subst this;simpa[ziq] using hf
 | p :: ps,[],vals,F,T,hl,hv,hf,hn=>by simp at hl
 | p :: ps,y :: ys,vals,F,T,hl,hv,hf,hn=>by
   obtain⟨v,r,rfl,hv1,hv2⟩:=hv.uncons;simp only[ziq,Qu,List.foldl_cons];have hn':∀ (s:Nat) (x:S),(F.set p (.v y))[s]?=some x->lin x=false/\∀ d sz i c,x≠.fp d sz i c:=fun s x hx=>by
    rw[Zd] at hx;split at hx
    . split at hx
      . cases hx;exact⟨rfl,by simp⟩
      . cases hx
    . exact hn s x hx
   refine zgn ps ys r _ _ (by simpa using hl) hv2 ⟨by simp[hf.len],fun s d sz i c hs=>absurd rfl ((hn' s _ hs).2 d sz i c),fun s x hx=>?_⟩ hn';rw[Zd] at hx;split at hx
   . rename_i e;subst e;split at hx
     . rename_i hlt;cases hx;have:(T.setIfInBounds p v).getD p undef=v:=zaN (by rw[<- hf.len];exact hlt);rw[this];exact hv1
     . cases hx
   . rename_i hne;have:(T.setIfInBounds p v).getD s undef=T.getD s undef:=getD_set_ne (fun h=>hne h.symm);rw[this];have h0:=hf.fr s x hx;exact h0.vals fun d sz i c he=>absurd he ((hn s x hx).2 d sz i c)
theorem qS{g g':G}{w w':World}(hs:Step g w g' w'):Step g w g'.hpOnly w' :=
 ⟨hs.im,hs.io,hs.imn,fun β hβ h0=>JI (.inl (hs.ow β hβ h0)),hs.os,hs.tape,hs.output,hs.size,hs.block⟩
theorem j7(hrec:RecOk P gc rec)(hloc:J3 gc rec)(n:Nat)(hdr:P.follows .mixedOrders=true):zoD P (roundX P rec keep gc n (textDraws P)):=by
 intro b ys h t h' hx g l vals w hh hns hio hv;simp only[roundX,lpR] at hx;split at hx
 . rename_i dd vc fr ps as_ bd hb;split at hx
   . rename_i hc;unfold zd8 at hx;obtain⟨hlen,hdas,hdbd⟩:=hc;obtain⟨β,δ,fn,T,i1,i2,i3,i4,i5,i6⟩:=hh.hp _ _ hb;rw[hio] at i1;cases i1;have hvl:vals.length=ps.length:=by rw[<- hv.1,hlen]
     refine⟨fn,_,as_,bd,run_yield i4 (by simp[hvl]),?_⟩;refine roundIn_of_wpIn (F:=Fence.wide) trivial ?_;have hF0:Finv g (fr.map toS) T w:=⟨by simpa using i5,fun s d sz i c hs=>(by
         rw[zF] at hs;cases ha:fr[s]? with
         | none=>rw[ha] at hs;cases hs
         | some y=>rw[ha] at hs;cases y <;> simp[toS] at hs),fun s x hs=>by
         rw[zF] at hs;cases ha:fr[s]? with
         | none=>rw[ha] at hs;cases hs
         | some y =>
           rw[ha] at hs;cases y with
           | none=>simp[toS] at hs;subst hs;trivial
           | some y=>simp[toS] at hs;subst hs;exact i6 s y ha⟩
     have hF:=zgn ps ys vals (fr.map toS) T hlen hv hF0 (fun s x hs=>by
         rw[zF] at hs;cases ha:fr[s]? with
         | none=>rw[ha] at hs;cases hs
         | some y=>rw[ha] at hs;cases y <;> simp[toS] at hs <;> subst hs <;> exact⟨rfl,by simp⟩)
     have hT:((Array.zip ps.toArray vals.toArray).foldl (fun(tmps:Array Value) (x:Nat×Value)=>tmps.setIfInBounds x.1 x.2) T)=((ps.zip vals).foldl (fun(t:Array Value) (x:Nat×Value)=>t.setIfInBounds x.1 x.2) T):=by simp
     refine Qr (keep:=keep) (ry:=fun _ _ _=>none) hrec hloc (zgm P) n hdr (ro:=some l) as_ (Wq as_) (fun s hs=>hs) (.inr hdas) _ h [] _ [] g { tmps:=_,defers:=[] } w _ hx hh (by
      show Finv g _ ((Array.zip ps.toArray vals.toArray).foldl (fun(tmps:Array Value) (x:Nat×Value)=>tmps.setIfInBounds x.1 x.2) T) w;rw[hT];exact hF) rfl ?_
     intro e F1 h1 D1 g1 a1 w1 e' hk hh1 hf1 hs1 hp1 hD1 he;split at hk
     . rename_i e0 D0;cases e' <;> simp[ExR] at he;simp only[lpR] at hk;split at hk
       . rename_i dd' vc' fr' ps' as' bd' hb1;obtain⟨β1,δ1,fn1,T1,j1,j2,j3,j4,j5⟩:=hh1.hp _ _ hb1;rw[hs1.io _ _ hio] at j1;cases j1;refine⟨_,run_beginRound j4 rfl,?_⟩;have hbusy:BR g1 (w1.putObj l (.loop { state:=LoopState.busy,pending:=LSt.ready.pe,fn:=fn1,tmps:=T1,params:=ps'.toArray,assign:=as',body:=bd',defers:=δ1 })) b (.loop dd' vc' fr' ps' as' bd' .busy) :=
          ⟨l,δ1,fn1,T1,hs1.io _ _ hio,j2,j3,World.putObj_heap_same (ZB.1 j4).1,j5⟩
         have hh2:=hh1.putB j2 _ _ hbusy;have hf2:=hf1.putObj j2 (.loop { state:=LoopState.busy,pending:=LSt.ready.pe,fn:=fn1,tmps:=T1,params:=ps'.toArray,assign:=as',body:=bd',defers:=δ1 });have hs2:Step g w g1 (w1.putObj l (.loop { state:=LoopState.busy,pending:=LSt.ready.pe,fn:=fn1,tmps:=T1,params:=ps'.toArray,assign:=as',body:=bd',defers:=δ1 })):=hs1.trans (Step.putObj (by rw[j2];simp) _);refine Qr (keep:=keep) (ry:=fun _ _ _=>none) hrec hloc (zgm P) n hdr (ro:=some l) bd (Wq bd) (fun s hs=>hs) (.inr hdbd) _ _ [] _ [] g1 a1 _ _ hk hh2 hf2 hD1 ?_;intro e F3 h3 D3 g3 a3 w3 e' hk3 hh3 hf3 hs3 hp3 hD3 he3;split at hk3
         case h_2=>cases hk3
         simp only[lpB] at hk3;split at hk3
         . rename_i dd4 vc4 fr4 ps4 as4 bd4 hb3;obtain⟨β3,δ3,fn3,T3,q1,q2,q3,q4,q5⟩:=hh3.hp _ _ hb3;rw[hs3.io _ _ (hs1.io _ _ hio)] at q1;cases q1;have hs23:=hs2.trans hs3;have hlt:=(ZB.1 q4).1;have hfin:∀ (o:Obj) (st:LSt),o=.loop { state:=st.st,pending:=st.pe,fn:=fn3,tmps:=T3,params:=ps4.toArray,assign:=as4,body:=bd4,defers:=δ3 } →
               ∃ g',Step g w g' (w3.putObj l o)/\Hinv g' (h3.set b (.loop dd4 vc4 fr4 ps4 as4 bd4 st)) (w3.putObj l o)/\(∀ β s,g'.ow β≠some (.slot s)):=fun o st ho=>by
            have:=hh3.putB q2 o (.loop dd4 vc4 fr4 ps4 as4 bd4 st) ⟨l,δ3,fn3,T3,hs3.io _ _ (hs1.io _ _ hio),q2,q3,by rw[<- ho];exact World.putObj_heap_same hlt,q5⟩;exact⟨g3.hpOnly,qS (hs23.trans (Step.putObj (by rw[q2];simp) _)),this.hpOnly,QA g3⟩
           cases e with
           | nrm =>
             cases e' <;> simp[ExR] at he3;cases hk3;obtain⟨g',k1,k2,k3⟩:=hfin _ .ready rfl;exact⟨_,_,run_endRound none q4,g',k1,k2,k3,rfl⟩
           | ret =>
             cases e' <;> simp[ExR] at he3;cases hk3;obtain⟨g',k1,k2,k3⟩:=hfin _ (.done .ret) rfl;exact⟨_,_,run_endRound (some .ret) q4,g',k1,k2,k3,rfl⟩
           | ex i =>
             cases e' <;> simp[ExR] at he3;subst he3;cases hk3;obtain⟨g',k1,k2,k3⟩:=hfin _ (.done (.ex i)) rfl;exact⟨_,_,run_endRound (some (.exit i)) q4,g',k1,k2,k3,rfl⟩
           | pan x=>cases hk3
         . cases hk3
       . cases hk
     . cases hk
   . cases hx
 . cases hx
theorem zqv{F F':List S}{h h':ze}:∀ (rs:List ResultVar) (F:List S) (h:ze) (vs:List V) (F':List S) (h':ze),Km P vc F h rs=some (vs,F',h')->vs.length=rs.length:=by
 intro rs
 induction rs with
 | nil=>intro F h vs F' h' he;cases he;rfl
 | cons x rs ih =>
   intro F h vs F' h' he;cases x with
   | tmp t =>
     unfold Km at he;split at he
     . split at he
       . cases he;simp[ih _ _ _ _ _ (by assumption)]
       . cases he
     . cases he
   | cell x t =>
     unfold Km at he;split at he
     . split at he
       . cases he;simp[ih _ _ _ _ _ (by assumption)]
       . cases he
     . cases he
theorem zav {f : FuncId} {fn : Func} (hfn : P.funcs[f]? = some fn) {F : List S} {h h' : ze} {r : Res} {g g0 : G} {a : Act} {w w0 : World} (hs : Step g0 w0 g w) (hh : Hinv g h w) (hf : Finv g F a.tmps w)
    (hk:(match Km P vc F h fn.results.toList with|some (vs,_,h)=>some (Res.ret vs,h)|none=>none)=some (r,h')):∃ v,(results fn a.tmps).run P w=.ok v w/\WX P f g0 w0 r h' (.returned v) w:=by
 split at hk
 . rename_i vs F2 h2 hres;cases hk;obtain⟨g2,us,b1,b2,b3,b4,b5⟩:=j6 (P:=P) hh hf hres;have hul:us.length=fn.results.size:=by
    rw[<- b4.1,zqv (F:=F) (F':=F) (h:=h) (h':=h) _ _ _ _ _ _ hres];simp
   obtain⟨v,r1,r2,r3⟩:=zdc (P:=P) (fn:=fn) (a:=a) b5 hul;refine⟨v,r1,g2.hpOnly,qS (hs.trans b3),b1.hpOnly,QA g2,fn,hfn,fun hsz=>?_,fun hsz=>?_⟩
   . have hu1:=r2 hsz;subst hu1;have hl1:=b4.1
     match vs,hl1,b4 with
     | [x],_,b4=>exact⟨x,rfl,b4.2 0 x v rfl rfl⟩
   . exact⟨us.toArray,r3 hsz,show VL g2.im g2.io vs us.toArray.toList by simpa using b4⟩
 . cases hk
def zqw(g:G)(w:World)(u:FrameMode)(pn:Option V)(b:Bool)(h':ze)(e:Ending)(u':FrameMode)(w':World):Prop :=
 (∃ v,e=.returned v)/\(if b=true then settle u'=.returning else u'=u)/\∃ g',Step g w g' w'/\Hinv g' h' w'/\∀ β s,g'.ow β≠some (.slot s)
def MR(g:G)(pn:Option V)(u:FrameMode):Prop:=match pn with|none=>u=.returning|some x=>∃ v,u=.panicking [{ v,recovered:=false }]/\VR g.im g.io x v
theorem MR.step{g g':G}{w w':World}{pn:Option V}{u:FrameMode}(h:MR g pn u)(hs:Step g w g' w'):MR g' pn u:=by
 cases pn with
 | none=>exact h
 | some x=>obtain⟨v,e,h⟩:=h;exact⟨v,e,h.mono hs.im hs.io⟩
theorem qT(hrec:RecOk P gc rec)(hloc:J3 gc rec)(hry:zoD P ry)(n:Nat)(hdr:P.follows .mixedOrders=true){pv:V}{pvv:Value}{cs cs':List Frame}(hcs:(recoverD cs=some (pvv,cs'))\/(recoverD cs=none/\cs'=cs/\pvv=.nilIface)):∀ (c:Code) (F:List S) (h:ze) (K:Ex->List S->ze->List Df->Option R) (g:G) (a:Act) (w:World) (Q:Exit->Act->List Frame->World->Prop),VR g.im g.io pv pvv →
    YR P rec keep gc vc ry (zV n) (textDraws P) pv c F h [] K=some r->Hinv g h w->Finv g F a.tmps w->a.defers=[] →
    (∀ e F' h' D' g' a' w' e',K e F' h' D'=some r->Hinv g' h' w'->Finv g' F' a'.tmps w'->Step g w g' w'->DR g' D' a'.defers []->ExR g' e e'->Q e' a' cs' w')->c.wpSIn Fence.wide 0 P Q a cs w
 | .seq x y,F,h,K,g,a,w,Q,hpv,hx,hh,hf,hD,hK=>by
   unfold YR at hx;refine wpSIn_seq ?_;refine qT hrec hloc hry n hdr hcs x F h _ g a w _ hpv hx hh hf hD ?_;intro e F1 h1 D1 g1 a1 w1 e' hk hh1 hf1 hs1 hD1 he;cases e with
   | nrm =>
     cases e' <;> simp[ExR] at he;refine wpSIn_of_wpIn rfl ?_;refine Qr (keep:=keep) hrec hloc hry n hdr (ro:=none) y (Wq y) (fun s hs=>hs) (.inl rfl) F1 h1 D1 K [] g1 a1 w1 _ hk hh1 hf1 hD1 ?_;intro e2 F2 h2 D2 g2 a2 w2 e2' hk2 hh2 hf2 hs2 hp2 hD2 he2;exact hK e2 F2 h2 D2 g2 a2 w2 e2' hk2 hh2 hf2 (hs1.trans hs2) hD2 he2
   | ex i =>
     have:=hK _ F1 h1 D1 g1 a1 w1 e' hk hh1 hf1 hs1 hD1 he;cases e' <;> simp[ExR] at he;exact this
   | ret =>
     have:=hK _ F1 h1 D1 g1 a1 w1 e' hk hh1 hf1 hs1 hD1 he;cases e' <;> simp[ExR] at he;exact this
   | pan v =>
     have:=hK _ F1 h1 D1 g1 a1 w1 e' hk hh1 hf1 hs1 hD1 he;cases e' <;> simp[ExR] at he;exact this
 | .region id ops d,F,h,K,g,a,w,Q,hpv,hx,hh,hf,hD,hK=>by
   unfold YR at hx;simp only[je] at hx;split at hx
   . rename_i o o2 hops;split at hx
     . rename_i hrecv;split at hx
       . rename_i x hx2 hg2;split at hx
         . rename_i y hy;unfold zp3 at hrecv;split at hrecv
           . rename_i c hoc hog;split at hrecv
             . rename_i hcc;have hargs:c.args=#[]:=by
                have:c.args.isEmpty=true:=hrecv;simpa using this
               have hoa:ops=#[o,o2]:=by apply Array.ext';simpa using hops
               subst hoa;refine wpSIn_region ?_;have hf1:Finv g (put F o.dst (.v pv)) (a.put o.dst pvv).tmps w:=hf.put o.dst (.v pv) pvv (fun k _ _=>hpv) (fun k e sz i c _ he=>by cases he);have hyv:=ZW hf1 hy;have hf2:Finv g (put (put F o.dst (.v pv)) o2.dst (.v y)) ((a.put o.dst pvv).put o2.dst ((a.put o.dst pvv).eval x)).tmps w:=hf1.put o2.dst (.v y) _ (fun k _ _=>hyv) (fun k e sz i c _ he=>by cases he);have hrun:(execOp a.eval o).run P w=.ok .recover w:=by
                simp only[execOp,hoc,resolve,hcc,Sem.run_bind,Sem.run_pure,Result.andThen_ok,invoke,builtin,hargs]
               have hrun2:(execOp (a.put o.dst pvv).eval o2).run P w=.ok (.value ((a.put o.dst pvv).eval x)) w:=by simp[execOp,hx2]
               have hfin:wpOpsSIn Fence.wide 0 P #[o,o2] Q [1] (a.put o.dst pvv) cs' w:=by
                unfold wpOpsSIn;simp only[List.getElem?_toArray,zh,zb,Region.wanted,hg2,if_true,hrun2];refine⟨fun _ _=>trivial,?_⟩;unfold wpOpsSIn;exact hK .nrm _ _ _ g _ w .normal hx hh hf2 (.refl _ _) (by rw[put_defers,put_defers];exact hD) trivial
               show wpOpsSIn Fence.wide 0 P #[o,o2] Q [0,1] a cs w;unfold wpOpsSIn;simp only[List.getElem?_toArray,zb,Region.wanted,hog,if_true,hrun];refine⟨fun _ _=>trivial,?_⟩;rcases hcs with hcs|⟨hcs,rfl,rfl⟩
               . simp only[hcs];exact hfin
               . simp only[hcs];exact hfin
             . cases hrecv
           . cases hrecv
         . cases hx
       . cases hx
     . cases hx
   . cases hx
 | .skip,F,h,K,g,a,w,Q,hpv,hx,hh,hf,hD,hK=>by unfold YR at hx;cases hx
 | .label ..,F,h,K,g,a,w,Q,hpv,hx,hh,hf,hD,hK=>by unfold YR at hx;cases hx
 | .exit ..,F,h,K,g,a,w,Q,hpv,hx,hh,hf,hD,hK=>by unfold YR at hx;cases hx
 | .ret,F,h,K,g,a,w,Q,hpv,hx,hh,hf,hD,hK=>by unfold YR at hx;cases hx
 | .cond ..,F,h,K,g,a,w,Q,hpv,hx,hh,hf,hD,hK=>by unfold YR at hx;cases hx
 | .scope ..,F,h,K,g,a,w,Q,hpv,hx,hh,hf,hD,hK=>by unfold YR at hx;cases hx
 | .block ..,F,h,K,g,a,w,Q,hpv,hx,hh,hf,hD,hK=>by unfold YR at hx;cases hx
 | .loop ..,F,h,K,g,a,w,Q,hpv,hx,hh,hf,hD,hK=>by unfold YR at hx;cases hx
 | .rangeFunc ..,F,h,K,g,a,w,Q,hpv,hx,hh,hf,hD,hK=>by unfold YR at hx;cases hx
 | .goto ..,F,h,K,g,a,w,Q,hpv,hx,hh,hf,hD,hK=>by unfold YR at hx;cases hx
 | .refuse ..,F,h,K,g,a,w,Q,hpv,hx,hh,hf,hD,hK=>by unfold YR at hx;cases hx
theorem zlx {vec : FuncId -> Bool} (hrec : RecOk P gc rec) (hloc : J3 gc rec) (n : Nat) (hdr : P.follows .mixedOrders = true) {f : FuncId} {args : List V} {h h' : ze} {pn : Option V} {b : Bool} (hx : runD P rec keep gc vec n (textDraws P) f args h pn = some (h', b))
    {g:G} {vals:List Value} {w:World} {u:FrameMode} (hh:Hinv g h w) (hns:∀ β s,g.ow β≠some (.slot s)) (hv:VL g.im g.io args vals) (hu:MR g pn u) :
    (∃ fn,P.funcs[f]?=some fn/\fn.body.isNone=false/\(fn.name == "runtime.NumGoroutine")=false)/\CallsDIn Fence.wide 0 P f vals.toArray u w (zqw g w u pn b h'):=by
 unfold runD at hx;split at hx
 . rename_i fn hfn;split at hx
   . rename_i c hc;split at hx
     . cases hx
     . rename_i hcond;have hlen:¬ fn.ntmps < args.length:=fun h=>hcond (.inl h);have hname:fn.name≠ "runtime.NumGoroutine":=fun h=>hcond (.inr h);refine⟨⟨fn,hfn,by rw[hc];rfl,by simpa using hname⟩,?_⟩;have hf:Finv g (jP fn.ntmps args) (vals.toArray++Array.replicate (fn.ntmps - vals.toArray.size) undef) w:=zeD hlen hv;have hry:=j7 (keep:=keep) hrec hloc n hdr;split at hx
       ·
        refine callsDIn_of_wpSIn hfn hc trivial ?_;intro c0 cs hc0;cases pn with
        | none =>
          have hu:u=.returning:=hu;have hcs:recoverD (c0 :: cs)=none:=by simp[recoverD,hc0,hu]
          refine qT (keep:=keep) hrec hloc hry n hdr (cs:=c0 :: cs) (cs':=c0 :: cs) (pvv:=.nilIface) (.inr ⟨hcs,rfl,rfl⟩) c _ h _ g { tmps:=_,defers:=[] } w _ (.val _ rfl) hx hh hf rfl ?_;intro e F1 h1 D1 g1 a1 w1 e' hk hh1 hf1 hs1 hD1 he;have key:∀ (hk:qE P (vec f) F1 h1 fn.results.toList (fun _ _ h=>some (h,(none:Option V).isSome))=some (h',b)) (hd:a1.defers=[]),a1.defers=[]/\∃ u',c0 :: cs={ c0 with mode:=u' } :: cs/\∃ v,(results fn a1.tmps).run P w1=.ok v w1/\zqw g w u none b h' (.returned v) u' w1:=fun hk hd=>by
           rw[jn] at hk;cases hres:Km P (vec f) F1 h1 fn.results.toList with
           | none=>rw[hres] at hk;cases hk
           | some p =>
             obtain⟨vs,F2,h2⟩:=p;rw[hres] at hk;cases hk;obtain⟨v,r1,g2,s1,s2,s3,_⟩:=zav (f:=f) (r:=.ret vs) (h':=h') hfn hs1 hh1 hf1 (by rw[hres]);exact⟨hd,u,by cases c0;simp at hc0;subst hc0;rfl,v,r1,⟨v,rfl⟩,rfl,g2,s1,s2,s3⟩
          split at hk
          . cases e' <;> simp[ExR] at he;exact key hk hD1
          . cases e' <;> simp[ExR] at he;exact key hk hD1
          . cases hk
        | some x =>
          obtain⟨v0,hu,hvx⟩:=hu;have hcs:recoverD (c0 :: cs)=some (v0,{ c0 with mode:=.panicking ({ v:=v0,recovered:=true } :: []) } :: cs):=by simp[recoverD,hc0,hu]
          refine qT (keep:=keep) hrec hloc hry n hdr (cs:=c0 :: cs) (pvv:=v0) (.inl hcs) c _ h _ g { tmps:=_,defers:=[] } w _ hvx hx hh hf rfl ?_;intro e F1 h1 D1 g1 a1 w1 e' hk hh1 hf1 hs1 hD1 he;have key:∀ (hk:qE P (vec f) F1 h1 fn.results.toList (fun _ _ h=>some (h,(some x).isSome))=some (h',b)) (hd:a1.defers=[]),a1.defers=[]/\∃ u',({ c0 with mode:=.panicking ({ v:=v0,recovered:=true } :: []) } :: cs:List Frame)={ c0 with mode:=u' } :: cs/\∃ v,(results fn a1.tmps).run P w1=.ok v w1/\zqw g w u (some x) b h' (.returned v) u' w1:=fun hk hd=>by
           rw[jn] at hk;cases hres:Km P (vec f) F1 h1 fn.results.toList with
           | none=>rw[hres] at hk;cases hk
           | some p =>
             obtain⟨vs,F2,h2⟩:=p;rw[hres] at hk;cases hk;obtain⟨v,r1,g2,s1,s2,s3,_⟩:=zav (f:=f) (r:=.ret vs) (h':=h') hfn hs1 hh1 hf1 (by rw[hres]);exact⟨hd,_,rfl,v,r1,⟨v,rfl⟩,rfl,g2,s1,s2,s3⟩
          split at hk
          . cases e' <;> simp[ExR] at he;exact key hk hD1
          . cases e' <;> simp[ExR] at he;exact key hk hD1
          . cases hk
       . refine CallsDIn.mono (callsDIn_of_wp (R:=fun e w'=>(∃ v,e=.returned v)/\b=false/\∃ g',Step g w g' w'/\Hinv g' h' w'/\∀ β s,g'.ow β≠some (.slot s)) hfn hc trivial ?_) ?_
         . refine Qr (keep:=keep) hrec hloc hry n hdr (ro:=none) c (Wq c) (fun s hs=>hs) (.inl rfl) _ h [] _ [] g { tmps:=_,defers:=[] } w _ hx hh hf rfl ?_;intro e F1 h1 D1 g1 a1 w1 e' hk hh1 hf1 hs1 hp1 hD1 he;have key:∀ (hk:qE P (vec f) F1 h1 fn.results.toList (fun _ _ h=>some (h,false))=some (h',b)) (hd:a1.defers=[]),a1.defers=[]/\∃ v,(results fn a1.tmps).run P w1=.ok v w1/\((∃ v',Ending.returned v=.returned v')/\b=false/\∃ g',Step g w g' w1/\Hinv g' h' w1/\∀ β s,g'.ow β≠some (.slot s)):=fun hk hd=>by
            rw[jn] at hk;cases hres:Km P (vec f) F1 h1 fn.results.toList with
            | none=>rw[hres] at hk;cases hk
            | some p =>
              obtain⟨vs,F2,h2⟩:=p;rw[hres] at hk;cases hk;obtain⟨v,r1,g2,s1,s2,s3,_⟩:=zav (f:=f) (r:=.ret vs) (h':=h') hfn hs1 hh1 hf1 (by rw[hres]);exact⟨hd,v,r1,⟨v,rfl⟩,rfl,g2,s1,s2,s3⟩
           split at hk
           . cases e' <;> simp[ExR] at he;exact key hk hD1
           . cases e' <;> simp[ExR] at he;exact key hk hD1
           . cases hk
         . rintro e u' w' ⟨rfl,hv,rfl,hg⟩;exact⟨hv,rfl,hg⟩
   . cases hx
 . cases hx
theorem WH{vec:FuncId->Bool}(hrec:RecOk P gc rec)(hloc:J3 gc rec)(n:Nat)(hdr:P.follows .mixedOrders=true){f:FuncId}{fn:Func}(hfn:P.funcs[f]?=some fn){F:List S}{T:Array Value}{r:Res}{h':ze}{g0:G}{w0:World}:∀ (D:List Df) (pn:Option V) (h:ze) (g:G) (w:World) (ds:List Deferred) (u:FrameMode),
    Yz P rec keep gc vec n (textDraws P) vc fn.results.toList F D pn h=some (r,h')->Step g0 w0 g w->Hinv g h w->Finv g F T w->DR g D ds []->MR g pn u->LeavesInM Fence.wide 0 P fn T (WX P f g0 w0 r h') ds u w
 | [],none,h,g,w,ds,u,hx,hs,hh,hf,hD,hu=>by
   cases hD;have hu:u=.returning:=hu;subst hu;unfold Yz at hx;rw[jn] at hx;exact zav (a:={ tmps:=T,defers:=[] }) hfn hs hh hf hx
 | [],some x,h,g,w,ds,u,hx,hs,hh,hf,hD,hu=>by
   cases hD;obtain⟨v,rfl,hv⟩:=hu;cases hx;exact⟨g.hpOnly,qS hs,hh.hpOnly,QA g,v,rfl,hv⟩
 | .mark d :: D,pn,h,g,w,ds,u,hx,hs,hh,hf,hD,hu=>by
   obtain⟨dd,rr,rfl,⟨β,rfl,hβ⟩,hD⟩:=hD;simp only[Yz,dfB] at hx;split at hx
   . rename_i hb;obtain⟨β',i1,i2,i3⟩:=hh.hp _ _ hb;rw[hβ] at i1;cases i1;have hne:u≠.run:=by
      cases pn with
      | none=>have hu:u=.returning:=hu;rw[hu];simp
      | some x=>obtain⟨v,e,_⟩:=hu;rw[e];simp
     have hst:Step g w g (w.putObj β (.deferred none)):=Step.putObj (by rw[i2];simp) _;exact⟨hne,.inl ⟨β,_,rfl,run_takeDeferred i3,WH hrec hloc n hdr hfn D pn _ g _ rr u hx (hs.trans hst) (hh.putB i2 _ .dead trivial) (hf.putObj i2 _) hD (hu.step hst)⟩⟩
   . cases hx
 | .call f' args :: D,pn,h,g,w,ds,u,hx,hs,hh,hf,hD,hu=>by
   obtain⟨dd,rr,rfl,⟨cap,as_,rfl,hv⟩,hD⟩:=hD;unfold Yz at hx;split at hx
   . rename_i h1 b hrun;have hne:u≠.run:=by
      cases pn with
      | none=>have hu:u=.returning:=hu;rw[hu];simp
      | some x=>obtain⟨v,e,_⟩:=hu;rw[e];simp
     obtain⟨⟨fn',k1,k2,k3⟩,X0⟩:=zlx (keep:=keep) hrec hloc n hdr hrun (g:=g.hpOnly) (u:=u) hh.hpOnly (QA g) hv hu;have harr:as_++cap=(as_.toList++cap.toList).toArray:=by apply Array.ext';simp
     refine⟨hne,.inr ⟨fun h=>by simp[Fence.wide] at h,.func f',cap,f',(as_.toList++cap.toList).toArray,rfl,?_,fun _ _=>trivial,?_⟩⟩
     . simp only[invoke,callFunc,Sem.run_bind,run_program,Result.andThen_ok,k1,k2,k3,zt,if_false,harr];rfl
     . refine CallsDIn.mono X0 ?_;rintro e u' w' ⟨⟨v,rfl⟩,hm,g',s1,s2,s3⟩;obtain⟨g2,e1,e2,b1,b2,b3⟩:=Yh (a:={ tmps:=T,defers:=[] }) hh hf s1 s2 s3;show LeavesInM Fence.wide 0 P fn T (WX P f g0 w0 r h') rr (settle u') w';have hx:Yz P rec keep gc vec n (textDraws P) vc fn.results.toList F D (if b=true then none else pn) h1=some (r,h'):=by
        rw[<- hx];cases pn with
        | none=>simp
        | some v=>cases b <;> rfl
       cases b with
       | true =>
         rw[if_pos rfl] at hm hx;exact WH hrec hloc n hdr hfn D none h1 g2 w' rr _ hx (hs.trans b3) b1 b2 (hD.step b3) hm
       | false =>
         simp only[zt,if_false] at hm hx;subst hm;have hset:settle u'=u':=by
          cases pn with
          | none=>have hu:u'=.returning:=hu;rw[hu];rfl
          | some x=>obtain⟨v,e,_⟩:=hu;rw[e];rfl
         rw[hset];exact WH hrec hloc n hdr hfn D pn h1 g2 w' rr _ hx (hs.trans b3) b1 b2 (hD.step b3) (hu.step b3)
   . cases hx
theorem zeE {vec : FuncId -> Bool} (hrec : RecOk P gc rec) (hloc : J3 gc rec) (n : Nat) (hdr : P.follows .mixedOrders = true) {f : FuncId} {fn : Func} {c : Code} (hfn : P.funcs[f]? = some fn) (hb : fn.body = some c) {args : List V} {h h' : ze} {r : Res} (hlen : ¬ fn.ntmps < args.length)
    (hx:exec P rec keep gc vc (roundX P rec keep gc n (textDraws P)) (zV n) (textDraws P) c (jP fn.ntmps args) h [] (fun e F h D=>match e with
          | .nrm|.ret=>Yz P rec keep gc vec n (textDraws P) vc fn.results.toList F D none h
          | .pan v=>Yz P rec keep gc vec n (textDraws P) vc fn.results.toList F D (some v) h
          | _=>none)=some (r,h')) {g:G} {vals:List Value} {w:World} (hh:Hinv g h w) (hv:VL g.im g.io args vals):Calls P f vals.toArray w (WX P f g w r h'):=by
 refine(callsIn_wide (n:=0)).1 (callsIn_of_wp_marks hfn hb trivial ?_);refine Qr (keep:=keep) hrec hloc (j7 (keep:=keep) hrec hloc n hdr) n hdr (ro:=none) c (Wq c) (fun s hs=>hs) (.inl rfl) _ h [] _ [] g { tmps:=_,defers:=[] } w _ hx hh (zeD hlen hv) rfl ?_;intro e F1 h1 D1 g1 a1 w1 e' hk hh1 hf1 hs1 hp1 hD1 he;cases e with
 | nrm =>
   cases e' <;> simp[ExR] at he;exact WH (keep:=keep) hrec hloc n hdr hfn D1 none h1 g1 w1 _ .returning hk hs1 hh1 hf1 hD1 rfl
 | ret =>
   cases e' <;> simp[ExR] at he;exact WH (keep:=keep) hrec hloc n hdr hfn D1 none h1 g1 w1 _ .returning hk hs1 hh1 hf1 hD1 rfl
 | ex i=>cases hk
 | pan x =>
   cases e' with
   | panic ch =>
     obtain⟨v,rfl,hvr⟩:=he;exact WH (keep:=keep) hrec hloc n hdr hfn D1 (some x) h1 g1 w1 _ _ hk hs1 hh1 hf1 hD1 ⟨v,rfl,hvr⟩
   | _=>simp[ExR] at he
theorem zfA (hrec : RecOk P gc rec) (hloc : J3 gc rec) (n : Nat) (hdr : P.follows .mixedOrders = true) {f : FuncId} {fn : Func} {c : Code} (hfn : P.funcs[f]? = some fn) (hb : fn.body = some c) {e sz : Nat} {l l' : List (List V)} {b' : Bool} {args vs : List V} {h h' : ze} (hlen : ¬ fn.ntmps < args.length + 1) (h0 : (Wq c).contains 0 = false)
    (hx:exec P rec keep gc vc (roundX P rec keep gc n (textDraws P)) (zV n) (textDraws P) c (.own e sz l :: (args.map S.v++List.replicate (fn.ntmps - (args.length+1)) .un)) h [] (fun(x:Ex) (F:List S) (h:ze) (D:List Df)=>match x,D with
            | .nrm,[]|.ret,[]=>(match Km P vc F h fn.results.toList with
              | some (vs,F2,h)=>(match F2[0]? with|some (S.own e' s' l')=>if e'=e/\s'=sz then some (Res.ret (V.sl sz l' false :: vs),h) else none|_=>none)
              | none=>none)
            | _,_=>none)=some (Res.ret (V.sl sz l' b' :: vs),h')) {g:G} {v0:Value} {vals:List Value} {w:World} (hh:Hinv g h w) (hsr:SR g w #[] 0 (.own e sz l) v0) (hv:VL g.im g.io args vals):Calls P f (v0 :: vals).toArray w (zhk P f e sz g w l' vs v0 h'):=by
 refine(callsIn_wide (n:=0)).1 (callsIn_of_wp hfn hb trivial ?_);have hvl:vals.length=args.length:=hv.1.symm;have hf:Finv g (.own e sz l :: (args.map S.v++List.replicate (fn.ntmps - (args.length+1)) .un)) ((v0 :: vals).toArray++Array.replicate (fn.ntmps - (v0 :: vals).toArray.size) undef) w:=by
  refine⟨by simp[hvl];omega,fun s d sz i c' hs=>?_,fun s x hs=>?_⟩
  . cases s with
    | zero=>simp at hs
    | succ s =>
      rw[zh,ZP] at hs;split at hs
      . rw[zF] at hs;cases ha:args[s]? <;> rw[ha] at hs <;> simp at hs
      . rw[Zw] at hs;split at hs <;> simp at hs
  . cases s with
    | zero =>
      simp at hs;subst hs;have:((v0 :: vals).toArray++Array.replicate (fn.ntmps - (v0 :: vals).toArray.size) undef).getD 0 undef=v0:=by
       rw[zY,Jj (by simp)];simp
      rw[this];exact hsr
    | succ s =>
      rw[zh,ZP] at hs;split at hs
      . rename_i hlt;rw[zp] at hlt;rw[zF,zf hlt] at hs;cases hs;obtain⟨y,hy,hvr⟩:=hv.get (zf hlt);have:((v0 :: vals).toArray++Array.replicate (fn.ntmps - (v0 :: vals).toArray.size) undef).getD (s+1) undef=y:=by
         rw[zY,Jj (by simp[hvl];exact hlt)];simp[hy]
        rw[this];exact hvr
      . rw[Zw] at hs;split at hs
        . cases hs;trivial
        . cases hs
 refine Qr (keep:=keep) hrec hloc (j7 (keep:=keep) hrec hloc n hdr) n hdr (ro:=none) c (Wq c) (fun s hs=>hs) (.inl rfl) _ h [] _ [] g { tmps:=_,defers:=[] } w _ hx hh hf rfl ?_;intro ex F1 h1 D1 g1 a1 w1 e' hk hh1 hf1 hs1 hp1 hD1 he;have hret:(match Km P vc F1 h1 fn.results.toList with
             | some (vs,F2,h)=>(match F2[0]? with|some (S.own e' s' l')=>if e'=e/\s'=sz then some (Res.ret (V.sl sz l' false :: vs),h) else none|_=>none)
             | none=>none)=some (Res.ret (V.sl sz l' b' :: vs),h')->D1=[]->a1.defers=[]/\∃ v,(results fn a1.tmps).run P w1=.ok v w1/\zhk P f e sz g w l' vs v0 h' (.returned v) w1:=fun hk2 hD0=>by
  subst hD0;split at hk2
  . rename_i vs2 F2 h2 hres;split at hk2
    . rename_i e2 s2 l2 hF2;split at hk2
      . rename_i hc2;obtain⟨rfl,rfl⟩:=hc2;cases hk2;obtain⟨g2,us,b1,b2,b3,b4,b5⟩:=j6 (P:=P) hh1 hf1 hres;have hul:us.length=fn.results.size:=by
         have hrl:∀ (rs:List ResultVar) (F:List S) (h:ze) (vs:List V) (F':List S) (h':ze),Km P vc F h rs=some (vs,F',h')->vs.length=rs.length:=by
          intro rs
          induction rs with
          | nil=>intro F h vs F' h' he;cases he;rfl
          | cons x rs ih =>
            intro F h vs F' h' he;cases x with
            | tmp t =>
              unfold Km at he;split at he
              . split at he
                . cases he;simp[ih _ _ _ _ _ (by assumption)]
                . cases he
              . cases he
            | cell x t =>
              unfold Km at he;split at he
              . split at he
                . cases he;simp[ih _ _ _ _ _ (by assumption)]
                . cases he
              . cases he
         rw[<- b4.1,hrl _ _ _ _ _ _ hres];simp
        obtain⟨v,r1,r2,r3⟩:=zdc (P:=P) (fn:=fn) (a:=a1) b5 hul;have hsr2:=b2.fr 0 _ hF2;have hv0:a1.tmps.getD 0 undef=v0:=by
         rw[hp1.2 0 (by simpa using h0)];show ((v0 :: vals).toArray++Array.replicate (fn.ntmps - (v0 :: vals).toArray.size) undef).getD 0 undef=v0;rw[zY,Jj (by simp)];simp
        rw[hv0] at hsr2;refine⟨hD1,v,r1,g2,hs1.trans b3,b1,hsr2,fn,hfn,fun hsz=>?_,fun hsz=>?_⟩
        . have hu1:=r2 hsz;subst hu1;have hl1:=b4.1
          match vs,hl1,b4 with
          | [x],_,b4=>exact⟨x,rfl,b4.2 0 x v rfl rfl⟩
        . exact⟨us.toArray,r3 hsz,show VL g2.im g2.io vs us.toArray.toList by simpa using b4⟩
      . cases hk2
    . cases hk2
  . cases hk2
 split at hk
 . cases e' <;> simp[ExR] at he;exact hret hk rfl
 . cases e' <;> simp[ExR] at he;exact hret hk rfl
 . cases hk
theorem zbK {f : FuncId} {args : List V} {h : ze} {r : Res} (hp : ∀ im io vals w, ziJ im w -> VL im io args vals -> Calls P f vals.toArray w (Kw P f im io w r)) {g : G} {vals : List Value} {w : World} (hh : Hinv g h w) (hns : ∀ β s, g.ow β ≠ some (.slot s)) (hv : VL g.im g.io args vals) :
    Calls P f vals.toArray w (WX P f g w r h):=by
 refine(hp g.im g.io vals w (fun p v h=>(hh.im p v h).1) hv).mono ?_;rintro e w' ⟨hb,im',m1,m2,m3,hr⟩;refine⟨{ im:=im',io:=g.io,ow:=g.ow },⟨m1,fun _ _ h=>h,fun p v hp=>(m3 p v hp).imp id .inl,fun _ _ h=>h,hb.os,hb.tape,hb.output,hb.size,fun β hβ _=>hb.block β hβ⟩,⟨fun b x hx=>?_,hh.io,fun p v hp=>⟨m2 p v hp,?_⟩,fun β hβ=>Z1 (hh.ow β hβ) hb.size⟩,hns,hr⟩
 . exact(hh.hp b x hx).keep m1 (fun _ _ h=>h) fun β h2=>⟨h2,hb.block β (hh.ow β (by rw[h2];simp))⟩
 . rcases m3 p v hp with h1|h1
   . exact(hh.im p v h1).2
   . cases ho:g.ow p.block with
     | none=>rfl
     | some o=>have:=hh.ow p.block (by rw[ho];simp);omega
def zm2 : Res -> Bool
 | .ret vs=>V.free.freeL vs
 | .pan v=>v.free
theorem RR.free{f:FuncId}{im:Im}{io io':Io}{r:Res}{e:Ending}(h:RR P f im io r e)(hf:zm2 r=true):RR P f im io' r e:=by
 cases r with
 | ret vs =>
   cases e with
   | returned v =>
     obtain⟨fn,h1,h2,h3⟩:=h;refine⟨fn,h1,fun hs=>?_,fun hs=>?_⟩
     . obtain⟨x,rfl,hvr⟩:=h2 hs;exact⟨x,rfl,hvr.free (Ke hf x (by simp))⟩
     . obtain⟨c,h4,h5⟩:=h3 hs;exact⟨c,h4,h5.free hf⟩
   | _=>exact h.elim
 | pan x =>
   cases e with
   | panicked ch =>
     obtain⟨v,h1,h2⟩:=h;exact⟨v,h1,h2.free hf⟩
   | _=>exact h.elim
def zuz(P:Program)(gc:FuncId->Bool)(ext:Ext):Prop:=∀ f e args vs h,ext f=some e->e args h=some vs->(∃ fn,P.funcs[f]?=some fn/\fn.body.isNone=false/\(fn.name == "runtime.NumGoroutine")=false) ∧
 (∀ g vals w,Hinv g h w->(∀ β s,g.ow β≠some (.slot s))->VL g.im g.io args vals->Calls P f vals.toArray w (WX P f g w (.ret vs) h)) ∧
 (gc f=true->(∀ h',e args h'=some vs)/\∀ im io vals w,ziJ im w->VL im io args vals->Calls P f vals.toArray w (Kw P f im io w (.ret vs)))
theorem zvf {P : Program} {gc : FuncId -> Bool} {f : FuncId} {e : List V -> Option (List V)} {args vs : List V} {h : ze} (h1 : ∃ fn, P.funcs[f]? = some fn /\ fn.body.isNone = false /\ (fn.name == "runtime.NumGoroutine") = false) (he : e args = some vs)
    (h2:∀ im io vals w,ziJ im w->VL im io args vals->Calls P f vals.toArray w (Kw P f im io w (.ret vs))):(∃ fn,P.funcs[f]?=some fn/\fn.body.isNone=false/\(fn.name == "runtime.NumGoroutine")=false) ∧
 (∀ g vals w,Hinv g h w->(∀ β s,g.ow β≠some (.slot s))->VL g.im g.io args vals->Calls P f vals.toArray w (WX P f g w (.ret vs) h)) ∧
 (gc f=true->(∀ h':ze,(fun args (_:ze)=>e args) args h'=some vs)/\∀ im io vals w,ziJ im w->VL im io args vals->Calls P f vals.toArray w (Kw P f im io w (.ret vs))) :=
 ⟨h1,fun _ _ _ hh hns hv=>zbK h2 hh hns hv,fun _=>⟨fun _=>he,h2⟩⟩
theorem zoH {vec : FuncId -> Bool} {ext : Ext} (hext : zuz P gc ext) : ∀ n, J3 gc (callF P keep gc vec (textDraws P) ext n)
 | 0=>fun f args r h' hg hx=>by cases hx
 | n+1=>fun f args r h' hg hx h=>by
   unfold callF at hx ⊢;cases hxt:ext f with
   | some e =>
     simp only[hxt] at hx ⊢;cases hv:e args [] with
     | some vs =>
       simp only[hv] at hx;cases hx;simp only[((hext f e args vs [] hxt hv).2.2 hg).1 h]
     | none=>simp[hv] at hx
   | none =>
     simp only[hxt] at hx ⊢;cases hfn:P.funcs[f]? with
     | none=>simp[hfn] at hx
     | some fn =>
       simp only[hfn] at hx ⊢;cases hb:fn.body with
       | none=>simp[hb] at hx
       | some c =>
         simp only[hb,hg,if_true] at hx ⊢;split at hx
         . cases hx
         . rename_i hc;rw[if_neg hc];cases hmu:YX P f with
           | some es =>
             simp only[hmu] at hx;split at hx
             . split at hx
               . rename_i hcc;exact absurd hcc.2 (by simp)
               . cases hx
             . cases hx
           | none =>
           simp only[hmu] at hx ⊢;split at hx
           . rename_i hfr;rw[if_pos hfr];split at hx
             . rename_i vs h2 hrun;split at hx
               . rename_i hv;rw[if_pos hv];cases hx;rfl
               . cases hx
             . rename_i v h2 hrun;split at hx
               . rename_i hv;rw[if_pos hv];cases hx;rfl
               . cases hx
             . cases hx
           . cases hx
theorem callF_sound {vec : FuncId -> Bool} {ext : Ext} (hnat : NatOk P) (hdr : P.follows .mixedOrders = true) (hext : zuz P gc ext) (hmx : ∀ f, (ext f).isSome = true -> YX P f = none) : ∀ n, RecOk P gc (callF P keep gc vec (textDraws P) ext n)
 | 0=>⟨hnat,fun f args h r hx=>(by cases hx),fun f args h r h' _ hx=>(by cases hx),fun f args h r h' _ _ hx=>(by cases hx),fun f e sz l b args h l' b' vs h' _ hx=>(by cases hx)⟩
 | n+1=>by
   have ih:=callF_sound (vec:=vec) hnat hdr hext hmx n;have ihl:=zoH (P:=P) (gc:=gc) (keep:=keep) (vec:=vec) (ext:=ext) hext n;have key:∀ f args h r h',YX P f=none->ext f=none->callF P keep gc vec (textDraws P) ext (n+1) f args h=some (r,h')->∃ fn c,P.funcs[f]?=some fn/\fn.body=some c/\¬ fn.ntmps < args.length/\fn.name≠ "runtime.NumGoroutine" ∧
       (if gc f then h'=h/\V.free.freeL args=true/\zm2 r=true/\∃ h2,exec P (callF P keep gc vec (textDraws P) ext n) keep gc (vec f) (roundX P (callF P keep gc vec (textDraws P) ext n) keep gc n (textDraws P)) (zV n) (textDraws P) c (jP fn.ntmps args) [] [] (fun e F h D=>match e with
        | .nrm|.ret=>Yz P (callF P keep gc vec (textDraws P) ext n) keep gc vec n (textDraws P) (vec f) fn.results.toList F D none h
        | .pan v=>Yz P (callF P keep gc vec (textDraws P) ext n) keep gc vec n (textDraws P) (vec f) fn.results.toList F D (some v) h
        | _=>none)=some (r,h2)
        else exec P (callF P keep gc vec (textDraws P) ext n) keep gc (vec f) (roundX P (callF P keep gc vec (textDraws P) ext n) keep gc n (textDraws P)) (zV n) (textDraws P) c (jP fn.ntmps args) h [] (fun e F h D=>match e with
         | .nrm|.ret=>Yz P (callF P keep gc vec (textDraws P) ext n) keep gc vec n (textDraws P) (vec f) fn.results.toList F D none h
         | .pan v=>Yz P (callF P keep gc vec (textDraws P) ext n) keep gc vec n (textDraws P) (vec f) fn.results.toList F D (some v) h
         | _=>none)=some (r,h')):=by
    intro f args h r h' hmu hxt hx;unfold callF at hx;rw[hxt] at hx;simp only at hx;split at hx
    . cases hx
    . rename_i fn hfn;split at hx
      . cases hx
      . rename_i c hc;split at hx
        . cases hx
        . rename_i hcond;refine⟨fn,c,hfn,hc,fun h=>hcond (.inl h),fun h=>hcond (.inr h),?_⟩;simp only[hmu] at hx;split at hx
          . rename_i hg;rw[if_pos hg];split at hx
            . rename_i hfree;split at hx
              . rename_i vs h2 hrun;split at hx
                . rename_i hfv;cases hx;exact⟨rfl,hfree,hfv,h2,hrun⟩
                . cases hx
              . rename_i v h2 hrun;split at hx
                . rename_i hfv;cases hx;exact⟨rfl,hfree,hfv,h2,hrun⟩
                . cases hx
              . cases hx
            . cases hx
          . rename_i hg;rw[if_neg hg];exact hx
   have hex:∀ f e args h r h',ext f=some e->callF P keep gc vec (textDraws P) ext (n+1) f args h=some (r,h')->h'=h/\(∃ fn,P.funcs[f]?=some fn/\fn.body.isNone=false/\(fn.name == "runtime.NumGoroutine")=false)/\(∀ g vals w,Hinv g h w->(∀ β s,g.ow β≠some (.slot s))->VL g.im g.io args vals->Calls P f vals.toArray w (WX P f g w r h)) ∧
       (gc f=true->∀ im io vals w,ziJ im w->VL im io args vals->Calls P f vals.toArray w (Kw P f im io w r)):=by
    intro f e args h r h' hxt hx;unfold callF at hx;rw[hxt] at hx;simp only at hx;split at hx
    . rename_i vs hv;cases hx;obtain⟨k1,k2,k3⟩:=hext f e args vs h hxt hv;exact⟨rfl,k1,k2,fun hg=>(k3 hg).2⟩
    . cases hx
   have hpure:∀ f args h r h',YX P f=none->gc f=true->callF P keep gc vec (textDraws P) ext (n+1) f args h=some (r,h')->h'=h/\∀ im io vals w,ziJ im w->VL im io args vals->Calls P f vals.toArray w (Kw P f im io w r):=by
    intro f args h r h' hmu hg hx;cases hxt:ext f with
    | some e=>have:=hex f e args h r h' hxt hx;exact⟨this.1,this.2.2.2 hg⟩
    | none =>
    obtain⟨fn,c,hfn,hc,hlen,_,hrest⟩:=key f args h r h' hmu hxt hx;rw[if_pos hg] at hrest;obtain⟨rfl,hfree,hfr,h2,hrun⟩:=hrest;refine⟨rfl,fun im io vals w him hv=>?_⟩;have hh:Hinv { im:=im,io:=fun _=>none,ow:=fun _=>none } [] w:=⟨by simp,by simp,fun p v hp=>⟨him p v hp,rfl⟩,by simp⟩;refine(zeE (keep:=keep) (vec:=vec) ih ihl n hdr hfn hc hlen hrun (g:={ im:=im,io:=fun _=>none,ow:=fun _=>none }) hh (hv.free hfree)).mono ?_;rintro e w' ⟨g',s1,s2,s3,s4⟩;refine⟨⟨s1.os,s1.tape,s1.output,s1.size,fun β hβ=>s1.block β hβ rfl⟩,g'.im,s1.im,fun p v hp=>(s2.im p v hp).1,fun p v hp=>?_,s4.free hfr⟩;rcases s1.imn p v hp with h|h|h
    . exact .inl h
    . exact .inr h
    . exact absurd rfl h
   have keyfn:∀ f args h r,ext f=none->callF P keep gc vec (textDraws P) ext (n+1) f args h=some r->∃ fn c,P.funcs[f]?=some fn/\fn.body=some c/\¬ fn.ntmps < args.length/\fn.name≠ "runtime.NumGoroutine":=by
    intro f args h r hxt hx;unfold callF at hx;rw[hxt] at hx;simp only at hx;split at hx
    . cases hx
    . rename_i fn hfn;split at hx
      . cases hx
      . rename_i c hc;split at hx
        . cases hx
        . rename_i hcond;exact⟨fn,c,hfn,hc,fun h=>hcond (.inl h),fun h=>hcond (.inr h)⟩
   refine⟨hnat,fun f args h r hx=>?_,fun f args h r h' hmu hx g vals w hh hns hv=>?_,hpure,fun f e sz l b args h l' b' vs h' hmu hx g v0 vals w hh _ hsr hv=>?_⟩
   . obtain⟨r,h'⟩:=r;cases hxt:ext f with
     | some e=>exact(hex f e args h r h' hxt hx).2.1
     | none =>
       obtain⟨fn,c,hfn,hc,_,hname⟩:=keyfn f args h _ hxt hx;exact⟨fn,hfn,by rw[hc];rfl,by simpa using hname⟩
   . cases hxt:ext f with
     | some e =>
       obtain⟨rfl,_,hp,_⟩:=hex f e args h r h' hxt hx;exact hp g vals w hh hns hv
     | none =>
     by_cases hg:gc f=true
     . obtain⟨rfl,hp⟩:=hpure f args h r h' hmu hg hx;exact zbK hp hh hns hv
     . obtain⟨fn,c,hfn,hc,hlen,_,hrest⟩:=key f args h r h' hmu hxt hx;rw[if_neg hg] at hrest;exact zeE (keep:=keep) (vec:=vec) ih ihl n hdr hfn hc hlen hrest hh hv
   . cases hxt:ext f with
     | some ex=>exact absurd (hmx f (by rw[hxt];rfl)) (by rw[hmu];simp)
     | none =>
       obtain⟨fn,c,hfn,hc,hlen,_⟩:=keyfn f _ h _ hxt hx;unfold callF at hx;simp only[hxt,hfn,hc,hmu] at hx;split at hx
       . cases hx
       . split at hx
         . rename_i hcc;exact zfA (keep:=keep) ih ihl n hdr hfn hc (by simpa using hlen) hcc.1.2 (by rw[zD] at hx;exact hx) hh hsr hv
         . cases hx
end
end Go.L
namespace Go.L
variable {R:Type}
def bd{α:Type}(o:Option α)(k:α->Option R):Option R:=match o with|some a=>k a|none=>none
def bdS{α:Type}(o:Option α)(k:α->Option R):Option R:=match o with|some a=>k a|_=>none
def bd2{α β:Type}(o:Option (α×β))(k:α->β->Option R):Option R:=match o with|some (a,b)=>k a b|none=>none
def bd3{α β γ:Type}(o:Option (α×β×γ))(k:α->β->γ->Option R):Option R:=match o with|some (a,b,c)=>k a b c|none=>none
@[simp] theorem zZ{α β:Type}(a:α)(b:β)(k:α->β->Option R):bd2 (some (a,b)) k=k a b:=rfl
@[simp] theorem zo{α β γ:Type}(a:α)(b:β)(c:γ)(k:α->β->γ->Option R):bd3 (some (a,b,c)) k=k a b c:=rfl
def bv(v:V)(k:Bool->Option R):Option R:=match v with|.bool b=>k b|_=>none
def nv(v:V):Option Nat:=match v with|.int _ n=>if 0<=n then some n.toNat else none|_=>none
def slc(v:V):Option (Nat×List (List V)):=match v with|.sl sz l _=>some (sz,l)|_=>none
def slk(v:V)(k:Nat->List (List V)->Bool->Option R):Option R:=match v with|.sl sz l x=>k sz l x|_=>none
def Zm(vs:List V)(k:V->Option R):Option R:=match vs with|[v]=>k v|_=>none
def cl(o:Option (Res×ze))(k:List V->ze->Option R)(z:V->ze->Option R):Option R:=match o with|some (.ret vs,h)=>k vs h|some (.pan v,h)=>z v h|none=>none
def clS(o:Option (Res×ze))(k:List V->Option R):Option R:=match o with|some (.ret vs,_)=>k vs|_=>none
def clH(o:Option (Res×ze))(k:List V->ze->Option R):Option R:=match o with|some (.ret vs,h)=>k vs h|_=>none
def clm(o:Option (Res×ze))(sz:Nat)(k:List (List V)->List V->ze->Option R):Option R:=match o with
 | some (.ret (.sl s2 l' _ :: rs),h2)=>if s2=sz then k l' rs h2 else none
 | _=>none
def zwT(v:V)(k:List V->Option R):Option R:=match v with|.agg l=>k l|_=>none
def rwT(o:Option HB)(k:Nat->Nat->List (List V)->Option R):Option R:=match o with|some (.row e s l true)=>k e s l|_=>none
def clr(o:Option (Res×ze))(k:Nat->List (List V)->List V->ze->Option R):Option R:=match o with|some (.ret (.sl s l _ :: rs),h)=>k s l rs h|_=>none
def WI : List (Option V) -> Option (List V)
 | []=>some []
 | o :: os=>match o,WI os with|some v,some vs=>some (v :: vs)|_,_=>none
def Ja(fn:Func):Code:=fn.body.getD .skip
def rfC : Code -> Option (Code × Code)
 | .rangeFunc _ _ a b=>some (a,b)
 | .seq a b|.cond _ a b=>(match rfC a with|some x=>some x|none=>rfC b)
 | .block _ b|.loop b|.scope b=>rfC b
 | _=>none
def zaF(c:Code):Code:=match rfC c with|some x=>x.1|none=>.skip
def zaG(c:Code):Code:=match rfC c with|some x=>x.2|none=>.skip
def mpK(v:V)(k:Nat->Option R):Option R:=match v with|.map b=>k b|_=>none
def fnK(v:V)(k:Nat->List V->Option R):Option R:=match v with|.fn f c=>k f c|_=>none
def zwb(o:Option HB)(k:Nat->List V->Option R):Option R:=match o with|some (.box n cs)=>k n cs|_=>none
def zbL(o:Option HB)(k:List (V×V)->Option R):Option R:=match o with|some (.map es)=>k es|_=>none
def gcw(args:List V)(o:Option (Res×ze))(h0:ze):Option (Res×ze) :=
 if V.free.freeL args then(match o with
  | some (.ret vs,_)=>if V.free.freeL vs then some (.ret vs,h0) else none
  | some (.pan v,_)=>if v.free then some (.pan v,h0) else none
  | none=>none) else none
@[simp] theorem za{α:Type}(a:α)(k:α->Option R):bd (some a) k=k a:=rfl
@[simp] theorem zwG{α:Type}(k:α->Option R):bd none k=none:=rfl
@[simp] theorem zB{α:Type}(a:α)(k:α->Option R):bdS (some a) k=k a:=rfl
@[simp] theorem zwc{α:Type}(k:α->Option R):bdS none k=none:=rfl
@[simp] theorem zwH(b:Nat)(k:Nat->Option R):mpK (.map b) k=k b:=rfl
@[simp] theorem zly(f:Nat)(c:List V)(k:Nat->List V->Option R):fnK (.fn f c) k=k f c:=rfl
@[simp] theorem zm(b:Bool)(k:Bool->Option R):bv (.bool b) k=k b:=rfl
@[simp] theorem zwU(sz:Nat)(l:List (List V))(x:Bool):slc (.sl sz l x)=some (sz,l):=rfl
@[simp] theorem zwV(sz:Nat)(l:List (List V))(x:Bool)(k:Nat->List (List V)->Bool->Option R):slk (.sl sz l x) k=k sz l x:=rfl
@[simp] theorem zC(v:V)(k:V->Option R):Zm [v] k=k v:=rfl
@[simp] theorem zH(vs:List V)(h:ze)(k:List V->ze->Option R)(z:V->ze->Option R):cl (some (.ret vs,h)) k z=k vs h:=rfl
@[simp] theorem j8(vs:List V)(h:ze)(k:List V->Option R):clS (some (.ret vs,h)) k=k vs:=rfl
@[simp] theorem Q5(vs:List V)(h:ze)(k:List V->ze->Option R):clH (some (.ret vs,h)) k=k vs h:=rfl
@[simp] theorem WZ(sz:Nat)(l:List (List V))(x:Bool)(rs:List V)(h:ze)(k:List (List V)->List V->ze->Option R):clm (some (.ret (.sl sz l x :: rs),h)) sz k=k l rs h:=by simp[clm]
@[simp] theorem zwW(v:V)(h:ze)(k:List V->ze->Option R)(z:V->ze->Option R):cl (some (.pan v,h)) k z=z v h:=rfl
@[simp] theorem z3(k:IntKind)(n:Nat):nv (.int k (n:Int))=some n:=by simp[nv]
theorem nv_int{k:IntKind}{n:Int}(h:0<=n):nv (.int k n)=some n.toNat:=by simp[nv,h]
theorem zK(n:Nat)(body:List V->ze->(List V->ze->Option R)->Option R)(st:List V)(h:ze):zV (n+1) body st h=body st h (zV n body):=rfl
end Go.L
namespace Go.L
open Go.Rp Go.RowKit
def Qs(k:IntKind)(n:Int):List V:=[.int k n]
section
variable {α:Type} {v:α->List V} {c:α->List Value} {sz:Nat} {im:Im} {io:Io} {w:World}
end
end Go.L
namespace Go.Proofs.Tryz
def zm3(l:List Int):Bool:=l.all fun x=>decide (0<=x) && decide (x<=255)
theorem zgo{l:List Int}(h:zm3 l=true):∀ x∈l,0<=x/\x<=255:=by
 unfold zm3 at h;rw[Zz] at h;exact fun x hx=>by simpa using h x hx
end Go.Proofs.Tryz
namespace Go.Proofs.Tryz
open Go.L
set_option maxRecDepth 100000
def borrowL:List Nat:=[45]
def pureL:List Nat:=borrowL++[63,64,22,235,18,26,27,3,4,5,6,7,35,8,9,10,11,12,13,142,37,46,44]
def vecL:List Nat:=[65,70,225,222,224,191,174,181,207,59,176,177,200,175,199,208,180,69,186,213,168,74,101,73,75,117,38,31,36]
def QI(f:Nat):Bool:=!borrowL.contains f
def Yd(f:Nat):Bool:=pureL.contains f
def zwd(f:Nat):Bool:=vecL.contains f
def zwX:Ext:=fun _=>none
noncomputable def call:=L.callF prog QI Yd zwd (L.textDraws prog) zwX
noncomputable def rnd(n:Nat):=L.roundX prog (call n) QI Yd n (L.textDraws prog)
noncomputable def dcl(n:Nat):=L.runD prog (call n) QI Yd zwd n (L.textDraws prog)
theorem zfB:prog.follows .mixedOrders=true:=by kernel_rfl
theorem zth(n:Nat):L.RecOk prog Yd (call n):=L.callF_sound zve zfB (fun f e args vs h hf=>by cases hf) (fun f h=>by cases h) n
def fbK{R:Type}(v:V)(a b:Nat->List V->Option R):Option R:=match v with|.fn f c=>a f c|.bf f c=>b f c|_=>none
def zwe{R:Type}(v:V)(a b:Nat->List V->Option R)(d:Nat->String->Option R):Option R:=match v with|.fn f c=>a f c|.bf f c=>b f c|.mo t nm=>d t nm|_=>none
def ifK{R:Type}(v:V)(k:Nat->V->Option R):Option R:=match v with|.iface t v=>k t v|_=>none
end Go.Proofs.Tryz
namespace Go.Proofs.Tryz
open Go.L Go.RowKit
theorem zhs:pureL.all (fun f=>(YX prog f).isNone)=true:=by kernel_rfl
theorem zqx{f:Nat}(h:Yd f=true):YX prog f=none:=by
 unfold Yd at h;have:=Zz.1 zhs f (List.contains_iff_mem.1 h);simpa using this
theorem zht {n f : Nat} {args : List V} {vals : Array Value} {w : World} (hp : Yd f = true) (h1 : zcn prog f = true) (h : call n f args [] = some (.ret [.bool true], []))
    (hv:VL (fun p=>w.cell? p) (fun _=>none) args vals.toList):Calls prog f vals w (fun e w'=>e=.returned (.bool true)/\Below w.heap.size w w'):=by
 obtain⟨-,key⟩:=(zth n).pure f args [] _ _ (zqx hp) hp h;have:=key (fun p=>w.cell? p) (fun _=>none) vals.toList w (fun p v h=>h) hv;rw[Array.toArray_toList] at this;refine this.mono ?_;rintro e w' ⟨hb,im',-,-,-,hr⟩;cases e with
 | returned v =>
   obtain⟨fn,hfn,h2,-⟩:=hr;unfold zcn at h1;rw[hfn] at h1;obtain⟨x,hx,hvr⟩:=h2 (by simpa using h1);cases hx;cases hvr;exact⟨rfl,hb⟩
 | panicked ch=>exact hr.elim
 | outgrown=>exact hr.elim
def zuA(k:IntKind)(l:List Int):V:=.sl 1 (l.map fun n=>[.int k n]) false
theorem zi1 {k : IntKind} {w : World} {A : Option Addr} {len cap : Nat} {zs : List Int} (hA : len = 0 \/ ∃ x, A = some x /\ ∀ i, i < len -> w.cell? (x.add i) = some (.int k (zs.getD i 0))) (hl : len <= cap) (hm : cap <= maxLen) (hz : len <= zs.length) :
    VR (fun p=>w.cell? p) (fun _=>none) (zuA k (zs.take len)) (.slice A len cap):=by
 have hlen:((zs.take len).map fun n=>[V.int k n]).length=len:=by simp;omega
 have key:∀ ad,(len=0\/A=some ad)->(∀ i,i < len->w.cell? (ad.add i)=some (.int k (zs.getD i 0)))->VR (fun p=>w.cell? p) (fun _=>none) (zuA k (zs.take len)) (.slice A len cap):=fun ad h0 hc=>by
  have hget:∀ (j:Nat) es,((zs.take len).map fun n=>[V.int k n])[j]?=some es->j < len/\es=[.int k (zs.getD j 0)]:=fun j es hj=>by
   have hjl:=(zj.1 hj).1;rw[hlen] at hjl;refine⟨hjl,?_⟩;rw[zF,Ze,if_pos hjl] at hj;rw[zO];cases hz:zs[j]? with
   | none=>rw[hz] at hj;cases hj
   | some n=>rw[hz] at hj;cases hj;rfl
  have := VR.sl (im := fun p => w.cell? p) (io := fun _ => none) 1 ((zs.take len).map fun n => [V.int k n]) false A cap ad (fun j _ => .int k (zs.getD j 0))
   (h0.imp (fun h=>Zr (by rw[hlen];exact h)) id) (by simp) (by rw[hlen];exact hl) hm
   (fun es hes=>by
    obtain⟨j,hj⟩:=XM.1 hes;obtain⟨_,rfl⟩:=hget j es hj;exact⟨rfl,fun x hx=>by rw[ZE] at hx;subst hx;rfl⟩)
   (fun j es i x hj hi=>by
    obtain⟨hlt,rfl⟩:=hget j es hj;have hi0:i=0:=by have:=(zj.1 hi).1;simpa using this
    subst hi0;rw[Z9,z8];exact hc j hlt)
   (fun j es i x hj hi=>by
    obtain⟨hlt,rfl⟩:=hget j es hj;have hi0:i=0:=by have:=(zj.1 hi).1;simpa using this
    subst hi0;cases hi;exact .int _ _)
  rw[hlen] at this;exact this
 rcases hA with h0|⟨x,rfl,hc⟩
 . exact key ⟨0,0,none⟩ (.inl h0) (fun i hi=>by omega)
 . exact key x (.inr rfl) hc
theorem zm4{n:Int}(h:(Lit.int .u8 n).wf=true):0<=n/\n<=255:=by
 simp[Lit.wf,IntKind.min,IntKind.max,IntKind.signed,IntKind.bits] at h;omega
theorem zi2{zs:List Int}(h:∀ n∈zs,(Lit.int .u8 n).wf=true)(k:Nat):zm3 (zs.take k)=true:=by
 unfold zm3;rw[Zz];intro x hx;have:=zm4 (h x (Zs hx));simp[this.1,this.2]
def zcz(k:IntKind)(w:World)(a:Option Addr)(len cap:Nat)(zs:List Int):Prop :=
 (a=none/\len=0/\cap=0/\zs=[]) ∨
 ∃ x,a=some x/\len<=cap/\cap<=maxLen/\zs.length=cap/\(∀ i,i < zs.length->w.cell? (x.add i)=some (.int k (zs.getD i 0)))/\∀ n∈zs,(Lit.int k n).wf=true
theorem zqy{k:IntKind}{w:World}{a:Option Addr}{len cap:Nat}{zs:List Int}(h:zcz k w a len cap zs):VR (fun p=>w.cell? p) (fun _=>none) (.sl 1 ((zs.take len).map (Qs k)) false) (.slice a len cap):=by
 rcases h with ⟨rfl,rfl,rfl,rfl⟩|⟨x,rfl,h1,h2,h3,h4,_⟩
 . exact zi1 (zs:=[]) (.inl rfl) (zn _) (by unfold maxLen;omega) (zn _)
 . exact zi1 (.inr ⟨x,rfl,fun i hi=>h4 i (by omega)⟩) h1 h2 (by omega)
theorem zqz{k:IntKind}{w:World}{a:Option Addr}{len cap:Nat}{zs:List Int}(h:zcz k w a len cap zs):∀ n∈zs,(Lit.int k n).wf=true:=by
 rcases h with ⟨rfl,rfl,rfl,rfl⟩|⟨x,rfl,h1,h2,h3,h4,h5⟩
 . intro n hn;cases hn
 . exact h5
end Go.Proofs.Tryz
