/- Lopen2 Od Ra Krf Kb Ka Lrow Kc Kt Ks Ku Kl Lso SortL SortM: what the law needs of these -/import Derived.SizedLaws
import Derived.Test.YtclhmdhdpejhhaaGreatJdo12
set_option linter.unusedVariables false
namespace Go.L
open Go.ChangeShapes Go.WideShapes Go.Rp
structure IsRs{α:Type}(c:α->List Value)(W:α->Prop)(n:Nat)(w:World)(a:Option Addr)(len cap:Nat)(l:List α):Prop where
 hlen:l.length=len
 hle:len<=cap
 hmax:cap<=maxLen
 wf:∀ s∈l,W s
 rd:∀ (k:Nat) s,l[k]?=some s->∃ ad,a=some ad/\∀ (j:Nat) u,(c s)[j]?=some u->w.cell? (ad.add (k * n+j))=some u
theorem IsRs.vr{α:Type}{v:α->List V}{c:α->List Value}{W:α->Prop}{n:Nat}(he:Enc v c n){w:World}{a:Option Addr}{len cap:Nat}{l:List α}(h:IsRs c W n w a len cap l):VR (fun p=>w.cell? p) (fun _=>none) (.sl n (l.map v) false) (.slice a len cap):=by
 have:=he.vr (im:=fun p=>w.cell? p) (io:=fun _=>none) (l:=l) (A:=a) (cap:=cap) (fun k s hs=>h.rd k s hs) (by rw[h.hlen];exact h.hle) h.hmax;rwa[h.hlen] at this
section
variable {H:Type} {enc:TypeId×Value->H} {P:Program} {w:World} {held:Bool}
theorem zf2 {α : Type} {c : α -> List Value} {W : α -> Prop} {ks : List IntKind} (hof : ∀ cs, Fits ks cs -> ∃ s, cs = c s /\ W s) {t e : TypeId} (ht : P.underlying t = some (.slice e)) (hk : iks P 12 e = some ks) (hc : P.cellsOf e = ks.length) {fuel : Nat} {a : Option Addr} {len cap : Nat} {x : DataW H × List MemPlace}
    (h:DataW.trod enc P w 0 (fun _=>true) held fuel t [.slice a len cap]=some x):∃ l,IsRs c W ks.length w a len cap l:=by
 rcases Deep.open_slice ht h with ⟨h1,_⟩|⟨ad,len',cap',m,n,D,Pl,h1,_,hle,hm,hmm,_,hx⟩
 . simp at h1;obtain⟨rfl,rfl,rfl⟩:=h1;exact⟨[],rfl,zl _,by unfold maxLen;omega,fun s hs=>(by cases hs),fun k s hs=>(by simp at hs)⟩
 . simp at h1;obtain⟨rfl,rfl,rfl⟩:=h1;have key:∀ i,i < len->∃ s:α,W s/\∀ (j:Nat) u,(c s)[j]?=some u->w.cell? (ad.add (i * ks.length+j))=some u:=fun i hi=>by
    obtain⟨cs,hcs,htr⟩:=hx i (by rw[hmm];simp;omega);obtain⟨s,rfl,hw⟩:=hof _ (zdR 12 e _ hk htr);refine⟨s,hw,fun j u hu=>?_⟩;rw[hc] at hcs;obtain⟨_,hlen,hget⟩:=World.cells?_some hcs;have hj:j < ks.length:=by have:=(zi.1 hu).1;rw[hlen] at this;exact this
    have:=hget j hj;rw[hu] at this;rw[<- this,Deep.add_add]
   obtain⟨l,hl,hp⟩:=zdS len key;exact⟨l,hl,hle,hm,fun s hs=>by obtain⟨i,hi⟩:=ZB.1 hs;exact(hp i s hi).1,fun k s hs=>⟨ad,rfl,(hp k s hs).2⟩⟩
end
def ocs(o:O):List Value:=[.int .u8 o.k,.int .i32 o.v]
def OWf(o:O):Prop:=(Lit.int .u8 o.k).wf=true/\(Lit.int .i32 o.v).wf=true
theorem zu4:Enc O.w ocs 2:=Enc.ofInts (fun o:O=>[(.u8,o.k),(.i32,o.v)]) (by decide) (fun _=>rfl)
theorem zuy{cs:List Value}(h:Fits [.u8,.i32] cs):∃ o:O,cs=ocs o/\OWf o:=by
 obtain⟨a,r,rfl,w1,h⟩:=h.cons;obtain⟨b,r,rfl,w2,h⟩:=h.cons;obtain rfl:=h.empty;exact⟨⟨a,b⟩,rfl,w1,w2⟩
abbrev ztk:=IsRs ocs OWf 2
theorem zpW {H : Type} {enc : TypeId × Value -> H} {P : Program} {w : World} {held : Bool} {t e : TypeId} (ht : P.underlying t = some (.slice e)) (hk : iks P 12 e = some [.u8, .i32]) (hc : P.cellsOf e = 2) {fuel : Nat} {a : Option Addr} {len cap : Nat} {x : DataW H × List MemPlace}
    (h:DataW.trod enc P w 0 (fun _=>true) held fuel t [.slice a len cap]=some x):∃ l,ztk w a len cap l:=zf2 (fun _=>zuy) ht hk hc h
theorem ziP {H : Type} {enc : TypeId × Value -> H} {P : Program} {w : World} {base : Nat} {spare : Nat -> Bool} {held : Bool} {ts : List TypeId} {ds : List (DataW H)} (hsz : (DataW.weightsEach P ts ds).all (· <= reachBytes) = true) {j : Nat} {t e : TypeId} {d : DataW H} {pl : List MemPlace} {a : Option Addr} {len cap fuel : Nat}
    (ht:ts[j]?=some t) (hd:ds[j]?=some d) (hu:P.underlying t=some (.slice e)) (hb:1<=P.bytesOf e) (h:DataW.trod enc P w base spare held fuel t [.slice a len cap]=some (d,pl)):len<=140737488355328:=by
 rcases Deep.open_slice hu h with ⟨h1,_⟩|⟨ad,len',cap',m,n,D,Pl,h1,_,hle,hm,hmm,hx,_⟩
 . simp at h1;omega
 . simp at h1;obtain⟨rfl,rfl,rfl⟩:=h1;cases hx;have h2:=sized_slice hsz ht hd hu;simp only[zo,List.length_range,reachBytes] at h2;have h3:len * 1<=(len+(m - len)) * P.bytesOf e:=Qs (by omega) hb;omega
end Go.L
namespace Go.Rp
structure De where
 c:Int
 bits:List Int
 ops:List O
end Go.Rp
namespace Go.L
open Go.ChangeShapes Go.WideShapes Go.Rp
def _root_.Go.Rp.De.w(d:De):List V:=[.int .u8 d.c,.sl 1 (d.bits.map (Xc .u8)) false,.sl 2 (d.ops.map O.w) false]
abbrev zuz:=IsRs (fun n:Int=>[Value.int .u8 n]) (fun n=>(Lit.int .u8 n).wf=true) 1
def ztY(w:World)(cs:List Value)(d:De):Prop:=∃ a1 l1 c1 a2 l2 c2,cs=[.int .u8 d.c,.slice a1 l1 c1,.slice a2 l2 c2]/\(Lit.int .u8 d.c).wf=true/\zuz w a1 l1 c1 d.bits/\ztk w a2 l2 c2 d.ops
theorem ztl{cs:List Value}(h:Fits [.u8] cs):∃ n:Int,cs=[.int .u8 n]/\(Lit.int .u8 n).wf=true:=by
 obtain⟨a,r,rfl,w1,h⟩:=h.cons;obtain rfl:=h.empty;exact⟨a,rfl,w1⟩
def zpX(P:Program)(t:TypeId):Bool:=match P.underlying t with
 | some (.struct fs)=>(match fs.toList with
   | [f0,f1,f2]=>decide (P.cellsOf t=3/\f0.offset=0/\f1.offset=1/\f2.offset=2/\P.cellsOf f0.type=1/\P.cellsOf f1.type=1/\P.cellsOf f2.type=1/\iks P 12 f0.type=some [.u8]) && (match P.underlying f1.type,P.underlying f2.type with
     | some (.slice e1),some (.slice e2)=>decide (iks P 12 e1=some [.u8]/\P.cellsOf e1=1/\iks P 12 e2=some [.u8,.i32]/\P.cellsOf e2=2/\1<=P.bytesOf e1/\1<=P.bytesOf e2)
     | _,_=>false)
   | _=>false)
 | _=>false
section
variable {H:Type} {enc:TypeId×Value->H} {P:Program} {w:World} {held:Bool}
theorem ziQ{t e:TypeId}{fuel:Nat}{c:Value}{y:DataW H×List MemPlace}(ht:P.underlying t=some (.slice e))(h:DataW.trod enc P w 0 (fun _=>true) held fuel t [c]=some y):∃ a len cap,c=.slice a len cap:=by
 rcases Deep.open_slice ht h with ⟨h1,_⟩|⟨ad,len',cap',m,n,D,Pl,h1,_⟩
 . simp at h1;exact⟨_,_,_,h1⟩
 . simp at h1;exact⟨_,_,_,h1⟩
theorem zaP{t e:TypeId}{fuel:Nat}{a:Option Addr}{len cap:Nat}{y:DataW H×List MemPlace}(ht:P.underlying t=some (.slice e))(hb:1<=P.bytesOf e)(h:DataW.trod enc P w 0 (fun _=>true) held fuel t [.slice a len cap]=some y){m:Nat}(hm:∀ n∈y.1.weights P t,n<=m):len<=m:=by
 rcases Deep.open_slice ht h with ⟨h1,_⟩|⟨ad,len',cap',m',n,D,Pl,h1,_,_,_,hmm,rfl,_⟩
 . simp at h1;omega
 . simp at h1;obtain⟨rfl,rfl,rfl⟩:=h1;have h2:=hm ((len+(m' - len)) * P.bytesOf e) (by simp[DataW.weights,ht]);have h3:len * 1<=(len+(m' - len)) * P.bytesOf e:=Qs (by omega) hb;omega
theorem zok {t : TypeId} (hb : zpX P t = true) {fuel : Nat} {cs : List Value} {x : DataW H × List MemPlace} (h : DataW.trod enc P w 0 (fun _ => true) held fuel t cs = some x) :
    ∃ d,ztY w cs d/\∀ m,(∀ n∈x.1.weights P t,n<=m)->d.bits.length<=m/\d.ops.length<=m:=by
 unfold zpX at hb;split at hb
 . rename_i fs ht;split at hb
   . rename_i f0 f1 f2 hfs;rw[zB,decide_eq_true_eq] at hb;obtain⟨⟨hct,o0,o1,o2,k0,k1,k2,i0⟩,hb⟩:=hb;split at hb
     . rename_i e1 e2 u1 u2;rw[decide_eq_true_eq] at hb;obtain⟨i1,q1,i2,q2,b1,b2⟩:=hb;obtain⟨xs,n,_,rfl,hl,hlen,hf⟩:=DataW.trod_struct ht h;have hsz:fs.size=3:=by rw[<- JR,hfs];rfl
       have g:∀ i,fs[i]?=[f0,f1,f2][i]?:=fun i=>by rw[<- Array.getElem?_toList,hfs]
       have h0:=hf 0 f0 (by rw[g];rfl);have h1:=hf 1 f1 (by rw[g];rfl);have h2:=hf 2 f2 (by rw[g];rfl);rw[hct] at hl;rw[hsz] at hlen
       match cs,hl,xs,hlen with
       | [c0,c1,c2],_,[y0,y1,y2],_ =>
         rw[o0,k0] at h0;rw[o1,k1] at h1;rw[o2,k2] at h2;have h0:DataW.trod enc P w 0 (fun _=>true) held n f0.type [c0]=some y0:=h0;have h1:DataW.trod enc P w 0 (fun _=>true) held n f1.type [c1]=some y1:=h1;have h2:DataW.trod enc P w 0 (fun _=>true) held n f2.type [c2]=some y2:=h2;obtain⟨k,hk,wk⟩:=ztl (zdR 12 _ _ i0 h0);obtain⟨a1,l1,p1,rfl⟩:=ziQ u1 h1;obtain⟨a2,l2,p2,rfl⟩:=ziQ u2 h2;obtain⟨bits,r1⟩:=zf2 (fun _=>ztl) u1 i1 q1 h1;obtain⟨ops,r2⟩:=zpW u2 i2 q2 h2;cases hk;refine⟨⟨k,bits,ops⟩,⟨a1,l1,p1,a2,l2,p2,rfl,wk,r1,r2⟩,fun m hm=>?_⟩;have hw:∀ (j:Nat) t' d,[f0.type,f1.type,f2.type][j]?=some t'->[y0.1,y1.1,y2.1][j]?=some d->∀ n∈d.weights P t',n<=m:=fun j t' d e1 e2 n hn=>hm n (by
          have:=DataW.weights_mem_each (P:=P) e1 e2 n hn;simp only[DataW.weights,ht,hfs];exact this)
         have w1:=zaP u1 b1 h1 (hw 1 _ _ rfl rfl);have w2:=zaP u2 b2 h2 (hw 2 _ _ rfl rfl);exact⟨by rw[r1.hlen];exact w1,by rw[r2.hlen];exact w2⟩
     . cases hb
   . cases hb
 . cases hb
structure IsDeeds(w:World)(a:Option Addr)(len cap:Nat)(l:List De):Prop where
 hlen:l.length=len
 hle:len<=cap
 hmax:cap<=maxLen
 rd:∀ (k:Nat) d,l[k]?=some d->∃ ad cs,a=some ad/\ztY w cs d/\∀ (j:Nat) u,cs[j]?=some u->w.cell? (ad.add (k * 3+j))=some u
theorem zck {e : TypeId} : ∀ {ds : List (DataW H)} {d : DataW H}, d ∈ ds -> ∀ n ∈ d.weights P e, n ∈ DataW.weightsAll P e ds
 | d0 :: ds,d,hd,n,hn=>by
   simp only[DataW.weightsAll,Zi];rcases zL.1 hd with rfl|hd
   . exact .inl hn
   . exact .inr (zck hd n hn)
theorem zlr {t e : TypeId} (ht : P.underlying t = some (.slice e)) (hb : zpX P e = true) (hc : P.cellsOf e = 3) {fuel : Nat} {a : Option Addr} {len cap : Nat} {x : DataW H × List MemPlace}
    (h:DataW.trod enc P w 0 (fun _=>true) held fuel t [.slice a len cap]=some x):∃ l,IsDeeds w a len cap l/\∀ m,(∀ n∈x.1.weights P t,n<=m)->∀ d∈l,d.bits.length<=m/\d.ops.length<=m:=by
 rcases Deep.open_slice ht h with ⟨h1,_⟩|⟨ad,len',cap',m,n,D,Pl,h1,_,hle,hm,hmm,hx',hx⟩
 . simp at h1;obtain⟨rfl,rfl,rfl⟩:=h1;exact⟨[],⟨rfl,zl _,by unfold maxLen;omega,fun k s hs=>(by simp at hs)⟩,fun m _ d hd=>(by cases hd)⟩
 . simp at h1;obtain⟨rfl,rfl,rfl⟩:=h1;have key:∀ i,i < len->∃ s:De,(∃ cs,ztY w cs s/\∀ (j:Nat) u,cs[j]?=some u->w.cell? (ad.add (i * 3+j))=some u)/\∀ m,(∀ n∈(D i).weights P e,n<=m)->s.bits.length<=m/\s.ops.length<=m:=fun i hi=>by
    obtain⟨cs,hcs,htr⟩:=hx i (by rw[hmm];simp;omega);obtain⟨s,hs,hw⟩:=zok hb htr;refine⟨s,⟨cs,hs,fun j u hu=>?_⟩,hw⟩;rw[hc] at hcs;obtain⟨_,hlen,hget⟩:=World.cells?_some hcs;have hj:j < 3:=by have:=(zi.1 hu).1;rw[hlen] at this;exact this
    have:=hget j hj;rw[hu] at this;rw[<- this,Deep.add_add]
   obtain⟨l,hl,hp⟩:=zdS len key;refine⟨l,⟨hl,hle,hm,fun k s hs=>?_⟩,fun m hm d hd=>?_⟩
   . obtain⟨cs,h1,h2⟩:=(hp k s hs).1;exact⟨ad,cs,rfl,h1,h2⟩
   . obtain⟨i,hi⟩:=ZB.1 hd;refine(hp i d hi).2 m fun n hn=>hm n ?_;have hlt:=(zi.1 hi).1;rw[hx'];simp only[DataW.weights,ht,zL,Zi];exact .inr (.inl (zck (Zv.2 ⟨i,by simp;omega,rfl⟩) n hn))
theorem IsDeeds.wf{a:Option Addr}{len cap:Nat}{l:List De}(h:IsDeeds w a len cap l):∀ d∈l,(∀ n∈d.bits,(Lit.int .u8 n).wf=true)/\∀ o∈d.ops,OWf o:=fun d hd=>by
 obtain⟨i,hi⟩:=ZB.1 hd;obtain⟨ad,cs,_,⟨a1,l1,c1,a2,l2,c2,_,_,r1,r2⟩,_⟩:=h.rd i d hi;exact⟨r1.wf,r2.wf⟩
theorem IsDeeds.wfk{a:Option Addr}{len cap:Nat}{l:List De}(h:IsDeeds w a len cap l):∀ d∈l,(Lit.int .u8 d.c).wf=true:=fun d hd=>by
 obtain⟨i,hi⟩:=ZB.1 hd;obtain⟨ad,cs,_,⟨a1,l1,c1,a2,l2,c2,_,wk,_,_⟩,_⟩:=h.rd i d hi;exact wk
theorem zuA:Enc (Xc .u8) (fun n=>[Value.int .u8 n]) 1:=zu2 .u8
theorem IsDeeds.vr{a:Option Addr}{len cap:Nat}{l:List De}(h:IsDeeds w a len cap l):VR (fun p=>w.cell? p) (fun _=>none) (.sl 3 (l.map De.w) false) (.slice a len cap):=by
 have hget:∀ (k:Nat) es,(l.map De.w)[k]?=some es->∃ d,l[k]?=some d/\es=d.w:=fun k es hk=>by
  rw[zG] at hk;cases hl:l[k]? with
  | none=>rw[hl] at hk;cases hk
  | some a=>rw[hl] at hk;cases hk;exact⟨a,rfl,rfl⟩
 have hcell:∀ (k:Nat) d (j:Nat) b,l[k]?=some d->d.w[j]?=some b->∃ ad u,a=some ad/\w.cell? (ad.add (k * 3+j))=some u/\VR (fun p=>w.cell? p) (fun _=>none) b u:=fun k d j b hk hb=>by
  obtain⟨ad,cs,hA,⟨a1,l1,c1,a2,l2,c2,rfl,wk,r1,r2⟩,hrd⟩:=h.rd k d hk
  match j,hb with
  | 0,hb=>cases hb;exact⟨ad,_,hA,hrd 0 _ rfl,.int _ _⟩
  | 1,hb=>cases hb;exact⟨ad,_,hA,hrd 1 _ rfl,r1.vr zuA⟩
  | 2,hb=>cases hb;exact⟨ad,_,hA,hrd 2 _ rfl,r2.vr zu4⟩
  | j+3,hb=>simp[De.w] at hb
 have := VR.sl (im := fun p => w.cell? p) (io := fun _ => none) 3 (l.map De.w) false a cap (a.getD ⟨0, 0, none⟩) (fun k j => (w.cell? ((a.getD ⟨0, 0, none⟩).add (k * 3 + j))).getD .nilFunc)
  (by
   cases l with
   | nil=>exact .inl rfl
   | cons d l=>obtain⟨ad,u,rfl,_⟩:=hcell 0 d 0 _ rfl rfl;exact .inr rfl)
  (by simp) (by rw[zo,h.hlen];exact h.hle) h.hmax
  (fun es hes=>by
   obtain⟨d,_,rfl⟩:=Zv.1 hes;exact⟨rfl,fun x hx=>by simp[De.w] at hx;rcases hx with rfl|rfl|rfl <;> rfl⟩)
  (fun k es j b hk hb=>by
   obtain⟨d,hd,rfl⟩:=hget k es hk;obtain⟨ad,u,rfl,h1,h2⟩:=hcell k d j b hd hb;simp only[Qh,h1])
  (fun k es j b hk hb=>by
   obtain⟨d,hd,rfl⟩:=hget k es hk;obtain⟨ad,u,rfl,h1,h2⟩:=hcell k d j b hd hb;simp only[Qh,h1];exact h2)
 rw[zo,h.hlen] at this;exact this
end
end Go.L
namespace Go.Proofs.Tryz
open Go.L
set_option maxRecDepth 100000
noncomputable def ztm(n:Nat)(k:Int)(v:Int)(k2:Int)(v2:Int)(h:zd):Option (Res×zd) :=
 (if (k == 1) then
 (if (k2 == 1) then
 some (Res.ret [(V.bool (decide (v<=v2)))],h)
 else
 (if (k == 1) then
 some (Res.ret [(V.bool true)],h)
 else
 some (Res.ret [(V.bool (k2 != 1))],h)))
 else
 (if (k == 1) then
 some (Res.ret [(V.bool true)],h)
 else
 some (Res.ret [(V.bool (k2 != 1))],h)))
theorem zpY(n:Nat)(k:Int)(v:Int)(k2:Int)(v2:Int)(h:zd):call (n+1) 95 [(V.agg [(V.int .u8 k),(V.int .i32 v)]),(V.agg [(V.int .u8 k2),(V.int .i32 v2)])] h=ztm n k v k2 v2 h:=by kernel_rfl
noncomputable def KD(n:Nat)(l:V)(st1:List V)(next3:List V->zd->Option (Res×zd))(st8:List V)(hh9:zd)(next10:List V->zd->Option (Res×zd)):Option (Res×zd) :=
 (bd (bop prog .gtr 3 (gv st8 2) (V.int .i64 0)) fun v11 =>
 (bv v11 fun b12=>if b12 then
 (bd (bop prog .sub 3 (gv st8 2) (V.int .i64 1)) fun v13 =>
 (bdS (nv v13) fun n14 =>
 (if (1=1/\n14 < ((lsl (gv st8 1))).length/\(some 28:Option Nat)≠some 5) then
 (bd ((lsl (gv st8 1)))[n14]? fun es15 =>
 (bd (es15)[0]? fun v16 =>
 (bdS (nv v16) fun n17 =>
 (bd (ZE 2 n17 l) fun p18 =>
 (bd3 (zu hh9 p18) fun cs20 m19 o21=>if (o21+2<=m19/\0 < 2) then
 (bdS (nv (gv st1 2)) fun n22 =>
 (bd (ZE 2 n22 l) fun p23 =>
 (bd3 (zu hh9 p23) fun cs25 m24 o26=>if (o26+2<=m24/\0 < 2) then
 (cl (call n 95 [(V.agg ((cs20).drop o21 |>.take 2)),(V.agg ((cs25).drop o26 |>.take 2))] hh9) (fun r27 h28 =>
 (Zr r27 fun v30 =>
 (bd (uop .not v30) fun v31 =>
 (bv v31 fun b32=>if b32 then
 (bd (bop prog .sub 3 (gv st8 2) (V.int .i64 1)) fun v33 =>
 (next10 [(V.sl 1 (lsl (gv st8 0)) false),(V.sl 1 (lsl (gv st8 1)) false),v33] h28))
 else
 (bd (QZ (V.sl 1 (lsl (gv st8 1)) false)) fun n34 =>
 (bdS (nv (gv st8 2)) fun n35 =>
 (bd (Z4 1 0 n35 (none:Option Nat) true (V.sl 1 (lsl (gv st8 1)) false)) fun v36 =>
 (bdS (ZR h28 v36) fun p37 =>
 (if (55=55/\(p37.1=1\/(p37.2).isEmpty=true)) then
 (bd (app 3 1 (S.own 3 1 []) p37.2) fun l38 =>
 (bd (JY prog 55 1 [(0,(gv st1 2))]) fun p39 =>
 (bd (app 3 1 (S.own 3 1 l38) p39.2) fun l40 =>
 (bd (QZ (V.sl 1 (lsl (gv st8 1)) false)) fun n41 =>
 (bdS (nv (gv st8 2)) fun n42 =>
 (bd (Z4 1 n42 n41 (none:Option Nat) true (V.sl 1 (lsl (gv st8 1)) false)) fun v43 =>
 (bdS (ZR h28 v43) fun p44 =>
 (if (55=55/\(p44.1=1\/(p44.2).isEmpty=true)) then
 (bd (app 3 1 (S.own 3 1 l40) p44.2) fun l45 =>
 (bd (bop prog .add 3 (gv st1 2) (V.int .i64 1)) fun v46 =>
 (next3 [(V.sl 1 (lsl (gv st8 0)) false),(V.sl 1 l45 false),v46] h28))) else none)))))))) else none))))))))) (fun z29 h28=>none)) else none))) else none))))) else none)))
 else
 (bd (QZ (V.sl 1 (lsl (gv st8 1)) false)) fun n47 =>
 (bdS (nv (gv st8 2)) fun n48 =>
 (bd (Z4 1 0 n48 (none:Option Nat) true (V.sl 1 (lsl (gv st8 1)) false)) fun v49 =>
 (bdS (ZR hh9 v49) fun p50 =>
 (if (55=55/\(p50.1=1\/(p50.2).isEmpty=true)) then
 (bd (app 3 1 (S.own 3 1 []) p50.2) fun l51 =>
 (bd (JY prog 55 1 [(0,(gv st1 2))]) fun p52 =>
 (bd (app 3 1 (S.own 3 1 l51) p52.2) fun l53 =>
 (bd (QZ (V.sl 1 (lsl (gv st8 1)) false)) fun n54 =>
 (bdS (nv (gv st8 2)) fun n55 =>
 (bd (Z4 1 n55 n54 (none:Option Nat) true (V.sl 1 (lsl (gv st8 1)) false)) fun v56 =>
 (bdS (ZR hh9 v56) fun p57 =>
 (if (55=55/\(p57.1=1\/(p57.2).isEmpty=true)) then
 (bd (app 3 1 (S.own 3 1 l53) p57.2) fun l58 =>
 (bd (bop prog .add 3 (gv st1 2) (V.int .i64 1)) fun v59 =>
 (next3 [(V.sl 1 (lsl (gv st8 0)) false),(V.sl 1 l58 false),v59] hh9))) else none)))))))) else none)))))))
noncomputable def Yx(n:Nat)(l:V)(st1:List V)(hh2:zd)(next3:List V->zd->Option (Res×zd)):Option (Res×zd) :=
 (bd (ZR hh2 l) fun p4 =>
 (bd (bop prog .lss 3 (gv st1 2) (V.int .i64 ((p4.2).length:Int))) fun v5 =>
 (bv v5 fun b6=>if b6 then
 (zR n (KD n l st1 next3) [(V.sl 1 (lsl (gv st1 0)) false),(V.sl 1 (lsl (gv st1 1)) false),(V.int .i64 (((lsl (gv st1 1))).length:Int))] hh2)
 else
 some (Res.ret [(V.sl 1 (lsl (gv st1 1)) false)],hh2))))
noncomputable def zpZ(n:Nat)(l:V):Option (Res×zd) :=
 (zR n (Yx n l) [(V.sl 1 [] false),(V.sl 1 [] false),(V.int .i64 0)] [])
theorem zol(n:Nat)(l:V)(h:zd):call (n+1) 64 [(V.int .u8 3),l] h=gcw [(V.int .u8 3),l] (zpZ n l) h:=by kernel_rfl
end Go.Proofs.Tryz
namespace Go.Proofs.Tryz
open Go.L
set_option maxRecDepth 100000
noncomputable def jP(n:Nat)(a:V)(b:V)(st3:List V)(hh4:zd)(next5:List V->zd->Option (Res×zd)):Option (Res×zd) :=
 (bd (ZR hh4 a) fun p6 =>
 (bd (bop prog .lss 3 (gv st3 1) (V.int .i64 ((p6.2).length:Int))) fun v7 =>
 (bv v7 fun b8=>if b8 then
 (bdS (nv (gv st3 1)) fun n9 =>
 (bd (ZE 1 n9 a) fun p10 =>
 (bd3 (zu hh4 p10) fun cs12 m11 o13=>if (o13+1<=m11/\0 < 1) then
 (bd (cs12)[o13]? fun v14 =>
 (bdS (nv (gv st3 1)) fun n15 =>
 (bd (ZE 1 n15 b) fun p16 =>
 (bd3 (zu hh4 p16) fun cs18 m17 o19=>if (o19+1<=m17/\0 < 1) then
 (bd (cs18)[o19]? fun v20 =>
 (bd (bop prog .neq 21 v14 v20) fun v21 =>
 (bv v21 fun b22=>if b22 then
 some (Res.ret [(V.bool false)],hh4)
 else
 (bd (bop prog .add 3 (gv st3 1) (V.int .i64 1)) fun v23 =>
 (next5 [(gv st3 0),v23] hh4))))) else none)))) else none)))
 else
 some (Res.ret [(V.bool true)],hh4))))
noncomputable def ztn(n:Nat)(a:V)(b:V)(h:zd):Option (Res×zd) :=
 (bd (ZR h a) fun p0 =>
 (bd (ZR h b) fun p1 =>
 (if (((p0.2).length:Int) != ((p1.2).length:Int)) then
 some (Res.ret [(V.bool false)],h)
 else
 (zR n (jP n a b) [(V.bool false),(V.int .i64 0)] h))))
theorem zp0(n:Nat)(a:V)(b:V)(h:zd):call (n+1) 19 [a,b] h=ztn n a b h:=by kernel_rfl
noncomputable def jQ(n:Nat)(a:V)(b:V)(st3:List V)(hh4:zd)(next5:List V->zd->Option (Res×zd)):Option (Res×zd) :=
 (bd (ZR hh4 a) fun p6 =>
 (bd (bop prog .lss 3 (gv st3 1) (V.int .i64 ((p6.2).length:Int))) fun v7 =>
 (bv v7 fun b8=>if b8 then
 (bdS (nv (gv st3 1)) fun n9 =>
 (bd (ZE 2 n9 a) fun p10 =>
 (bd3 (zu hh4 p10) fun cs12 m11 o13=>if (o13+2<=m11/\0 < 2) then
 (bdS (nv (gv st3 1)) fun n14 =>
 (bd (ZE 2 n14 b) fun p15 =>
 (bd3 (zu hh4 p15) fun cs17 m16 o18=>if (o18+2<=m16/\0 < 2) then
 (bd (bop prog .neq 35 (V.agg ((cs12).drop o13 |>.take 2)) (V.agg ((cs17).drop o18 |>.take 2))) fun v19 =>
 (bv v19 fun b20=>if b20 then
 some (Res.ret [(V.bool false)],hh4)
 else
 (bd (bop prog .add 3 (gv st3 1) (V.int .i64 1)) fun v21 =>
 (next5 [(gv st3 0),v21] hh4)))) else none))) else none)))
 else
 some (Res.ret [(V.bool true)],hh4))))
noncomputable def zto(n:Nat)(a:V)(b:V)(h:zd):Option (Res×zd) :=
 (bd (ZR h a) fun p0 =>
 (bd (ZR h b) fun p1 =>
 (if (((p0.2).length:Int) != ((p1.2).length:Int)) then
 some (Res.ret [(V.bool false)],h)
 else
 (zR n (jQ n a b) [(V.bool false),(V.int .i64 0)] h))))
theorem zp1(n:Nat)(a:V)(b:V)(h:zd):call (n+1) 24 [a,b] h=zto n a b h:=by kernel_rfl
noncomputable def zp2(n:Nat)(x0:Int)(h:zd):Option (Res×zd) :=
 some (Res.ret [(V.int .i64 (if 0 < (if 1000 < x0 then 1000 else x0) then(if 1000 < x0 then 1000 else x0) else 0))],h)
theorem ziR(n:Nat)(x0:Int)(h:zd):call (n+1) 129 [(V.int .i64 x0)] h=zp2 n x0 h:=by kernel_rfl
end Go.Proofs.Tryz
namespace Go.Proofs.Tryz
open Go.L
set_option maxRecDepth 100000
noncomputable def ztZ(n:Nat)(x0_0:Int)(x0_1:Int):Option (Res×zd) :=
 some (Res.ret [(V.int .i32 x0_1)],[])
theorem zom(n:Nat)(x0_0:Int)(x0_1:Int)(h:zd):call (n+1) 235 [(V.agg [(V.int .u8 x0_0),(V.int .i32 x0_1)])] h=gcw [(V.agg [(V.int .u8 x0_0),(V.int .i32 x0_1)])] (ztZ n x0_0 x0_1) h:=by kernel_rfl
noncomputable def ztp(n:Nat)(a:Int)(b:Int)(l:List (List V))(lb:Bool)(h:zd):Option (Res×zd) :=
 (bdS (nv (V.int .i64 a)) fun n0 =>
 (bd (ZE 2 n0 (V.sl 2 l lb)) fun p1 =>
 (clS (call n 235 [(V.agg (((esP p1)).drop 0 |>.take 2))] []) fun r2 =>
 (Zr r2 fun v5 =>
 (bdS (nv (V.int .i64 b)) fun n6 =>
 (bd (ZE 2 n6 (V.sl 2 l lb)) fun p7 =>
 (clS (call n 235 [(V.agg (((esP p7)).drop 0 |>.take 2))] []) fun r8 =>
 (Zr r8 fun v11 =>
 (clH (call n 242 [v5,v11] h) fun r12 h13 =>
 (Zr r12 fun v15 =>
 some (Res.ret [v15],h13)))))))))))
theorem zp3(n:Nat)(a:Int)(b:Int)(l:List (List V))(lb:Bool)(h:zd):call (n+1) 241 [(V.int .i64 a),(V.int .i64 b),(V.iptr 1 [(V.fn 235 [])] 0),(V.iptr 1 [(V.sl 2 l lb)] 0)] h=ztp n a b l lb h:=by kernel_rfl
noncomputable def ztq(n:Nat)(l:List (List V))(lb:Bool)(b:Nat)(hi:Nat)(h:zd):Option (Res×zd) :=
 (rwT ((h)[b]?) fun el0 sl0 l0=>if ((el0=3/\1=1/\sl0=1)/\(0=0/\hi=l0.length)) then(clr (call n 240 (V.sl 1 l0 false :: [(V.fn 241 [(V.iptr 1 [(V.fn 235 [])] 0),(V.iptr 1 [(V.sl 2 l lb)] 0)])]) ((h).set b HB.dead)) fun sl1 l1 r2 h3=>if sl1=1/\l1.length=l0.length then
 some (Res.ret [(V.row b 1 0 hi)],((h3).set b (HB.row 3 1 l1 true))) else none) else none)
theorem zp4(n:Nat)(l:List (List V))(lb:Bool)(b:Nat)(hi:Nat)(h:zd):call (n+1) 234 [(V.sl 2 l lb),(V.row b 1 0 hi),(V.fn 235 [])] h=ztq n l lb b hi h:=by kernel_rfl
noncomputable def KE(n:Nat)(l:List (List V))(lb:Bool)(st1:List V)(hh2:zd)(next3:List V->zd->Option (Res×zd)):Option (Res×zd) :=
 (bd (bop prog .lss 3 (gv st1 2) (V.int .i64 ((l).length:Int))) fun v4 =>
 (bv v4 fun b5=>if b5 then
 (bdS (nv (gv st1 2)) fun n6 =>
 (bd (ZE 2 n6 (V.sl 2 l lb)) fun p7 =>
 (bd3 (zu hh2 p7) fun cs9 m8 o10=>if (o10+2<=m8/\0 < 2) then
 (if (((cs9).drop o10 |>.take 2)).length=2 then
 (if ((((cs9).drop o10 |>.take 2)).length<=2) then
 (bd ((setR [(V.int .u8 0),(V.int .i32 0)] 0 ((cs9).drop o10 |>.take 2)))[0]? fun v11 =>
 (bd (bop prog .eql 5 v11 (V.int .u8 1)) fun v12 =>
 (bv v12 fun b13=>if b13 then
 (bd (JY prog 55 1 [(0,(gv st1 2))]) fun p14 =>
 (bd (app 3 1 (S.own 3 1 (lsl (gv st1 0))) p14.2) fun l15 =>
 (bd (bop prog .add 3 (gv st1 2) (V.int .i64 1)) fun v16 =>
 (next3 [(V.sl 1 l15 false),(V.sl 1 (lsl (gv st1 1)) false),v16] hh2))))
 else
 (bd (JY prog 55 1 [(0,(gv st1 2))]) fun p17 =>
 (bd (app 3 1 (S.own 3 1 (lsl (gv st1 1))) p17.2) fun l18 =>
 (bd (bop prog .add 3 (gv st1 2) (V.int .i64 1)) fun v19 =>
 (next3 [(V.sl 1 (lsl (gv st1 0)) false),(V.sl 1 l18 false),v19] hh2))))))) else none) else none) else none)))
 else
 (cl (call n 234 [(V.sl 2 l lb),(V.row (hh2).length 1 0 ((lsl (gv st1 0))).length),(V.fn 235 [])] (hh2++[(HB.row 3 1 (lsl (gv st1 0)) true)])) (fun r20 h21 =>
 (Zr r20 fun v23 =>
 some (Res.ret [v23,(V.row (h21).length 1 0 ((lsl (gv st1 1))).length)],(h21++[(HB.row 3 1 (lsl (gv st1 1)) true)])))) (fun z22 h21=>some (Res.pan z22,h21)))))
noncomputable def zp5(n:Nat)(l:List (List V))(lb:Bool)(h:zd):Option (Res×zd) :=
 (zR n (KE n l lb) [(V.sl 1 [] false),(V.sl 1 [] false),(V.int .i64 0)] h)
theorem zon(n:Nat)(l:List (List V))(lb:Bool)(h:zd):call (n+1) 225 [(V.sl 2 l lb)] h=zp5 n l lb h:=by kernel_rfl
noncomputable def YG(n:Nat)(s:Nat)(l:List (List V))(lb:Bool)(o:V)(t:V)(p0:Nat×List (List V))(st2:List V)(hh3:zd)(next4:List V->zd->Option (Res×zd)):Option (Res×zd) :=
 (bd (bop prog .lss 3 (gv st2 1) (V.int .i64 ((p0.2).length:Int))) fun v5 =>
 (bv v5 fun b6=>if b6 then
 (bdS (nv (gv st2 1)) fun n7 =>
 (bd (ZE 1 n7 o) fun p8 =>
 (bd3 (zu hh3 p8) fun cs10 m9 o11=>if (o11+1<=m9/\0 < 1) then
 (bd (cs10)[o11]? fun v12 =>
 (bdS (nv v12) fun n13 =>
 (bd (ZE 2 n13 t) fun p14 =>
 (bd (ZL 0 p14) fun p15 =>
 (bd2 (Zt hh3 [(V.int .u8 5)] p15) fun b16 x17 =>
 (bdS (nv v12) fun n18 =>
 (bd (ZE 2 n18 (V.sl 2 l lb)) fun p19 =>
 (bd (ZL 0 p19) fun p20 =>
 (bd3 (zu ((hh3).set b16 x17) p20) fun cs22 m21 o23=>if (o23+1<=m21/\0 < 1) then
 (bd (cs22)[o23]? fun v24 =>
 (bd (bop prog .neq 5 v24 (V.int .u8 2)) fun v25 =>
 (bv v25 fun b26=>if b26 then
 (bd (bop prog .add 3 (gv st2 1) (V.int .i64 1)) fun v27 =>
 (next4 [(V.sl 2 (lsl (gv st2 0)) false),v27] ((hh3).set b16 x17)))
 else
 (bdS (nv v12) fun n28 =>
 (bd (ZE 2 n28 t) fun p29 =>
 (bd (ZL 0 p29) fun p30 =>
 (bd2 (Zt ((hh3).set b16 x17) [(V.int .u8 4)] p30) fun b31 x32 =>
 (cl (call n 239 [(V.ptr s 0)] ((((hh3).set b16 x17)).set b31 x32)) (fun r33 h34 =>
 (bd (r33)[0]? fun v36 =>
 (bd (r33)[1]? fun v37 =>
 (bv v37 fun b38=>if b38 then
 (bd (Qo prog 35 [(0,(V.int .u8 2)),(1,v36)]) fun cs39 =>
 (bdS (nv v12) fun n40 =>
 (bd (ZE 2 n40 t) fun p41 =>
 (if (cs39).length=2 then
 (bd2 (Zt h34 cs39 p41) fun b42 x43 =>
 (bd (bop prog .add 3 (gv st2 1) (V.int .i64 1)) fun v44 =>
 (next4 [(V.sl 2 (lsl (gv st2 0)) false),v44] ((h34).set b42 x43)))) else none))))
 else
 (bd (bop prog .add 3 (gv st2 1) (V.int .i64 1)) fun v45 =>
 (next4 [(V.sl 2 (lsl (gv st2 0)) false),v45] h34)))))) (fun z35 h34=>some (Res.pan z35,h34)))))))))) else none))))))))) else none)))
 else
 some (Res.ret [t],hh3)))
noncomputable def zm0(n:Nat)(s:Nat)(l:List (List V))(lb:Bool)(o:V)(t:V)(h:zd):Option (Res×zd) :=
 (bd (ZR h o) fun p0 =>
 (zR n (YG n s l lb o t p0) [(V.sl 2 [] false),(V.int .i64 0)] h))
theorem zls(n:Nat)(s:Nat)(l:List (List V))(lb:Bool)(o:V)(t:V)(h:zd):call (n+1) 229 [(V.ptr s 0),(V.sl 2 l lb),o,t] h=zm0 n s l lb o t h:=by kernel_rfl
noncomputable def Jk(n:Nat)(s:Nat)(l:List (List V))(lb:Bool)(v6:V)(v59:V)(p60:Nat×List (List V))(st62:List V)(hh63:zd)(next64:List V->zd->Option (Res×zd)):Option (Res×zd) :=
 (bd (bop prog .lss 3 (gv st62 3) (V.int .i64 ((p60.2).length:Int))) fun v65 =>
 (bv v65 fun b66=>if b66 then
 (bdS (nv (gv st62 3)) fun n67 =>
 (bd (ZE 1 n67 v59) fun p68 =>
 (bd3 (zu hh63 p68) fun cs70 m69 o71=>if (o71+1<=m69/\0 < 1) then
 (bd (cs70)[o71]? fun v72 =>
 (bdS (nv v72) fun n73 =>
 (if (2=2/\n73 < ((lsl (gv st62 1))).length/\(some 73:Option Nat)≠some 7) then
 (bd ((lsl (gv st62 1)))[n73]? fun es74 =>
 (bd (bop prog .add 3 (gv st62 3) (V.int .i64 1)) fun v75 =>
 (next64 [(V.sl 2 (lsl (gv st62 0)) false),(V.sl 2 (((lsl (gv st62 1))).set n73 (setR es74 0 [(V.int .u8 3)])) false),(V.bool false),v75] hh63))) else none))) else none)))
 else
 (cl (call n 229 [(V.ptr s 0),(V.sl 2 l lb),v6,(V.row (hh63).length 2 0 ((lsl (gv st62 1))).length)] (hh63++[(HB.row 35 2 (lsl (gv st62 1)) true)])) (fun r76 h77 =>
 (Zr r76 fun v79 =>
 some (Res.ret [v79],h77))) (fun z78 h77=>some (Res.pan z78,h77)))))
noncomputable def Jl(n:Nat)(s:Nat)(c:Nat)(l:List (List V))(lb:Bool)(v5:V)(v6:V)(v18:V)(v21:V)(p22:Nat×List (List V))(st24:List V)(hh25:zd)(next26:List V->zd->Option (Res×zd)):Option (Res×zd) :=
 (bd (bop prog .lss 3 (gv st24 5) (V.int .i64 ((p22.2).length:Int))) fun v27 =>
 (bv v27 fun b28=>if b28 then
 (bdS (nv (gv st24 5)) fun n29 =>
 (bd (ZE 1 n29 v21) fun p30 =>
 (bd3 (zu hh25 p30) fun cs32 m31 o33=>if (o33+1<=m31/\0 < 1) then
 (bd (cs32)[o33]? fun v34 =>
 (bdS (nv v34) fun n35 =>
 (bd (ZE 2 n35 (V.sl 2 l lb)) fun p36 =>
 (bd (ZL 1 p36) fun p37 =>
 (bd3 (zu hh25 p37) fun cs39 m38 o40=>if (o40+1<=m38/\0 < 1) then
 (bd (cs39)[o40]? fun v41 =>
 (bd (JY prog 27 1 [(0,v41)]) fun p42 =>
 (bd (app 21 1 (S.own 21 1 (lsl (gv st24 2))) p42.2) fun l43 =>
 (cl (call n 227 [(V.ptr c 0)] hh25) (fun r44 h45 =>
 (Zr r44 fun v47 =>
 (bd (JY prog 55 1 [(0,v47)]) fun p48 =>
 (bd (app 3 1 (S.own 3 1 (lsl (gv st24 3))) p48.2) fun l49 =>
 (bdS (nv v34) fun n50 =>
 (if (2=2/\n50 < ((lsl (gv st24 1))).length/\(some 56:Option Nat)≠some 7) then
 (bd ((lsl (gv st24 1)))[n50]? fun es51 =>
 (bd (bop prog .add 3 (gv st24 5) (V.int .i64 1)) fun v52 =>
 (next26 [(V.sl 2 (lsl (gv st24 0)) false),(V.sl 2 (((lsl (gv st24 1))).set n50 (setR es51 0 [(V.int .u8 1)])) false),(V.sl 1 l43 false),(V.sl 1 l49 false),(V.bool false),v52] h45))) else none)))))) (fun z46 h45=>some (Res.pan z46,h45)))))) else none))))) else none)))
 else
 (cl (call n 228 [(V.ptr s 0),(V.row (hh25).length 1 0 ((lsl (gv st24 2))).length),(V.row ((hh25++[(HB.row 21 1 (lsl (gv st24 2)) true)])).length 1 0 ((lsl (gv st24 3))).length)] ((hh25++[(HB.row 21 1 (lsl (gv st24 2)) true)])++[(HB.row 3 1 (lsl (gv st24 3)) true)])) (fun r53 h54 =>
 (Zr r53 fun v56 =>
 (bd (QZ v5) fun n57 =>
 (bdS (nv v18) fun n58 =>
 (bd (Z4 1 n58 n57 (none:Option Nat) true v5) fun v59 =>
 (bd (ZR h54 v59) fun p60 =>
 (zR n (Jk n s l lb v6 v59 p60) [(V.sl 2 (lsl (gv st24 0)) false),(V.sl 2 (lsl (gv st24 1)) false),(V.bool false),(V.int .i64 0)] h54))))))) (fun z55 h54=>some (Res.pan z55,h54)))))
noncomputable def ziS(n:Nat)(s:Nat)(c:Nat)(l:List (List V))(lb:Bool)(h:zd):Option (Res×zd) :=
 (bdS (nv (V.int .i64 ((l).length:Int))) fun n0 =>
 (bdS (nv (V.int .i64 ((l).length:Int))) fun n1 =>
 (if (n0<=n1/\n1 < lim/\2=2) then
 (cl (call n 225 [(V.sl 2 l lb)] h) (fun r2 h3 =>
 (bd (r2)[0]? fun v5 =>
 (bd (r2)[1]? fun v6 =>
 (bd (ZR h3 v5) fun p7 =>
 (cl (call n 226 [(V.ptr s 0)] h3) (fun r8 h9 =>
 (Zr r8 fun v11 =>
 (cl (call n 218 [(V.ptr s 0)] h9) (fun r12 h13 =>
 (Zr r12 fun v15 =>
 (bd (bop prog .sub 3 v11 v15) fun v16 =>
 (bd (qO [(some (V.int .i64 ((p7.2).length:Int))),(Kh h13 v16)]) fun a17=>bd (mm false a17) fun v18 =>
 (bd (QZ v5) fun n19 =>
 (bdS (nv v18) fun n20 =>
 (bd (Z4 1 0 n20 (none:Option Nat) true v5) fun v21 =>
 (bd (ZR h13 v21) fun p22 =>
 (zR n (Jl n s c l lb v5 v6 v18 v21 p22) [(V.sl 2 [] false),(V.sl 2 (List.replicate n0 [(V.int .u8 0),(V.int .i32 0)]) false),(V.sl 1 [] false),(V.sl 1 [] false),(V.bool false),(V.int .i64 0)] h13))))))))) (fun z14 h13=>some (Res.pan z14,h13))))) (fun z10 h9=>some (Res.pan z10,h9))))))) (fun z4 h3=>some (Res.pan z4,h3))) else none)))
theorem ziT(n:Nat)(s:Nat)(c:Nat)(l:List (List V))(lb:Bool)(h:zd):call (n+1) 222 [(V.ptr s 0),(V.ptr c 0),(V.sl 2 l lb)] h=ziS n s c l lb h:=by kernel_rfl
noncomputable def QT(n:Nat)(s:Nat)(c:Nat)(l:List (List V))(lb:Bool)(v5:V)(v6:V)(p7:Nat×List (List V))(st9:List V)(hh10:zd)(next11:List V->zd->Option (Res×zd)):Option (Res×zd) :=
 (bd (bop prog .lss 3 (gv st9 3) (V.int .i64 ((p7.2).length:Int))) fun v12 =>
 (bv v12 fun b13=>if b13 then
 (bdS (nv (gv st9 3)) fun n14 =>
 (bd (ZE 1 n14 v5) fun p15 =>
 (bd3 (zu hh10 p15) fun cs17 m16 o18=>if (o18+1<=m16/\0 < 1) then
 (bd (cs17)[o18]? fun v19 =>
 (bdS (nv v19) fun n20 =>
 (if (2=2/\n20 < ((lsl (gv st9 1))).length/\(some 28:Option Nat)≠some 7) then
 (bd ((lsl (gv st9 1)))[n20]? fun es21 =>
 (cl (call n 218 [(V.ptr s 0)] hh10) (fun r22 h23 =>
 (Zr r22 fun v25 =>
 (cl (call n 226 [(V.ptr s 0)] h23) (fun r26 h27 =>
 (Zr r26 fun v29 =>
 (bd (bop prog .lss 3 v25 v29) fun v30 =>
 (bv v30 fun b31=>if b31 then
 (bdS (nv v19) fun n32 =>
 (bd (ZE 2 n32 (V.sl 2 l lb)) fun p33 =>
 (bd ((esP p33))[1]? fun v34 =>
 (clH (call n 227 [(V.ptr c 0)] h27) fun r35 h36 =>
 (Zr r35 fun v38 =>
 (clH (call n 233 [(V.ptr s 0),v34,v38] h36) fun r39 h40 =>
 (Zr r39 fun v42 =>
 (bdS (nv v19) fun n43 =>
 (if (2=2/\n43 < ((((lsl (gv st9 1))).set n20 (setR es21 0 [(V.int .u8 3)]))).length/\(some 46:Option Nat)≠some 7) then
 (bd ((((lsl (gv st9 1))).set n20 (setR es21 0 [(V.int .u8 3)])))[n43]? fun es44 =>
 (bd (bop prog .add 3 (gv st9 3) (V.int .i64 1)) fun v45 =>
 (next11 [(V.sl 2 (lsl (gv st9 0)) false),(V.sl 2 (((((lsl (gv st9 1))).set n20 (setR es21 0 [(V.int .u8 3)]))).set n43 (setR es44 0 [(V.int .u8 1)])) false),(V.bool false),v45] h40))) else none)))))))))
 else
 (bd (bop prog .add 3 (gv st9 3) (V.int .i64 1)) fun v46 =>
 (next11 [(V.sl 2 (lsl (gv st9 0)) false),(V.sl 2 (((lsl (gv st9 1))).set n20 (setR es21 0 [(V.int .u8 3)])) false),(V.bool false),v46] h27)))))) (fun z28 h27=>some (Res.pan z28,h27))))) (fun z24 h23=>some (Res.pan z24,h23)))) else none))) else none)))
 else
 (cl (call n 229 [(V.ptr s 0),(V.sl 2 l lb),v6,(V.row (hh10).length 2 0 ((lsl (gv st9 1))).length)] (hh10++[(HB.row 35 2 (lsl (gv st9 1)) true)])) (fun r47 h48 =>
 (Zr r47 fun v50 =>
 some (Res.ret [v50],h48))) (fun z49 h48=>some (Res.pan z49,h48)))))
noncomputable def ziU(n:Nat)(s:Nat)(c:Nat)(l:List (List V))(lb:Bool)(h:zd):Option (Res×zd) :=
 (bdS (nv (V.int .i64 ((l).length:Int))) fun n0 =>
 (bdS (nv (V.int .i64 ((l).length:Int))) fun n1 =>
 (if (n0<=n1/\n1 < lim/\2=2) then
 (cl (call n 225 [(V.sl 2 l lb)] h) (fun r2 h3 =>
 (bd (r2)[0]? fun v5 =>
 (bd (r2)[1]? fun v6 =>
 (bd (ZR h3 v5) fun p7 =>
 (zR n (QT n s c l lb v5 v6 p7) [(V.sl 2 [] false),(V.sl 2 (List.replicate n0 [(V.int .u8 0),(V.int .i32 0)]) false),(V.bool false),(V.int .i64 0)] h3))))) (fun z4 h3=>some (Res.pan z4,h3))) else none)))
theorem ziV(n:Nat)(s:Nat)(c:Nat)(l:List (List V))(lb:Bool)(h:zd):call (n+1) 224 [(V.ptr s 0),(V.ptr c 0),(V.sl 2 l lb)] h=ziU n s c l lb h:=by kernel_rfl
end Go.Proofs.Tryz
namespace Go.Proofs.Tryz
open Go.L
set_option maxRecDepth 100000
noncomputable def zsm(n:Nat)(h:zd):Option (Res×zd) :=
 some (Res.ret [(V.ptr (h).length 0)],(h++[(HB.box 1 [(V.sl 0 [] true)])]))
theorem zlt(n:Nat)(h:zd):call (n+1) 62 [] h=zsm n h:=by kernel_rfl
noncomputable def ziW(n:Nat)(c:Nat)(h:zd):Option (Res×zd) :=
 (bd (Qb prog h .eql 122 (V.ptr c 0) (V.val (.pointer none))) fun v0 =>
 (bv v0 fun b1=>if b1 then
 some (Res.ret [(V.int .i64 0)],h)
 else
 (bd3 (zu h (V.ptr c 0)) fun cs3 m2 o4=>if (o4+1<=m2/\0 < 1) then
 (bd (cs3)[o4]? fun v5 =>
 (bd (ZR h v5) fun p6 =>
 some (Res.ret [(V.int .i64 ((p6.2).length:Int))],h))) else none)))
theorem ziX(n:Nat)(c:Nat)(h:zd):call (n+1) 243 [(V.ptr c 0)] h=ziW n c h:=by kernel_rfl
noncomputable def ziY(n:Nat)(c:Nat)(h:zd):Option (Res×zd) :=
 (cl (call n 243 [(V.ptr c 0)] h) (fun r0 h1 =>
 (Zr r0 fun v3 =>
 (bd (bop prog .eql 3 v3 (V.int .i64 0)) fun v4 =>
 (bv v4 fun b5=>if b5 then
 some (Res.ret [(V.bool false)],h1)
 else
 (bd3 (zu h1 (V.ptr c 0)) fun cs7 m6 o8=>if (o8+1<=m6/\0 < 1) then
 (bd (cs7)[o8]? fun v9 =>
 (bd (ZE 1 0 v9) fun p10 =>
 (bd3 (zu h1 p10) fun cs12 m11 o13=>if (o13+1<=m11/\0 < 1) then
 (bd (cs12)[o13]? fun v14 =>
 (bd3 (zu h1 (V.ptr c 0)) fun cs16 m15 o17=>if (o17+1<=m15/\0 < 1) then
 (bd (cs16)[o17]? fun v18 =>
 (bd (QZ v18) fun n19 =>
 (bd (Z4 1 1 n19 (none:Option Nat) true v18) fun v20 =>
 (if ((V.cells v20)).length=1 then
 (bd2 (Zt h1 (V.cells v20) (V.ptr c 0)) fun b21 x22 =>
 some (Res.ret [v14],((h1).set b21 x22))) else none)))) else none)) else none))) else none))))) (fun z2 h1=>some (Res.pan z2,h1)))
theorem ziZ(n:Nat)(c:Nat)(h:zd):call (n+1) 236 [(V.ptr c 0)] h=ziY n c h:=by kernel_rfl
noncomputable def WR(n:Nat)(c:Nat)(st1:List V)(hh2:zd)(next3:List V->zd->Option (Res×zd)):Option (Res×zd) :=
 (bd (bop prog .eql 3 (gv st1 0) (V.int .i64 8)) fun v4 =>
 (bv v4 fun b5=>if b5 then
 some (Res.ret [(gv st1 0)],hh2)
 else
 (cl (call n 236 [(V.ptr c 0)] hh2) (fun r6 h7 =>
 (Zr r6 fun v9 =>
 (bd (uop .not v9) fun v10 =>
 (bv v10 fun b11=>if b11 then
 some (Res.ret [(gv st1 0)],h7)
 else
 (bd (bop prog .add 3 (gv st1 0) (V.int .i64 1)) fun v12 =>
 (next3 [v12] h7)))))) (fun z8 h7=>some (Res.pan z8,h7)))))
noncomputable def zdU(n:Nat)(c:Nat)(h:zd):Option (Res×zd) :=
 (zR n (WR n c) [(V.int .i64 1)] h)
theorem ze9(n:Nat)(c:Nat)(h:zd):call (n+1) 227 [(V.ptr c 0)] h=zdU n c h:=by kernel_rfl
noncomputable def Jm(n:Nat)(c:Nat)(st4:List V)(next6:List V->zd->Option (Res×zd))(v14:V)(st16:List V)(hh17:zd)(next18:List V->zd->Option (Res×zd)):Option (Res×zd) :=
 (bd (bop prog .lss 3 (gv st16 0) (V.int .i64 8)) fun v19 =>
 (bv v19 fun b20=>if b20 then
 (bd3 (zu hh17 (V.ptr c 0)) fun cs22 m21 o23=>if (o23+1<=m21/\0 < 1) then
 (bd (cs22)[o23]? fun v24 =>
 (bd (ZR hh17 v24) fun p25 =>
 (if (((p25.2).length:Int) == 20000) then
 some (Res.ret [],hh17)
 else
 (bd3 (zu hh17 (V.ptr c 0)) fun cs27 m26 o28=>if (o28+1<=m26/\0 < 1) then
 (bd (cs27)[o28]? fun v29 =>
 (bd (bop prog .shr 5 v14 (gv st16 0)) fun v30 =>
 (bd (bop prog .and 5 v30 (V.int .u8 1)) fun v31 =>
 (bd (bop prog .eql 5 v31 (V.int .u8 1)) fun v32 =>
 (bd (JY prog 73 1 [(0,v32)]) fun p33 =>
 (bd2 (WG 4 1 hh17 p33.2 v29) fun v34 h35 =>
 (if ((V.cells v34)).length=1 then
 (bd2 (Zt h35 (V.cells v34) (V.ptr c 0)) fun b36 x37 =>
 (bd (bop prog .add 3 (gv st16 0) (V.int .i64 1)) fun v38 =>
 (next18 [v38] ((h35).set b36 x37)))) else none))))))) else none)))) else none)
 else
 (bd (bop prog .add 3 (gv st4 0) (V.int .i64 1)) fun v39 =>
 (next6 [v39] hh17))))
noncomputable def J9(n:Nat)(c:Nat)(l:V)(p2:Nat×List (List V))(st4:List V)(hh5:zd)(next6:List V->zd->Option (Res×zd)):Option (Res×zd) :=
 (bd (bop prog .lss 3 (gv st4 0) (V.int .i64 ((p2.2).length:Int))) fun v7 =>
 (bv v7 fun b8=>if b8 then
 (bdS (nv (gv st4 0)) fun n9 =>
 (bd (ZE 1 n9 l) fun p10 =>
 (bd3 (zu hh5 p10) fun cs12 m11 o13=>if (o13+1<=m11/\0 < 1) then
 (bd (cs12)[o13]? fun v14 =>
 (zR n (Jm n c st4 next6 v14) [(V.int .i64 0)] hh5)) else none)))
 else
 some (Res.ret [],hh5)))
noncomputable def zi0(n:Nat)(c:Nat)(l:V)(h:zd):Option (Res×zd) :=
 (bd (Qb prog h .eql 122 (V.ptr c 0) (V.val (.pointer none))) fun v0 =>
 (bv v0 fun b1=>if b1 then
 some (Res.ret [],h)
 else
 (bd (ZR h l) fun p2 =>
 (zR n (J9 n c l p2) [(V.int .i64 0)] h))))
theorem zi1(n:Nat)(c:Nat)(l:V)(h:zd):call (n+1) 65 [(V.ptr c 0),l] h=zi0 n c l h:=by kernel_rfl
noncomputable def zm1(n:Nat)(x0:Int)(h:zd):Option (Res×zd) :=
 some (Res.ret [(V.ptr (h).length 0)],(h++[(HB.box 12 [(V.int .i32 0),(V.int .i64 0),(V.val (.pointer none)),(V.val (.pointer none)),(V.val (.pointer none)),(V.val (.pointer none)),(V.val (.pointer none)),(V.val (.pointer none)),(V.val (.pointer none)),(V.val (.pointer none)),(V.int .i64 0),(V.int .i64 (if 0 < (if 1000 < x0 then 1000 else x0) then(if 1000 < x0 then 1000 else x0) else 0))])]))
theorem zlu(n:Nat)(x0:Int)(h:zd):call (n+1) 61 [(V.int .i64 x0)] h=zm1 n x0 h:=by kernel_rfl
noncomputable def zi2(n:Nat)(s:Nat)(h:zd):Option (Res×zd) :=
 (bd (Qb prog h .eql 117 (V.ptr s 0) (V.val (.pointer none))) fun v0 =>
 (bv v0 fun b1=>if b1 then
 some (Res.ret [(V.int .i64 0)],h)
 else
 (bd3 (zu h (V.ptr s 11)) fun cs3 m2 o4=>if (o4+1<=m2/\0 < 1) then
 (bd (cs3)[o4]? fun v5 =>
 some (Res.ret [v5],h)) else none)))
theorem zi3(n:Nat)(s:Nat)(h:zd):call (n+1) 226 [(V.ptr s 0)] h=zi2 n s h:=by kernel_rfl
noncomputable def zm2(n:Nat)(s:Nat)(h:zd):Option (Res×zd) :=
 (bd (Qb prog h .eql 117 (V.ptr s 0) (V.val (.pointer none))) fun v0 =>
 (bv v0 fun b1=>if b1 then
 some (Res.ret [(V.int .i64 0)],h)
 else
 (bd3 (zu h (V.ptr s 10)) fun cs3 m2 o4=>if (o4+1<=m2/\0 < 1) then
 (bd (cs3)[o4]? fun v5 =>
 some (Res.ret [v5],h)) else none)))
theorem zlv(n:Nat)(s:Nat)(h:zd):call (n+1) 218 [(V.ptr s 0)] h=zm2 n s h:=by kernel_rfl
noncomputable def Ww(n:Nat)(s:Nat)(st1:List V)(hh2:zd)(next3:List V->zd->Option (Res×zd)):Option (Res×zd) :=
 (bd (bop prog .lss 3 (gv st1 2) (V.int .i64 8)) fun v4 =>
 (bv v4 fun b5=>if b5 then
 (bd (nv (gv st1 2)) fun n6 =>
 (if (n6 < 8) then
 (if (0=0/\(n6 * 1)+1<=8) then
 (bd (bop prog .add 3 (gv st1 2) (V.int .i64 1)) fun v7 =>
 (next3 [(V.agg (lcs (gv st1 0))),(V.agg (setR (lcs (gv st1 1)) (n6 * 1) [(V.ptr s 0)])),v7] hh2)) else none) else none))
 else
 (if ((((lcs (gv st1 1))).drop 0 |>.take 8)).length=8 then
 (if (((((lcs (gv st1 1))).drop 0 |>.take 8)).length<=8) then
 some (Res.ret [(V.agg (((setR (lcs (gv st1 0)) 0 (((lcs (gv st1 1))).drop 0 |>.take 8))).drop 0 |>.take 8))],hh2) else none) else none)))
noncomputable def zf3(n:Nat)(s:Nat)(h:zd):Option (Res×zd) :=
 (zR n (Ww n s) [(V.agg [(V.val (.pointer none)),(V.val (.pointer none)),(V.val (.pointer none)),(V.val (.pointer none)),(V.val (.pointer none)),(V.val (.pointer none)),(V.val (.pointer none)),(V.val (.pointer none))]),(V.agg [(V.val (.pointer none)),(V.val (.pointer none)),(V.val (.pointer none)),(V.val (.pointer none)),(V.val (.pointer none)),(V.val (.pointer none)),(V.val (.pointer none)),(V.val (.pointer none))]),(V.int .i64 0)] h)
theorem zgX(n:Nat)(s:Nat)(h:zd):call (n+1) 230 [(V.ptr s 0)] h=zf3 n s h:=by kernel_rfl
noncomputable def zm3(n:Nat)(t:Nat)(o:Nat)(h:zd):Option (Res×zd) :=
 (bd (Qb prog h .eql 177 (V.ptr t 0) (V.ptr o 0)) fun v0 =>
 (bv v0 fun b1=>if b1 then
 some (Res.ret [(V.bool false)],h)
 else
 (bd3 (zu h (V.ptr t 1)) fun cs3 m2 o4=>if (o4+1<=m2/\0 < 1) then
 (bd (cs3)[o4]? fun v5 =>
 (bd (bop prog .eql 3 v5 (V.int .i64 0)) fun v6 =>
 (bv v6 fun b7=>if b7 then
 some (Res.ret [(V.bool false)],h)
 else
 (bd3 (zu h (V.ptr o 1)) fun cs9 m8 o10=>if (o10+1<=m8/\0 < 1) then
 (bd (cs9)[o10]? fun v11 =>
 (bd (bop prog .eql 3 v11 (V.int .i64 0)) fun v12 =>
 (bv v12 fun b13=>if b13 then
 some (Res.ret [(V.bool true)],h)
 else
 (bd3 (zu h (V.ptr t 0)) fun cs15 m14 o16=>if (o16+1<=m14/\0 < 1) then
 (bd (cs15)[o16]? fun v17 =>
 (bd3 (zu h (V.ptr o 0)) fun cs19 m18 o20=>if (o20+1<=m18/\0 < 1) then
 (bd (cs19)[o20]? fun v21 =>
 (bd (bop prog .geq 21 v17 v21) fun v22 =>
 some (Res.ret [v22],h))) else none)) else none)))) else none)))) else none)))
theorem zlw(n:Nat)(t:Nat)(o:Nat)(h:zd):call (n+1) 245 [(V.ptr t 0),(V.ptr o 0)] h=zm3 n t o h:=by kernel_rfl
noncomputable def tall(n:Nat)(x0:Int)(x1:Int)(h:zd):Option (Res×zd) :=
 some (Res.ret [(V.ptr (h).length 0)],(h++[(HB.box 10 [(V.int .i32 x0),(V.int .i64 (if 1 < (if 8 < x1 then 8 else x1) then(if 8 < x1 then 8 else x1) else 1)),(V.val (.pointer none)),(V.val (.pointer none)),(V.val (.pointer none)),(V.val (.pointer none)),(V.val (.pointer none)),(V.val (.pointer none)),(V.val (.pointer none)),(V.val (.pointer none))])]))
theorem zsn(n:Nat)(x0:Int)(x1:Int)(h:zd):call (n+1) 232 [(V.int .i32 x0),(V.int .i64 x1)] h=tall n x0 x1 h:=by kernel_rfl
noncomputable def Qf(n:Nat)(v:Int)(st1:List V)(next3:List V->zd->Option (Res×zd))(st19:List V)(hh20:zd)(next21:List V->zd->Option (Res×zd)):Option (Res×zd) :=
 (bd (Qb prog hh20 .neq 177 (gv st19 3) (V.val (.pointer none))) fun v22 =>
 (bv v22 fun b23=>if b23 then
 (bd (ZL 0 (gv st19 3)) fun p24 =>
 (bd (ZL 0 p24) fun p25 =>
 (bd3 (zu hh20 p25) fun cs27 m26 o28=>if (o28+1<=m26/\0 < 1) then
 (bd (cs27)[o28]? fun v29 =>
 (bd (bop prog .leq 21 v29 (V.int .i32 v)) fun v30 =>
 (bv v30 fun b31=>if b31 then
 (bd (ZL 0 (gv st19 3)) fun p32 =>
 (bd (ZL 2 p32) fun p33 =>
 (bd (nv (gv st1 3)) fun n34 =>
 (if (n34 < 8) then
 (bd (ZL (n34 * 1) p33) fun p35 =>
 (bd3 (zu hh20 p35) fun cs37 m36 o38=>if (o38+1<=m36/\0 < 1) then
 (bd (cs37)[o38]? fun v39 =>
 (next21 [(V.agg (lcs (gv st19 0))),(V.agg (lcs (gv st19 1))),(gv st19 3),v39] hh20)) else none)) else none))))
 else
 (bd (nv (gv st1 3)) fun n40 =>
 (if (n40 < 8) then
 (if ((V.cells (gv st19 2))).length=1 then
 (if (0=0/\(n40 * 1)+((V.cells (gv st19 2))).length<=8) then
 (bd (bop prog .sub 3 (gv st1 3) (V.int .i64 1)) fun v41 =>
 (next3 [(V.agg (setR (lcs (gv st19 0)) (n40 * 1) (V.cells (gv st19 2)))),(V.agg (lcs (gv st19 1))),(gv st19 2),v41] hh20)) else none) else none) else none))))) else none)))
 else
 (bd (nv (gv st1 3)) fun n42 =>
 (if (n42 < 8) then
 (if ((V.cells (gv st19 2))).length=1 then
 (if (0=0/\(n42 * 1)+((V.cells (gv st19 2))).length<=8) then
 (bd (bop prog .sub 3 (gv st1 3) (V.int .i64 1)) fun v43 =>
 (next3 [(V.agg (setR (lcs (gv st19 0)) (n42 * 1) (V.cells (gv st19 2)))),(V.agg (lcs (gv st19 1))),(gv st19 2),v43] hh20)) else none) else none) else none))))
noncomputable def zdV(n:Nat)(v:Int)(st1:List V)(next3:List V->zd->Option (Res×zd))(st62:List V)(hh63:zd)(next64:List V->zd->Option (Res×zd)):Option (Res×zd) :=
 (bd (Qb prog hh63 .neq 177 (gv st62 3) (V.val (.pointer none))) fun v65 =>
 (bv v65 fun b66=>if b66 then
 (bd (ZL 0 (gv st62 3)) fun p67 =>
 (bd (ZL 0 p67) fun p68 =>
 (bd3 (zu hh63 p68) fun cs70 m69 o71=>if (o71+1<=m69/\0 < 1) then
 (bd (cs70)[o71]? fun v72 =>
 (bd (bop prog .leq 21 v72 (V.int .i32 v)) fun v73 =>
 (bv v73 fun b74=>if b74 then
 (bd (ZL 0 (gv st62 3)) fun p75 =>
 (bd (ZL 2 p75) fun p76 =>
 (bd (nv (gv st1 3)) fun n77 =>
 (if (n77 < 8) then
 (bd (ZL (n77 * 1) p76) fun p78 =>
 (bd3 (zu hh63 p78) fun cs80 m79 o81=>if (o81+1<=m79/\0 < 1) then
 (bd (cs80)[o81]? fun v82 =>
 (next64 [(V.agg (lcs (gv st62 0))),(V.agg (lcs (gv st62 1))),(gv st62 3),v82] hh63)) else none)) else none))))
 else
 (bd (nv (gv st1 3)) fun n83 =>
 (if (n83 < 8) then
 (if ((V.cells (gv st62 2))).length=1 then
 (if (0=0/\(n83 * 1)+((V.cells (gv st62 2))).length<=8) then
 (bd (bop prog .sub 3 (gv st1 3) (V.int .i64 1)) fun v84 =>
 (next3 [(V.agg (setR (lcs (gv st62 0)) (n83 * 1) (V.cells (gv st62 2)))),(V.agg (lcs (gv st62 1))),(gv st62 2),v84] hh63)) else none) else none) else none))))) else none)))
 else
 (bd (nv (gv st1 3)) fun n85 =>
 (if (n85 < 8) then
 (if ((V.cells (gv st62 2))).length=1 then
 (if (0=0/\(n85 * 1)+((V.cells (gv st62 2))).length<=8) then
 (bd (bop prog .sub 3 (gv st1 3) (V.int .i64 1)) fun v86 =>
 (next3 [(V.agg (setR (lcs (gv st62 0)) (n85 * 1) (V.cells (gv st62 2)))),(V.agg (lcs (gv st62 1))),(gv st62 2),v86] hh63)) else none) else none) else none))))
noncomputable def zdW(n:Nat)(v:Int)(st1:List V)(next3:List V->zd->Option (Res×zd))(st96:List V)(hh97:zd)(next98:List V->zd->Option (Res×zd)):Option (Res×zd) :=
 (bd (Qb prog hh97 .neq 177 (gv st96 3) (V.val (.pointer none))) fun v99 =>
 (bv v99 fun b100=>if b100 then
 (bd (ZL 0 (gv st96 3)) fun p101 =>
 (bd (ZL 0 p101) fun p102 =>
 (bd3 (zu hh97 p102) fun cs104 m103 o105=>if (o105+1<=m103/\0 < 1) then
 (bd (cs104)[o105]? fun v106 =>
 (bd (bop prog .leq 21 v106 (V.int .i32 v)) fun v107 =>
 (bv v107 fun b108=>if b108 then
 (bd (ZL 0 (gv st96 3)) fun p109 =>
 (bd (ZL 2 p109) fun p110 =>
 (bd (nv (gv st1 3)) fun n111 =>
 (if (n111 < 8) then
 (bd (ZL (n111 * 1) p110) fun p112 =>
 (bd3 (zu hh97 p112) fun cs114 m113 o115=>if (o115+1<=m113/\0 < 1) then
 (bd (cs114)[o115]? fun v116 =>
 (next98 [(V.agg (lcs (gv st96 0))),(V.agg (lcs (gv st96 1))),(gv st96 3),v116] hh97)) else none)) else none))))
 else
 (bd (nv (gv st1 3)) fun n117 =>
 (if (n117 < 8) then
 (if ((V.cells (gv st96 2))).length=1 then
 (if (0=0/\(n117 * 1)+((V.cells (gv st96 2))).length<=8) then
 (bd (bop prog .sub 3 (gv st1 3) (V.int .i64 1)) fun v118 =>
 (next3 [(V.agg (setR (lcs (gv st96 0)) (n117 * 1) (V.cells (gv st96 2)))),(V.agg (lcs (gv st96 1))),(gv st96 2),v118] hh97)) else none) else none) else none))))) else none)))
 else
 (bd (nv (gv st1 3)) fun n119 =>
 (if (n119 < 8) then
 (if ((V.cells (gv st96 2))).length=1 then
 (if (0=0/\(n119 * 1)+((V.cells (gv st96 2))).length<=8) then
 (bd (bop prog .sub 3 (gv st1 3) (V.int .i64 1)) fun v120 =>
 (next3 [(V.agg (setR (lcs (gv st96 0)) (n119 * 1) (V.cells (gv st96 2)))),(V.agg (lcs (gv st96 1))),(gv st96 2),v120] hh97)) else none) else none) else none))))
noncomputable def Wa(n:Nat)(v:Int)(st1:List V)(hh2:zd)(next3:List V->zd->Option (Res×zd)):Option (Res×zd) :=
 (bd (bop prog .geq 3 (gv st1 3) (V.int .i64 0)) fun v4 =>
 (bv v4 fun b5=>if b5 then
 (bd (Qb prog hh2 .eql 177 (gv st1 2) (V.val (.pointer none))) fun v6 =>
 (bv v6 fun b7=>if b7 then
 (bd (nv (gv st1 3)) fun n8 =>
 (if (n8 < 8) then
 (if ((n8 * 1)+1<=8/\0 < 1) then
 (bd ((lcs (gv st1 0)))[(n8 * 1)]? fun v9 =>
 (bd (ZL 0 v9) fun p10 =>
 (bd (ZL 2 p10) fun p11 =>
 (bd (nv (gv st1 3)) fun n12 =>
 (if (n12 < 8) then
 (bd (ZL (n12 * 1) p11) fun p13 =>
 (bd3 (zu hh2 p13) fun cs15 m14 o16=>if (o16+1<=m14/\0 < 1) then
 (bd (cs15)[o16]? fun v17 =>
 (zR n (Qf n v st1 next3) [(V.agg (lcs (gv st1 0))),(V.agg (lcs (gv st1 1))),v9,v17] hh2)) else none)) else none))))) else none) else none))
 else
 (bd (nv (gv st1 3)) fun n44 =>
 (if (n44 < 8) then
 (if ((n44 * 1)+1<=8/\0 < 1) then
 (bd ((lcs (gv st1 0)))[(n44 * 1)]? fun v45 =>
 (cl (call n 245 [v45,(gv st1 2)] hh2) (fun r46 h47 =>
 (Zr r46 fun v49 =>
 (bv v49 fun b50=>if b50 then
 (bd (nv (gv st1 3)) fun n51 =>
 (if (n51 < 8) then
 (if ((n51 * 1)+1<=8/\0 < 1) then
 (bd ((lcs (gv st1 0)))[(n51 * 1)]? fun v52 =>
 (bd (ZL 0 v52) fun p53 =>
 (bd (ZL 2 p53) fun p54 =>
 (bd (nv (gv st1 3)) fun n55 =>
 (if (n55 < 8) then
 (bd (ZL (n55 * 1) p54) fun p56 =>
 (bd3 (zu h47 p56) fun cs58 m57 o59=>if (o59+1<=m57/\0 < 1) then
 (bd (cs58)[o59]? fun v60 =>
 (zR n (zdV n v st1 next3) [(V.agg (lcs (gv st1 0))),(V.agg (lcs (gv st1 1))),v52,v60] h47)) else none)) else none))))) else none) else none))
 else
 (bd (ZL 0 (gv st1 2)) fun p87 =>
 (bd (ZL 2 p87) fun p88 =>
 (bd (nv (gv st1 3)) fun n89 =>
 (if (n89 < 8) then
 (bd (ZL (n89 * 1) p88) fun p90 =>
 (bd3 (zu h47 p90) fun cs92 m91 o93=>if (o93+1<=m91/\0 < 1) then
 (bd (cs92)[o93]? fun v94 =>
 (zR n (zdW n v st1 next3) [(V.agg (lcs (gv st1 0))),(V.agg (lcs (gv st1 1))),(gv st1 2),v94] h47)) else none)) else none))))))) (fun z48 h47=>some (Res.pan z48,h47)))) else none) else none))))
 else
 (if ((((lcs (gv st1 0))).drop 0 |>.take 8)).length=8 then
 (if (((((lcs (gv st1 0))).drop 0 |>.take 8)).length<=8) then
 some (Res.ret [(V.agg (((setR (lcs (gv st1 1)) 0 (((lcs (gv st1 0))).drop 0 |>.take 8))).drop 0 |>.take 8))],hh2) else none) else none)))
noncomputable def zp6(n:Nat)(p:List V)(v:Int)(h:zd):Option (Res×zd) :=
 (if (p).length=8 then
 (zR n (Wa n v) [(V.agg p),(V.agg [(V.val (.pointer none)),(V.val (.pointer none)),(V.val (.pointer none)),(V.val (.pointer none)),(V.val (.pointer none)),(V.val (.pointer none)),(V.val (.pointer none)),(V.val (.pointer none))]),(V.val (.pointer none)),(V.int .i64 7)] h) else none)
theorem zoo(n:Nat)(p:List V)(v:Int)(h:zd):call (n+1) 238 [(V.agg p),(V.int .i32 v)] h=zp6 n p v h:=by kernel_rfl
noncomputable def YH(n:Nat)(t:Nat)(v3:V)(st5:List V)(hh6:zd)(next7:List V->zd->Option (Res×zd)):Option (Res×zd) :=
 (bd (bop prog .lss 3 (gv st5 2) v3) fun v8 =>
 (bv v8 fun b9=>if b9 then
 (bd (nv (gv st5 2)) fun n10 =>
 (if (n10 < 8) then
 (if ((n10 * 1)+1<=8/\0 < 1) then
 (bd ((lcs (gv st5 0)))[(n10 * 1)]? fun v11 =>
 (bd (ZL 0 v11) fun p12 =>
 (bd (ZL 2 p12) fun p13 =>
 (bd (nv (gv st5 2)) fun n14 =>
 (if (n14 < 8) then
 (bd (ZL (n14 * 1) p13) fun p15 =>
 (bd3 (zu hh6 p15) fun cs17 m16 o18=>if (o18+1<=m16/\0 < 1) then
 (bd (cs17)[o18]? fun v19 =>
 (bd (nv (gv st5 2)) fun n20 =>
 (if (n20 < 8) then
 (if ((V.cells v19)).length=1 then
 (bd2 (Zt hh6 (V.cells v19) (V.ptr t (2+(n20 * 1)))) fun b21 x22 =>
 (bd (nv (gv st5 2)) fun n23 =>
 (if (n23 < 8) then
 (if ((n23 * 1)+1<=8/\0 < 1) then
 (bd ((lcs (gv st5 0)))[(n23 * 1)]? fun v24 =>
 (bd (ZL 0 v24) fun p25 =>
 (bd (ZL 2 p25) fun p26 =>
 (bd (nv (gv st5 2)) fun n27 =>
 (if (n27 < 8) then
 (bd (ZL (n27 * 1) p26) fun p28 =>
 (bd2 (Zt ((hh6).set b21 x22) [(V.ptr t 0)] p28) fun b29 x30 =>
 (bd (nv (gv st5 2)) fun n31 =>
 (if (n31 < 8) then
 (if (0=0/\(n31 * 1)+1<=8) then
 (bd (bop prog .add 3 (gv st5 2) (V.int .i64 1)) fun v32 =>
 (next7 [(V.agg (setR (lcs (gv st5 0)) (n31 * 1) [(V.ptr t 0)])),(V.agg (lcs (gv st5 1))),v32] ((((hh6).set b21 x22)).set b29 x30))) else none) else none)))) else none))))) else none) else none))) else none) else none))) else none)) else none))))) else none) else none))
 else
 (if ((((lcs (gv st5 0))).drop 0 |>.take 8)).length=8 then
 (if (((((lcs (gv st5 0))).drop 0 |>.take 8)).length<=8) then
 some (Res.ret [(V.agg (((setR (lcs (gv st5 1)) 0 (((lcs (gv st5 0))).drop 0 |>.take 8))).drop 0 |>.take 8))],hh6) else none) else none)))
noncomputable def zm4(n:Nat)(p:List V)(t:Nat)(h:zd):Option (Res×zd) :=
 (if (p).length=8 then
 (bd3 (zu h (V.ptr t 1)) fun cs1 m0 o2=>if (o2+1<=m0/\0 < 1) then
 (bd (cs1)[o2]? fun v3 =>
 (zR n (YH n t v3) [(V.agg p),(V.agg [(V.val (.pointer none)),(V.val (.pointer none)),(V.val (.pointer none)),(V.val (.pointer none)),(V.val (.pointer none)),(V.val (.pointer none)),(V.val (.pointer none)),(V.val (.pointer none))]),(V.int .i64 0)] h)) else none) else none)
theorem zlx(n:Nat)(p:List V)(t:Nat)(h:zd):call (n+1) 231 [(V.agg p),(V.ptr t 0)] h=zm4 n p t h:=by kernel_rfl
noncomputable def zdX(n:Nat)(s:Nat)(v:Int)(k:Int)(h:zd):Option (Res×zd) :=
 (bd (Qb prog h .eql 117 (V.ptr s 0) (V.val (.pointer none))) fun v0 =>
 (bv v0 fun b1=>if b1 then
 some (Res.ret [(V.bool false)],h)
 else
 (bd3 (zu h (V.ptr s 10)) fun cs3 m2 o4=>if (o4+1<=m2/\0 < 1) then
 (bd (cs3)[o4]? fun v5 =>
 (bd3 (zu h (V.ptr s 11)) fun cs7 m6 o8=>if (o8+1<=m6/\0 < 1) then
 (bd (cs7)[o8]? fun v9 =>
 (bd (bop prog .geq 3 v5 v9) fun v10 =>
 (bv v10 fun b11=>if b11 then
 some (Res.ret [(V.bool false)],h)
 else
 (cl (call n 230 [(V.ptr s 0)] h) (fun r12 h13 =>
 (Zr r12 fun v15 =>
 (cl (call n 238 [v15,(V.int .i32 v)] h13) (fun r16 h17 =>
 (Zr r16 fun v19 =>
 (cl (call n 232 [(V.int .i32 v),(V.int .i64 k)] h17) (fun r20 h21 =>
 (Zr r20 fun v23 =>
 (cl (call n 231 [v19,v23] h21) (fun r24 h25 =>
 (Zr r24 fun v27 =>
 (bd3 (zu h25 (V.ptr s 10)) fun cs29 m28 o30=>if (o30+1<=m28/\0 < 1) then
 (bd (cs29)[o30]? fun v31 =>
 (bd (bop prog .add 3 v31 (V.int .i64 1)) fun v32 =>
 (if ((V.cells v32)).length=1 then
 (bd2 (Zt h25 (V.cells v32) (V.ptr s 10)) fun b33 x34 =>
 some (Res.ret [(V.bool true)],((h25).set b33 x34))) else none))) else none))) (fun z26 h25=>some (Res.pan z26,h25))))) (fun z22 h21=>some (Res.pan z22,h21))))) (fun z18 h17=>some (Res.pan z18,h17))))) (fun z14 h13=>some (Res.pan z14,h13)))))) else none)) else none)))
theorem zfa(n:Nat)(s:Nat)(v:Int)(k:Int)(h:zd):call (n+1) 233 [(V.ptr s 0),(V.int .i32 v),(V.int .i64 k)] h=zdX n s v k h:=by kernel_rfl
noncomputable def JT(n:Nat)(s:Nat)(l:V)(m:V)(p15:Nat×List (List V))(st17:List V)(hh18:zd)(next19:List V->zd->Option (Res×zd)):Option (Res×zd) :=
 (bd (bop prog .lss 3 (gv st17 4) (V.int .i64 ((p15.2).length:Int))) fun v20 =>
 (bv v20 fun b21=>if b21 then
 (bdS (nv (gv st17 4)) fun n22 =>
 (bd (ZE 1 n22 l) fun p23 =>
 (bd3 (zu hh18 p23) fun cs25 m24 o26=>if (o26+1<=m24/\0 < 1) then
 (bd (cs25)[o26]? fun v27 =>
 (bd3 (zu hh18 (V.ptr s 10)) fun cs29 m28 o30=>if (o30+1<=m28/\0 < 1) then
 (bd (cs29)[o30]? fun v31 =>
 (bd3 (zu hh18 (V.ptr s 11)) fun cs33 m32 o34=>if (o34+1<=m32/\0 < 1) then
 (bd (cs33)[o34]? fun v35 =>
 (bd (bop prog .geq 3 v31 v35) fun v36 =>
 (bv v36 fun b37=>if b37 then
 some (Res.ret [(V.sl 1 (lsl (gv st17 1)) false)],hh18)
 else
 (bd (ZR hh18 m) fun p38 =>
 (bd (bop prog .lss 3 (gv st17 4) (V.int .i64 ((p38.2).length:Int))) fun v39 =>
 (bv v39 fun b40=>if b40 then
 (bdS (nv (gv st17 4)) fun n41 =>
 (bd (ZE 1 n41 m) fun p42 =>
 (bd3 (zu hh18 p42) fun cs44 m43 o45=>if (o45+1<=m43/\0 < 1) then
 (bd (cs44)[o45]? fun v46 =>
 (cl (call n 238 [(V.agg (((lcs (gv st17 2))).drop 0 |>.take 8)),v27] hh18) (fun r47 h48 =>
 (Zr r47 fun v50 =>
 (cl (call n 232 [v27,v46] h48) (fun r51 h52 =>
 (Zr r51 fun v54 =>
 (cl (call n 231 [v50,v54] h52) (fun r55 h56 =>
 (Zr r55 fun v58 =>
 (if ((V.cells v58)).length=8 then
 (if (((V.cells v58)).length<=8) then
 (bd3 (zu h56 (V.ptr s 10)) fun cs60 m59 o61=>if (o61+1<=m59/\0 < 1) then
 (bd (cs60)[o61]? fun v62 =>
 (bd (bop prog .add 3 v62 (V.int .i64 1)) fun v63 =>
 (if ((V.cells v63)).length=1 then
 (bd2 (Zt h56 (V.cells v63) (V.ptr s 10)) fun b64 x65 =>
 (bdS (nv (gv st17 4)) fun n66 =>
 (if (1=1/\n66 < ((lsl (gv st17 1))).length/\(some 65:Option Nat)≠some 7) then
 (bd ((lsl (gv st17 1)))[n66]? fun es67 =>
 (bd (bop prog .add 3 (gv st17 4) (V.int .i64 1)) fun v68 =>
 (next19 [(V.sl 1 (lsl (gv st17 0)) false),(V.sl 1 (((lsl (gv st17 1))).set n66 (setR es67 0 [(V.bool true)])) false),(V.agg (setR (lcs (gv st17 2)) 0 (V.cells v58))),(V.bool false),v68] ((h56).set b64 x65)))) else none))) else none))) else none) else none) else none))) (fun z57 h56=>some (Res.pan z57,h56))))) (fun z53 h52=>some (Res.pan z53,h52))))) (fun z49 h48=>some (Res.pan z49,h48)))) else none)))
 else
 (cl (call n 238 [(V.agg (((lcs (gv st17 2))).drop 0 |>.take 8)),v27] hh18) (fun r69 h70 =>
 (Zr r69 fun v72 =>
 (cl (call n 232 [v27,(V.int .i64 1)] h70) (fun r73 h74 =>
 (Zr r73 fun v76 =>
 (cl (call n 231 [v72,v76] h74) (fun r77 h78 =>
 (Zr r77 fun v80 =>
 (if ((V.cells v80)).length=8 then
 (if (((V.cells v80)).length<=8) then
 (bd3 (zu h78 (V.ptr s 10)) fun cs82 m81 o83=>if (o83+1<=m81/\0 < 1) then
 (bd (cs82)[o83]? fun v84 =>
 (bd (bop prog .add 3 v84 (V.int .i64 1)) fun v85 =>
 (if ((V.cells v85)).length=1 then
 (bd2 (Zt h78 (V.cells v85) (V.ptr s 10)) fun b86 x87 =>
 (bdS (nv (gv st17 4)) fun n88 =>
 (if (1=1/\n88 < ((lsl (gv st17 1))).length/\(some 65:Option Nat)≠some 7) then
 (bd ((lsl (gv st17 1)))[n88]? fun es89 =>
 (bd (bop prog .add 3 (gv st17 4) (V.int .i64 1)) fun v90 =>
 (next19 [(V.sl 1 (lsl (gv st17 0)) false),(V.sl 1 (((lsl (gv st17 1))).set n88 (setR es89 0 [(V.bool true)])) false),(V.agg (setR (lcs (gv st17 2)) 0 (V.cells v80))),(V.bool false),v90] ((h78).set b86 x87)))) else none))) else none))) else none) else none) else none))) (fun z79 h78=>some (Res.pan z79,h78))))) (fun z75 h74=>some (Res.pan z75,h74))))) (fun z71 h70=>some (Res.pan z71,h70))))))))) else none)) else none)) else none)))
 else
 some (Res.ret [(V.sl 1 (lsl (gv st17 1)) false)],hh18)))
noncomputable def zf4(n:Nat)(s:Nat)(l:V)(m:V)(h:zd):Option (Res×zd) :=
 (bd (ZR h l) fun p0 =>
 (bdS (nv (V.int .i64 ((p0.2).length:Int))) fun n1 =>
 (bdS (nv (V.int .i64 ((p0.2).length:Int))) fun n2 =>
 (if (n1<=n2/\n2 < lim/\1=1) then
 (bd (Qb prog h .eql 117 (V.ptr s 0) (V.val (.pointer none))) fun v3 =>
 (bv v3 fun b4=>if b4 then
 some (Res.ret [(V.sl 1 (List.replicate n1 [(V.bool false)]) false)],h)
 else
 (cl (call n 237 [l] h) (fun r5 h6 =>
 (Zr r5 fun v8 =>
 (bd (uop .not v8) fun v9 =>
 (bv v9 fun b10=>if b10 then
 some (Res.ret [(V.sl 1 (List.replicate n1 [(V.bool false)]) false)],h6)
 else
 (cl (call n 230 [(V.ptr s 0)] h6) (fun r11 h12 =>
 (Zr r11 fun v14 =>
 (if ((V.cells v14)).length=8 then
 (if (((V.cells v14)).length<=8) then
 (bd (ZR h12 l) fun p15 =>
 (zR n (JT n s l m p15) [(V.sl 1 [] false),(V.sl 1 (List.replicate n1 [(V.bool false)]) false),(V.agg (setR [(V.val (.pointer none)),(V.val (.pointer none)),(V.val (.pointer none)),(V.val (.pointer none)),(V.val (.pointer none)),(V.val (.pointer none)),(V.val (.pointer none)),(V.val (.pointer none))] 0 (V.cells v14))),(V.bool false),(V.int .i64 0)] h12)) else none) else none))) (fun z13 h12=>some (Res.pan z13,h12))))))) (fun z7 h6=>some (Res.pan z7,h6))))) else none))))
theorem zgY(n:Nat)(s:Nat)(l:V)(m:V)(h:zd):call (n+1) 228 [(V.ptr s 0),l,m] h=zf4 n s l m h:=by kernel_rfl
noncomputable def QU(n:Nat)(s:Nat)(v9:V)(v15:V)(st17:List V)(hh18:zd)(next19:List V->zd->Option (Res×zd)):Option (Res×zd) :=
 (bd (bop prog .lss 3 (gv st17 0) v15) fun v20 =>
 (bv v20 fun b21=>if b21 then
 (bd (ZL 0 v9) fun p22 =>
 (bd (ZL 2 p22) fun p23 =>
 (bd (nv (gv st17 0)) fun n24 =>
 (if (n24 < 8) then
 (bd (ZL (n24 * 1) p23) fun p25 =>
 (bd3 (zu hh18 p25) fun cs27 m26 o28=>if (o28+1<=m26/\0 < 1) then
 (bd (cs27)[o28]? fun v29 =>
 (bd (nv (gv st17 0)) fun n30 =>
 (if (n30 < 8) then
 (if ((V.cells v29)).length=1 then
 (bd2 (Zt hh18 (V.cells v29) (V.ptr s (2+(n30 * 1)))) fun b31 x32 =>
 (bd (bop prog .add 3 (gv st17 0) (V.int .i64 1)) fun v33 =>
 (next19 [v33] ((hh18).set b31 x32)))) else none) else none))) else none)) else none))))
 else
 (bd3 (zu hh18 (V.ptr s 10)) fun cs35 m34 o36=>if (o36+1<=m34/\0 < 1) then
 (bd (cs35)[o36]? fun v37 =>
 (bd (bop prog .sub 3 v37 (V.int .i64 1)) fun v38 =>
 (if ((V.cells v38)).length=1 then
 (bd2 (Zt hh18 (V.cells v38) (V.ptr s 10)) fun b39 x40 =>
 (bd (ZL 0 v9) fun p41 =>
 (bd (ZL 0 p41) fun p42 =>
 (bd3 (zu ((hh18).set b39 x40) p42) fun cs44 m43 o45=>if (o45+1<=m43/\0 < 1) then
 (bd (cs44)[o45]? fun v46 =>
 some (Res.ret [v46,(V.bool true)],((hh18).set b39 x40))) else none)))) else none))) else none)))
noncomputable def zgZ(n:Nat)(s:Nat)(h:zd):Option (Res×zd) :=
 (cl (call n 218 [(V.ptr s 0)] h) (fun r0 h1 =>
 (Zr r0 fun v3 =>
 (bd (bop prog .eql 3 v3 (V.int .i64 0)) fun v4 =>
 (bv v4 fun b5=>if b5 then
 some (Res.ret [(V.int .i32 0),(V.bool false)],h1)
 else
 (bd3 (zu h1 (V.ptr s 2)) fun cs7 m6 o8=>if (o8+1<=m6/\0 < 1) then
 (bd (cs7)[o8]? fun v9 =>
 (bd (ZL 0 v9) fun p10 =>
 (bd (ZL 1 p10) fun p11 =>
 (bd3 (zu h1 p11) fun cs13 m12 o14=>if (o14+1<=m12/\0 < 1) then
 (bd (cs13)[o14]? fun v15 =>
 (zR n (QU n s v9 v15) [(V.int .i64 0)] h1)) else none)))) else none))))) (fun z2 h1=>some (Res.pan z2,h1)))
theorem zdY(n:Nat)(s:Nat)(h:zd):call (n+1) 239 [(V.ptr s 0)] h=zgZ n s h:=by kernel_rfl
noncomputable def zly(n:Nat)(s:Nat)(k:Int)(h:zd):Option (Res×zd) :=
 some (Res.ret [(V.fn 132 [(V.ptr (h).length 0),(V.ptr ((h++[(HB.box 1 [(V.ptr s 0)])])).length 0)])],((h++[(HB.box 1 [(V.ptr s 0)])])++[(HB.box 1 [(V.int .i64 k)])]))
theorem zf5(n:Nat)(s:Nat)(k:Int)(h:zd):call (n+1) 100 [(V.ptr s 0),(V.int .i64 k)] h=zly n s k h:=by kernel_rfl
noncomputable def QV(n:Nat)(b:Nat)(k:Nat)(st19:List V)(hh20:zd)(next21:List V->zd->Option (Res×zd)):Option (Res×zd) :=
 (bd (Qb prog hh20 .neq 177 (gv st19 0) (V.val (.pointer none))) fun v22 =>
 (bv v22 fun b23=>if b23 then
 (bd2 (rnd n b [(gv st19 0)] hh20) fun t24 h25 =>
 (if t24 then
 (bd3 (zu h25 (V.ptr k 0)) fun cs27 m26 o28=>if (o28+1<=m26/\0 < 1) then
 (bd (cs27)[o28]? fun v29 =>
 (bd (bop prog .sub 3 v29 (V.int .i64 1)) fun v30 =>
 (bd (ZL 0 (gv st19 0)) fun p31 =>
 (bd (ZL 2 p31) fun p32 =>
 (bd (nv v30) fun n33 =>
 (if (n33 < 8) then
 (bd (ZL (n33 * 1) p32) fun p34 =>
 (bd3 (zu h25 p34) fun cs36 m35 o37=>if (o37+1<=m35/\0 < 1) then
 (bd (cs36)[o37]? fun v38 =>
 (next21 [v38] h25)) else none)) else none)))))) else none)
 else
 some (Res.ret [],h25)))
 else
 some (Res.ret [],hh20)))
noncomputable def zg0(n:Nat)(b:Nat)(s:Nat)(k:Nat)(h:zd):Option (Res×zd) :=
 (bd3 (zu h (V.ptr s 0)) fun cs1 m0 o2=>if (o2+1<=m0/\0 < 1) then
 (bd (cs1)[o2]? fun v3 =>
 (bd3 (zu h (V.ptr k 0)) fun cs5 m4 o6=>if (o6+1<=m4/\0 < 1) then
 (bd (cs5)[o6]? fun v7 =>
 (bd (bop prog .sub 3 v7 (V.int .i64 1)) fun v8 =>
 (bd (ZL 0 v3) fun p9 =>
 (bd (ZL 0 p9) fun p10 =>
 (bd (ZL 2 p10) fun p11 =>
 (bd (nv v8) fun n12 =>
 (if (n12 < 8) then
 (bd (ZL (n12 * 1) p11) fun p13 =>
 (bd3 (zu h p13) fun cs15 m14 o16=>if (o16+1<=m14/\0 < 1) then
 (bd (cs15)[o16]? fun v17 =>
 (zR n (QV n b k) [v17] h)) else none)) else none))))))) else none)) else none)
theorem zdZ(n:Nat)(b:Nat)(s:Nat)(k:Nat)(h:zd):call (n+1) 132 [(V.yld b),(V.ptr s 0),(V.ptr k 0)] h=zg0 n b s k h:=by kernel_rfl
noncomputable def jR(n:Nat)(x5:Nat)(b:Nat)(z20:V)(h:zd):Option (Bool×zd) :=
 (lpR ((h)[b]?) fun cD cV cF cP cA cB =>
 (bd3 (zu ((h).set b (HB.loop cD cV cF cP cA cB .busy)) (V.ptr x5 0)) fun cs15 m14 o16=>if (o16+1<=m14/\0 < 1) then
 (bd (cs15)[o16]? fun v17 =>
 (bd (ZL 0 z20) fun p18 =>
 (bd (ZL 0 p18) fun p19 =>
 (bd3 (zu ((h).set b (HB.loop cD cV cF cP cA cB .busy)) p19) fun cs21 m20 o22=>if (o22+1<=m20/\0 < 1) then
 (bd (cs21)[o22]? fun v23 =>
 (bd (JY prog 27 1 [(0,v23)]) fun p24 =>
 (bd2 (WG 21 1 ((h).set b (HB.loop cD cV cF cP cA cB .busy)) p24.2 v17) fun v25 h26 =>
 (if ((V.cells v25)).length=1 then
 (bd2 (Zt h26 (V.cells v25) (V.ptr x5 0)) fun b27 x28 =>
 (lpB ((((h26).set b27 x28))[b]?) fun eD eV eF eP eA eB=>some (true,(((h26).set b27 x28)).set b (HB.loop eD eV eF eP eA eB .ready)))) else none)))) else none)))) else none))
theorem zd0(n:Nat)(y0:Option V)(y1:Option V)(y4:Option V)(x5:Nat)(y7:Option V)(y8:Option V)(y9:Option V)(y10:Option V)(y11:Option V)(y12:Option V)(y13:Option V)(y14:Option V)(y15:Option V)(y16:Option V)(y17:Option V)(y18:Option V)(y19:Option V)(b:Nat)(z20:V)(h:zd):zbs prog (call n) X0 W1 n (L.textDraws prog) true [y0,y1,none,none,y4,some (V.ptr x5 0),none,y7,y8,y9,y10,y11,y12,y13,y14,y15,y16,y17,y18,y19,none,none,none,none,none,none,none,none,none] [20] (Yn (XB f70)) (Yo (XB f70)) b [z20] h=jR n x5 b z20 h:=by kernel_rfl
noncomputable def zbC(n:Nat)(s:Nat)(k:Int)(h:zd):Option (Res×zd) :=
 (bd (Qb prog h .eql 117 (V.ptr s 0) (V.val (.pointer none))) fun v0 =>
 (bv v0 fun b1=>if b1 then
 some (Res.ret [(V.row (h).length 1 0 0)],(h++[(HB.row 21 1 [] true)]))
 else
 (if (decide (k < 1)) then
 some (Res.ret [(V.row (h).length 1 0 0)],(h++[(HB.row 21 1 [] true)]))
 else
 (if (decide (k > 8)) then
 some (Res.ret [(V.row (h).length 1 0 0)],(h++[(HB.row 21 1 [] true)]))
 else
 (cl (call n 100 [(V.ptr s 0),(V.int .i64 k)] h) (fun r2 h3 =>
 (Zr r2 fun v5 =>
 (fnK v5 fun f6 c7=>if ((WW prog f6).isNone && (XX (Yn (XB f70)) && XX (Yo (XB f70))))=true then
 (clN (call n f6 ((V.yld ((((h3++[(HB.box 1 [(V.sl 0 [] true)])])++[(HB.row 21 1 [] true)])).length+1)) :: c7) (((h3++[(HB.box 1 [(V.sl 0 [] true)])])++[(HB.row 21 1 [] true)])++[HB.defb,HB.loop (((h3++[(HB.box 1 [(V.sl 0 [] true)])])++[(HB.row 21 1 [] true)])).length true [some (V.ptr s 0),some (V.int .i64 k),none,none,some (V.row ((h3++[(HB.box 1 [(V.sl 0 [] true)])])).length 1 0 0),some (V.ptr (h3).length 0),none,some (V.ptr s 0),some v0,some (V.bool false),some (V.int .i64 k),some (V.bool (decide (k < 1))),some (V.bool (decide (k < 1))),some (V.bool false),some (V.int .i64 k),some (V.bool (decide (k > 8))),some (V.bool false),some (V.ptr s 0),some (V.int .i64 k),some v5,none,none,none,none,none,none,none,none,none] [20] (Yn (XB f70)) (Yo (XB f70)) .ready])) fun h9=>lpE ((h9)[((((h3++[(HB.box 1 [(V.sl 0 [] true)])])++[(HB.row 21 1 [] true)])).length+1)]?) (
 (bd3 (zu ((h9).set ((((h3++[(HB.box 1 [(V.sl 0 [] true)])])++[(HB.row 21 1 [] true)])).length+1) HB.dead) (V.ptr (h3).length 0)) fun cs11 m10 o12=>if (o12+1<=m10/\0 < 1) then
 (bd (cs11)[o12]? fun v13 =>
 (dfB ((((h9).set ((((h3++[(HB.box 1 [(V.sl 0 [] true)])])++[(HB.row 21 1 [] true)])).length+1) HB.dead))[(((h3++[(HB.box 1 [(V.sl 0 [] true)])])++[(HB.row 21 1 [] true)])).length]?) (
 some (Res.ret [v13],((((h9).set ((((h3++[(HB.box 1 [(V.sl 0 [] true)])])++[(HB.row 21 1 [] true)])).length+1) HB.dead)).set (((h3++[(HB.box 1 [(V.sl 0 [] true)])])++[(HB.row 21 1 [] true)])).length HB.dead))))) else none)) (
 (dfB ((((h9).set ((((h3++[(HB.box 1 [(V.sl 0 [] true)])])++[(HB.row 21 1 [] true)])).length+1) HB.dead))[(((h3++[(HB.box 1 [(V.sl 0 [] true)])])++[(HB.row 21 1 [] true)])).length]?) (
 some (Res.ret [(V.row ((h3++[(HB.box 1 [(V.sl 0 [] true)])])).length 1 0 0)],((((h9).set ((((h3++[(HB.box 1 [(V.sl 0 [] true)])])++[(HB.row 21 1 [] true)])).length+1) HB.dead)).set (((h3++[(HB.box 1 [(V.sl 0 [] true)])])++[(HB.row 21 1 [] true)])).length HB.dead)))))) else none))) (fun z4 h3=>some (Res.pan z4,h3)))))))
theorem zaQ(n:Nat)(s:Nat)(k:Int)(h:zd):call (n+1) 70 [(V.ptr s 0),(V.int .i64 k)] h=zbC n s k h:=by kernel_rfl
noncomputable def zf6(n:Nat)(s:Nat)(h:zd):Option (Res×zd) :=
 (cl (call n 70 [(V.ptr s 0),(V.int .i64 1)] h) (fun r0 h1 =>
 (Zr r0 fun v3 =>
 some (Res.ret [v3],h1))) (fun z2 h1=>some (Res.pan z2,h1)))
theorem zg1(n:Nat)(s:Nat)(h:zd):call (n+1) 217 [(V.ptr s 0)] h=zf6 n s h:=by kernel_rfl
noncomputable def Wb(n:Nat)(l:V)(st2:List V)(hh3:zd)(next4:List V->zd->Option (Res×zd)):Option (Res×zd) :=
 (bd (bop prog .gtr 3 (gv st2 1) (V.int .i64 0)) fun v5 =>
 (bv v5 fun b6=>if b6 then
 (bdS (nv (gv st2 1)) fun n7 =>
 (bd (ZE 1 n7 l) fun p8 =>
 (bd3 (zu hh3 p8) fun cs10 m9 o11=>if (o11+1<=m9/\0 < 1) then
 (bd (cs10)[o11]? fun v12 =>
 (bd (bop prog .sub 3 (gv st2 1) (V.int .i64 1)) fun v13 =>
 (bdS (nv v13) fun n14 =>
 (bd (ZE 1 n14 l) fun p15 =>
 (bd3 (zu hh3 p15) fun cs17 m16 o18=>if (o18+1<=m16/\0 < 1) then
 (bd (cs17)[o18]? fun v19 =>
 (cl (call n 244 [v12,v19] hh3) (fun r20 h21 =>
 (Zr r20 fun v23 =>
 (bv v23 fun b24=>if b24 then
 some (Res.ret [(V.bool false)],h21)
 else
 (bd (bop prog .sub 3 (gv st2 1) (V.int .i64 1)) fun v25 =>
 (next4 [(gv st2 0),v25] h21))))) (fun z22 h21=>none))) else none))))) else none)))
 else
 some (Res.ret [(V.bool true)],hh3)))
noncomputable def zi4(n:Nat)(l:V)(h:zd):Option (Res×zd) :=
 (bd (ZR h l) fun p0 =>
 (zR n (Wb n l) [(V.bool false),(V.int .i64 (IntKind.i64.wrap (((p0.2).length:Int) - 1)))] h))
theorem zi5(n:Nat)(l:V)(h:zd):call (n+1) 237 [l] h=zi4 n l h:=by kernel_rfl
noncomputable def ztr(n:Nat)(x0:Int)(h:zd):Option (Res×zd) :=
 some (Res.ret [(V.bool (x0 != x0))],h)
theorem zp7(n:Nat)(x0:Int)(h:zd):call (n+1) 247 [(V.int .i32 x0)] h=ztr n x0 h:=by kernel_rfl
noncomputable def zm5(n:Nat)(x0:Int)(x1:Int)(h:zd):Option (Res×zd) :=
 (cl (call n 247 [(V.int .i32 x0)] h) (fun r0 h1 =>
 (Zr r0 fun v3 =>
 (bv v3 fun b4=>if b4 then
 (cl (call n 247 [(V.int .i32 x1)] h1) (fun r5 h6 =>
 (Zr r5 fun v8 =>
 (bd (uop .not v8) fun v9 =>
 (bv v9 fun b10=>if b10 then
 some (Res.ret [(V.bool true)],h6)
 else
 some (Res.ret [(V.bool (decide (x0 < x1)))],h6))))) (fun z7 h6=>some (Res.pan z7,h6)))
 else
 some (Res.ret [(V.bool (decide (x0 < x1)))],h1)))) (fun z2 h1=>some (Res.pan z2,h1)))
theorem zlz(n:Nat)(x0:Int)(x1:Int)(h:zd):call (n+1) 244 [(V.int .i32 x0),(V.int .i32 x1)] h=zm5 n x0 x1 h:=by kernel_rfl
noncomputable def zd1(n:Nat)(x0:Int)(x1:Int)(h:zd):Option (Res×zd) :=
 (cl (call n 247 [(V.int .i32 x0)] h) (fun r0 h1 =>
 (Zr r0 fun v3 =>
 (cl (call n 247 [(V.int .i32 x1)] h1) (fun r4 h5 =>
 (Zr r4 fun v7 =>
 (bv v3 fun b8=>if b8 then
 (bv v7 fun b9=>if b9 then
 some (Res.ret [(V.int .i64 0)],h5)
 else
 some (Res.ret [(V.int .i64 (-1))],h5))
 else
 (bv v7 fun b10=>if b10 then
 some (Res.ret [(V.int .i64 1)],h5)
 else
 (if (decide (x0 < x1)) then
 some (Res.ret [(V.int .i64 (-1))],h5)
 else
 (if (decide (x0 > x1)) then
 some (Res.ret [(V.int .i64 1)],h5)
 else
 some (Res.ret [(V.int .i64 0)],h5))))))) (fun z6 h5=>some (Res.pan z6,h5))))) (fun z2 h1=>some (Res.pan z2,h1)))
theorem zfb(n:Nat)(x0:Int)(x1:Int)(h:zd):call (n+1) 242 [(V.int .i32 x0),(V.int .i32 x1)] h=zd1 n x0 x1 h:=by kernel_rfl
end Go.Proofs.Tryz
set_option linter.unusedSimpArgs false
namespace Go.L
theorem zi6{h:zd}{b e sz lo hi:Nat}{l:List (List V)}{z:Bool}(hb:h[b]?=some (.row e sz l z))(h1:lo<=hi)(h2:hi<=l.length):Kg h b sz lo hi=some ((l.take hi).drop lo):=by
 simp only[Kg,hb];rw[if_pos ⟨trivial,h1,h2⟩]
theorem zop{h:zd}{b e sz:Nat}{l:List (List V)}{z:Bool}(hb:h[b]?=some (.row e sz l z)):Kg h b sz 0 l.length=some l:=by
 rw[zi6 hb (Ze _) (zl _),XJ,zO]
theorem Qx{h:zd}{b e sz lo hi:Nat}{l:List (List V)}{z:Bool}(hb:h[b]?=some (.row e sz l z))(h1:lo<=hi)(h2:hi<=l.length):ZR h (.row b sz lo hi)=some (sz,(l.take hi).drop lo):=by
 simp only[ZR,zi6 hb h1 h2,Z7]
theorem jS{h:zd}{b e sz:Nat}{l:List (List V)}{z:Bool}(hb:h[b]?=some (.row e sz l z)):ZR h (.row b sz 0 l.length)=some (sz,l):=by
 simp only[ZR,zop hb,Z7]
theorem YI(b sz lo hi:Nat):QZ (.row b sz lo hi)=some (hi - lo):=rfl
theorem J0{r sz u v a b:Nat}(h1:a<=b)(h2:b<=v - u)(ok:Bool):Z4 sz a b none ok (.row r sz u v)=some (.row r sz (u+a) (u+b)):=by
 simp only[Z4];rw[if_pos ⟨⟨h1,h2,trivial⟩,trivial⟩]
theorem XR{b sz lo hi n:Nat}(h:n < hi - lo):ZE sz n (.row b sz lo hi)=some (.rptr b sz (lo+n) 0):=by
 simp only[ZE];rw[if_pos ⟨trivial,h⟩]
theorem XD{h:zd}{b e sz i c:Nat}{l:List (List V)}{z:Bool}{es:List V}(hb:h[b]?=some (.row e sz l z))(h0:0 < sz)(hi:l[i]?=some es):zu h (.rptr b sz i c)=some (es,sz,c):=by
 simp only[zu,hb];rw[if_pos ⟨trivial,h0⟩];simp only[hi]
theorem zoq(k b sz i c:Nat):ZL k (.rptr b sz i c)=some (.rptr b sz i (c+k)):=rfl
theorem Wc{h:zd}{b e sz i c:Nat}{l:List (List V)}{z:Bool}{es vs:List V}(hb:h[b]?=some (.row e sz l z))(h0:0 < sz)(hc:c+vs.length<=sz)(hi:l[i]?=some es):Zt h vs (.rptr b sz i c)=some (b,.row e sz (l.set i (setR es c vs)) z):=by
 simp only[Zt,hb];rw[if_pos ⟨trivial,h0,hc⟩];simp only[hi]
end Go.L
namespace Go.L
theorem ZV{h:zd}{b n o:Nat}{cs vs:List V}(hb:h[b]?=some (.box n cs))(ho:o+vs.length<=n):Zt h vs (.ptr b o)=some (b,.box n (setR cs o vs)):=by
 simp only[Zt,hb];rw[if_pos ho]
theorem zp8{α:Type}{l:List α}{lo hi i:Nat}(h:lo+i < hi):((l.take hi).drop lo)[i]?=l[lo+i]?:=by
 rw[Zm,Zb,if_pos h]
theorem Xr{h:zd}{b:Nat}(hb:b < h.length)(x:HB):(h.set b x)[b]?=some x:=Zz hb
theorem zT{h:zd}{b:Nat}{x:HB}(hb:h[b]?=some x):b < h.length:=(zi.1 hb).1
end Go.L
namespace Go.Sk
open Go.L
def hgt : Nat -> List Bool -> Nat × List Bool
 | n,[]=>(n,[])
 | n,b :: r=>if n=8 then(n,b :: r) else if b then hgt (n+1) r else(n,r)
def JN(x:Bool):List V:=[.bool x]
theorem zm6 : ∀ (l : List Bool) (n : Nat), 1 <= n -> n <= 8 -> 1 <= (hgt n l).1 /\ (hgt n l).1 <= 8
 | [],n,h1,h2=>⟨h1,h2⟩
 | b :: r,n,h1,h2=>by
   simp only[hgt];split
   . exact⟨h1,h2⟩
   . split
     . exact zm6 r (n+1) (by omega) (by omega)
     . exact⟨h1,h2⟩
end Go.Sk
namespace Go.Proofs.Tryz
open Go.L Go.Rp Go.Sk
set_option maxRecDepth 100000
def BitsAt(h:zd)(c:Nat)(cb:Option Nat)(bits:List Bool):Prop:=match cb with
 | none=>bits=[]/\h[c]?=some (.box 1 [.sl 0 [] true])
 | some b=>b≠c/\∃ lo l z,h[c]?=some (.box 1 [.row b 1 lo (lo+bits.length)])/\h[b]?=some (.row 4 1 l z)/\lo+bits.length<=l.length/\(l.take (lo+bits.length)).drop lo=bits.map JN
theorem BitsAt.keep{h h':zd}{c:Nat}{cb:Option Nat}{bits:List Bool}(hb:BitsAt h c cb bits)(hc:h'[c]?=h[c]?)(hk:∀ b,cb=some b->h'[b]?=h[b]?):BitsAt h' c cb bits:=by
 cases cb with
 | none=>exact⟨hb.1,hc.trans hb.2⟩
 | some b =>
   obtain⟨h1,lo,l,z,h2,h3,h4⟩:=hb;exact⟨h1,lo,l,z,hc.trans h2,(hk b rfl).trans h3,h4⟩
theorem ja(h:zd)(c:Nat):Qb prog h .eql 122 (V.ptr c 0) (V.val (.pointer none))=some (.bool false):=by kernel_rfl
theorem zor(n:Nat){h:zd}{c:Nat}{cb:Option Nat}{bits:List Bool}(hb:BitsAt h c cb bits):call (n+1) 243 [.ptr c 0] h=some (.ret [.int .i64 (bits.length:Int)],h):=by
 refine(ziX n c h).trans ?_;unfold ziW;rw[ja,za,zm,if_neg (by decide)];cases cb with
 | none =>
   obtain⟨rfl,hc⟩:=hb;rw[zC hc,zn,if_pos (by decide)];rfl
 | some b =>
   obtain⟨h1,lo,l,z,h2,h3,h4,h5⟩:=hb;rw[zC h2,zn,if_pos (by decide)];simp only[zb,za];rw[Qx h3 (by omega) h4,za,h5];simp
theorem zf7 (n : Nat) {h : zd} {c : Nat} {cb : Option Nat} {bits : List Bool} (hb : BitsAt h c cb bits) :
    ∃ h',call (n+2) 236 [.ptr c 0] h=some (.ret [.bool (bits.headD false)],h')/\BitsAt h' c cb bits.tail/\h'.length=h.length/\∀ i,i≠c->h'[i]?=h[i]?:=by
 rw[show n+2=(n+1)+1 from rfl,ziZ];unfold ziY;rw[zor n hb,zM,zx,Xv,za,zm];cases bits with
 | nil =>
   rw[if_pos (by rfl)];exact⟨h,rfl,hb,rfl,fun _ _=>rfl⟩
 | cons x r =>
   rw[if_neg (by simp;omega)];cases cb with
   | none=>exact absurd hb.1 (by simp)
   | some b =>
     obtain⟨h1,lo,l,z,h2,h3,h4,h5⟩:=hb;have hx:l[lo]?=some [.bool x]:=by
      have:=zp8 (l:=l) (lo:=lo) (hi:=lo+(x :: r).length) (i:=0) (by simp);rw[h5] at this;simpa[JN] using this.symm
     have hr:(l.take (lo+1+r.length)).drop (lo+1)=r.map JN:=by
      have:((l.take (lo+(x :: r).length)).drop lo).drop 1=r.map JN:=by rw[h5];rfl
      rw[List.drop_drop] at this;rw[show lo+1+r.length=lo+(x :: r).length by simp;omega];exact this
     have hs:Z4 1 1 (x :: r).length none true (.row b 1 lo (lo+(x :: r).length))=some (.row b 1 (lo+1) (lo+1+r.length)):=by
      rw[J0 (by simp) (by omega)];congr 2;simp;omega
     have hcl:=zT h2;rw[zC h2,zn,if_pos (by decide)];simp only[zb,za];rw[XR (by simp),za,zW,XD h3 (by decide) hx,zn,if_pos (by decide)];simp only[zb,za];rw[zn,if_pos (by decide)];simp only[zb,za];rw[YI,za,Xt,hs,za];simp only[V.cells,zD,zP,zq,if_true];rw[ZV h2 (by simp),Zf];refine⟨_,rfl,⟨h1,lo+1,l,z,?_,?_,?_,hr⟩,by rw[zt],fun i hi=>ze (Ne.symm hi)⟩
     . rw[Xr hcl];rfl
     . rw[ze (Ne.symm h1)];exact h3
     . simp at h4 ⊢;omega
theorem zi7(n:Nat){c:Nat}{cb:Option Nat}:∀ (bits:List Bool) (k N:Nat) (h:zd),BitsAt h c cb bits->1<=k->k<=8->8 < N+k →
    ∃ h',zR N (WR (n+2) c) [.int .i64 (k:Int)] h=some (.ret [.int .i64 ((hgt k bits).1:Int)],h')/\BitsAt h' c cb (hgt k bits).2/\h'.length=h.length/\∀ i,i≠c->h'[i]?=h[i]?:=by
 intro bits
 induction bits with
 | nil =>
   intro k N h hb h1 h2 hN;obtain⟨N,rfl⟩:∃ N',N=N'+1:=⟨N - 1,by omega⟩;rw[zA];unfold WR;simp only[gv,zf,Xv,za,zm];by_cases h8:k=8
   . subst h8;exact⟨h,rfl,hb,rfl,fun _ _=>rfl⟩
   . rw[if_neg (by simp;omega)];obtain⟨h',e,b1,b2,b3⟩:=zf7 n hb;rw[e,zM,zx];exact⟨h',rfl,b1,b2,b3⟩
 | cons x r ih =>
   intro k N h hb h1 h2 hN;obtain⟨N,rfl⟩:∃ N',N=N'+1:=⟨N - 1,by omega⟩;rw[zA];unfold WR;simp only[gv,zf,Xv,za,zm];by_cases h8:k=8
   . subst h8;exact⟨h,rfl,by simpa[hgt] using hb,rfl,fun _ _=>rfl⟩
   . rw[if_neg (by simp;omega)];obtain⟨h',e,b1,b2,b3⟩:=zf7 n hb;rw[e,zM,zx];simp only[hgt,if_neg h8];cases x with
     | false=>exact⟨h',rfl,b1,b2,b3⟩
     | true =>
       simp only[List.headD_cons,QR,Q3,za,zm,zp,if_false,zH,if_true];rw[Xa (show k < lim by unfold lim;omega)];obtain⟨h'',e',d1,d2,d3⟩:=ih (k+1) N h' b1 (by omega) (by omega) (by omega);exact⟨h'',e',d1,d2.trans b2,fun i hi=>(d3 i hi).trans (b3 i hi)⟩
theorem zcl (n : Nat) {h : zd} {c : Nat} {cb : Option Nat} {bits : List Bool} (hb : BitsAt h c cb bits) (hn : 8 <= n) :
    ∃ h',call (n+3) 227 [.ptr c 0] h=some (.ret [.int .i64 ((hgt 1 bits).1:Int)],h')/\BitsAt h' c cb (hgt 1 bits).2/\h'.length=h.length/\∀ i,i≠c->h'[i]?=h[i]?:=by
 rw[show n+3=(n+2)+1 from rfl,ze9];unfold zdU;exact zi7 n bits 1 (n+2) h hb (zl _) (by omega) (by omega)
def Wx(y:Int)(i:Nat):Bool:=decide (y.toNat / 2 ^ i % 2=1)
def J1(y:Int):List Bool:=(List.range 8).map (Wx y)
theorem zlA(a:Int)(i:Nat)(hi:i<=8):bop prog .shr 5 (.int .u8 a) (.int .i64 (i:Int))=some (.int .u8 (a.fdiv (2 ^ i))):=by
 have e:bop prog .shr 5 (.int .u8 a) (.int .i64 (i:Int))=zkY .shr .u8 a (i:Int):=by kernel_rfl
 rw[e];unfold zkY;rw[if_neg (by omega)];simp only[Xu];rw[XT (by exact hi)]
theorem zd2(a:Int):bop prog .and 5 (.int .u8 a) (.int .u8 1)=some (.int .u8 (IntKind.u8.wrap (BitVec.ofInt 8 a &&& BitVec.ofInt 8 1).toNat)):=by kernel_rfl
theorem zu5:∀ m:Fin 256,IntKind.u8.wrap ((BitVec.ofInt 8 (m.val:Int) &&& BitVec.ofInt 8 1).toNat:Int)=((m.val % 2:Nat):Int):=by decide +kernel
theorem jT(a:Int):bop prog .eql 5 (.int .u8 a) (.int .u8 1)=some (.bool (a == 1)):=by kernel_rfl
theorem zp9{y:Int}(h0:0<=y)(h1:y < 256)(i:Nat):(IntKind.u8.wrap (BitVec.ofInt 8 (y.fdiv (2 ^ i)) &&& BitVec.ofInt 8 1).toNat == (1:Int))=Wx y i:=by
 obtain⟨m,rfl⟩:∃ m:Nat,y=(m:Int):=⟨y.toNat,(ZH h0).symm⟩;have hp:((2:Int) ^ i)=((2 ^ i:Nat):Int):=by simp
 have hf:(m:Int).fdiv (2 ^ i)=((m / 2 ^ i:Nat):Int):=by rw[hp,JE _ (Js _)];rfl
 have hlt:m / 2 ^ i < 256:=Nat.lt_of_le_of_lt (Nat.div_le_self _ _) (by omega);have:=zu5 ⟨m / 2 ^ i,hlt⟩;simp only at this;rw[hf,this];unfold Wx;rw[Xu];by_cases h:m / 2 ^ i % 2=1
 . simp[h]
 . have h':m / 2 ^ i % 2=0:=by omega
   simp[h']
theorem zd3(b:Bool):JY prog 73 1 [(0,.bool b)]=some (1,[[.bool b]]):=by kernel_rfl
structure Fed(h h':zd)(c:Nat)(cb cb':Option Nat):Prop where
 len:h.length<=h'.length
 old:∀ i,i < h.length->i≠c->cb≠some i->h'[i]?=h[i]?
 own:∀ b,cb'=some b->cb=some b\/h.length<=b
theorem Fed.refl(h:zd)(c:Nat)(cb:Option Nat):Fed h h c cb cb:=⟨zl _,fun _ _ _ _=>rfl,fun _ h=>.inl h⟩
theorem Fed.trans{h h' h'':zd}{c:Nat}{cb cb' cb'':Option Nat}(a:Fed h h' c cb cb')(b:Fed h' h'' c cb' cb''):Fed h h'' c cb cb'' :=
 ⟨Z2 a.len b.len,fun i h1 h2 h3=>(b.old i (by have:=a.len;omega) h2 fun e=>by rcases a.own i e with h|h;exact h3 h;omega).trans (a.old i h1 h2 h3),fun x hx=>by
  rcases b.own x hx with h|h
  . exact a.own x h
  . exact .inr (by have:=a.len;omega)⟩
theorem zqa (n : Nat) {h : zd} {c : Nat} {cb : Option Nat} {bits : List Bool} (hb : BitsAt h c cb bits) (st4 : List V) (next6 next18 : List V -> zd -> Option (Res × zd)) {y : Int} (y0 : 0 <= y) (y1 : y < 256) (i : Nat) (hi : i < 8) (hl : bits.length < 20000) :
    ∃ h' cb',Jm n c st4 next6 (.int .u8 y) [.int .i64 (i:Int)] h next18=next18 [.int .i64 ((i+1:Nat):Int)] h'/\BitsAt h' c cb' (bits++[Wx y i])/\Fed h h' c cb cb':=by
 have hlt:decide ((i:Int) < 8)=true:=by simp;omega
 have w1:=zlA y i (by omega);have w2:=zp9 y0 y1 i;have hne:(((bits.length:Nat):Int) == 20000)=false:=by simp;omega
 unfold Jm;simp only[gv,zf,zr,za,zm,hlt,if_true];cases cb with
 | none =>
   obtain⟨rfl,hc⟩:=hb;have hcl:=zT hc;rw[zC hc,zn,if_pos (by decide)];simp only[zb,za];rw[ZW,za,if_neg (by decide),zn,if_pos (by decide)];simp only[zb,za];rw[w1,za,zd2,za,jT,za,w2,zd3,za];have Wr:WG 4 1 h [[.bool (Wx y i)]] (.sl 0 [] true)=some (.row h.length 1 0 1,h++[.row 4 1 [[.bool (Wx y i)]] true]):=rfl;simp only[Wr,Zf,V.cells,zD,zP,zq,if_true];have hc':(h++[HB.row 4 1 [[.bool (Wx y i)]] true])[c]?=some (.box 1 [.sl 0 [] true]):=by rw[zk hcl];exact hc
   rw[ZV hc' (by simp),Zf,zH,za,Xa (show i < lim by unfold lim;omega)];refine⟨_,some h.length,rfl,⟨by omega,0,[[.bool (Wx y i)]],true,?_,?_,?_,?_⟩,⟨by simp,fun j h1 h2 h3=>?_,fun b hb=>.inr (by cases hb;exact zl _)⟩⟩
   . rw[Xr (by simp;omega)];rfl
   . rw[ze (by omega)];exact zI
   . simp
   . simp[JN]
   . rw[ze (by omega),zk h1]
 | some b =>
   obtain⟨h1,lo,l,z,h2,h3,h4,h5⟩:=hb;have hcl:=zT h2;have hbl:=zT h3;rw[zC h2,zn,if_pos (by decide)];simp only[zb,za];rw[Qx h3 (by omega) h4,za,h5];simp only[zo,hne,zp,if_false];rw[zn,if_pos (by decide)];simp only[zb,za];rw[w1,za,zd2,za,jT,za,w2,zd3,za];have Wr:WG 4 1 h [[.bool (Wx y i)]] (.row b 1 lo (lo+bits.length))=some (.row h.length 1 0 (bits.length+1),h.set b .dead++[.row 4 1 (bits.map JN++[[.bool (Wx y i)]]) (z && lo == 0)]):=by
    simp only[WG,h3];rw[if_pos (by refine⟨⟨?_,?_,?_⟩,⟨by omega,h4⟩,by simp[lim];omega⟩ <;> first|trivial|rfl),h5,Xt];rfl
   simp only[Wr,Zf,V.cells,zD,zP,zq,if_true];have hc':(h.set b .dead++[HB.row 4 1 (bits.map JN++[[.bool (Wx y i)]]) (z && lo == 0)])[c]?=some (.box 1 [.row b 1 lo (lo+bits.length)]):=by
    rw[zk (by rw[zt];exact hcl),ze h1];exact h2
   rw[ZV hc' (by simp),Zf,zH,za,Xa (show i < lim by unfold lim;omega)];refine⟨_,some h.length,rfl,⟨by omega,0,(bits.map JN++[[.bool (Wx y i)]]),(z && (lo == 0)),?_,?_,?_,?_⟩,⟨by simp,fun j h1 h2 h3=>?_,fun b hb=>.inr (by cases hb;exact zl _)⟩⟩
   . rw[Xr (by simp;omega)];simp[setR]
   . rw[ze (by omega)];have:h.length=(h.set b .dead).length:=by rw[zt]
     rw[this];exact zI
   . simp
   . simp[JN,zN]
   . rw[ze (by omega),zk (by rw[zt];exact h1),ze (fun e=>h3 (by rw[e]))]
theorem zos(n:Nat){c:Nat}(st4:List V)(next6:List V->zd->Option (Res×zd)){y:Int}(y0:0<=y)(y1:y < 256):∀ (d i N:Nat) (h:zd) (cb:Option Nat) (bits:List Bool),BitsAt h c cb bits->i+d=8->d < N->bits.length+d<=20000 →
    ∃ h' cb',zR N (Jm n c st4 next6 (.int .u8 y)) [.int .i64 (i:Int)] h=next6 [.int .i64 (IntKind.i64.wrap ((match gv st4 0 with|.int _ k=>k|_=>0)+1))] h'/\BitsAt h' c cb' (bits++((List.range 8).drop i).map (Wx y))/\Fed h h' c cb cb'\/(∀ k,gv st4 0≠.int .i64 k):=by
 intro d
 induction d with
 | zero =>
   intro i N h cb bits hb h1 h2 h3;obtain⟨N,rfl⟩:∃ N',N=N'+1:=⟨N - 1,by omega⟩;obtain rfl:i=8:=by omega
   rcases Classical.em (∃ k,gv st4 0=.int .i64 k) with ⟨k,hk⟩|hk
   . refine⟨h,cb,.inl ⟨?_,by rw[show (List.range 8).drop 8=[] from rfl];simpa using hb,.refl _ _ _⟩⟩;rw[zA];unfold Jm;have hg:gv [V.int .i64 ((8:Nat):Int)] 0=.int .i64 8:=rfl;rw[hg,zr,za,zm,if_neg (by decide),hk,zH,za]
   . exact⟨h,cb,.inr fun k e=>hk ⟨k,e⟩⟩
 | succ d ih =>
   intro i N h cb bits hb h1 h2 h3;obtain⟨N,rfl⟩:∃ N',N=N'+1:=⟨N - 1,by omega⟩;obtain⟨h',cb',e,b1,b2⟩:=zqa n hb st4 next6 (zR N (Jm n c st4 next6 (.int .u8 y))) y0 y1 i (by omega) (by omega);obtain⟨h'',cb'',e'|e'⟩:=ih (i+1) N h' cb' (bits++[Wx y i]) b1 (by omega) (by omega) (by rw[zE,zD,zP];omega)
   . obtain⟨e',d1,d2⟩:=e';refine⟨h'',cb'',.inl ⟨?_,?_,b2.trans d2⟩⟩
     . rw[zA,e];exact e'
     . have hd:(List.range 8).drop i=i :: (List.range 8).drop (i+1):=by
         rw[zQ (by simp;omega)];simp
       rw[hd,zS];rwa[List.append_assoc] at d1
   . exact⟨h'',cb'',.inr e'⟩
theorem zot(n:Nat){c:Nat}(bs:List Int)(bb:Bool)(hs:Q5 bs=true)(hn:8 < n)(hlim:bs.length < lim):∀ (d k N:Nat) (h:zd) (cb:Option Nat) (bits:List Bool),BitsAt h c cb bits->k+d=bs.length->d < N->bits.length+8 * d<=20000 →
    ∃ h' cb',zR N (J9 n c (.sl 1 (bs.map (Xc .u8)) bb) (1,bs.map (Xc .u8))) [.int .i64 (k:Int)] h=some (.ret [],h')/\BitsAt h' c cb' (bits++(bs.drop k).flatMap J1)/\Fed h h' c cb cb':=by
 intro d
 induction d with
 | zero =>
   intro k N h cb bits hb h1 h2 h3;obtain⟨N,rfl⟩:∃ N',N=N'+1:=⟨N - 1,by omega⟩;refine⟨h,cb,?_,by rw[Zo (by omega)];simpa using hb,.refl _ _ _⟩;rw[zA];unfold J9;simp only[gv,zf,zo,zr,za,zm];rw[if_neg (by simp;omega)]
 | succ d ih =>
   intro k N h cb bits hb h1 h2 h3;obtain⟨N,rfl⟩:∃ N',N=N'+1:=⟨N - 1,by omega⟩;obtain⟨y,hy⟩:∃ y,bs[k]?=some y:=⟨_,zg (by omega)⟩;have hyv:(bs.map (Xc .u8))[k]?=some [.int .u8 y]:=by rw[zdT,hy];rfl
   have hyb:0<=y/\y < 256:=by
    unfold Q5 at hs;have:=Zn.1 hs y (zJ hy);simp at this;omega
   have hlt:decide ((k:Int) < (bs.length:Int))=true:=by simp;omega
   obtain⟨h',cb',e|e⟩:=zos n (c:=c) [.int .i64 (k:Int)] (zR N (J9 n c (.sl 1 (bs.map (Xc .u8)) bb) (1,bs.map (Xc .u8)))) hyb.1 hyb.2 8 0 n h cb bits hb (by omega) hn (by omega)
   . obtain⟨e,b1,b2⟩:=e;obtain⟨h'',cb'',e',d1,d2⟩:=ih (k+1) N h' cb' _ b1 (by omega) (by omega) (by simp;omega);refine⟨h'',cb'',?_,?_,b2.trans d2⟩
     . have key:∀ next,J9 n c (.sl 1 (bs.map (Xc .u8)) bb) (1,bs.map (Xc .u8)) [.int .i64 (k:Int)] h next=zR n (Jm n c [.int .i64 (k:Int)] next (.int .u8 y)) [.int .i64 ((0:Nat):Int)] h:=by
         intro next
         unfold J9;simp only[gv,zf,zo,zr,za,zm,hlt,if_true,Za,zy,Xb hyv,Zl,zn,zq,zl,Nat.reduceLT,and_self,zb];rfl
       rw[zA,key];refine e.trans ?_;simp only[gv,zf];rw[Xa (show k < lim by omega)];exact e'
     . have hd:bs.drop k=y :: bs.drop (k+1):=by
         rw[zQ (by omega)];rw[zg (by omega)] at hy;rw[Option.some.inj hy]
       rw[hd,List.flatMap_cons];rw[List.append_assoc] at d1;exact d1
   . exact absurd rfl (e (k:Int))
theorem zou (n : Nat) {h : zd} {c : Nat} {cb : Option Nat} {bits : List Bool} (hb : BitsAt h c cb bits) (bs : List Int) (bb : Bool) (hs : Q5 bs = true) (hl : bits.length + 8 * bs.length <= 20000) (hn : bs.length + 8 < n) :
    ∃ h' cb',call (n+1) 65 [.ptr c 0,.sl 1 (bs.map (Xc .u8)) bb] h=some (.ret [],h')/\BitsAt h' c cb' (bits++bs.flatMap J1)/\Fed h h' c cb cb':=by
 obtain⟨h',cb',e,b1,b2⟩:=zot n bs bb hs (by omega) (by unfold lim;omega) bs.length 0 n h cb bits hb (by omega) (by omega) hl;refine⟨h',cb',(zi1 n c _ h).trans ?_,b1,b2⟩;unfold zi0;rw[ja,za,zm,if_neg (by decide),ZW,za];exact e
theorem WS(n:Nat)(h:zd):call (n+1) 62 [] h=some (.ret [.ptr h.length 0],h++[.box 1 [.sl 0 [] true]]):=zlt n h
end Go.Proofs.Tryz
namespace Go.Sk
open Go.L
structure Tw where
 b:Nat
 v:Int
 ht:Nat
def qD:V:=.val (.pointer none)
def jb(k:Nat)(ts:List Tw):Option Tw:=ts.find? fun t=>decide (k < t.ht)
def nx(k:Nat)(ts:List Tw):V:=match jb k ts with|some t=>.ptr t.b 0|none=>qD
def Xj(s:Nat)(ts:List Tw):Nat->Nat
 | 0=>s
 | i+1=>(ts.getD i ⟨0,0,0⟩).b
def Yg (ts : List Tw) (k : Nat) : Nat -> Prop
 | 0=>True
 | i+1=>∃ t,ts[i]?=some t/\k < t.ht
def Xf(ts:List Tw)(k:Nat):Nat->Nat
 | 0=>0
 | j+1=>if k < (ts.getD j ⟨0,0,0⟩).ht then j+1 else Xf ts k j
theorem JU (ts : List Tw) (k : Nat) : ∀ j, Xf ts k j <= j
 | 0=>zl _
 | j+1=>by
   simp only[Xf];split
   . exact zl _
   . exact Nat.le_succ_of_le (JU ts k j)
theorem getD_some{ts:List Tw}{i:Nat}{t:Tw}(h:ts[i]?=some t):ts.getD i ⟨0,0,0⟩=t:=by rw[zV,h];rfl
theorem jU (ts : List Tw) (k : Nat) : ∀ j, j <= ts.length -> Yg ts k (Xf ts k j)
 | 0,_=>trivial
 | j+1,h=>by
   simp only[Xf];obtain⟨t,ht⟩:∃ t,ts[j]?=some t:=⟨_,zg (by omega)⟩;rw[getD_some ht];split
   . rename_i hk;exact⟨t,ht,hk⟩
   . exact jU ts k j (by omega)
theorem zak (ts : List Tw) (k : Nat) : ∀ j i t, Xf ts k j <= i -> i < j -> ts[i]? = some t -> ¬ k < t.ht
 | 0,i,t,h1,h2,_=>by omega
 | j+1,i,t,h1,h2,ht=>by
   simp only[Xf] at h1;split at h1
   . omega
   . rename_i hk;rcases ZX i j with h3|h3
     . exact zak ts k j i t h1 h3 ht
     . obtain rfl:i=j:=by omega
       rw[getD_some ht] at hk;exact hk
theorem zd4 {ts : List Tw} {k i : Nat} (hon : Yg ts k i) : ∀ j, i <= j -> j <= ts.length -> (∀ m t, i <= m -> m < j -> ts[m]? = some t -> ¬ k < t.ht) -> Xf ts k j = i
 | 0,h,_,_=>by simp only[Xf];omega
 | j+1,h,hl,hn=>by
   obtain⟨t,ht⟩:∃ t,ts[j]?=some t:=⟨_,zg (by omega)⟩;simp only[Xf,getD_some ht];rcases ZX j i with h3|h3
   . obtain rfl:i=j+1:=by omega
     obtain⟨t',ht',hk⟩:=hon;rw[ht] at ht';cases ht';rw[if_pos hk]
   . rw[if_neg (hn j t h3 (by omega) ht)];exact zd4 hon j h3 (by omega) fun m t h1 h2=>hn m t h1 (by omega)
theorem zi8{k:Nat}{ts:List Tw}:∀ (i:Nat),(jb k (ts.drop i)=none/\∀ m t,i<=m->ts[m]?=some t->¬ k < t.ht)\/∃ m t,i<=m/\ts[m]?=some t/\k < t.ht/\jb k (ts.drop i)=some t/\∀ m' t',i<=m'->m' < m->ts[m']?=some t'->¬ k < t'.ht:=by
 intro i;obtain⟨d,hd⟩:∃ d,d+i=ts.length\/(d=0/\ts.length<=i):=⟨ts.length - i,by omega⟩
 induction d generalizing i with
 | zero =>
   left;have hi:ts.length<=i:=by omega
   refine⟨by rw[Zo hi];rfl,fun m t h1 h2=>?_⟩;have:=(zi.1 h2).1;omega
 | succ d ih =>
   have hi:i < ts.length:=by omega
   obtain⟨t,ht⟩:∃ t,ts[i]?=some t:=⟨_,zg hi⟩;have hdr:ts.drop i=t :: ts.drop (i+1):=by rw[zQ hi];congr 1;rw[zg hi] at ht;exact Option.some.inj ht
   by_cases hk:k < t.ht
   . right;exact⟨i,t,zl _,ht,hk,by rw[hdr];simp[jb,hk],fun m' t' h1 h2=>by omega⟩
   . rcases ih (i+1) (by omega) with ⟨h1,h2⟩|⟨m,t',h1,h2,h3,h4,h5⟩
     . left;refine⟨by rw[hdr];simpa[jb,hk] using h1,fun m t' h3 h4=>?_⟩;rcases ZX i m with h|h
       . exact h2 m t' h h4
       . obtain rfl:m=i:=by omega
         rw[ht] at h4;cases h4;exact hk
     . right;refine⟨m,t',by omega,h2,h3,by rw[hdr];simpa[jb,hk] using h4,fun m' t'' h6 h7 h8=>?_⟩;rcases ZX i m' with h|h
       . exact h5 m' t'' h h7 h8
       . obtain rfl:m'=i:=by omega
         rw[ht] at h8;cases h8;exact hk
abbrev Nx:=Nat->Nat->V
structure Linked(s:Nat)(ts:List Tw)(N:Nx):Prop where
 hd:∀ k,k < 8->N s k=nx k ts
 tw:∀ (i:Nat) t k,ts[i]?=some t->k < 8->N t.b k=if k < t.ht then nx k (ts.drop (i+1)) else qD
theorem Linked.at_{s:Nat}{ts:List Tw}{N:Nx}(h:Linked s ts N){k i:Nat}(hk:k < 8)(hi:Yg ts k i):N (Xj s ts i) k=nx k (ts.drop i):=by
 cases i with
 | zero=>exact h.hd k hk
 | succ i =>
   obtain⟨t,ht,hkt⟩:=hi;have:=h.tw i t k ht hk;rw[if_pos hkt] at this;simp only[Xj,getD_some ht];exact this
def YQ(N:Nx)(b k:Nat)(x:V):Nx:=fun b' k'=>if b'=b/\k'=k then x else N b' k'
def Xw(ts:List Tw)(v:Int):Nat:=(ts.takeWhile fun t=>decide (t.v<=v)).length
def Rise(ts:List Tw):Prop:=ts.Pairwise fun a b=>a.v<=b.v
theorem qq(ts:List Tw)(v:Int):Xw ts v<=ts.length:=(List.takeWhile_prefix _).length_le
theorem jV{ts:List Tw}(hr:Rise ts)(v:Int){i:Nat}{t:Tw}(ht:ts[i]?=some t):i < Xw ts v ↔ t.v<=v:=by
 unfold Xw
 induction ts generalizing i with
 | nil=>simp at ht
 | cons a ts ih =>
   have hr':=Xg.1 hr;rw[List.takeWhile_cons];cases i with
   | zero =>
     obtain rfl:a=t:=by simpa using ht
     by_cases h:a.v<=v
     . simp[h]
     . simp[h]
   | succ i =>
     have hm:=hr'.1 t (zJ ht);by_cases h:a.v<=v
     . simp only[h,decide_true,if_true,zD,Nat.succ_lt_succ_iff];exact ih hr'.2 ht
     . simp only[h,decide_false,zp,if_false,zP,Nat.not_lt_zero,false_iff];omega
def ins(ts:List Tw)(j:Nat)(u:Tw):List Tw:=ts.take j++u :: ts.drop j
theorem zlB{ts:List Tw}{j:Nat}{u:Tw}(hj:j<=ts.length){i:Nat}(h:i < j):(ins ts j u)[i]?=ts[i]?:=by
 unfold ins;rw[zk (by rw[Zh];omega),Zb,if_pos h]
theorem zg2{ts:List Tw}{j:Nat}{u:Tw}(hj:j<=ts.length):(ins ts j u)[j]?=some u:=by
 unfold ins;rw[zK (by rw[Zh];omega),Zh,XT hj,QX];rfl
theorem zqb{ts:List Tw}{j:Nat}{u:Tw}(hj:j<=ts.length){i:Nat}(h:j<=i):(ins ts j u)[i+1]?=ts[i]?:=by
 unfold ins;rw[zK (by rw[Zh];omega),Zh,XT hj,show i+1 - j=(i - j)+1 by omega,zj,Zm];congr 1;omega
theorem zm7{ts:List Tw}{j:Nat}{u:Tw}(hj:j<=ts.length):(ins ts j u).length=ts.length+1:=by
 unfold ins;rw[zE,Zh,zD,Xs];omega
theorem zqc{ts:List Tw}{j:Nat}{u:Tw}(hj:j<=ts.length){i:Nat}(h:i<=j):(ins ts j u).drop i=(ts.take j).drop i++u :: ts.drop j:=by
 unfold ins;rw[Qt (by rw[Zh];omega)]
theorem zcm{ts:List Tw}{j:Nat}{u:Tw}(hj:j<=ts.length){i:Nat}(h:j<=i):(ins ts j u).drop (i+1)=ts.drop i:=by
 apply ZU;intro m;rw[Zm,Zm,show i+1+m=(i+m)+1 by omega,zqb hj (by omega)]
theorem zf8{ts:List Tw}{i j:Nat}(h:i<=j)(hj:j<=ts.length):ts.drop i=(ts.take j).drop i++ts.drop j:=by
 have:ts=ts.take j++ts.drop j:=(Zy j ts).symm
 conv=>lhs;rw[this]
 rw[Qt (by rw[Zh];omega)]
theorem zfc{ts:List Tw}{k i j:Nat}(h:jb k ((ts.take j).drop i)=none)(m:Nat)(t:Tw)(h1:i<=m)(h2:m < j)(ht:ts[m]?=some t):¬ k < t.ht:=by
 unfold jb at h;rw[List.find?_eq_none] at h;have hm:t∈(ts.take j).drop i:=by
  refine zJ (i:=m - i) ?_;rw[Zm,Zb,show i+(m - i)=m by omega,if_pos h2];exact ht
 simpa using h t hm
theorem qP{ts:List Tw}{k i j:Nat}{t:Tw}(h:jb k ((ts.take j).drop i)=some t):∃ m,i<=m/\m < j/\ts[m]?=some t/\k < t.ht:=by
 unfold jb at h;have h1:=List.find?_some h;have h2:=List.mem_of_find?_eq_some h;obtain⟨m,hm⟩:=ZB.1 h2;rw[Zm,Zb] at hm;split at hm
 . exact⟨i+m,by omega,by assumption,hm,by simpa using h1⟩
 . cases hm
theorem zt0 {ts : List Tw} {k i j : Nat} {u : Tw} (hj : j <= ts.length) (hi : i <= j) (hon : Yg ts k i) :
    nx k ((ins ts j u).drop i)=if k < u.ht/\Xf ts k j=i then .ptr u.b 0 else nx k (ts.drop i):=by
 rw[zqc hj hi];unfold nx;rw[zf8 hi hj];cases hA:jb k ((ts.take j).drop i) with
 | some t =>
   obtain⟨m,h1,h2,h3,h4⟩:=qP hA;have hne:Xf ts k j≠i:=fun e=>zak ts k j m t (by omega) h2 h3 h4;rw[if_neg (fun h=>hne h.2)];unfold jb at hA ⊢;rw[Jw,Jw,hA];rfl
 | none =>
   have hl:Xf ts k j=i:=zd4 hon j hi hj fun m t h1 h2 h3=>zfc hA m t h1 h2 h3;unfold jb at hA ⊢;rw[Jw,Jw,hA,List.find?_cons];by_cases hk:k < u.ht
   . simp[hk,hl]
   . simp[hk]
theorem zd5{s:Nat}{ts:List Tw}(hnd:(ts.map Tw.b).Nodup)(hs:s ∉ ts.map Tw.b){p q:Nat}(hp:p<=ts.length)(hq:q<=ts.length)(h:Xj s ts p=Xj s ts q):p=q:=by
 have hb:∀ i,i < ts.length->(ts.map Tw.b)[i]?=some (ts.getD i ⟨0,0,0⟩).b:=fun i hi=>by
  rw[zG,zV,zg hi];rfl
 have hne:∀ i,i < ts.length->s≠(ts.getD i ⟨0,0,0⟩).b:=fun i hi e=>hs (e ▸ zJ (hb i hi));cases p with
 | zero =>
   cases q with
   | zero=>rfl
   | succ q=>exact absurd h (hne q (by omega))
 | succ p =>
   cases q with
   | zero=>exact absurd h.symm (hne p (by omega))
   | succ q =>
     have h1:=hb p (by omega);have h2:=hb q (by omega);simp only[Xj] at h;rw[h] at h1;congr 1;exact(List.getElem?_inj (by rw[zo];omega) hnd).1 (h1.trans h2.symm)
theorem zqd{s:Nat}{ts:List Tw}{j:Nat}{u:Tw}(hj:j<=ts.length){p:Nat}(hp:p<=j):Xj s (ins ts j u) p=Xj s ts p:=by
 cases p with
 | zero=>rfl
 | succ p=>simp only[Xj];rw[zV,zV,zlB hj (by omega)]
theorem zf9 {ts : List Tw} {k j : Nat} {u : Tw} (hj : j <= ts.length) : ∀ i, i <= j -> Xf (ins ts j u) k i = Xf ts k i
 | 0,_=>rfl
 | i+1,h=>by
   simp only[Xf];rw[zf9 hj i (by omega),zV,zV,zlB hj (by omega)]
theorem zg3{ts:List Tw}{k j:Nat}{u:Tw}(hj:j<=ts.length):Xf (ins ts j u) k (j+1)=if k < u.ht then j+1 else Xf ts k j:=by
 simp only[Xf];rw[zf9 hj j (zl _),getD_some (zg2 hj)]
theorem Linked.ins {s : Nat} {ts : List Tw} {N N' : Nx} (h : Linked s ts N) (hnd : (ts.map Tw.b).Nodup) (hs : s ∉ ts.map Tw.b) {u : Tw} (hus : u.b ≠ s) (hut : u.b ∉ ts.map Tw.b) {j : Nat} (hj : j <= ts.length)
    (h1:∀ k,k < 8->N' u.b k=if k < u.ht then nx k (ts.drop j) else qD)
    (h2:∀ k,k < 8->k < u.ht->N' (Xj s ts (Xf ts k j)) k=.ptr u.b 0)
    (h3:∀ b k,k < 8->b≠u.b->(k < u.ht->b≠Xj s ts (Xf ts k j))->N' b k=N b k):Linked s (Go.Sk.ins ts j u) N':=by
 have key:∀ i k,k < 8->i<=j->Yg ts k i->N' (Xj s ts i) k=nx k ((Go.Sk.ins ts j u).drop i):=fun i k hk hi hon=>by
  rw[zt0 hj hi hon];by_cases hc:k < u.ht/\Xf ts k j=i
  . rw[if_pos hc,<- hc.2];exact h2 k hk hc.1
  . rw[if_neg hc,<- h.at_ hk hon];refine h3 _ _ hk (fun e=>?_) fun hku e=>?_
    . cases i with
      | zero=>exact hus e.symm
      | succ i =>
        obtain⟨t,ht,_⟩:=hon;simp only[Xj,getD_some ht] at e;exact hut (e ▸ Zp (zJ ht))
    . exact hc ⟨hku,(zd5 hnd hs (by omega) (by have:=JU ts k j;omega) e).symm⟩
 refine⟨fun k hk=>?_,fun i t k ht hk=>?_⟩
 . have:=key 0 k hk (Ze _) trivial;rwa[zO] at this
 . rcases Nat.lt_trichotomy i j with hij|hij|hij
   . rw[zlB hj hij] at ht;by_cases hkt:k < t.ht
     . rw[if_pos hkt];have:=key (i+1) k hk (by omega) ⟨t,ht,hkt⟩;simpa only[Xj,getD_some ht] using this
     . rw[if_neg hkt];have hN:=h.tw i t k ht hk;rw[if_neg hkt] at hN;rw[<- hN];refine h3 _ _ hk (fun e=>hut (e ▸ Zp (zJ ht))) fun hku e=>?_;have hp:t.b=Xj s ts (i+1):=by simp only[Xj,getD_some ht]
       have hon:=jU ts k j hj;have:=zd5 hnd hs (by omega) (by have:=JU ts k j;omega) (hp.symm.trans e);rw[<- this] at hon;obtain⟨t',ht',hk'⟩:=hon;rw[ht] at ht';cases ht';exact hkt hk'
   . subst hij;rw[zg2 hj] at ht;cases ht;rw[zcm hj (zl _)];exact h1 k hk
   . obtain⟨i,rfl⟩:∃ i',i=i'+1:=⟨i - 1,by omega⟩;rw[zqb hj (by omega)] at ht;rw[zcm hj (by omega)];rw[<- h.tw i t k ht hk];have hil:=(zi.1 ht).1;refine h3 _ _ hk (fun e=>hut (e ▸ Zp (zJ ht))) fun hku e=>?_;have hp:t.b=Xj s ts (i+1):=by simp only[Xj,getD_some ht]
     have:=zd5 hnd hs (by omega) (by have:=JU ts k j;omega) (hp.symm.trans e);have:=JU ts k j;omega
theorem Rise.ins{ts:List Tw}(hr:Rise ts)(u:Tw):Rise (Go.Sk.ins ts (Xw ts u.v) u):=by
 unfold Rise Go.Sk.ins;have hle:∀ t∈ts.take (Xw ts u.v),t.v<=u.v:=fun t ht=>by
  obtain⟨i,hi⟩:=ZB.1 ht;rw[Zb] at hi;split at hi
  . rename_i h;exact(jV hr u.v hi).1 h
  . cases hi
 have hge:∀ t∈ts.drop (Xw ts u.v),u.v<=t.v:=fun t ht=>by
  obtain⟨i,hi⟩:=ZB.1 ht;rw[Zm] at hi;have:=(jV hr u.v hi);omega
 rw[ZJ];refine⟨hr.sublist (WD _ _),Xg.2 ⟨hge,hr.sublist (Qu _ _)⟩,fun a ha b hb=>?_⟩;have h1:=hle a ha;rcases zL.1 hb with rfl|hb
 . exact h1
 . have:=hge b hb;omega
theorem Linked.tail {s : Nat} {t : Tw} {ts : List Tw} {N N' : Nx} (h : Linked s (t :: ts) N) (hnd : ((t :: ts).map Tw.b).Nodup) (hs : s ∉ (t :: ts).map Tw.b)
    (h1:∀ k,k < 8->N' s k=if k < t.ht then N t.b k else N s k) (h2:∀ b k,k < 8->b≠s->N' b k=N b k):Linked s ts N':=by
 refine⟨fun k hk=>?_,fun i u k hu hk=>?_⟩
 . rw[h1 k hk];have a:=h.tw 0 t k rfl hk;have b:=h.hd k hk;by_cases hkt:k < t.ht
   . rw[if_pos hkt,a,if_pos hkt];rfl
   . rw[if_neg hkt,b];unfold nx jb;rw[List.find?_cons];simp[hkt]
 . have a:=h.tw (i+1) u k (by simpa using hu) hk;rw[h2 _ _ hk]
   . simpa using a
   . rintro rfl;exact hs (Zp (zw _ (zJ hu)))
end Go.Sk
namespace Go.Sk
open Go.L
def YX(f:Nat->V):List V:=(List.range 8).map f
theorem Qg(f:Nat->V):(YX f).length=8:=by simp[YX]
theorem zbD(f:Nat->V){k:Nat}(h:k < 8):(YX f)[k]?=some (f k):=by
 unfold YX;rw[zG,X8 h];rfl
theorem zga(f:Nat->V){k:Nat}(h:k < 8)(x:V):(YX f).set k x=YX (fun j=>if j=k then x else f j):=by
 apply ZU;intro j;rw[Zd];by_cases hj:j < 8
 . rw[zbD _ hj,zbD _ hj];by_cases e:k=j
   . rw[if_pos e,if_pos (by rw[Qg];omega),if_pos e.symm]
   . rw[if_neg e,if_neg (Ne.symm e)]
 . rw[Zg (by rw[Qg];omega),Zg (by rw[Qg];omega),if_neg (by omega)]
structure Nd where
 b:Nat
 v:Int
 ht:Int
 post:List V
def Nd.cells(x:Nd)(N:Nx):List V:=[.int .i32 x.v,.int .i64 x.ht]++(YX (N x.b)++x.post)
def jc(h:zd)(N:Nx)(x:Nd):Prop:=h[x.b]?=some (.box (10+x.post.length) (x.cells N))
theorem Nd.get0(x:Nd)(N:Nx):(x.cells N)[0]?=some (.int .i32 x.v):=rfl
theorem Nd.get1(x:Nd)(N:Nx):(x.cells N)[1]?=some (.int .i64 x.ht):=rfl
theorem Nd.get(x:Nd)(N:Nx){k:Nat}(h:k < 8):(x.cells N)[2+k]?=some (N x.b k):=by
 unfold Nd.cells;rw[zK (by simp),show 2+k - [V.int .i32 x.v,.int .i64 x.ht].length=k by simp,zk (by rw[Qg];exact h),zbD _ h]
theorem Nd.set(x:Nd)(N:Nx){k:Nat}(h:k < 8)(y:V):setR (x.cells N) (2+k) [y]=x.cells (YQ N x.b k y):=by
 show (x.cells N).set (2+k) y=_;unfold Nd.cells;rw[ZC _ _ (by simp),show 2+k - [V.int .i32 x.v,.int .i64 x.ht].length=k by simp,List.set_append_left _ _ (by rw[Qg];exact h),zga _ h];congr 3;funext j;unfold YQ;by_cases e:j=k
 . rw[if_pos e,if_pos ⟨rfl,e⟩]
 . rw[if_neg e,if_neg (fun hh=>e hh.2)]
structure Rep(h:zd)(ns:List Nd)(N:Nx):Prop where
 at_:∀ x∈ns,jc h N x
 nd:(ns.map Nd.b).Nodup
 one:∀ x∈ns,∀ k,V.cells (N x.b k)=[N x.b k]
theorem Rep.inj{h:zd}{ns:List Nd}{N:Nx}(r:Rep h ns N){x y:Nd}(hx:x∈ns)(hy:y∈ns)(e:x.b=y.b):x=y:=by
 obtain⟨i,hi⟩:=ZB.1 hx;obtain⟨j,hj⟩:=ZB.1 hy;have h1:(ns.map Nd.b)[i]?=some x.b:=by rw[zG,hi];rfl
 have h2:(ns.map Nd.b)[j]?=some y.b:=by rw[zG,hj];rfl
 have:=(List.getElem?_inj (zi.1 h1).1 r.nd).1 (h1.trans (by rw[e,h2]));subst this;rw[hi] at hj;exact Option.some.inj hj
theorem Rep.read{h:zd}{ns:List Nd}{N:Nx}(r:Rep h ns N){x:Nd}(hx:x∈ns)(o:Nat):zu h (.ptr x.b o)=some (x.cells N,10+x.post.length,o):=zC (r.at_ x hx) o
theorem Rep.write {h : zd} {ns : List Nd} {N : Nx} (r : Rep h ns N) {x : Nd} (hx : x ∈ ns) {k : Nat} (hk : k < 8) (y : V) (hy : V.cells y = [y]) :
    Zt h [y] (.ptr x.b (2+k))=some (x.b,.box (10+x.post.length) (x.cells (YQ N x.b k y)))/\Rep (h.set x.b (.box (10+x.post.length) (x.cells (YQ N x.b k y)))) ns (YQ N x.b k y):=by
 have hb:=r.at_ x hx;refine⟨?_,⟨fun z hz=>?_,r.nd,fun z hz j=>?_⟩⟩
 . rw[ZV hb (by simp;omega),x.set N hk]
 . by_cases e:z.b=x.b
   . have:=r.inj hz hx e;subst this;exact Xr (zT hb) _
   . unfold jc;rw[ze (Ne.symm e)];have:=r.at_ z hz;unfold jc at this;rw[this];have e2:YQ N x.b k y z.b=N z.b:=by
      funext j;unfold YQ;rw[if_neg (fun hh=>e hh.1)]
     unfold Nd.cells;rw[e2]
 . unfold YQ;split
   . exact hy
   . exact r.one z hz j
theorem Rep.keep{h h':zd}{ns:List Nd}{N:Nx}(r:Rep h ns N)(hk:∀ x∈ns,h'[x.b]?=h[x.b]?):Rep h' ns N:=⟨fun x hx=>(hk x hx).trans (r.at_ x hx),r.nd,r.one⟩
def ZG(P:Nat->Nat):List V:=(List.range 8).map fun k=>.ptr (P k) 0
theorem ZO(P:Nat->Nat):(ZG P).length=8:=by simp[ZG]
theorem zbE(P:Nat->Nat){k:Nat}(h:k < 8):(ZG P)[k]?=some (.ptr (P k) 0):=by
 unfold ZG;rw[zG,X8 h];rfl
theorem zgb(P:Nat->Nat){k:Nat}(h:k < 8)(b:Nat):(ZG P).set k (.ptr b 0)=ZG (fun j=>if j=k then b else P j):=by
 have e:∀ Q:Nat->Nat,ZG Q=YX (fun j=>.ptr (Q j) 0):=fun Q=>rfl;rw[e,e,zga _ h];congr 1;funext j;split <;> rfl
def ndT(t:Tw):Nd:=⟨t.b,t.v,t.ht,[]⟩
def ndH(s:Nat)(many most:Int):Nd:=⟨s,0,0,[.int .i64 many,.int .i64 most]⟩
def WL (N : Nx) (u : Nat) (P : Nat -> Nat) : Nat -> Nx
 | 0=>N
 | k+1=>YQ (YQ (WL N u P k) u k (WL N u P k (P k) k)) (P k) k (.ptr u 0)
theorem zaR (N : Nx) (u : Nat) (P : Nat -> Nat) : ∀ K b k, K <= k -> WL N u P K b k = N b k
 | 0,b,k,h=>rfl
 | K+1,b,k,h=>by
   simp only[WL,YQ];rw[if_neg (by omega),if_neg (by omega)];exact zaR N u P K b k (by omega)
theorem zcX (N : Nx) (u : Nat) (P : Nat -> Nat) (hu : ∀ k, P k ≠ u) : ∀ K k, k < K -> WL N u P K u k = N (P k) k /\ WL N u P K (P k) k = .ptr u 0 /\ ∀ b, b ≠ u -> b ≠ P k -> WL N u P K b k = N b k
 | 0,k,h=>by omega
 | K+1,k,h=>by
   rcases ZX k K with hk|hk
   . obtain⟨a1,a2,a3⟩:=zcX N u P hu K k hk;have hne:∀ b,WL N u P (K+1) b k=WL N u P K b k:=fun b=>by
      simp only[WL,YQ];rw[if_neg (by omega),if_neg (by omega)]
     exact⟨by rw[hne,a1],by rw[hne,a2],fun b h1 h2=>by rw[hne,a3 b h1 h2]⟩
   . obtain rfl:k=K:=by omega
     refine⟨?_,?_,fun b h1 h2=>?_⟩
     . simp only[WL,YQ];rw[if_neg (fun e=>hu k e.1.symm),if_pos (by simp),zaR _ _ _ _ _ _ (zl _)]
     . simp only[WL,YQ];rw[if_pos (by simp)]
     . simp only[WL,YQ];rw[if_neg (fun e=>h2 e.1),if_neg (fun e=>h1 e.1),zaR _ _ _ _ _ _ (zl _)]
end Go.Sk
namespace Go.Proofs.Tryz
open Go.L Go.Rp Go.Sk
set_option maxRecDepth 100000
theorem jd(h:zd)(b:Nat):Qb prog h .neq 177 (V.ptr b 0) (V.val (.pointer none))=some (.bool true):=by kernel_rfl
theorem zal(h:zd):Qb prog h .neq 177 (V.val (.pointer none)) (V.val (.pointer none))=some (.bool false):=by kernel_rfl
theorem zi9(h:zd)(b:Nat):Qb prog h .eql 177 (V.ptr b 0) (V.val (.pointer none))=some (.bool false):=by kernel_rfl
theorem zja(h:zd):Qb prog h .eql 177 (V.val (.pointer none)) (V.val (.pointer none))=some (.bool true):=by kernel_rfl
theorem J2(h:zd)(b:Nat):Qb prog h .eql 117 (V.ptr b 0) (V.val (.pointer none))=some (.bool false):=by kernel_rfl
theorem zlC{h:zd}{t o n m:Nat}{cs ds:List V}(ht:h[t]?=some (.box n cs))(ho:h[o]?=some (.box m ds)):Qb prog h .eql 177 (V.ptr t 0) (V.ptr o 0)=some (.bool (t == o && 0 == 0)):=by
 have e:Qb prog h .eql 177 (V.ptr t 0) (V.ptr o 0)=(match h[t]?,h[o]? with|some (.box ..),some (.box ..)=>some (.bool (neg .eql (t == o && 0 == 0)))|_,_=>none):=by kernel_rfl
 rw[e,ht,ho];rfl
theorem zg4(n:Nat){h:zd}{ns:List Nd}{N:Nx}(r:Rep h ns N){x y:Nd}(hx:x∈ns)(hy:y∈ns):∃ b,call (n+1) 245 [.ptr x.b 0,.ptr y.b 0] h=some (.ret [.bool b],h):=by
 rw[zlw];unfold zm3;rw[zlC (r.at_ x hx) (r.at_ y hy),za,zm];split
 . exact⟨_,rfl⟩
 . rw[r.read hx,zn,if_pos (by omega),x.get1,za,Xv,za,zm];split
   . exact⟨_,rfl⟩
   . rw[r.read hy,zn,if_pos (by omega),y.get1,za,Xv,za,zm];split
     . exact⟨_,rfl⟩
     . rw[r.read hx,zn,if_pos (by omega),x.get0,za,r.read hy,zn,if_pos (by omega),y.get0,za,ziL,za];exact⟨_,rfl⟩
theorem zgc(n:Nat)(h:zd)(v k:Int):call (n+1) 232 [.int .i32 v,.int .i64 k] h=some (.ret [.ptr h.length 0],h++[.box 10 ([.int .i32 v,.int .i64 (max 1 (min k 8))]++YX (fun _=>qD))]):=by
 rw[zsn];unfold tall;have e:(if (1:Int) < (if 8 < k then 8 else k) then(if 8 < k then 8 else k) else 1)=max 1 (min k 8):=by
  by_cases h1:8 < k
  . simp only[if_pos h1];omega
  . simp only[if_neg h1];split <;> omega
 rw[e];rfl
theorem nv_int(k:IntKind)(a:Nat):nv (V.int k (a:Int))=some a:=Za _ _
theorem XK(k b o:Nat):ZL k (.ptr b o)=some (.ptr b (o+k)):=rfl
theorem Ql(l:List V):lcs (V.agg l)=l:=rfl
theorem jW(cs:List V)(o:Nat)(y:V):setR cs o [y]=cs.set o y:=rfl
theorem zlD(n:Nat)(s:Nat)(h:zd)(r0:List V)(hr:r0.length=8):∀ (d k M:Nat) (cs:List V),k+d=8->d < M->cs.length=8->(∀ j,j < k->cs[j]?=some (.ptr s 0)) →
    zR M (Ww n s) [.agg r0,.agg cs,.int .i64 (k:Int)] h=some (.ret [.agg (ZG (fun _=>s))],h):=by
 intro d
 induction d with
 | zero =>
   intro k M cs h1 h2 h3 h4;obtain⟨M,rfl⟩:∃ M',M=M'+1:=⟨M - 1,by omega⟩;obtain rfl:k=8:=by omega
   have hcs:cs=ZG (fun _=>s):=by
    apply ZU;intro j;by_cases hj:j < 8
    . rw[h4 j hj,zbE _ hj]
    . rw[Zg (by omega),Zg (by rw[ZO];omega)]
   subst hcs;rw[zA];unfold Ww;have hl:((ZG (fun _=>s)).drop 0 |>.take 8)=ZG (fun _=>s):=by rw[zO,zN (by rw[ZO];exact zl _)]
   simp only[gv,zf,zh,zr,za,zm,Ql,hl,ZO];rw[if_neg (by decide),if_pos (by first|trivial|rfl),if_pos (by omega)];have:setR r0 0 (ZG (fun _=>s))=ZG (fun _=>s):=by
    rw[Ws (by rw[ZO];omega),QM,zU,ZO,Zo (by omega),Zq]
   rw[this,hl]
 | succ d ih =>
   intro k M cs h1 h2 h3 h4;obtain⟨M,rfl⟩:∃ M',M=M'+1:=⟨M - 1,by omega⟩;have hlt:decide ((k:Int) < 8)=true:=by simp;omega
   have key:∀ next,Ww n s [.agg r0,.agg cs,.int .i64 (k:Int)] h next=next [.agg r0,.agg (cs.set k (.ptr s 0)),.int .i64 ((k+1:Nat):Int)] h:=by
    intro next
    unfold Ww;simp only[gv,zf,zh,zr,za,zm,Ql,hlt,if_true,nv_int];rw[if_pos (by omega),if_pos (by first|exact⟨trivial,by omega⟩|omega),zH,za,Xa (show k < lim by unfold lim;omega),Xh,jW]
   rw[zA,key];refine ih (k+1) M _ (by omega) (by omega) (by rw[zt];exact h3) fun j hj=>?_;rw[Zd];split
   . rename_i e;rw[if_pos (by omega)]
   . exact h4 j (by omega)
theorem zam(n:Nat)(h:zd)(s:Nat)(hn:8 < n):call (n+1) 230 [.ptr s 0] h=some (.ret [.agg (ZG (fun _=>s))],h):=by
 rw[zgX];unfold zf3;exact zlD n s h _ rfl 8 0 n _ (by omega) hn rfl (fun j h=>by omega)
theorem zqe(n:Nat){ns:List Nd}(u:Nd)(hu:u∈ns)(P:Nat->Nat)(hP:∀ k,k < 8->∃ x∈ns,x.b=P k)(hne:∀ k,P k≠u.b)(N:Nx)(T:Nat)(hT:T<=8)(r0:List V)(hr:r0.length=8):∀ (d k M:Nat) (h:zd),k+d=T->d < M->Rep h ns (WL N u.b P k) →
    ∃ h',zR M (YH n u.b (.int .i64 (T:Int))) [.agg (ZG (fun j=>if j < k then u.b else P j)),.agg r0,.int .i64 (k:Int)] h=some (.ret [.agg (ZG (fun j=>if j < T then u.b else P j))],h')/\Rep h' ns (WL N u.b P T)/\h'.length=h.length/\∀ i,(∀ x∈ns,x.b≠i)->h'[i]?=h[i]?:=by
 intro d
 induction d with
 | zero =>
   intro k M h h1 h2 hr';obtain⟨M,rfl⟩:∃ M',M=M'+1:=⟨M - 1,by omega⟩;obtain rfl:k=T:=by omega
   refine⟨h,?_,hr',rfl,fun _ _=>rfl⟩;rw[zA];unfold YH;have hlt:decide ((k:Int) < (k:Int))=false:=by simp
   have hl:∀ Q,((ZG Q).drop 0 |>.take 8)=ZG Q:=fun Q=>by rw[zO,zN (by rw[ZO];exact zl _)]
   simp only[gv,zf,zh,zr,za,zm,Ql,hlt,zp,if_false,hl,ZO];rw[if_pos (by first|trivial|rfl),if_pos (by omega)];have:∀ Q,setR r0 0 (ZG Q)=ZG Q:=fun Q=>by
    rw[Ws (by rw[ZO];omega),QM,zU,ZO,Zo (by omega),Zq]
   rw[this,hl]
 | succ d ih =>
   intro k M h h1 h2 hr';obtain⟨M,rfl⟩:∃ M',M=M'+1:=⟨M - 1,by omega⟩;have hk:k < 8:=by omega
   obtain⟨x,hx,hxb⟩:=hP k hk;have hlt:decide ((k:Int) < (T:Int))=true:=by simp;omega
   have hone:=hr'.one x hx k;rw[hxb] at hone;obtain⟨w1,r1⟩:=hr'.write hu hk (WL N u.b P k (P k) k) hone;obtain⟨w2,r2⟩:=r1.write hx hk (.ptr u.b 0) rfl;rw[hxb] at w2 r2;have hg:(ZG (fun j=>if j < k then u.b else P j))[k]?=some (.ptr (P k) 0):=by rw[zbE _ hk,if_neg (by omega)]
   have hrd:zu h (.ptr (P k) (2+k))=some (x.cells (WL N u.b P k),10+x.post.length,2+k):=by rw[<- hxb];exact hr'.read hx _
   have hgx:(x.cells (WL N u.b P k))[2+k]?=some (WL N u.b P k (P k) k):=by rw[x.get _ hk,hxb]
   obtain⟨h',e,b1,b2,b3⟩:=ih (k+1) M _ (by omega) (by omega) r2;have hset:(ZG (fun j=>if j < k then u.b else P j)).set k (.ptr u.b 0)=ZG (fun j=>if j < k+1 then u.b else P j):=by
    rw[zgb _ hk];congr 1;funext j;by_cases e1:j=k
    . rw[if_pos e1,if_pos (by omega)]
    . rw[if_neg e1];by_cases e2:j < k
      . rw[if_pos e2,if_pos (by omega)]
      . rw[if_neg e2,if_neg (by omega)]
   refine⟨h',?_,b1,by rw[b2,zt,zt],fun i hi=>?_⟩
   . rw[zA];have key:∀ next,YH n u.b (.int .i64 (T:Int)) [.agg (ZG (fun j=>if j < k then u.b else P j)),.agg r0,.int .i64 (k:Int)] h next=next [.agg (ZG (fun j=>if j < k+1 then u.b else P j)),.agg r0,.int .i64 ((k+1:Nat):Int)] ((h.set u.b (.box (10+u.post.length) (u.cells (YQ (WL N u.b P k) u.b k (WL N u.b P k (P k) k))))).set (P k) (.box (10+x.post.length) (x.cells (YQ (YQ (WL N u.b P k) u.b k (WL N u.b P k (P k) k)) (P k) k (.ptr u.b 0))))):=by
      intro next
      unfold YH;simp only[gv,zf,zh,zr,za,zm,Ql,hlt,if_true,nv_int,XK,Xh,zq,hg,hrd,zn,hgx,hone,zD,zP,w1,w2,Zf,jW,hset,zH,Xa (show k < lim by unfold lim;omega)];rw[if_pos hk,if_pos (by omega),if_pos hk,if_pos (by omega),if_pos hk,if_pos hk,if_pos (by omega),if_pos hk,if_pos hk,if_pos (by first|exact⟨trivial,by omega⟩|omega)]
     rw[key];exact e
   . rw[b3 i hi,ze (by rw[<- hxb];exact hi x hx),ze (hi u hu)]
theorem zqf (n : Nat) {h : zd} {ns : List Nd} {N : Nx} (r : Rep h ns N) (u : Nd) (hu : u ∈ ns) {T : Nat} (hut : u.ht = (T : Int)) (hT : T <= 8) (P : Nat -> Nat) (hP : ∀ k, k < 8 -> ∃ x ∈ ns, x.b = P k) (hne : ∀ k, P k ≠ u.b) (hn : 8 < n) :
    ∃ h',call (n+1) 231 [.agg (ZG P),.ptr u.b 0] h=some (.ret [.agg (ZG (fun j=>if j < T then u.b else P j))],h')/\Rep h' ns (WL N u.b P T)/\h'.length=h.length/\∀ i,(∀ x∈ns,x.b≠i)->h'[i]?=h[i]?:=by
 obtain⟨h',e,b1,b2,b3⟩:=zqe n u hu P hP hne N T hT [V.val (.pointer none),V.val (.pointer none),V.val (.pointer none),V.val (.pointer none),V.val (.pointer none),V.val (.pointer none),V.val (.pointer none),V.val (.pointer none)] rfl T 0 n h (by omega) (by omega) r;refine⟨h',?_,b1,b2,b3⟩;rw[zlx];unfold zm4;rw[if_pos (by first|rfl|exact ZO P),r.read hu,zn,if_pos (by omega),u.get1,za,hut];have e0:(fun j=>if j < 0 then u.b else P j)=P:=by funext j;rw[if_neg (by omega)]
 rw[e0] at e;exact e
def nds(s:Nat)(many most:Int)(ts:List Tw):List Nd:=ndH s many most :: ts.map ndT
structure SkAt(h:zd)(s:Nat)(ts:List Tw)(most:Int)(N:Nx):Prop where
 rep:Rep h (nds s (ts.length:Int) most ts) N
 lk:Linked s ts N
 up:Rise ts
 ht:∀ t∈ts,1<=t.ht/\t.ht<=8
theorem Yc(s:Nat)(many most:Int)(ts:List Tw):(nds s many most ts).map Nd.b=s :: ts.map Tw.b:=by
 unfold nds;rw[zS,List.map_map];rfl
theorem zaS{s:Nat}{many most:Int}{ts:List Tw}{i:Nat}(hi:i<=ts.length):∃ x∈nds s many most ts,x.b=Xj s ts i:=by
 cases i with
 | zero=>exact⟨_,zF ..,rfl⟩
 | succ i =>
   obtain⟨t,ht⟩:∃ t,ts[i]?=some t:=⟨_,zg (by omega)⟩;exact⟨ndT t,zw _ (Zp (zJ ht)),by simp only[Xj,getD_some ht];rfl⟩
theorem zlE{ts:List Tw}{k k' i:Nat}(h:k'<=k)(ho:Yg ts k i):Yg ts k' i:=by
 cases i with
 | zero=>trivial
 | succ i=>obtain⟨t,ht,hk⟩:=ho;exact⟨t,ht,by omega⟩
theorem zqg:@zdV=@Qf:=rfl
theorem zqh:@zdW=@Qf:=rfl
theorem zso(n:Nat){h:zd}{s:Nat}{ts:List Tw}{many most:Int}{N:Nx}(r:Rep h (nds s many most ts) N)(lk:Linked s ts N)(up:Rise ts)(v:Int){k:Nat}(hk:k < 8)(cs r0:List V)(hcs:cs.length=8)(last:V)(next3:List V->zd->Option (Res×zd))(sv0 sv1:V):∀ (d i M:Nat),i+d=ts.length+1->d < M+1->i<=Xw ts v->Yg ts k i->0 < M →
    zR M (Qf n v [sv0,sv1,last,.int .i64 (k:Int)] next3) [.agg cs,.agg r0,.ptr (Xj s ts i) 0,nx k (ts.drop i)] h=next3 [.agg (cs.set k (.ptr (Xj s ts (Xf ts k (Xw ts v))) 0)),.agg r0,.ptr (Xj s ts (Xf ts k (Xw ts v))) 0,.int .i64 (IntKind.i64.wrap ((k:Int) - 1))] h:=by
 intro d
 induction d using Nat.strongRecOn with
 | _ d ih =>
 intro i M h1 h2 h3 h4 hM;obtain⟨M,rfl⟩:∃ M',M=M'+1:=⟨M - 1,by omega⟩;have hul:=qq ts v;have hend:(∀ m t,i<=m->m < Xw ts v->ts[m]?=some t->¬ k < t.ht)->Xf ts k (Xw ts v)=i:=fun hn=>zd4 h4 _ h3 hul hn;rw[zA];rcases zi8 (k:=k) (ts:=ts) i with ⟨f1,f2⟩|⟨m,t,f1,f2,f3,f4,f5⟩
 . have hl:=hend fun m t a1 a2 a3=>f2 m t a1 a3;have hnx:nx k (ts.drop i)=V.val (.pointer none):=by unfold nx;rw[f1];rfl
   rw[hl,hnx];have key:∀ next21,Qf n v [sv0,sv1,last,.int .i64 (k:Int)] next3 [.agg cs,.agg r0,.ptr (Xj s ts i) 0,.val (.pointer none)] h next21=next3 [.agg (cs.set k (.ptr (Xj s ts i) 0)),.agg r0,.ptr (Xj s ts i) 0,.int .i64 (IntKind.i64.wrap ((k:Int) - 1))] h:=by
    intro next21;unfold Qf;simp only[gv,zf,zh,zal,za,zm,zp,if_false,nv_int,Ql,V.cells,zD,zP,Xh,jW,ZQ];rw[if_pos hk,if_pos (by first|trivial|rfl),if_pos (by first|exact⟨trivial,by omega⟩|omega)]
   rw[key]
 . have hnx:nx k (ts.drop i)=V.ptr t.b 0:=by unfold nx;rw[f4]
   have hmem:ndT t∈nds s many most ts:=zw _ (Zp (zJ f2));have hrd:=r.read hmem;have hrd0:∀ o,zu h (.ptr t.b o)=some ((ndT t).cells N,10,o):=fun o=>hrd o;have hml:=(zi.1 f2).1;rw[hnx];by_cases hv:t.v<=v
   . have hmu:m < Xw ts v:=(jV up v f2).2 hv;have hgx:((ndT t).cells N)[2+k]?=some (nx k (ts.drop (m+1))):=by
      rw[(ndT t).get _ hk];have:=lk.tw m t k f2 hk;rw[if_pos f3] at this;rw[<- this];rfl
     have hp:Xj s ts (m+1)=t.b:=by simp only[Xj,getD_some f2]
     have IH:=ih (ts.length+1 - (m+1)) (by omega) (m+1) M (by omega) (by omega) (by omega) ⟨t,f2,f3⟩ (by omega);rw[hp] at IH;have key:∀ next21,Qf n v [sv0,sv1,last,.int .i64 (k:Int)] next3 [.agg cs,.agg r0,.ptr (Xj s ts i) 0,.ptr t.b 0] h next21=next21 [.agg cs,.agg r0,.ptr t.b 0,nx k (ts.drop (m+1))] h:=by
      intro next21;unfold Qf;simp only[gv,zf,zh,jd,za,zm,if_true,XK,zq,zW,Xh,hrd0,zn,Nd.get0,jO,nv_int,hgx,Ql];rw[if_pos (by omega),if_pos (by exact decide_eq_true hv),if_pos hk,if_pos (by omega)]
     rw[key];exact IH
   . have hmu:¬ m < Xw ts v:=fun h=>hv ((jV up v f2).1 h);have hl:=hend fun m' t' a1 a2 a3=>f5 m' t' a1 (by omega) a3;rw[hl];have key:∀ next21,Qf n v [sv0,sv1,last,.int .i64 (k:Int)] next3 [.agg cs,.agg r0,.ptr (Xj s ts i) 0,.ptr t.b 0] h next21=next3 [.agg (cs.set k (.ptr (Xj s ts i) 0)),.agg r0,.ptr (Xj s ts i) 0,.int .i64 (IntKind.i64.wrap ((k:Int) - 1))] h:=by
      intro next21;unfold Qf;simp only[gv,zf,zh,jd,za,zm,if_true,XK,zq,zW,Xh,hrd0,zn,Nd.get0,jO,nv_int,Ql,V.cells,zD,zP,jW,ZQ];rw[if_pos (by omega),if_neg (by exact fun e=>hv (of_decide_eq_true e)),if_pos hk,if_pos (by first|exact⟨trivial,by omega⟩|omega)]
     rw[key]
theorem zov(Q:Nat->Nat)(r0:List V)(hr:r0.length=8):(((setR r0 0 ((ZG Q).drop 0 |>.take 8))).drop 0 |>.take 8)=ZG Q:=by
 have hl:((ZG Q).drop 0 |>.take 8)=ZG Q:=by rw[zO,zN (by rw[ZO];exact zl _)]
 have:setR r0 0 (ZG Q)=ZG Q:=by
  rw[Ws (by rw[ZO];omega),QM,zU,ZO,Zo (by omega),Zq]
 rw[hl,this,hl]
theorem zbF(Q:Nat->Nat):((ZG Q).drop 0 |>.take 8)=ZG Q:=by rw[zO,zN (by rw[ZO];exact zl _)]
theorem zsp(n:Nat){h:zd}{s:Nat}{ts:List Tw}{many most:Int}{N:Nx}(r:Rep h (nds s many most ts) N)(lk:Linked s ts N)(up:Rise ts)(v:Int)(Q:Nat->Nat)(hQ:∀ k,k < 8->Q k<=Xw ts v/\Yg ts k (Q k))(r0:List V)(hr:r0.length=8)(hn:ts.length < n):∀ (c M:Nat) (last:V),c<=8->c < M →
    ((last=.val (.pointer none)/\c=8)\/∃ i,last=.ptr (Xj s ts i) 0/\i<=Xw ts v/\Yg ts c i) →
    zR M (Wa (n+1) v) [.agg (ZG (fun k=>if c<=k then Xj s ts (Xf ts k (Xw ts v)) else Xj s ts (Q k))),.agg r0,last,.int .i64 ((c:Int) - 1)] h=some (.ret [.agg (ZG (fun k=>Xj s ts (Xf ts k (Xw ts v))))],h):=by
 intro c
 induction c with
 | zero =>
   intro M last h1 h2 h3;obtain⟨M,rfl⟩:∃ M',M=M'+1:=⟨M - 1,by omega⟩;rw[zA];unfold Wa;have hlt:decide ((((0:Nat):Int) - 1) ≥ 0)=false:=by decide
   have e:(fun k=>if 0<=k then Xj s ts (Xf ts k (Xw ts v)) else Xj s ts (Q k))=fun k=>Xj s ts (Xf ts k (Xw ts v)):=by funext k;rw[if_pos (Ze _)]
   simp only[gv,zf,zh,Z8,za,zm,hlt,zp,if_false,Ql,e,zov _ r0 hr];simp only[zbF,ZO];rw[if_pos (by first|trivial|rfl),if_pos (by omega)]
 | succ k ih =>
   intro M last h1 h2 h3;obtain⟨M,rfl⟩:∃ M',M=M'+1:=⟨M - 1,by omega⟩;have hk:k < 8:=by omega
   have hul:=qq ts v;have hge:decide ((((k+1:Nat):Int) - 1) ≥ 0)=true:=by simp
   have hki:(((k+1:Nat):Int) - 1)=(k:Int):=by omega
   have hwr:IntKind.i64.wrap ((k:Int) - 1)=(k:Int) - 1:=by rw[w64] <;> omega
   obtain⟨q1,q2⟩:=hQ k hk;have hpk:(ZG (fun j=>if k+1<=j then Xj s ts (Xf ts j (Xw ts v)) else Xj s ts (Q j)))[k]?=some (.ptr (Xj s ts (Q k)) 0):=by rw[zbE _ hk,if_neg (by omega)]
   have hstep:(ZG (fun j=>if k+1<=j then Xj s ts (Xf ts j (Xw ts v)) else Xj s ts (Q j))).set k (.ptr (Xj s ts (Xf ts k (Xw ts v))) 0)=ZG (fun j=>if k<=j then Xj s ts (Xf ts j (Xw ts v)) else Xj s ts (Q j)):=by
    rw[zgb _ hk];congr 1;funext j;by_cases e1:j=k
    . rw[if_pos e1,if_pos (by omega),e1]
    . rw[if_neg e1];by_cases e2:k+1<=j
      . rw[if_pos e2,if_pos (by omega)]
      . rw[if_neg e2,if_neg (by omega)]
   have hon:Yg ts k (Xf ts k (Xw ts v)):=jU ts k _ hul;have IH:=ih M (.ptr (Xj s ts (Xf ts k (Xw ts v))) 0) (by omega) (by omega) (.inr ⟨_,rfl,JU ts k _,hon⟩);have walk:∀ i,i<=Xw ts v->Yg ts k i->∀ lst,zR (n+1) (Qf (n+1) v [.agg (ZG (fun j=>if k+1<=j then Xj s ts (Xf ts j (Xw ts v)) else Xj s ts (Q j))),.agg r0,lst,.int .i64 (k:Int)] (zR M (Wa (n+1) v))) [.agg (ZG (fun j=>if k+1<=j then Xj s ts (Xf ts j (Xw ts v)) else Xj s ts (Q j))),.agg r0,.ptr (Xj s ts i) 0,nx k (ts.drop i)] h=some (.ret [.agg (ZG (fun k=>Xj s ts (Xf ts k (Xw ts v))))],h):=fun i hi hi2 lst=>by
    rw[zso (n+1) r lk up v hk _ r0 (ZO _) lst _ _ _ (ts.length+1 - i) i (n+1) (by omega) (by omega) hi hi2 (by omega),hstep,hwr];exact IH
   have rdQ:∀ i,i<=Xw ts v->Yg ts k i->∃ cs m,zu h (.ptr (Xj s ts i) (2+k))=some (cs,m,2+k)/\2+k+1<=m/\cs[2+k]?=some (nx k (ts.drop i)):=fun i hi hi2=>by
    obtain⟨x,hx,hxb⟩:=zaS (s:=s) (many:=many) (most:=most) (ts:=ts) (i:=i) (by omega);refine⟨x.cells N,10+x.post.length,by rw[<- hxb];exact r.read hx _,by omega,?_⟩;rw[x.get _ hk,hxb,lk.at_ hk hi2]
   obtain⟨cs,m,c1,c2,c3⟩:=rdQ (Q k) q1 q2;rw[zA,hki];rcases h3 with ⟨rfl,h8⟩|⟨i,rfl,i1,i2⟩
   . have key:∀ next,Wa (n+1) v [.agg (ZG (fun j=>if k+1<=j then Xj s ts (Xf ts j (Xw ts v)) else Xj s ts (Q j))),.agg r0,.val (.pointer none),.int .i64 (k:Int)] h next=zR (n+1) (Qf (n+1) v [.agg (ZG (fun j=>if k+1<=j then Xj s ts (Xf ts j (Xw ts v)) else Xj s ts (Q j))),.agg r0,.val (.pointer none),.int .i64 (k:Int)] next) [.agg (ZG (fun j=>if k+1<=j then Xj s ts (Xf ts j (Xw ts v)) else Xj s ts (Q j))),.agg r0,.ptr (Xj s ts (Q k)) 0,nx k (ts.drop (Q k))] h:=by
       intro next
       unfold Wa;simp only[gv,zf,zh,Z8,za,zm];rw[if_pos (decide_eq_true (Js k)),zja,za,zm,if_pos rfl];simp only[nv_int,za,Ql,Xh,hpk,XK,zq,zW,c1,zn,c3];rw[if_pos hk,if_pos (by omega),if_pos hk,if_pos (by omega)]
     rw[key];exact walk (Q k) q1 q2 _
   . have i2':=zlE (k':=k) (by omega) i2;obtain⟨ds,m',d1,d2,d3⟩:=rdQ i i1 i2';obtain⟨x,hx,hxb⟩:=zaS (s:=s) (many:=many) (most:=most) (ts:=ts) (i:=Q k) (by omega);obtain⟨y,hy,hyb⟩:=zaS (s:=s) (many:=many) (most:=most) (ts:=ts) (i:=i) (by omega);obtain⟨b,hb⟩:=zg4 n r hx hy;rw[hxb,hyb] at hb;have key:∀ next,Wa (n+1) v [.agg (ZG (fun j=>if k+1<=j then Xj s ts (Xf ts j (Xw ts v)) else Xj s ts (Q j))),.agg r0,.ptr (Xj s ts i) 0,.int .i64 (k:Int)] h next=zR (n+1) (Qf (n+1) v [.agg (ZG (fun j=>if k+1<=j then Xj s ts (Xf ts j (Xw ts v)) else Xj s ts (Q j))),.agg r0,.ptr (Xj s ts i) 0,.int .i64 (k:Int)] next) [.agg (ZG (fun j=>if k+1<=j then Xj s ts (Xf ts j (Xw ts v)) else Xj s ts (Q j))),.agg r0,.ptr (Xj s ts (if b then Q k else i)) 0,nx k (ts.drop (if b then Q k else i))] h:=by
      intro next
      unfold Wa;simp only[gv,zf,zh,Z8,za,zm];rw[if_pos (decide_eq_true (Js k)),zi9,za,zm,if_neg (by decide)];simp only[nv_int,za,Ql,Xh,hpk];rw[if_pos hk,if_pos (by omega),hb,zM,zx,zm];cases b with
      | true =>
        rw[if_pos rfl];simp only[nv_int,za,Ql,Xh,hpk,XK,zq,zW,c1,zn,c3,if_true,zqg];rw[if_pos hk,if_pos (by omega),if_pos hk,if_pos (by omega)]
      | false =>
        rw[if_neg (by decide)];simp only[nv_int,za,Ql,Xh,XK,zq,zW,d1,zn,d3,zp,if_false,zqh];rw[if_pos hk,if_pos (by omega)]
     rw[key];cases b with
     | true=>exact walk (Q k) q1 q2 _
     | false=>exact walk i i1 i2' _
theorem zsq (n : Nat) {h : zd} {s : Nat} {ts : List Tw} {many most : Int} {N : Nx} (r : Rep h (nds s many most ts) N) (lk : Linked s ts N) (up : Rise ts) (v : Int) (Q : Nat -> Nat) (hQ : ∀ k, k < 8 -> Q k <= Xw ts v /\ Yg ts k (Q k)) (hn : ts.length + 8 < n) :
    call (n+2) 238 [.agg (ZG (fun k=>Xj s ts (Q k))),.int .i32 v] h=some (.ret [.agg (ZG (fun k=>Xj s ts (Xf ts k (Xw ts v))))],h):=by
 rw[show n+2=(n+1)+1 from rfl,zoo];unfold zp6;rw[if_pos (ZO _)];have e:=zsp n r lk up v Q hQ [V.val (.pointer none),V.val (.pointer none),V.val (.pointer none),V.val (.pointer none),V.val (.pointer none),V.val (.pointer none),V.val (.pointer none),V.val (.pointer none)] rfl (by omega) 8 (n+1) (.val (.pointer none)) (by omega) (by omega) (.inl ⟨rfl,rfl⟩);have e0:ZG (fun k=>if 8<=k then Xj s ts (Xf ts k (Xw ts v)) else Xj s ts (Q k))=ZG (fun k=>Xj s ts (Q k)):=by
  unfold ZG;apply List.map_congr_left;intro k hk;have:=zZ.1 hk;simp only;rw[if_neg (by omega)]
 rw[e0] at e;exact e
end Go.Proofs.Tryz
namespace Go.Sk
open Go.L
theorem zsr{ts:List Tw}{k j:Nat}(hj:j<=ts.length):nx k (ts.drop (Xf ts k j))=nx k (ts.drop j):=by
 have hl:=JU ts k j;unfold nx;rw[zf8 hl hj];have:jb k ((ts.take j).drop (Xf ts k j))=none:=by
  cases h:jb k ((ts.take j).drop (Xf ts k j)) with
  | none=>rfl
  | some t =>
    obtain⟨m,h1,h2,h3,h4⟩:=qP h;exact absurd h4 (zak ts k j m t h1 h2 h3)
 unfold jb at this ⊢;rw[Jw,this];rfl
theorem zjb(ts:List Tw)(j:Nat)(u:Tw):(ins ts j u).Perm (u :: ts):=by
 unfold ins;refine List.perm_middle.trans ?_;rw[Zy]
theorem zaT{ts:List Tw}{j:Nat}{u t:Tw}:t∈ins ts j u ↔ t=u\/t∈ts:=by rw[(zjb ts j u).mem_iff,zL]
def qE(N:Nx)(b:Nat):Nx:=fun b' k=>if b'=b then qD else N b' k
end Go.Sk
namespace Go.Proofs.Tryz
open Go.L Go.Rp Go.Sk
set_option maxRecDepth 100000
def skB(s:Nat)(ts:List Tw):List Nat:=s :: ts.map Tw.b
theorem SkAt.nd{h:zd}{s:Nat}{ts:List Tw}{most:Int}{N:Nx}(S:SkAt h s ts most N):(skB s ts).Nodup:=by
 have:=S.rep.nd;rwa[Yc] at this
theorem SkAt.lt{h:zd}{s:Nat}{ts:List Tw}{most:Int}{N:Nx}(S:SkAt h s ts most N):∀ b∈skB s ts,b < h.length:=fun b hb=>by
 unfold skB at hb;rw[<- Yc s (ts.length:Int) most] at hb;obtain⟨x,hx,rfl⟩:=Zv.1 hb;exact zT (S.rep.at_ x hx)
theorem SkAt.keep{h h':zd}{s:Nat}{ts:List Tw}{most:Int}{N:Nx}(S:SkAt h s ts most N)(hk:∀ b∈skB s ts,h'[b]?=h[b]?):SkAt h' s ts most N :=
 ⟨S.rep.keep fun x hx=>hk _ (by unfold skB;rw[<- Yc s (ts.length:Int) most];exact Zp hx),S.lk,S.up,S.ht⟩
theorem zow{N:Nx}{b:Nat}(h:∀ k,N b k=qD):YX (N b)=YX (fun _=>qD):=by
 congr 1;funext k;exact h k
theorem zd6 (n : Nat) {h : zd} {s : Nat} {ts : List Tw} {most : Int} {N : Nx} (S : SkAt h s ts most N) (v kk : Int) (Q : Nat -> Nat) (hQ : ∀ k, k < 8 -> Q k <= Xw ts v /\ Yg ts k (Q k)) (hn : ts.length + 8 < n) (hlim : ts.length < lim) :
    ∃ (u:Tw) (h1 h2:zd) (N':Nx) (cs:List V) (B:HB),u.b=h.length/\u.v=v/\(u.ht:Int)=max 1 (min kk 8) ∧
     call (n+2) 238 [.agg (ZG (fun k=>Xj s ts (Q k))),.int .i32 v] h=some (.ret [.agg (ZG (fun k=>Xj s ts (Xf ts k (Xw ts v))))],h) ∧
     call (n+2) 232 [.int .i32 v,.int .i64 kk] h=some (.ret [.ptr u.b 0],h1) ∧
     call (n+2) 231 [.agg (ZG (fun k=>Xj s ts (Xf ts k (Xw ts v)))),.ptr u.b 0] h1=some (.ret [.agg (ZG (fun k=>Xj s (ins ts (Xw ts v) u) (Xf (ins ts (Xw ts v) u) k (Xw ts v+1))))],h2) ∧
     zu h2 (.ptr s 10)=some (cs,12,10)/\cs[10]?=some (.int .i64 (ts.length:Int))/\Zt h2 [.int .i64 ((ts.length+1:Nat):Int)] (.ptr s 10)=some (s,B) ∧
     SkAt (h2.set s B) s (ins ts (Xw ts v) u) most N'/\(h2.set s B).length=h.length+1/\∀ i,i < h.length->i ∉ skB s ts->(h2.set s B)[i]?=h[i]?:=by
 obtain⟨T,hT⟩:∃ T:Nat,(T:Int)=max 1 (min kk 8):=⟨(max 1 (min kk 8)).toNat,ZH (by omega)⟩;have hT1:1<=T/\T<=8:=by omega
 have hul:=qq ts v;have hlt:=S.lt;have hnd:=S.nd;have hon:=zsq n S.rep S.lk S.up v Q hQ hn;have htall:=zgc (n+1) h v kk;obtain⟨P,hPe⟩:∃ P:Nat->Nat,P=fun k=>Xj s ts (Xf ts k (Xw ts v)):=⟨_,rfl⟩;rw[<- hPe] at hon;obtain⟨u,hu⟩:∃ u:Tw,u=⟨h.length,v,T⟩:=⟨_,rfl⟩;have hub:u.b=h.length:=by rw[hu]
 have huT:u.ht=T:=by rw[hu]
 have huv:u.v=v:=by rw[hu]
 have hfresh:∀ b∈skB s ts,b≠h.length:=fun b hb e=>by have:=hlt b hb;omega
 have hPin:∀ k,P k∈skB s ts:=fun k=>by
  rw[hPe];obtain⟨x,hx,hxb⟩:=zaS (s:=s) (many:=(ts.length:Int)) (most:=most) (ts:=ts) (i:=Xf ts k (Xw ts v)) (by have:=JU ts k (Xw ts v);omega);simp only;rw[<- hxb];unfold skB;rw[<- Yc s (ts.length:Int) most];exact Zp hx
 obtain⟨h1,hh1⟩:∃ h1:zd,h1=h++[.box 10 ([.int .i32 v,.int .i64 (max 1 (min kk 8))]++YX (fun _=>qD))]:=⟨_,rfl⟩;rw[<- hh1] at htall;have hN1:∀ b∈skB s ts,qE N h.length b=N b:=fun b hb=>by funext k;unfold qE;rw[if_neg (hfresh b hb)]
 have r1:Rep h1 (ndT u :: nds s (ts.length:Int) most ts) (qE N h.length):=by
  refine⟨fun x hx=>?_,?_,fun x hx k=>?_⟩
  . rcases zL.1 hx with rfl|hx
    . show h1[u.b]?=some (.box (10+0) ([.int .i32 u.v,.int .i64 (u.ht:Int)]++(YX (qE N h.length u.b)++[])));rw[hub,hh1,zI,huv,huT,hT,Zq,zow (N:=qE N h.length) (b:=h.length) (fun k=>by unfold qE;rw[if_pos rfl])]
    . have hb:x.b∈skB s ts:=by unfold skB;rw[<- Yc s (ts.length:Int) most];exact Zp hx
      have:=S.rep.at_ x hx;unfold jc at this ⊢;rw[hh1,zk (hlt _ hb),this];unfold Nd.cells;rw[hN1 _ hb]
  . rw[zS,Yc];refine ZP.2 ⟨fun hm=>hfresh _ hm hub,hnd⟩
  . rcases zL.1 hx with rfl|hx
    . have e:qE N h.length (ndT u).b k=qD:=if_pos hub;rw[e];rfl
    . have hb:x.b∈skB s ts:=by unfold skB;rw[<- Yc s (ts.length:Int) most];exact Zp hx
      rw[hN1 _ hb];exact S.rep.one x hx k
 have hPne:∀ k,P k≠u.b:=fun k e=>hfresh _ (hPin k) (e.trans hub);obtain⟨h2,e3,r2,l2,f2⟩:=zqf (n+1) r1 (ndT u) (zF ..) (T:=T) (by show ((u.ht:Nat):Int)=_;rw[huT]) hT1.2 P (fun k hk=>by
     have:=hPin k;unfold skB at this;rw[<- Yc s (ts.length:Int) most] at this;obtain⟨x,hx,hxb⟩:=Zv.1 this;exact⟨x,zw _ hx,hxb⟩) hPne (by omega)
 have hlk:Linked s (ins ts (Xw ts v) u) (WL (qE N h.length) u.b P T):=by
  have hnd':=ZP.1 hnd;refine S.lk.ins hnd'.2 hnd'.1 (fun e=>hfresh s (zF ..) (e.symm.trans hub)) (fun hm=>hfresh _ (zw _ hm) hub) hul (fun k hk=>?_) (fun k hk hku=>?_) (fun b k hk hb1 hb2=>?_)
  . rw[huT];by_cases hkT:k < T
    . rw[if_pos hkT,(zcX (qE N h.length) u.b P hPne T k hkT).1,hN1 _ (hPin k),hPe];simp only;rw[S.lk.at_ hk (jU ts k _ hul),zsr hul]
    . rw[if_neg hkT,zaR _ _ _ _ _ _ (by omega),hub];unfold qE;rw[if_pos rfl]
  . rw[huT] at hku;have:=(zcX (qE N h.length) u.b P hPne T k hku).2.1;rw[hPe] at this;rw[hPe];exact this
  . have hbN:qE N h.length b k=N b k:=by unfold qE;rw[if_neg (by rw[<- hub];exact hb1)]
    by_cases hkT:k < T
    . rw[(zcX (qE N h.length) u.b P hPne T k hkT).2.2 b hb1 (by rw[hPe];exact hb2 (by rw[huT];exact hkT)),hbN]
    . rw[zaR _ _ _ _ _ _ (by omega),hbN]
 have hpath:ZG (fun j=>if j < T then(ndT u).b else P j)=ZG (fun k=>Xj s (ins ts (Xw ts v) u) (Xf (ins ts (Xw ts v) u) k (Xw ts v+1))):=by
  congr 1;funext k;rw[zg3 hul,huT];by_cases hkT:k < T
  . rw[if_pos hkT,if_pos hkT];simp only[Xj,getD_some (zg2 hul)];rfl
  . rw[if_neg hkT,if_neg hkT,zqd hul (JU _ _ _),hPe]
 rw[hpath] at e3;have hhd:=r2.at_ (ndH s (ts.length:Int) most) (zw _ (zF ..));have hcell:=r2.read (x:=ndH s (ts.length:Int) most) (zw _ (zF ..)) 10;have hc10:∀ (many:Int) (M:Nx),((ndH s many most).cells M)[10]?=some (.int .i64 many):=fun many M=>by
  unfold Nd.cells;rw[zK (by simp),zK (by rw[Qg];simp)];simp[Qg,ndH]
 have hset:∀ (a b:Int) (M:Nx),setR ((ndH s a most).cells M) 10 [.int .i64 b]=(ndH s b most).cells M:=fun a b M=>by
  show (List.set _ _ _)=_;unfold Nd.cells;rw[ZC _ _ (by simp),ZC _ _ (by rw[Qg];simp)];congr 1
  try simp[Qg,ndH]
 have hsl:=zT hhd;have hw:Zt h2 [.int .i64 ((ts.length+1:Nat):Int)] (.ptr s 10)=some (s,.box 12 ((ndH s ((ts.length+1:Nat):Int) most).cells (WL (qE N h.length) u.b P T))):=by
  have h0:h2[s]?=some (.box 12 ((ndH s (ts.length:Int) most).cells (WL (qE N h.length) u.b P T))):=hhd;rw[ZV h0 (by simp),hset]
 refine⟨u,h1,h2,_,_,_,hub,huv,by rw[huT];exact hT,hPe ▸ hon,by rw[hub];exact htall,hPe ▸ e3,hcell,hc10 _ _,hw,⟨⟨fun x hx=>?_,?_,fun x hx k=>?_⟩,hlk,?_,fun t ht=>?_⟩,?_,fun i hi hib=>?_⟩
 . rcases zL.1 hx with rfl|hx
   . rw[zm7 hul];exact Xr hsl _
   . obtain⟨t,ht,rfl⟩:=Zv.1 hx;have hm:ndT t∈ndT u :: nds s (ts.length:Int) most ts:=by
      rcases zaT.1 ht with rfl|ht
      . exact zF ..
      . exact zw _ (zw _ (Zp ht))
     have hne:t.b≠s:=by
      rcases zaT.1 ht with rfl|ht
      . intro e;exact hfresh s (zF ..) (e.symm.trans hub)
      . intro e;exact(ZP.1 hnd).1 (e ▸ Zp ht)
     unfold jc;rw[ze (show s≠(ndT t).b from Ne.symm hne)];exact r2.at_ _ hm
 . rw[Yc];have hp:((ins ts (Xw ts v) u).map Tw.b).Perm ((u :: ts).map Tw.b):=(zjb ts _ u).map _;have hnd':=ZP.1 hnd;refine ZP.2 ⟨fun hm=>?_,hp.nodup_iff.2 ?_⟩
   . rcases zL.1 (hp.mem_iff.1 hm) with e|hm
     . exact hfresh s (zF ..) (e.trans hub)
     . exact hnd'.1 hm
   . rw[zS];exact ZP.2 ⟨fun hm=>hfresh _ (zw _ hm) hub,hnd'.2⟩
 . rcases zL.1 hx with rfl|hx
   . exact r2.one (ndH s (ts.length:Int) most) (zw _ (zF ..)) k
   . obtain⟨t,ht,rfl⟩:=Zv.1 hx;rcases zaT.1 ht with rfl|ht
     . exact r2.one _ (zF ..) k
     . exact r2.one _ (zw _ (zw _ (Zp ht))) k
 . have:=S.up.ins u;rwa[huv] at this
 . rcases zaT.1 ht with rfl|ht
   . rw[huT];exact hT1
   . exact S.ht t ht
 . rw[zt,l2,hh1,zE];rfl
 . have his:i≠s:=fun e=>hib (e ▸ zF ..);rw[ze (Ne.symm his),f2 i fun x hx e=>?_,hh1,zk hi];rcases zL.1 hx with rfl|hx
   . have:(ndT u).b=h.length:=hub;omega
   . refine hib ?_;unfold skB;rw[<- Yc s (ts.length:Int) most,<- e];exact Zp hx
theorem qs(s:Nat)(many most:Int)(M:Nx):((ndH s many most).cells M)[10]?=some (.int .i64 many):=by
 unfold Nd.cells;rw[zK (by simp),zK (by rw[Qg];simp)];simp[Qg,ndH]
theorem zbG(s:Nat)(many most:Int)(M:Nx):((ndH s many most).cells M)[11]?=some (.int .i64 most):=by
 unfold Nd.cells;rw[zK (by simp),zK (by rw[Qg];simp)];simp[Qg,ndH]
theorem zqi(s:Nat)(a b most:Int)(M:Nx):setR ((ndH s a most).cells M) 10 [.int .i64 b]=(ndH s b most).cells M:=by
 show (List.set _ _ _)=_;unfold Nd.cells;rw[ZC _ _ (by simp),ZC _ _ (by rw[Qg];simp)];congr 1
 try simp[Qg,ndH]
theorem SkAt.head{h:zd}{s:Nat}{ts:List Tw}{most:Int}{N:Nx}(S:SkAt h s ts most N)(o:Nat):zu h (.ptr s o)=some ((ndH s (ts.length:Int) most).cells N,12,o):=S.rep.read (x:=ndH s (ts.length:Int) most) (zF ..) o
theorem SkAt.hb{h:zd}{s:Nat}{ts:List Tw}{most:Int}{N:Nx}(S:SkAt h s ts most N):h[s]?=some (.box 12 ((ndH s (ts.length:Int) most).cells N)):=S.rep.at_ _ (zF ..)
theorem zbH(n:Nat){h:zd}{s:Nat}{ts:List Tw}{most:Int}{N:Nx}(S:SkAt h s ts most N):call (n+1) 226 [.ptr s 0] h=some (.ret [.int .i64 most],h):=by
 refine(zi3 n s h).trans ?_;unfold zi2;rw[J2,za,zm,if_neg (by decide),S.head,zn,if_pos (by decide),zbG,za]
theorem jX(n:Nat){h:zd}{s:Nat}{ts:List Tw}{most:Int}{N:Nx}(S:SkAt h s ts most N):call (n+1) 218 [.ptr s 0] h=some (.ret [.int .i64 (ts.length:Int)],h):=by
 refine(zlv n s h).trans ?_;unfold zm2;rw[J2,za,zm,if_neg (by decide),S.head,zn,if_pos (by decide),qs,za]
structure Put(h h':zd)(s:Nat)(ts ts':List Tw)(most:Int)(v kk:Int):Prop where
 sk:∃ N,SkAt h' s ts' most N
 ins:∃ u:Tw,u.b=h.length/\u.v=v/\(u.ht:Int)=max 1 (min kk 8)/\ts'=Go.Sk.ins ts (Xw ts v) u
 len:h'.length=h.length+1
 old:∀ i,i < h.length->i ∉ skB s ts->h'[i]?=h[i]?
theorem zbI(k:IntKind)(a:Int):V.cells (.int k a)=[.int k a]:=rfl
theorem zjc (n : Nat) {h : zd} {s : Nat} {ts : List Tw} {most : Int} {N : Nx} (S : SkAt h s ts most N) (v kk : Int) (hn : ts.length + 8 < n) (hlim : ts.length < lim) (hm : (ts.length : Int) < most) :
    ∃ h' ts',call (n+3) 233 [.ptr s 0,.int .i32 v,.int .i64 kk] h=some (.ret [.bool true],h')/\Put h h' s ts ts' most v kk:=by
 obtain⟨u,h1,h2,N',cs,B,a1,a2,a3,e1,e2,e3,c1,c2,w,S',l',f'⟩:=zd6 n S v kk (fun _=>0) (fun k _=>⟨Ze _,trivial⟩) hn hlim;refine⟨h2.set s B,_,?_,⟨⟨N',S'⟩,⟨u,a1,a2,a3,rfl⟩,l',f'⟩⟩;refine(zfa (n+2) s v kk h).trans ?_;unfold zdX;have hb:=zam (n+1) h s (by omega);have hb':call (n+2) 230 [.ptr s 0] h=some (.ret [.agg (ZG (fun _=>Xj s ts 0))],h):=hb;rw[J2,za,zm,if_neg (by decide),S.head,zn,if_pos (by decide),qs,za,S.head,zn,if_pos (by decide),zbG,za,Z8,za,zm];rw[if_neg (by intro e;have:=of_decide_eq_true e;omega),hb',zM,zx,e1,zM,zx,e2,zM,zx,e3,zM,zx,c1,zn,if_pos (by decide),c2,za,zH,za,Xa hlim,zbI,if_pos (by rfl),w,Zf]
def Kd (N : Nx) (s b : Nat) : Nat -> Nx
 | 0=>N
 | k+1=>YQ (Kd N s b k) s k (Kd N s b k b k)
theorem zjd (N : Nx) {s b : Nat} (hsb : s ≠ b) : ∀ K, (∀ b' k, b' ≠ s -> Kd N s b K b' k = N b' k) /\ ∀ k, Kd N s b K s k = if k < K then N b k else N s k
 | 0=>⟨fun _ _ _=>rfl,fun k=>by rw[if_neg (by omega)];rfl⟩
 | K+1=>by
   obtain⟨h1,h2⟩:=zjd N hsb K;refine⟨fun b' k hb=>?_,fun k=>?_⟩
   . simp only[Kd,YQ];rw[if_neg (fun e=>hb e.1)];exact h1 b' k hb
   . simp only[Kd,YQ];by_cases e:k=K
     . rw[if_pos (by first|exact⟨rfl,e⟩|exact⟨trivial,e⟩),h1 b K (Ne.symm hsb),if_pos (by omega),e]
     . rw[if_neg (fun h=>e h.2),h2 k];by_cases h3:k < K
       . rw[if_pos h3,if_pos (by omega)]
       . rw[if_neg h3,if_neg (by omega)]
structure Took(h h':zd)(s:Nat)(ts:List Tw)(most:Int):Prop where
 sk:∃ N,SkAt h' s ts most N
 len:h'.length=h.length
 old:∀ i,i≠s->h'[i]?=h[i]?
theorem zqj(n:Nat){ns:List Nd}{N:Nx}{x t:Nd}(hx:x∈ns)(ht:t∈ns)(hne:x.b≠t.b)(T:Nat)(hT:T<=8):∀ (d k M:Nat) (h:zd),k+d=T->d < M->Rep h ns (Kd N x.b t.b k) →
    ∃ h' M',zR M (QU n x.b (.ptr t.b 0) (.int .i64 (T:Int))) [.int .i64 (k:Int)] h=QU n x.b (.ptr t.b 0) (.int .i64 (T:Int)) [.int .i64 (T:Int)] h' (zR M' (QU n x.b (.ptr t.b 0) (.int .i64 (T:Int))))/\Rep h' ns (Kd N x.b t.b T)/\h'.length=h.length/\∀ i,i≠x.b->h'[i]?=h[i]?:=by
 intro d
 induction d with
 | zero =>
   intro k M h h1 h2 r;obtain⟨M,rfl⟩:∃ M',M=M'+1:=⟨M - 1,by omega⟩;obtain rfl:k=T:=by omega
   exact⟨h,M,zA ..,r,rfl,fun _ _=>rfl⟩
 | succ d ih =>
   intro k M h h1 h2 r;obtain⟨M,rfl⟩:∃ M',M=M'+1:=⟨M - 1,by omega⟩;have hk:k < 8:=by omega
   have hlt:decide ((k:Int) < (T:Int))=true:=by simp;omega
   have hone:=r.one t ht k;obtain⟨w,r'⟩:=r.write hx hk (Kd N x.b t.b k t.b k) hone;have hrd:=r.read ht (2+k);have hg:=t.get (Kd N x.b t.b k) hk;have key:∀ next,QU n x.b (.ptr t.b 0) (.int .i64 (T:Int)) [.int .i64 (k:Int)] h next=next [.int .i64 ((k+1:Nat):Int)] (h.set x.b (.box (10+x.post.length) (x.cells (YQ (Kd N x.b t.b k) x.b k (Kd N x.b t.b k t.b k))))):=by
    intro next
    unfold QU;simp only[gv,zf,zr,za,zm,hlt,if_true,nv_int,XK,Xh,zq,hrd,zn,hg,hone,zD,zP,w,Zf,zH,Xa (show k < lim by unfold lim;omega)];rw[if_pos hk,if_pos (by omega),if_pos hk]
   obtain⟨h',M',e,b1,b2,b3⟩:=ih (k+1) M _ (by omega) (by omega) r';exact⟨h',M',by rw[zA,key];exact e,b1,by rw[b2,zt],fun i hi=>by rw[b3 i hi,ze (Ne.symm hi)]⟩
theorem zqk (n : Nat) {h : zd} {s : Nat} {t : Tw} {ts : List Tw} {most : Int} {N : Nx} (S : SkAt h s (t :: ts) most N) (hn : 8 < n) (hlim : ts.length + 1 < lim) :
    ∃ h',call (n+2) 239 [.ptr s 0] h=some (.ret [.int .i32 t.v,.bool true],h')/\Took h h' s ts most:=by
 have hmem:ndT t∈nds s ((t :: ts).length:Int) most (t :: ts):=zw _ (Zp (zF ..));have hmh:ndH s ((t :: ts).length:Int) most∈nds s ((t :: ts).length:Int) most (t :: ts):=zF ..;have hht:=S.ht t (zF ..);have hnd:=S.nd;have hne:s≠t.b:=fun e=>(ZP.1 hnd).1 (e ▸ zF ..);have hnx:N s 0=.ptr t.b 0:=by
  have:=S.lk.hd 0 (by omega);rw[this];unfold nx jb;rw[List.find?_cons,decide_eq_true (by omega)]
 have h2:((ndH s ((t :: ts).length:Int) most).cells N)[2]?=some (.ptr t.b 0):=by
  have:=(ndH s ((t :: ts).length:Int) most).get N (k:=0) (by omega);rw[zW] at this;rw[this];exact congrArg some hnx
 have hT1:∀ o,zu h (.ptr t.b o)=some ((ndT t).cells N,10,o):=fun o=>S.rep.read hmem o;have hend:∀ h' next,Rep h' (nds s ((t :: ts).length:Int) most (t :: ts)) (Kd N s t.b t.ht)->h'.length=h.length->(∀ i,i≠s->h'[i]?=h[i]?) →
     QU (n+1) s (.ptr t.b 0) (.int .i64 (t.ht:Int)) [.int .i64 (t.ht:Int)] h' next=some (.ret [.int .i32 t.v,.bool true],h'.set s (.box 12 ((ndH s (ts.length:Int) most).cells (Kd N s t.b t.ht)))):=fun h' next r hl hf=>by
  unfold QU;have hlt:decide ((t.ht:Int) < (t.ht:Int))=false:=by simp
  have hrd:zu h' (.ptr s 10)=some ((ndH s ((t :: ts).length:Int) most).cells (Kd N s t.b t.ht),12,10):=r.read hmh 10;have hb:h'[s]?=some (.box 12 ((ndH s ((t :: ts).length:Int) most).cells (Kd N s t.b t.ht))):=r.at_ _ hmh;have hsub:IntKind.i64.wrap (((ts.length+1:Nat):Int) - 1)=(ts.length:Int):=by unfold lim at hlim;rw[w64] <;> omega
  have hw:Zt h' [.int .i64 (ts.length:Int)] (.ptr s 10)=some (s,.box 12 ((ndH s (ts.length:Int) most).cells (Kd N s t.b t.ht))):=by rw[ZV hb (by simp),zqi]
  have hrt:zu (h'.set s (.box 12 ((ndH s (ts.length:Int) most).cells (Kd N s t.b t.ht)))) (.ptr t.b 0)=some ((ndT t).cells (Kd N s t.b t.ht),10,0):=by
   refine zC ?_ 0;rw[ze hne];exact r.at_ _ hmem
  simp only[gv,zf,zr,za,zm,hlt,zp,if_false,hrd,zn,qs,ZQ,hsub,zbI,zD,zP,hw,Zf,XK,zq,hrt,Nd.get0];rw[if_pos (by omega),if_pos (by first|trivial|rfl),if_pos (by omega)];rfl
 obtain⟨h',M',e,b1,b2,b3⟩:=zqj (n+1) hmh hmem hne t.ht hht.2 t.ht 0 (n+1) h (by omega) (by omega) S.rep;have e2:=hend h' (zR M' (QU (n+1) s (.ptr t.b 0) (.int .i64 (t.ht:Int)))) b1 b2 b3;have hbs:=b1.at_ _ hmh;have hsl:=zT hbs;refine⟨h'.set s (.box 12 ((ndH s (ts.length:Int) most).cells (Kd N s t.b t.ht))),?_,⟨⟨Kd N s t.b t.ht,⟨⟨fun x hx=>?_,?_,fun x hx k=>?_⟩,?_,(Xg.1 S.up).2,fun u hu=>S.ht u (zw _ hu)⟩⟩,by rw[zt,b2],fun i hi=>by rw[ze (Ne.symm hi),b3 i hi]⟩⟩
 . refine(zdY (n+1) s h).trans ?_;unfold zgZ;rw[jX n S,zM,zx,Xv,za,zm,if_neg (by simp;omega),S.head,zn,if_pos (by decide),h2,za,XK,za,zq,XK,za,zq,hT1,zn,if_pos (by decide),Nd.get1,za];exact e.trans e2
 . rcases zL.1 hx with rfl|hx
   . exact Xr hsl _
   . obtain⟨u,hu,rfl⟩:=Zv.1 hx;have hne':u.b≠s:=fun e=>(ZP.1 hnd).1 (e ▸ Zp (zw _ hu));unfold jc;rw[ze (show s≠(ndT u).b from Ne.symm hne')];exact b1.at_ _ (zw _ (Zp (zw _ hu)))
 . rw[Yc];have h1:=ZP.1 hnd;rw[zS] at h1;exact ZP.2 ⟨fun hm=>h1.1 (zw _ hm),(ZP.1 h1.2).2⟩
 . rcases zL.1 hx with rfl|hx
   . exact b1.one (ndH s ((t :: ts).length:Int) most) hmh k
   . obtain⟨u,hu,rfl⟩:=Zv.1 hx;exact b1.one _ (zw _ (Zp (zw _ hu))) k
 . have h1:=ZP.1 hnd;obtain⟨m1,m2⟩:=zjd N hne t.ht;exact S.lk.tail h1.2 h1.1 (fun k _=>m2 k) (fun b k _ hb=>m1 b k hb)
theorem zql(n:Nat){h:zd}{s:Nat}{most:Int}{N:Nx}(S:SkAt h s [] most N):call (n+2) 239 [.ptr s 0] h=some (.ret [.int .i32 0,.bool false],h):=by
 refine(zdY (n+1) s h).trans ?_;unfold zgZ;rw[jX n S,zM,zx,Xv,za,zm,if_pos (by rfl)]
theorem zd7(n:Nat)(h:zd)(m:Int):∃ N,call (n+1) 61 [.int .i64 m] h=some (.ret [.ptr h.length 0],h++[.box 12 ((ndH h.length 0 (max 0 (min m 1000))).cells (fun _ _=>qD))])/\SkAt (h++[.box 12 ((ndH h.length 0 (max 0 (min m 1000))).cells (fun _ _=>qD))]) h.length [] (max 0 (min m 1000)) N:=by
 refine⟨fun _ _=>qD,?_,⟨⟨fun x hx=>?_,by simp[nds],fun x hx k=>rfl⟩,⟨fun k hk=>rfl,fun i t k ht=>by simp at ht⟩,by simp[Rise],by simp⟩⟩
 . refine(zlu n m h).trans ?_;unfold zm1;have e:(if (0:Int) < (if 1000 < m then 1000 else m) then(if 1000 < m then 1000 else m) else 0)=max 0 (min m 1000):=by
    by_cases h1:1000 < m
    . simp only[if_pos h1];omega
    . simp only[if_neg h1];split <;> omega
   rw[e];rfl
 . rcases zL.1 hx with rfl|hx
   . exact zI
   . simp at hx
theorem zd8(n:Nat)(a:Int)(h:zd):call (n+1) 247 [.int .i32 a] h=some (.ret [.bool false],h):=by
 refine(zp7 n a h).trans ?_;unfold ztr;simp
theorem zox(n:Nat)(a b:Int)(h:zd):call (n+2) 244 [.int .i32 a,.int .i32 b] h=some (.ret [.bool (decide (a < b))],h):=by
 refine(zlz (n+1) a b h).trans ?_;unfold zm5;rw[zd8,zM,zx,zm,if_neg (by decide)]
def zqm(a b:Int):Int:=if a < b then -1 else if a > b then 1 else 0
theorem zg5(n:Nat)(a b:Int)(h:zd):call (n+2) 242 [.int .i32 a,.int .i32 b] h=some (.ret [.int .i64 (zqm a b)],h):=by
 refine(zfb (n+1) a b h).trans ?_;unfold zd1 zqm;rw[zd8,zM,zx,zd8,zM,zx,zm,if_neg (by decide),zm,if_neg (by decide)];by_cases h1:a < b
 . rw[if_pos (by simpa using h1),if_pos h1]
 . rw[if_neg (by simpa using h1),if_neg h1];by_cases h2:a > b
   . rw[if_pos (by simpa using h2),if_pos h2]
   . rw[if_neg (by simpa using h2),if_neg h2]
def RowI(h:zd)(b:Nat)(k:IntKind)(e:Nat)(l:List Int):Prop:=∃ z,h[b]?=some (.row e 1 (l.map (Xc k)) z)
theorem RowI.keep{h h':zd}{b:Nat}{k:IntKind}{e:Nat}{l:List Int}(r:RowI h b k e l)(hk:h'[b]?=h[b]?):RowI h' b k e l:=by obtain⟨z,hz⟩:=r;exact⟨z,hk.trans hz⟩
theorem RowI.slc{h:zd}{b:Nat}{k:IntKind}{e:Nat}{l:List Int}(r:RowI h b k e l):ZR h (.row b 1 0 l.length)=some (1,l.map (Xc k)):=by
 obtain⟨z,hz⟩:=r;have:=jS hz;rwa[zo] at this
theorem RowI.get{h:zd}{b:Nat}{k:IntKind}{e:Nat}{l:List Int}(r:RowI h b k e l){i:Nat}{x:Int}(hx:l[i]?=some x):ZE 1 i (.row b 1 0 l.length)=some (.rptr b 1 i 0)/\zu h (.rptr b 1 i 0)=some ([.int k x],1,0):=by
 obtain⟨z,hz⟩:=r;have hi:=(zi.1 hx).1;refine⟨by simpa using XR (b:=b) (sz:=1) (lo:=0) (hi:=l.length) (n:=i) (by omega),XD hz (by decide) ?_⟩;rw[zG,hx];rfl
theorem zje(n:Nat){h:zd}{b:Nat}{e:Nat}{l:List Int}(r:RowI h b .i32 e l)(hs:l.Pairwise (·<=·))(hl:l.length < lim):∀ (i M:Nat),i < l.length->i < M->∀ v0,zR M (Wb (n+2) (.row b 1 0 l.length)) [v0,.int .i64 (i:Int)] h=some (.ret [.bool true],h):=by
 intro i
 induction i with
 | zero =>
   intro M h1 h2 v0;obtain⟨M,rfl⟩:∃ M',M=M'+1:=⟨M - 1,by omega⟩;rw[zA];unfold Wb;simp only[gv,zf,zh,Xy,za,zm];rw[if_neg (by decide)]
 | succ i ih =>
   intro M h1 h2 v0;obtain⟨M,rfl⟩:∃ M',M=M'+1:=⟨M - 1,by omega⟩;obtain⟨x,hx⟩:∃ x,l[i+1]?=some x:=⟨_,zg h1⟩;obtain⟨y,hy⟩:∃ y,l[i]?=some y:=⟨_,zg (by omega)⟩;have hyx:y<=x:=by
    have:=XM.1 hs i (i+1) (by omega) h1 (by omega);rw[zg h1] at hx;rw[zg (by omega)] at hy;rw[<- Option.some.inj hx,<- Option.some.inj hy];exact this
   obtain⟨g1,g2⟩:=r.get hx;obtain⟨g3,g4⟩:=r.get hy;have hw:IntKind.i64.wrap (((i+1:Nat):Int) - 1)=(i:Int):=by unfold lim at hl;rw[w64] <;> omega
   have hgt:decide (((i+1:Nat):Int) > 0)=true:=by simp
   have key:∀ next,Wb (n+2) (.row b 1 0 l.length) [v0,.int .i64 ((i+1:Nat):Int)] h next=next [v0,.int .i64 (i:Int)] h:=by
    intro next
    unfold Wb;simp only[gv,zf,zh,Xy,za,zm,hgt,if_true,Za,zy,g1,g2,zn,ZQ,hw,g3,g4,zq,zl,Nat.reduceLT,and_self,zb];rw[zox,zM,zx,zm,if_neg (by intro e;have:=of_decide_eq_true e;omega)]
   rw[zA,key];exact ih M (by omega) (by omega) v0
theorem zjf(n:Nat){h:zd}{b:Nat}{e:Nat}{l:List Int}(r:RowI h b .i32 e l)(hs:l.Pairwise (·<=·))(hl:l.length < lim)(hn:l.length < n):call (n+3) 237 [.row b 1 0 l.length] h=some (.ret [.bool true],h):=by
 refine(zi5 (n+2) _ h).trans ?_;unfold zi4;rw[r.slc,za];simp only[zo];rcases J6 l.length with h0|h0
 . rw[h0];show zR ((n+1)+1) _ _ _=_;rw[zA];unfold Wb;simp only[gv,zf,zh];have:IntKind.i64.wrap (((0:Nat):Int) - 1)=-1:=by decide
   rw[this,Xy,za,zm,if_neg (by decide)]
 . have hw:IntKind.i64.wrap ((l.length:Int) - 1)=((l.length - 1:Nat):Int):=by unfold lim at hl;rw[w64] <;> omega
   rw[hw];exact zje n r hs hl _ (n+2) (by omega) (by omega) _
def itT(ts:List Tw):List (Int×Nat):=ts.map fun t=>(t.v,t.ht)
def je(l:List (Int×Nat))(v:Int)(T:Nat):List (Int×Nat):=l.takeWhile (fun p=>decide (p.1<=v))++(v,T) :: l.dropWhile (fun p=>decide (p.1<=v))
theorem jY {α : Type} (p : α -> Bool) : ∀ l : List α, l.take (l.takeWhile p).length = l.takeWhile p /\ l.drop (l.takeWhile p).length = l.dropWhile p
 | []=>⟨rfl,rfl⟩
 | a :: l=>by
   rw[List.takeWhile_cons,List.dropWhile_cons];cases p a with
   | true =>
     obtain⟨h1,h2⟩:=jY p l;exact⟨by simp[h1],by simpa using h2⟩
   | false=>simp
theorem zss(ts:List Tw)(u:Tw):itT (ins ts (Xw ts u.v) u)=je (itT ts) u.v u.ht:=by
 unfold itT ins je Xw;obtain⟨h1,h2⟩:=jY (fun t:Tw=>decide (t.v<=u.v)) ts;rw[h1,h2,Zu,zS,List.takeWhile_map,List.dropWhile_map];rfl
def hOf(k:Int):Nat:=(max 1 (min k 8)).toNat
structure Grew(h h':zd)(s:Nat)(ts ts':List Tw)(most:Int):Prop where
 sk:∃ N,SkAt h' s ts' most N
 len:h.length<=h'.length
 old:∀ i,i < h.length->i ∉ skB s ts->h'[i]?=h[i]?
 new:∀ b∈skB s ts',b∈skB s ts\/h.length<=b
theorem Grew.refl{h:zd}{s:Nat}{ts:List Tw}{most:Int}(S:∃ N,SkAt h s ts most N):Grew h h s ts ts most:=⟨S,zl _,fun _ _ _=>rfl,fun _ h=>.inl h⟩
theorem Grew.trans{h h' h'':zd}{s:Nat}{ts ts' ts'':List Tw}{most:Int}(a:Grew h h' s ts ts' most)(b:Grew h' h'' s ts' ts'' most):Grew h h'' s ts ts'' most :=
 ⟨b.sk,Z2 a.len b.len,fun i h1 h2=>(b.old i (by have:=a.len;omega) fun hm=>by rcases a.new i hm with h|h;exact h2 h;omega).trans (a.old i h1 h2),fun x hx=>by
  rcases b.new x hx with h|h
  . exact a.new x h
  . exact .inr (by have:=a.len;omega)⟩
theorem Put.grew{h h':zd}{s:Nat}{ts ts':List Tw}{most v kk:Int}(p:Put h h' s ts ts' most v kk):Grew h h' s ts ts' most:=by
 obtain⟨u,u1,u2,u3,u4⟩:=p.ins;refine⟨p.sk,by rw[p.len];omega,p.old,fun b hb=>?_⟩;rw[u4] at hb;rcases zL.1 hb with rfl|hb
 . exact .inl (zF ..)
 . obtain⟨t,ht,rfl⟩:=Zv.1 hb;rcases zaT.1 ht with rfl|ht
   . exact .inr (by rw[u1];exact zl _)
   . exact .inl (zw _ (Zp ht))
theorem Put.items{h h':zd}{s:Nat}{ts ts':List Tw}{most v kk:Int}(p:Put h h' s ts ts' most v kk):itT ts'=je (itT ts) v (hOf kk):=by
 obtain⟨u,u1,u2,u3,u4⟩:=p.ins;have:u.ht=hOf kk:=by unfold hOf;omega
 rw[u4,<- u2,zss,this]
def zan (l : List (Int × Nat)) : List (Int × Int) -> List (Int × Nat)
 | []=>l
 | p :: r=>zan (je l p.1 (hOf p.2)) r
theorem zlF(n:Nat){s:Nat}{most:Int}(bl bm:Nat)(vs hs:List Int)(hlen:hs.length=vs.length)(hup:vs.Pairwise (·<=·))(hv:vs.length < lim):∀ (d k M:Nat) (h:zd) (ts:List Tw) (told:List (List V)) (Q:Nat->Nat) (v0 v3:V),k+d=vs.length->d < M->(∃ N,SkAt h s ts most N)->RowI h bl .i32 21 vs->RowI h bm .i64 3 hs->bl ∉ skB s ts->bm ∉ skB s ts →
    told.length=vs.length->(ts.length:Int)+d<=most->ts.length+d < lim->ts.length+d+9 < n->(∀ k' x,k' < 8->vs[k]?=some x->Q k'<=Xw ts x/\Yg ts k' (Q k')) →
    ∃ h' ts' told',zR M (JT (n+2) s (.row bl 1 0 vs.length) (.row bm 1 0 hs.length) (1,vs.map (Xc .i32))) [v0,.sl 1 told false,.agg (ZG (fun k'=>Xj s ts (Q k'))),v3,.int .i64 (k:Int)] h=some (.ret [.sl 1 told' false],h')/\Grew h h' s ts ts' most/\itT ts'=zan (itT ts) ((vs.zip hs).drop k):=by
 intro d
 induction d with
 | zero =>
   intro k M h ts told Q v0 v3 h1 h2 S rl rm nl nm ht hm hlm hn hQ;obtain⟨M,rfl⟩:∃ M',M=M'+1:=⟨M - 1,by omega⟩;obtain rfl:k=vs.length:=by omega
   refine⟨h,ts,told,?_,.refl S,?_⟩
   . rw[zA];unfold JT;simp only[gv,zf,zh,zo,zr,za,zm];rw[if_neg (by simp)];rfl
   . rw[Zo (by rw[List.length_zip];omega)];rfl
 | succ d ih =>
   intro k M h ts told Q v0 v3 h1 h2 S rl rm nl nm ht hm hlm hn hQ;obtain⟨M,rfl⟩:∃ M',M=M'+1:=⟨M - 1,by omega⟩;obtain⟨N,S⟩:=S;obtain⟨x,hx⟩:∃ x,vs[k]?=some x:=⟨_,zg (by omega)⟩;obtain⟨y,hy⟩:∃ y,hs[k]?=some y:=⟨_,zg (by omega)⟩;obtain⟨u,q1,q2,N',cs,B,a1,a2,a3,e1,e2,e3,c1,c2,w,S',l',f'⟩:=zd6 n S x y Q (fun k' hk=>hQ k' x hk hx) (by omega) (by omega);obtain⟨g1,g2⟩:=rl.get hx;obtain⟨g3,g4⟩:=rm.get hy;have hlt:decide ((k:Int) < (vs.length:Int))=true:=by simp;omega
   have hlt2:decide ((k:Int) < (hs.length:Int))=true:=by simp;omega
   have hge:decide ((ts.length:Int) ≥ most)=false:=by simp;omega
   obtain⟨es,hes⟩:∃ es,told[k]?=some es:=⟨_,zg (by omega)⟩;have hP:Put h (q2.set s B) s ts (ins ts (Xw ts x) u) most x y:=⟨⟨N',S'⟩,⟨u,a1,a2,a3,rfl⟩,l',f'⟩;have hbl:=zT rl.choose_spec;have hbm:=zT rm.choose_spec;have hnew:∀ b,b < h.length->b ∉ skB s ts->b ∉ skB s (ins ts (Xw ts x) u):=fun b hb hn hm=>by rcases hP.grew.new b hm with h'|h';exact hn h';omega
   have hil:=zm7 (ts:=ts) (u:=u) (qq ts x);have hpt:∀ R,((ZG R).drop 0 |>.take 8)=ZG R:=zbF;obtain⟨h',ts',told',e,G,I⟩:=ih (k+1) M (q2.set s B) (ins ts (Xw ts x) u) (told.set k (setR es 0 [.bool true])) (fun k'=>Xf (ins ts (Xw ts x) u) k' (Xw ts x+1)) (.sl 1 (lsl v0) false) (.bool false) (by omega) (by omega) ⟨N',S'⟩ (rl.keep (f' _ hbl nl)) (rm.keep (f' _ hbm nm)) (hnew _ hbl nl) (hnew _ hbm nm) (by rw[zt];exact ht) (by rw[hil];omega) (by rw[hil];omega) (by rw[hil];omega) (fun k' x' hk' hx'=>by
    have hle:x<=x':=by
     have hk1:=(zi.1 hx').1;have:=XM.1 hup k (k+1) (by omega) hk1 (by omega);rw[zg (by omega)] at hx;rw[zg hk1] at hx';rw[<- Option.some.inj hx,<- Option.some.inj hx'];exact this
    have hj:Xw ts x+1<=Xw (ins ts (Xw ts x) u) x':=(jV S'.up x' (zg2 (qq ts x))).2 (by rw[a2];exact hle);refine⟨Z2 (JU _ _ _) hj,jU _ _ _ (by rw[hil];have:=qq ts x;omega)⟩)
   refine⟨h',ts',told',?_,hP.grew.trans G,?_⟩
   . rw[zA];have key:∀ next,JT (n+2) s (.row bl 1 0 vs.length) (.row bm 1 0 hs.length) (1,vs.map (Xc .i32)) [v0,.sl 1 told false,.agg (ZG (fun k'=>Xj s ts (Q k'))),v3,.int .i64 (k:Int)] h next=next [.sl 1 (lsl v0) false,.sl 1 (told.set k (setR es 0 [.bool true])) false,.agg (ZG (fun k'=>Xj s (ins ts (Xw ts x) u) (Xf (ins ts (Xw ts x) u) k' (Xw ts x+1)))),.bool false,.int .i64 ((k+1:Nat):Int)] (q2.set s B):=by
      intro next
      unfold JT;simp only[gv,zf,zh,zo,zr,za,zm,hlt,hlt2,if_true,Za,zy,g1,g2,zn,zq,zl,Nat.reduceLT,and_self,zb,S.head,qs,zbG,Nat.reduceAdd,Nat.reduceLeDiff,Z8,hge,zp,if_false,rm.slc,g3,g4,Ql,hpt];rw[e1,zM,zx,e2,zM,zx,e3,zM,zx];have hpl:(V.cells (.agg (ZG (fun k'=>Xj s (ins ts (Xw ts x) u) (Xf (ins ts (Xw ts x) u) k' (Xw ts x+1))))))=ZG (fun k'=>Xj s (ins ts (Xw ts x) u) (Xf (ins ts (Xw ts x) u) k' (Xw ts x+1))):=rfl;have hpr:∀ R T,setR (ZG R) 0 (ZG T)=ZG T:=fun R T=>by
       rw[Ws (by rw[ZO,ZO];omega),QM,zU,ZO,Zo (by rw[ZO];omega),Zq]
      simp only[hpl,ZO,hpr];rw[if_pos (by first|trivial|rfl),if_pos (by omega),c1,zn,if_pos (by decide),c2,za,zH,za,Xa (show ts.length < lim by omega),zbI,if_pos (by rfl),w,Zf];rw[if_pos (by exact⟨trivial,by show k < told.length;omega,by decide⟩),show lsl (V.sl 1 told false)=told from rfl,hes,za,zH,za,Xa (show k < lim by omega)]
     rw[key];exact e
   . rw[I,hP.items];have hz:(vs.zip hs).drop k=(x,y) :: (vs.zip hs).drop (k+1):=by
      rw[zQ (by rw[List.length_zip];omega)];congr 1;rw[List.getElem_zip];rw[zg (by omega)] at hx;rw[zg (by omega)] at hy;rw[Option.some.inj hx,Option.some.inj hy]
     rw[hz];rfl
theorem zlG (n : Nat) {h : zd} {s : Nat} {ts : List Tw} {most : Int} (S : ∃ N, SkAt h s ts most N) (bl bm : Nat) (vs hs : List Int) (hlen : hs.length = vs.length) (hup : vs.Pairwise (· <= ·)) (rl : RowI h bl .i32 21 vs) (rm : RowI h bm .i64 3 hs) (nl : bl ∉ skB s ts) (nm : bm ∉ skB s ts)
    (hm:(ts.length:Int)+vs.length<=most) (hlm:ts.length+vs.length < lim) (hn:ts.length+vs.length+9 < n) :
    ∃ h' ts' told',call (n+3) 228 [.ptr s 0,.row bl 1 0 vs.length,.row bm 1 0 hs.length] h=some (.ret [.sl 1 told' false],h')/\Grew h h' s ts ts' most/\itT ts'=zan (itT ts) (vs.zip hs):=by
 obtain⟨h',ts',told',e,G,I⟩:=zlF n (s:=s) (most:=most) bl bm vs hs hlen hup (by omega) vs.length 0 (n+2) h ts (List.replicate vs.length [V.bool false]) (fun _=>0) (.sl 1 [] false) (.bool false) (by omega) (by omega) S rl rm nl nm (by simp) hm (by omega) (by omega) (fun _ _ _ _=>⟨Ze _,trivial⟩);refine⟨h',ts',told',?_,G,by rw[I,zO]⟩;refine(zgY (n+2) s _ _ h).trans ?_;unfold zf4;have hb:call (n+2) 230 [.ptr s 0] h=some (.ret [.agg (ZG (fun _=>s))],h):=zam (n+1) h s (by omega);have hso:call (n+2) 237 [.row bl 1 0 vs.length] h=some (.ret [.bool true],h):=by
  obtain⟨m,rfl⟩:∃ m,n=m+1:=⟨n - 1,by omega⟩;exact zjf m rl hup (by omega) (by omega)
 have fN:nv (V.int .i64 (vs.length:Int))=some vs.length:=Za _ _;rw[rl.slc,za];simp only[zo];rw[fN,zy,zy,if_pos (by first|exact⟨zl _,by omega,rfl⟩|exact⟨trivial,by omega,trivial⟩|exact⟨zl _,by omega,trivial⟩),J2,za,zm,if_neg (by decide),hso,zM,zx,QR,za,zm,if_neg (by decide),hb,zM,zx];have hpl:V.cells (.agg (ZG (fun _=>s)))=ZG (fun _=>s):=rfl;rw[hpl,if_pos (ZO _),if_pos (by rw[ZO];omega),rl.slc,za];have hpr:setR [V.val (.pointer none),V.val (.pointer none),V.val (.pointer none),V.val (.pointer none),V.val (.pointer none),V.val (.pointer none),V.val (.pointer none),V.val (.pointer none)] 0 (ZG (fun _=>s))=ZG (fun _=>s):=by
  rw[Ws (by rw[ZO];decide),QM,zU,ZO];rfl
 rw[hpr];exact e
end Go.Proofs.Tryz
namespace Go.Sk
open Go.L
def lvV(k:Nat)(ts:List Tw):List Int:=(ts.filter fun t=>decide (k < t.ht)).map Tw.v
theorem zqn{k:Nat}{ts:List Tw}{i m:Nat}{t:Tw}(h1:i<=m)(h2:ts[m]?=some t)(h3:k < t.ht)(h5:∀ m' t',i<=m'->m' < m->ts[m']?=some t'->¬ k < t'.ht):lvV k (ts.drop i)=t.v :: lvV k (ts.drop (m+1)):=by
 obtain⟨d,rfl⟩:∃ d,m=i+d:=⟨m - i,by omega⟩
 induction d generalizing i with
 | zero =>
   have hi:=(zi.1 h2).1;rw[zW] at h2 hi;rw[zQ hi];rw[zg hi] at h2;rw[Option.some.inj h2];simp[lvV,h3]
 | succ d ih =>
   have hm:=(zi.1 h2).1;have hi:i < ts.length:=by omega
   have hn:=h5 i ts[i] (zl _) (by omega) (zg hi);have hst:lvV k (ts.drop i)=lvV k (ts.drop (i+1)):=by
    unfold lvV;rw[zQ hi,Jf,if_neg (by simpa using hn)]
   have:=ih (i:=i+1) (by omega) (by rw[show i+1+d=i+(d+1) by omega];exact h2) (fun m' t' a b c=>h5 m' t' (by omega) (by omega) c);rw[show i+1+d+1=i+(d+1)+1 by omega] at this;rw[hst,this]
theorem zqo{k:Nat}{ts:List Tw}{i:Nat}(h:∀ m t,i<=m->ts[m]?=some t->¬ k < t.ht):lvV k (ts.drop i)=[]:=by
 unfold lvV;rw[List.map_eq_nil_iff,List.filter_eq_nil_iff];intro t ht;obtain⟨m,hm⟩:=ZB.1 ht;rw[Zm] at hm;simpa using h (i+m) t (by omega) hm
end Go.Sk
namespace Go.Proofs.Tryz
open Go.L Go.Rp Go.Sk
set_option maxRecDepth 100000
def zuB(h:zd)(c:Nat)(ob:Option Nat)(l:List Int):Prop:=match ob with
 | none=>l=[]/\h[c]?=some (.box 1 [.sl 0 [] true])
 | some b=>b≠c/\∃ z,h[c]?=some (.box 1 [.row b 1 0 l.length])/\h[b]?=some (.row 21 1 (l.map (Xc .i32)) z)
def SlI(h:zd)(lo:Nat)(r:V)(l:List Int):Prop:=(r=.sl 0 [] true/\l=[])\/∃ b z,lo<=b/\r=.row b 1 0 l.length/\h[b]?=some (.row 21 1 (l.map (Xc .i32)) z)
theorem zm8:XX (Yn (XB f70))=true/\XX (Yo (XB f70))=true:=⟨by kernel_rfl,by kernel_rfl⟩
theorem zst:((WW prog 132).isNone && (XX (Yn (XB f70)) && XX (Yo (XB f70))))=true:=by kernel_rfl
def zfd(y0 y1 y4:Option V)(x5:Nat)(y7 y8 y9 y10 y11 y12 y13 y14 y15 y16 y17 y18 y19:Option V):List (Option V):=[y0,y1,none,none,y4,some (V.ptr x5 0),none,y7,y8,y9,y10,y11,y12,y13,y14,y15,y16,y17,y18,y19,none,none,none,none,none,none,none,none,none]
noncomputable def zbJ(D:Nat)(fr:List (Option V))(st:LSt):HB:=.loop D true fr [20] (Yn (XB f70)) (Yo (XB f70)) st
theorem zd9(n:Nat){h:zd}{b D:Nat}{vc:Bool}{fr:List (Option V)}{ps:List Nat}{ca cb:Code}(hb:h[b]?=some (.loop D vc fr ps ca cb .ready))(ys:List V)(hl:ys.length=ps.length)(h1:XX ca=true)(h2:XX cb=true):rnd n b ys h=zbs prog (call n) X0 W1 n (L.textDraws prog) vc fr ps ca cb b ys h:=by
 unfold rnd L.roundX;rw[hb];simp only[lpR];rw[if_pos ⟨hl,h1,h2⟩]
section
variable {y0 y1 y4 y7 y8 y9 y10 y11 y12 y13 y14 y15 y16 y17 y18 y19:Option V}
theorem zqp(n:Nat){h:zd}{b D x5:Nat}(hb:h[b]?=some (zbJ D (zfd y0 y1 y4 x5 y7 y8 y9 y10 y11 y12 y13 y14 y15 y16 y17 y18 y19) .ready))(z:V):rnd n b [z] h=jR n x5 b z h :=
 (zd9 n hb [z] rfl zm8.1 zm8.2).trans (zd0 n y0 y1 y4 x5 y7 y8 y9 y10 y11 y12 y13 y14 y15 y16 y17 y18 y19 b z h)
structure LvAt(h hh:zd)(k:Int)(s:Nat)(l:List Int)(fr:List (Option V)):Prop where
 len:h.length+6<=hh.length
 old:∀ i,i < h.length->hh[i]?=h[i]?
 p0:hh[h.length]?=some (.box 1 [.ptr s 0])
 p1:hh[h.length+1]?=some (.box 1 [.int .i64 k])
 out:∃ ob,zuB hh (h.length+2) ob l/\∀ b,ob=some b->h.length+6<=b
 df:hh[h.length+4]?=some .defb
 lp:hh[h.length+5]?=some (zbJ (h.length+4) fr .ready)
theorem zcY(x:Int):JY prog 27 1 [(0,.int .i32 x)]=some (1,[[.int .i32 x]]):=by kernel_rfl
theorem zsu (n : Nat) {h hh : zd} {k : Int} {s : Nat} {l : List Int} (L : LvAt h hh k s l (zfd y0 y1 y4 (h.length + 2) y7 y8 y9 y10 y11 y12 y13 y14 y15 y16 y17 y18 y19)) {x : Nd} {N : Nx} (hx : jc h N x) (hl : l.length + 1 < lim) :
    ∃ hh',rnd n (h.length+5) [.ptr x.b 0] hh=some (true,hh')/\LvAt h hh' k s (l++[x.v]) (zfd y0 y1 y4 (h.length+2) y7 y8 y9 y10 y11 y12 y13 y14 y15 y16 y17 y18 y19):=by
 rw[zqp n L.lp];have hlen:=L.len;have hxb:x.b < h.length:=zT hx;unfold jR;rw[L.lp];simp only[zbJ,lpR];generalize hbusy:HB.loop (h.length+4) true (zfd y0 y1 y4 (h.length+2) y7 y8 y9 y10 y11 y12 y13 y14 y15 y16 y17 y18 y19) [20] (Yn (XB f70)) (Yo (XB f70)) .busy=B;obtain⟨G,hG⟩:∃ G,G=hh.set (h.length+5) B:=⟨_,rfl⟩;rw[<- hG];have hGl:G.length=hh.length:=by rw[hG,zt]
 have hGo:∀ i,i≠h.length+5->G[i]?=hh[i]?:=fun i hi=>by rw[hG,ze (Ne.symm hi)]
 have hGb:G[h.length+5]?=some B:=by rw[hG];exact Xr (by omega) _
 have hGx:zu G (.ptr x.b 0)=some (x.cells N,10+x.post.length,0):=by
  refine zC ?_ 0;rw[hGo _ (by omega),L.old _ hxb];exact hx
 obtain⟨ob,O,hob⟩:=L.out;have fin:∀ (G2:zd) (v:V) (b':Nat) (z:Bool),G2.length=G.length+1->b'=G.length->v=.row b' 1 0 (l.length+1)->G2[b']?=some (.row 21 1 ((l++[x.v]).map (Xc .i32)) z)->(∀ i,i < h.length+6->G2[i]?=G[i]?) →
     ∃ hh',lpB (((G2.set (h.length+2) (.box 1 [v]))[h.length+5]?)) (fun eD eV eF eP eA eB=>some (true,(G2.set (h.length+2) (.box 1 [v])).set (h.length+5) (HB.loop eD eV eF eP eA eB .ready)))=some (true,hh')/\LvAt h hh' k s (l++[x.v]) (zfd y0 y1 y4 (h.length+2) y7 y8 y9 y10 y11 y12 y13 y14 y15 y16 y17 y18 y19):=fun G2 v b' z e1 e2 e3 e4 e5=>by
  have hb5:(G2.set (h.length+2) (.box 1 [v]))[h.length+5]?=some B:=by rw[ze (by omega),e5 _ (by omega)];exact hGb
  rw[hb5,<- hbusy];simp only[lpB];have hoth:∀ i,i≠h.length+5->i≠h.length+2->((G2.set (h.length+2) (.box 1 [v])).set (h.length+5) (HB.loop (h.length+4) true (zfd y0 y1 y4 (h.length+2) y7 y8 y9 y10 y11 y12 y13 y14 y15 y16 y17 y18 y19) [20] (Yn (XB f70)) (Yo (XB f70)) .ready))[i]?=G2[i]?:=fun i h1 h2=>by
   rw[ze (Ne.symm h1),ze (Ne.symm h2)]
  refine⟨_,rfl,⟨by rw[zt,zt];omega,fun i hi=>?_,?_,?_,⟨some b',⟨by omega,z,?_,?_⟩,fun b hb=>by cases hb;omega⟩,?_,?_⟩⟩
  . rw[hoth i (by omega) (by omega),e5 i (by omega),hGo i (by omega),L.old i hi]
  . rw[hoth _ (by omega) (by omega),e5 _ (by omega),hGo _ (by omega),L.p0]
  . rw[hoth _ (by omega) (by omega),e5 _ (by omega),hGo _ (by omega),L.p1]
  . rw[ze (by omega),Xr (by omega),e3,zE];rfl
  . rw[hoth _ (by omega) (by omega)];exact e4
  . rw[hoth _ (by omega) (by omega),e5 _ (by omega),hGo _ (by omega),L.df]
  . exact Xr (by rw[zt];omega) _
 have hx0:(x.cells N)[0]?=some (.int .i32 x.v):=x.get0 N;cases ob with
 | none =>
   obtain⟨rfl,hc⟩:=O;have hc':G[h.length+2]?=some (.box 1 [.sl 0 [] true]):=by rw[hGo _ (by omega)];exact hc
   have Wr:WG 21 1 G [[.int .i32 x.v]] (.sl 0 [] true)=some (.row G.length 1 0 1,G++[.row 21 1 [[.int .i32 x.v]] true]):=rfl;have hw:Zt (G++[.row 21 1 [[.int .i32 x.v]] true]) [.row G.length 1 0 1] (.ptr (h.length+2) 0)=some (h.length+2,.box 1 [.row G.length 1 0 1]):=by
    rw[ZV (n:=1) (cs:=[.sl 0 [] true]) (by rw[zk (by omega)];exact hc') (by simp)];rfl
   rw[zC hc',zn,if_pos (by decide)];simp only[zb,za];rw[XK,za,zW,XK,za,zW,hGx,zn,if_pos (by omega),hx0,za,zcY,za,Wr,Zf];simp only[V.cells,zD,zP,zq,if_true];rw[hw,Zf];exact fin _ _ G.length true (by simp) rfl rfl (by rw[zI];rfl) (fun i hi=>by rw[zk (by omega)])
 | some b0 =>
   obtain⟨o1,z,hc,hr⟩:=O;have hb0:=hob b0 rfl;have hc':G[h.length+2]?=some (.box 1 [.row b0 1 0 l.length]):=by rw[hGo _ (by omega)];exact hc
   have hr':G[b0]?=some (.row 21 1 (l.map (Xc .i32)) z):=by rw[hGo _ (by omega)];exact hr
   have hb0l:=zT hr';have Wr:WG 21 1 G [[.int .i32 x.v]] (.row b0 1 0 l.length)=some (.row G.length 1 0 (l.length+1),G.set b0 .dead++[.row 21 1 (l.map (Xc .i32)++[[.int .i32 x.v]]) (z && 0 == 0)]):=by
    simp only[WG,hr'];rw[if_pos (by refine⟨⟨?_,?_,?_⟩,⟨Ze _,by simp⟩,by simp;omega⟩ <;> first|trivial|rfl),zO,zN (by simp)];simp
   have hw:Zt (G.set b0 .dead++[.row 21 1 (l.map (Xc .i32)++[[.int .i32 x.v]]) (z && 0 == 0)]) [.row G.length 1 0 (l.length+1)] (.ptr (h.length+2) 0)=some (h.length+2,.box 1 [.row G.length 1 0 (l.length+1)]):=by
    rw[ZV (n:=1) (cs:=[.row b0 1 0 l.length]) (by rw[zk (by rw[zt];omega),ze (by omega)];exact hc') (by simp)];rfl
   rw[zC hc',zn,if_pos (by decide)];simp only[zb,za];rw[XK,za,zW,XK,za,zW,hGx,zn,if_pos (by omega),hx0,za,zcY,za,Wr,Zf];simp only[V.cells,zD,zP,zq,if_true];rw[hw,Zf];refine fin _ _ G.length (z && 0 == 0) (by simp) rfl rfl ?_ (fun i hi=>by rw[zk (by rw[zt];omega),ze (by omega)]);have:G.length=(G.set b0 .dead).length:=by rw[zt]
   rw[this,zI,Zu];rfl
theorem zsv(n:Nat){h:zd}{s:Nat}{ts:List Tw}{most:Int}{N:Nx}(S:SkAt h s ts most N){k:Nat}(hk:k < 8)(hlim:ts.length < lim):∀ (d i M:Nat) (hh:zd) (l:List Int),i+d=ts.length+1->d < M+1->0 < M->l.length<=i->LvAt h hh ((k+1:Nat):Int) s l (zfd y0 y1 y4 (h.length+2) y7 y8 y9 y10 y11 y12 y13 y14 y15 y16 y17 y18 y19) →
    ∃ hh',zR M (QV n (h.length+5) (h.length+1)) [nx k (ts.drop i)] hh=some (.ret [],hh')/\LvAt h hh' ((k+1:Nat):Int) s (l++lvV k (ts.drop i)) (zfd y0 y1 y4 (h.length+2) y7 y8 y9 y10 y11 y12 y13 y14 y15 y16 y17 y18 y19):=by
 intro d
 induction d using Nat.strongRecOn with
 | _ d ih =>
 intro i M hh l h1 h2 hM hli L;obtain⟨M,rfl⟩:∃ M',M=M'+1:=⟨M - 1,by omega⟩;rcases zi8 (k:=k) (ts:=ts) i with ⟨f1,f2⟩|⟨m,t,f1,f2,f3,f4,f5⟩
 . have hnx:nx k (ts.drop i)=V.val (.pointer none):=by unfold nx;rw[f1];rfl
   refine⟨hh,?_,by rw[zqo f2,Zq];exact L⟩;rw[zA,hnx];unfold QV;simp only[gv,zf,zal,za,zm];rw[if_neg (by decide)]
 . have hnx:nx k (ts.drop i)=V.ptr t.b 0:=by unfold nx;rw[f4]
   have hmem:ndT t∈nds s (ts.length:Int) most ts:=zw _ (Zp (zJ f2));have hml:=(zi.1 f2).1;obtain⟨hh1,r1,L1⟩:=zsu n L (x:=ndT t) (S.rep.at_ _ hmem) (by omega);obtain⟨hh2,e,L2⟩:=ih (ts.length+1 - (m+1)) (by omega) (m+1) M hh1 (l++[t.v]) (by omega) (by omega) (by omega) (by simp;omega) L1;refine⟨hh2,?_,?_⟩
   . have htb:t.b < h.length:=zT (S.rep.at_ _ hmem);have hrd:zu hh1 (.ptr t.b (2+k))=some ((ndT t).cells N,10,2+k):=by
      refine zC ?_ _;rw[L1.old _ htb];exact S.rep.at_ _ hmem
     have hgx:((ndT t).cells N)[2+k]?=some (nx k (ts.drop (m+1))):=by
      rw[(ndT t).get _ hk];have:=S.lk.tw m t k f2 hk;rw[if_pos f3] at this;rw[<- this];rfl
     have hw:IntKind.i64.wrap (((k+1:Nat):Int) - 1)=(k:Int):=by rw[w64] <;> omega
     have r1':rnd n (h.length+5) [.ptr t.b 0] hh=some (true,hh1):=r1;have key:∀ next,QV n (h.length+5) (h.length+1) [.ptr t.b 0] hh next=next [nx k (ts.drop (m+1))] hh1:=by
      intro next
      unfold QV;simp only[gv,zf,jd,za,zm,if_true,r1',Zf];rw[zC L1.p1,zn,if_pos (by decide)];simp only[zb,za,ZQ,hw,XK,zq,nv_int,Xh,hrd,zn,hgx];rw[if_pos hk,if_pos (by omega)]
     rw[zA,hnx,key];exact e
   . rw[zqn f1 f2 f3 f5,show l++t.v :: lvV k (ts.drop (m+1))=(l++[t.v])++lvV k (ts.drop (m+1)) by simp];exact L2
end
theorem zea (n : Nat) {h : zd} {s : Nat} {ts : List Tw} {most : Int} {N : Nx} (S : SkAt h s ts most N) {k : Nat} (hk : k < 8) (hlim : ts.length < lim) (hn : ts.length + 2 < n) :
    ∃ h' r,call (n+2) 70 [.ptr s 0,.int .i64 ((k+1:Nat):Int)] h=some (.ret [r],h')/\SlI h' h.length r (lvV k ts)/\h.length<=h'.length/\∀ i,i < h.length->h'[i]?=h[i]?:=by
 have he:=zaQ (n+1) s ((k+1:Nat):Int) h;have hlv:call (n+1) 100 [.ptr s 0,.int .i64 ((k+1:Nat):Int)] h=some (.ret [.fn 132 [.ptr h.length 0,.ptr (h.length+1) 0]],h++[.box 1 [.ptr s 0],.box 1 [.int .i64 ((k+1:Nat):Int)]]):=by
  refine(zf5 n s _ h).trans ?_;unfold zly;simp
 have h1:decide (((k+1:Nat):Int) < 1)=false:=by simp;omega
 have h8:decide (((k+1:Nat):Int) > 8)=false:=by simp;omega
 rw[he];unfold zbC;rw[J2,za,zm,if_neg (by decide),if_neg (by rw[h1];decide),if_neg (by rw[h8];decide),hlv,zM,zx];simp only[zlp];rw[if_pos zst];simp only[zE,zD,zP,List.append_assoc,Z1,zU,ZT,zq,Nat.reduceAdd];have hS:∀ (T:List HB) i,(h++T)[h.length+i]?=T[i]?:=fun T i=>by rw[zK (by omega),Xt]
 obtain⟨HS,hHS⟩:∃ HS:zd,HS=h++[HB.box 1 [V.ptr s 0],HB.box 1 [V.int IntKind.i64 ((k+1:Nat):Int)],HB.box 1 [V.sl 0 [] true],HB.row 21 1 [] true,HB.defb,zbJ (h.length+4) (zfd (some (V.ptr s 0)) (some (V.int IntKind.i64 ((k+1:Nat):Int))) (some (V.row (h.length+3) 1 0 0)) (h.length+2) (some (V.ptr s 0)) (some (V.bool false)) (some (V.bool false)) (some (V.int IntKind.i64 ((k+1:Nat):Int))) (some (V.bool (decide (((k+1:Nat):Int) < 1)))) (some (V.bool (decide (((k+1:Nat):Int) < 1)))) (some (V.bool false)) (some (V.int IntKind.i64 ((k+1:Nat):Int))) (some (V.bool (decide (((k+1:Nat):Int) > 8)))) (some (V.bool false)) (some (V.ptr s 0)) (some (V.int IntKind.i64 ((k+1:Nat):Int))) (some (V.fn 132 [V.ptr h.length 0,V.ptr (h.length+1) 0]))) .ready]:=⟨_,rfl⟩;have hS0:∀ (T:List HB),(h++T)[h.length]?=T[0]?:=fun T=>hS T 0;have L0:LvAt h HS ((k+1:Nat):Int) s [] _:=⟨by rw[hHS];simp,fun i hi=>by rw[hHS,zk hi],by rw[hHS,hS0];rfl,by rw[hHS,hS];rfl,⟨none,⟨rfl,by rw[hHS,hS];rfl⟩,fun b hb=>by cases hb⟩,by rw[hHS,hS];rfl,by rw[hHS,hS];rfl⟩;obtain⟨hh',e,L⟩:=zsv n S hk hlim (ts.length+1) 0 n HS [] (by omega) (by omega) (by omega) (by simp) L0;rw[zO,zU] at L;have hit:call (n+1) 132 [.yld (h.length+5),.ptr h.length 0,.ptr (h.length+1) 0] HS=some (.ret [],hh'):=by
  refine(zdZ n _ _ _ HS).trans ?_;unfold zg0;have hw:IntKind.i64.wrap (((k+1:Nat):Int) - 1)=(k:Int):=by rw[w64] <;> omega
  have hsl:s < h.length:=zT S.hb;have hrd:zu HS (.ptr s (2+k))=some ((ndH s (ts.length:Int) most).cells N,12,2+k):=by
   refine zC ?_ _;rw[L0.old _ hsl];exact S.hb
  have hg:((ndH s (ts.length:Int) most).cells N)[2+k]?=some (nx k (ts.drop 0)):=by
   rw[(ndH s (ts.length:Int) most).get _ hk];exact congrArg some (S.lk.hd k hk)
  rw[zC L0.p0,zn,if_pos (by decide)];simp only[zb,za];rw[zC L0.p1,zn,if_pos (by decide)];simp only[zb,za,ZQ,hw,XK,zq,zW,nv_int,Xh,hrd,zn,hg];rw[if_pos hk,if_pos (by omega)];exact e
 have hhl:=L.len;have hHS':=hHS;simp only[zbJ,zfd] at hHS';rw[<- hHS',hit];simp only[clN];have hlp:=L.lp;rw[hlp];simp only[zbJ,lpE];obtain⟨ob,O,hob⟩:=L.out;have hdf:(hh'.set (h.length+5) HB.dead)[h.length+4]?=some .defb:=by rw[ze (by omega)];exact L.df
 have hrest:∀ i,i≠h.length+5->i≠h.length+4->((hh'.set (h.length+5) HB.dead).set (h.length+4) HB.dead)[i]?=hh'[i]?:=fun i a b=>by rw[ze (Ne.symm b),ze (Ne.symm a)]
 have hout:∀ v,hh'[h.length+2]?=some (.box 1 [v])->zu (hh'.set (h.length+5) HB.dead) (.ptr (h.length+2) 0)=some ([v],1,0):=fun v hv=>zC (by rw[ze (by omega)];exact hv) 0;cases ob with
 | none =>
   obtain⟨hnil,hc⟩:=O;rw[hout _ hc,zn,if_pos (by decide)];simp only[zb,za];rw[hdf];simp only[dfB];exact⟨_,_,rfl,.inl ⟨rfl,hnil⟩,by rw[zt,zt];omega,fun i hi=>by rw[hrest i (by omega) (by omega),L.old i hi]⟩
 | some b =>
   obtain⟨o1,z,hc,hr⟩:=O;have hb:=hob b rfl;rw[hout _ hc,zn,if_pos (by decide)];simp only[zb,za];rw[hdf];simp only[dfB];exact⟨_,_,rfl,.inr ⟨b,z,by omega,rfl,by rw[hrest b (by omega) (by omega)];exact hr⟩,by rw[zt,zt];omega,fun i hi=>by rw[hrest i (by omega) (by omega),L.old i hi]⟩
theorem zlH (n : Nat) {h : zd} {s : Nat} {ts : List Tw} {most : Int} {N : Nx} (S : SkAt h s ts most N) (hlim : ts.length < lim) (hn : ts.length + 2 < n) :
    ∃ h' r,call (n+3) 217 [.ptr s 0] h=some (.ret [r],h')/\SlI h' h.length r (lvV 0 ts)/\h.length<=h'.length/\∀ i,i < h.length->h'[i]?=h[i]?:=by
 obtain⟨h',r,e,a,b,c⟩:=zea n S (k:=0) (by omega) hlim hn;refine⟨h',r,?_,a,b,c⟩;refine(zg1 (n+2) s h).trans ?_;unfold zf6;rw[show (V.int IntKind.i64 1)=V.int .i64 ((0+1:Nat):Int) from rfl,e,zM,zx]
end Go.Proofs.Tryz
namespace Go.Proofs.Tryz
open Go.L
set_option maxRecDepth 100000
noncomputable def zaU(n:Nat)(a:Int)(b:Int)(k:Int)(st1:List V)(hh2:zd)(next3:List V->zd->Option (Res×zd)):Option (Res×zd) :=
 (bd (bop prog .lss 3 (gv st1 1) (V.int .i64 k)) fun v4 =>
 (bv v4 fun b5=>if b5 then
 (bd (bop prog .add 3 (V.int .i64 a) (gv st1 1)) fun v6 =>
 (bd (bop prog .add 3 (V.int .i64 b) (gv st1 1)) fun v7 =>
 (bd (bop prog .add 3 (V.int .i64 b) (gv st1 1)) fun v8 =>
 (bdS (nv v8) fun n9 =>
 (if (1=1/\n9 < ((lsl (gv st1 0))).length/\(some 28:Option Nat)≠some 0) then
 (bd ((lsl (gv st1 0)))[n9]? fun es10 =>
 (bd (es10)[0]? fun v11 =>
 (bd (bop prog .add 3 (V.int .i64 a) (gv st1 1)) fun v12 =>
 (bdS (nv v12) fun n13 =>
 (if (1=1/\n13 < ((lsl (gv st1 0))).length/\(some 34:Option Nat)≠some 0) then
 (bd ((lsl (gv st1 0)))[n13]? fun es14 =>
 (bd (es14)[0]? fun v15 =>
 (bdS (nv v6) fun n16 =>
 (if (1=1/\n16 < ((lsl (gv st1 0))).length/\(some 36:Option Nat)≠some 0) then
 (if ((V.cells v11)).length=1 then
 (if (1=1/\0 < 1/\0+((V.cells v11)).length<=1) then
 (bd ((lsl (gv st1 0)))[n16]? fun es17 =>
 (bdS (nv v7) fun n18 =>
 (if (1=1/\n18 < ((((lsl (gv st1 0))).set n16 (setR es17 0 (V.cells v11)))).length/\(some 37:Option Nat)≠some 0) then
 (if ((V.cells v15)).length=1 then
 (if (1=1/\0 < 1/\0+((V.cells v15)).length<=1) then
 (bd ((((lsl (gv st1 0))).set n16 (setR es17 0 (V.cells v11))))[n18]? fun es19 =>
 (bd (bop prog .add 3 (gv st1 1) (V.int .i64 1)) fun v20 =>
 (next3 [(V.sl 1 (((((lsl (gv st1 0))).set n16 (setR es17 0 (V.cells v11)))).set n18 (setR es19 0 (V.cells v15))) false),v20] hh2))) else none) else none) else none))) else none) else none) else none)))) else none))))) else none)))))
 else
 some (Res.ret (V.sl 1 (lsl (gv st1 0)) false :: []),hh2)))
noncomputable def zts(n:Nat)(l:List (List V))(a:Int)(b:Int)(k:Int)(c:V)(h:zd):Option (Res×zd) :=
 (zR n (zaU n a b k) [(V.sl 1 l false),(V.int .i64 0)] h)
theorem zqq(n:Nat)(l:List (List V))(a:Int)(b:Int)(k:Int)(c:V)(h:zd):call (n+1) 251 [(V.sl 1 l false),(V.int .i64 a),(V.int .i64 b),(V.int .i64 k),c] h=zts n l a b k c h:=by kernel_rfl
noncomputable def zaV(n:Nat)(m:Int)(c:V)(st1:List V)(hh2:zd)(next3:List V->zd->Option (Res×zd)):Option (Res×zd) :=
 (bd (bop prog .neq 3 (gv st1 1) (gv st1 2)) fun v4 =>
 (bv v4 fun b5=>if b5 then
 (bd (bop prog .gtr 3 (gv st1 1) (gv st1 2)) fun v6 =>
 (bv v6 fun b7=>if b7 then
 (bd (bop prog .sub 3 (V.int .i64 m) (gv st1 1)) fun v8 =>
 (clm (call n 251 (V.sl 1 (lsl (gv st1 0)) false :: [v8,(V.int .i64 m),(gv st1 2),c]) hh2) 1 fun l9 r10 h11 =>
 (bd (bop prog .sub 3 (gv st1 1) (gv st1 2)) fun v12 =>
 (next3 [(V.sl 1 l9 false),v12,(gv st1 2)] h11))))
 else
 (bd (bop prog .sub 3 (V.int .i64 m) (gv st1 1)) fun v13 =>
 (bd (bop prog .add 3 (V.int .i64 m) (gv st1 2)) fun v14 =>
 (bd (bop prog .sub 3 v14 (gv st1 1)) fun v15 =>
 (clm (call n 251 (V.sl 1 (lsl (gv st1 0)) false :: [v13,v15,(gv st1 1),c]) hh2) 1 fun l16 r17 h18 =>
 (bd (bop prog .sub 3 (gv st1 2) (gv st1 1)) fun v19 =>
 (next3 [(V.sl 1 l16 false),(gv st1 1),v19] h18))))))))
 else
 (bd (bop prog .sub 3 (V.int .i64 m) (gv st1 1)) fun v20 =>
 (clm (call n 251 (V.sl 1 (lsl (gv st1 0)) false :: [v20,(V.int .i64 m),(gv st1 1),c]) hh2) 1 fun l21 r22 h23 =>
 some (Res.ret (V.sl 1 l21 false :: []),h23)))))
noncomputable def zuC(n:Nat)(l:List (List V))(a:Int)(m:Int)(b:Int)(c:V)(h:zd):Option (Res×zd) :=
 (zR n (zaV n m c) [(V.sl 1 l false),(V.int .i64 (IntKind.i64.wrap (m - a))),(V.int .i64 (IntKind.i64.wrap (b - m)))] h)
theorem zsw(n:Nat)(l:List (List V))(a:Int)(m:Int)(b:Int)(c:V)(h:zd):call (n+1) 250 [(V.sl 1 l false),(V.int .i64 a),(V.int .i64 m),(V.int .i64 b),c] h=zuC n l a m b c h:=by kernel_rfl
noncomputable def jZ(n:Nat)(st1:List V)(st31:List V)(hh32:zd)(next33:List V->zd->Option (Res×zd)):Option (Res×zd) :=
 (bd (bop prog .sub 3 (gv st1 1) (V.int .i64 1)) fun v34 =>
 (bd (bop prog .lss 3 (gv st31 1) v34) fun v35 =>
 (bv v35 fun b36=>if b36 then
 (bd (bop prog .add 3 (gv st31 1) (V.int .i64 1)) fun v37 =>
 (bd (bop prog .add 3 (gv st31 1) (V.int .i64 1)) fun v38 =>
 (bdS (nv v38) fun n39 =>
 (if (1=1/\n39 < ((lsl (gv st31 0))).length/\(some 69:Option Nat)≠some 0) then
 (bd ((lsl (gv st31 0)))[n39]? fun es40 =>
 (bd (es40)[0]? fun v41 =>
 (bdS (nv (gv st31 1)) fun n42 =>
 (if (1=1/\n42 < ((lsl (gv st31 0))).length/\(some 73:Option Nat)≠some 0) then
 (bd ((lsl (gv st31 0)))[n42]? fun es43 =>
 (bd (es43)[0]? fun v44 =>
 (bdS (nv (gv st31 1)) fun n45 =>
 (if (1=1/\n45 < ((lsl (gv st31 0))).length/\(some 75:Option Nat)≠some 0) then
 (if ((V.cells v41)).length=1 then
 (if (1=1/\0 < 1/\0+((V.cells v41)).length<=1) then
 (bd ((lsl (gv st31 0)))[n45]? fun es46 =>
 (bdS (nv v37) fun n47 =>
 (if (1=1/\n47 < ((((lsl (gv st31 0))).set n45 (setR es46 0 (V.cells v41)))).length/\(some 76:Option Nat)≠some 0) then
 (if ((V.cells v44)).length=1 then
 (if (1=1/\0 < 1/\0+((V.cells v44)).length<=1) then
 (bd ((((lsl (gv st31 0))).set n45 (setR es46 0 (V.cells v41))))[n47]? fun es48 =>
 (bd (bop prog .add 3 (gv st31 1) (V.int .i64 1)) fun v49 =>
 (next33 [(V.sl 1 (((((lsl (gv st31 0))).set n45 (setR es46 0 (V.cells v41)))).set n47 (setR es48 0 (V.cells v44))) false),v49] hh32))) else none) else none) else none))) else none) else none) else none)))) else none)))) else none))))
 else
 some (Res.ret (V.sl 1 (lsl (gv st31 0)) false :: []),hh32))))
noncomputable def zaW(n:Nat)(a:Int)(c:V)(st1:List V)(hh2:zd)(next3:List V->zd->Option (Res×zd)):Option (Res×zd) :=
 (bd (bop prog .lss 3 (gv st1 1) (gv st1 2)) fun v4 =>
 (bv v4 fun b5=>if b5 then
 (bd (bop prog .add 3 (gv st1 1) (gv st1 2)) fun v6 =>
 (bd (cvt prog 3 204 v6) fun v7 =>
 (bd (bop prog .shr 204 v7 (V.int .u64 1)) fun v8 =>
 (bd (cvt prog 204 3 v8) fun v9 =>
 (bdS (nv v9) fun n10 =>
 (if (1=1/\n10 < ((lsl (gv st1 0))).length/\(some 43:Option Nat)≠some 0) then
 (bd ((lsl (gv st1 0)))[n10]? fun es11 =>
 (bd (es11)[0]? fun v12 =>
 (bdS (nv (V.int .i64 a)) fun n13 =>
 (if (1=1/\n13 < ((lsl (gv st1 0))).length/\(some 47:Option Nat)≠some 0) then
 (bd ((lsl (gv st1 0)))[n13]? fun es14 =>
 (bd (es14)[0]? fun v15 =>
 (fnK c fun f16 c17=>if (okV prog 3 f16=true) then(if X0 f16 then
 (cl (call n f16 ([v12,v15]++c17) hh2) (fun r18 h19 =>
 (Zr r18 fun v21 =>
 (bd (bop prog .lss 3 v21 (V.int .i64 0)) fun v22 =>
 (bv v22 fun b23=>if b23 then
 (bd (bop prog .add 3 v9 (V.int .i64 1)) fun v24 =>
 (next3 [(V.sl 1 (lsl (gv st1 0)) false),v24,(gv st1 2)] h19))
 else
 (next3 [(V.sl 1 (lsl (gv st1 0)) false),(gv st1 1),v9] h19))))) (fun z20 h19=>none))
 else if W1 f16 then
 (bd (qO [(Kh hh2 v12),(Kh hh2 v15)]) fun a25=>cl (call n f16 (a25++c17) hh2) (fun r18 h19=>if V.simple.simpleL r18 then
 (Zr r18 fun v26 =>
 (bd (bop prog .lss 3 v26 (V.int .i64 0)) fun v27 =>
 (bv v27 fun b28=>if b28 then
 (bd (bop prog .add 3 v9 (V.int .i64 1)) fun v29 =>
 (next3 [(V.sl 1 (lsl (gv st1 0)) false),v29,(gv st1 2)] h19))
 else
 (next3 [(V.sl 1 (lsl (gv st1 0)) false),(gv st1 1),v9] h19)))) else none) (fun z20 h19=>if z20.simple then none else none))
 else none) else none))) else none)))) else none))))))
 else
 (zR n (jZ n st1) [(V.sl 1 (lsl (gv st1 0)) false),(V.int .i64 a)] hh2)))
noncomputable def j0(n:Nat)(st51:List V)(st83:List V)(hh84:zd)(next85:List V->zd->Option (Res×zd)):Option (Res×zd) :=
 (bd (bop prog .gtr 3 (gv st83 1) (gv st51 1)) fun v86 =>
 (bv v86 fun b87=>if b87 then
 (bd (bop prog .sub 3 (gv st83 1) (V.int .i64 1)) fun v88 =>
 (bd (bop prog .sub 3 (gv st83 1) (V.int .i64 1)) fun v89 =>
 (bdS (nv v89) fun n90 =>
 (if (1=1/\n90 < ((lsl (gv st83 0))).length/\(some 121:Option Nat)≠some 0) then
 (bd ((lsl (gv st83 0)))[n90]? fun es91 =>
 (bd (es91)[0]? fun v92 =>
 (bdS (nv (gv st83 1)) fun n93 =>
 (if (1=1/\n93 < ((lsl (gv st83 0))).length/\(some 125:Option Nat)≠some 0) then
 (bd ((lsl (gv st83 0)))[n93]? fun es94 =>
 (bd (es94)[0]? fun v95 =>
 (bdS (nv (gv st83 1)) fun n96 =>
 (if (1=1/\n96 < ((lsl (gv st83 0))).length/\(some 127:Option Nat)≠some 0) then
 (if ((V.cells v92)).length=1 then
 (if (1=1/\0 < 1/\0+((V.cells v92)).length<=1) then
 (bd ((lsl (gv st83 0)))[n96]? fun es97 =>
 (bdS (nv v88) fun n98 =>
 (if (1=1/\n98 < ((((lsl (gv st83 0))).set n96 (setR es97 0 (V.cells v92)))).length/\(some 128:Option Nat)≠some 0) then
 (if ((V.cells v95)).length=1 then
 (if (1=1/\0 < 1/\0+((V.cells v95)).length<=1) then
 (bd ((((lsl (gv st83 0))).set n96 (setR es97 0 (V.cells v92))))[n98]? fun es99 =>
 (bd (bop prog .sub 3 (gv st83 1) (V.int .i64 1)) fun v100 =>
 (next85 [(V.sl 1 (((((lsl (gv st83 0))).set n96 (setR es97 0 (V.cells v92)))).set n98 (setR es99 0 (V.cells v95))) false),v100] hh84))) else none) else none) else none))) else none) else none) else none)))) else none)))) else none))))
 else
 some (Res.ret (V.sl 1 (lsl (gv st83 0)) false :: []),hh84)))
noncomputable def j6(n:Nat)(m:Int)(c:V)(st51:List V)(hh52:zd)(next53:List V->zd->Option (Res×zd)):Option (Res×zd) :=
 (bd (bop prog .lss 3 (gv st51 1) (gv st51 2)) fun v54 =>
 (bv v54 fun b55=>if b55 then
 (bd (bop prog .add 3 (gv st51 1) (gv st51 2)) fun v56 =>
 (bd (cvt prog 3 204 v56) fun v57 =>
 (bd (bop prog .shr 204 v57 (V.int .u64 1)) fun v58 =>
 (bd (cvt prog 204 3 v58) fun v59 =>
 (bdS (nv (V.int .i64 m)) fun n60 =>
 (if (1=1/\n60 < ((lsl (gv st51 0))).length/\(some 95:Option Nat)≠some 0) then
 (bd ((lsl (gv st51 0)))[n60]? fun es61 =>
 (bd (es61)[0]? fun v62 =>
 (bdS (nv v59) fun n63 =>
 (if (1=1/\n63 < ((lsl (gv st51 0))).length/\(some 99:Option Nat)≠some 0) then
 (bd ((lsl (gv st51 0)))[n63]? fun es64 =>
 (bd (es64)[0]? fun v65 =>
 (fnK c fun f66 c67=>if (okV prog 3 f66=true) then(if X0 f66 then
 (cl (call n f66 ([v62,v65]++c67) hh52) (fun r68 h69 =>
 (Zr r68 fun v71 =>
 (bd (bop prog .lss 3 v71 (V.int .i64 0)) fun v72 =>
 (bd (uop .not v72) fun v73 =>
 (bv v73 fun b74=>if b74 then
 (bd (bop prog .add 3 v59 (V.int .i64 1)) fun v75 =>
 (next53 [(V.sl 1 (lsl (gv st51 0)) false),v75,(gv st51 2)] h69))
 else
 (next53 [(V.sl 1 (lsl (gv st51 0)) false),(gv st51 1),v59] h69)))))) (fun z70 h69=>none))
 else if W1 f66 then
 (bd (qO [(Kh hh52 v62),(Kh hh52 v65)]) fun a76=>cl (call n f66 (a76++c67) hh52) (fun r68 h69=>if V.simple.simpleL r68 then
 (Zr r68 fun v77 =>
 (bd (bop prog .lss 3 v77 (V.int .i64 0)) fun v78 =>
 (bd (uop .not v78) fun v79 =>
 (bv v79 fun b80=>if b80 then
 (bd (bop prog .add 3 v59 (V.int .i64 1)) fun v81 =>
 (next53 [(V.sl 1 (lsl (gv st51 0)) false),v81,(gv st51 2)] h69))
 else
 (next53 [(V.sl 1 (lsl (gv st51 0)) false),(gv st51 1),v59] h69))))) else none) (fun z70 h69=>if z70.simple then none else none))
 else none) else none))) else none)))) else none))))))
 else
 (zR n (j0 n st51) [(V.sl 1 (lsl (gv st51 0)) false),(V.int .i64 m)] hh52)))
noncomputable def KF(n:Nat)(a:Int)(m:Int)(b:Int)(c:V)(v102:V)(v103:V)(v107:V)(st109:List V)(hh110:zd)(next111:List V->zd->Option (Res×zd)):Option (Res×zd) :=
 (bd (bop prog .lss 3 (gv st109 1) (gv st109 2)) fun v112 =>
 (bv v112 fun b113=>if b113 then
 (bd (bop prog .add 3 (gv st109 1) (gv st109 2)) fun v114 =>
 (bd (cvt prog 3 204 v114) fun v115 =>
 (bd (bop prog .shr 204 v115 (V.int .u64 1)) fun v116 =>
 (bd (cvt prog 204 3 v116) fun v117 =>
 (bd (bop prog .sub 3 v107 v117) fun v118 =>
 (bdS (nv v118) fun n119 =>
 (if (1=1/\n119 < ((lsl (gv st109 0))).length/\(some 163:Option Nat)≠some 0) then
 (bd ((lsl (gv st109 0)))[n119]? fun es120 =>
 (bd (es120)[0]? fun v121 =>
 (bdS (nv v117) fun n122 =>
 (if (1=1/\n122 < ((lsl (gv st109 0))).length/\(some 167:Option Nat)≠some 0) then
 (bd ((lsl (gv st109 0)))[n122]? fun es123 =>
 (bd (es123)[0]? fun v124 =>
 (fnK c fun f125 c126=>if (okV prog 3 f125=true) then(if X0 f125 then
 (cl (call n f125 ([v121,v124]++c126) hh110) (fun r127 h128 =>
 (Zr r127 fun v130 =>
 (bd (bop prog .lss 3 v130 (V.int .i64 0)) fun v131 =>
 (bd (uop .not v131) fun v132 =>
 (bv v132 fun b133=>if b133 then
 (bd (bop prog .add 3 v117 (V.int .i64 1)) fun v134 =>
 (next111 [(V.sl 1 (lsl (gv st109 0)) false),v134,(gv st109 2)] h128))
 else
 (next111 [(V.sl 1 (lsl (gv st109 0)) false),(gv st109 1),v117] h128)))))) (fun z129 h128=>none))
 else if W1 f125 then
 (bd (qO [(Kh hh110 v121),(Kh hh110 v124)]) fun a135=>cl (call n f125 (a135++c126) hh110) (fun r127 h128=>if V.simple.simpleL r127 then
 (Zr r127 fun v136 =>
 (bd (bop prog .lss 3 v136 (V.int .i64 0)) fun v137 =>
 (bd (uop .not v137) fun v138 =>
 (bv v138 fun b139=>if b139 then
 (bd (bop prog .add 3 v117 (V.int .i64 1)) fun v140 =>
 (next111 [(V.sl 1 (lsl (gv st109 0)) false),v140,(gv st109 2)] h128))
 else
 (next111 [(V.sl 1 (lsl (gv st109 0)) false),(gv st109 1),v117] h128))))) else none) (fun z129 h128=>if z129.simple then none else none))
 else none) else none))) else none)))) else none)))))))
 else
 (bd (bop prog .sub 3 v103 (gv st109 1)) fun v141 =>
 (bd (bop prog .lss 3 (gv st109 1) (V.int .i64 m)) fun v142 =>
 (bv v142 fun b143=>if b143 then
 (bd (bop prog .lss 3 (V.int .i64 m) v141) fun v144 =>
 (bv v144 fun b145=>if b145 then
 (clm (call n 250 (V.sl 1 (lsl (gv st109 0)) false :: [(gv st109 1),(V.int .i64 m),v141,c]) hh110) 1 fun l146 r147 h148 =>
 (bd (bop prog .lss 3 (V.int .i64 a) (gv st109 1)) fun v149 =>
 (bv v149 fun b150=>if b150 then
 (bd (bop prog .lss 3 (gv st109 1) v102) fun v151 =>
 (bv v151 fun b152=>if b152 then
 (clm (call n 249 (V.sl 1 l146 false :: [(V.int .i64 a),(gv st109 1),v102,c]) h148) 1 fun l153 r154 h155 =>
 (bd (bop prog .lss 3 v102 v141) fun v156 =>
 (bv v156 fun b157=>if b157 then
 (bd (bop prog .lss 3 v141 (V.int .i64 b)) fun v158 =>
 (bv v158 fun b159=>if b159 then
 (clm (call n 249 (V.sl 1 l153 false :: [v102,v141,(V.int .i64 b),c]) h155) 1 fun l160 r161 h162 =>
 some (Res.ret (V.sl 1 l160 false :: []),h162))
 else
 some (Res.ret (V.sl 1 l153 false :: []),h155)))
 else
 some (Res.ret (V.sl 1 l153 false :: []),h155))))
 else
 (bd (bop prog .lss 3 v102 v141) fun v163 =>
 (bv v163 fun b164=>if b164 then
 (bd (bop prog .lss 3 v141 (V.int .i64 b)) fun v165 =>
 (bv v165 fun b166=>if b166 then
 (clm (call n 249 (V.sl 1 l146 false :: [v102,v141,(V.int .i64 b),c]) h148) 1 fun l167 r168 h169 =>
 some (Res.ret (V.sl 1 l167 false :: []),h169))
 else
 some (Res.ret (V.sl 1 l146 false :: []),h148)))
 else
 some (Res.ret (V.sl 1 l146 false :: []),h148)))))
 else
 (bd (bop prog .lss 3 v102 v141) fun v170 =>
 (bv v170 fun b171=>if b171 then
 (bd (bop prog .lss 3 v141 (V.int .i64 b)) fun v172 =>
 (bv v172 fun b173=>if b173 then
 (clm (call n 249 (V.sl 1 l146 false :: [v102,v141,(V.int .i64 b),c]) h148) 1 fun l174 r175 h176 =>
 some (Res.ret (V.sl 1 l174 false :: []),h176))
 else
 some (Res.ret (V.sl 1 l146 false :: []),h148)))
 else
 some (Res.ret (V.sl 1 l146 false :: []),h148))))))
 else
 (bd (bop prog .lss 3 (V.int .i64 a) (gv st109 1)) fun v177 =>
 (bv v177 fun b178=>if b178 then
 (bd (bop prog .lss 3 (gv st109 1) v102) fun v179 =>
 (bv v179 fun b180=>if b180 then
 (clm (call n 249 (V.sl 1 (lsl (gv st109 0)) false :: [(V.int .i64 a),(gv st109 1),v102,c]) hh110) 1 fun l181 r182 h183 =>
 (bd (bop prog .lss 3 v102 v141) fun v184 =>
 (bv v184 fun b185=>if b185 then
 (bd (bop prog .lss 3 v141 (V.int .i64 b)) fun v186 =>
 (bv v186 fun b187=>if b187 then
 (clm (call n 249 (V.sl 1 l181 false :: [v102,v141,(V.int .i64 b),c]) h183) 1 fun l188 r189 h190 =>
 some (Res.ret (V.sl 1 l188 false :: []),h190))
 else
 some (Res.ret (V.sl 1 l181 false :: []),h183)))
 else
 some (Res.ret (V.sl 1 l181 false :: []),h183))))
 else
 (bd (bop prog .lss 3 v102 v141) fun v191 =>
 (bv v191 fun b192=>if b192 then
 (bd (bop prog .lss 3 v141 (V.int .i64 b)) fun v193 =>
 (bv v193 fun b194=>if b194 then
 (clm (call n 249 (V.sl 1 (lsl (gv st109 0)) false :: [v102,v141,(V.int .i64 b),c]) hh110) 1 fun l195 r196 h197 =>
 some (Res.ret (V.sl 1 l195 false :: []),h197))
 else
 some (Res.ret (V.sl 1 (lsl (gv st109 0)) false :: []),hh110)))
 else
 some (Res.ret (V.sl 1 (lsl (gv st109 0)) false :: []),hh110)))))
 else
 (bd (bop prog .lss 3 v102 v141) fun v198 =>
 (bv v198 fun b199=>if b199 then
 (bd (bop prog .lss 3 v141 (V.int .i64 b)) fun v200 =>
 (bv v200 fun b201=>if b201 then
 (clm (call n 249 (V.sl 1 (lsl (gv st109 0)) false :: [v102,v141,(V.int .i64 b),c]) hh110) 1 fun l202 r203 h204 =>
 some (Res.ret (V.sl 1 l202 false :: []),h204))
 else
 some (Res.ret (V.sl 1 (lsl (gv st109 0)) false :: []),hh110)))
 else
 some (Res.ret (V.sl 1 (lsl (gv st109 0)) false :: []),hh110)))))))
 else
 (bd (bop prog .lss 3 (V.int .i64 a) (gv st109 1)) fun v205 =>
 (bv v205 fun b206=>if b206 then
 (bd (bop prog .lss 3 (gv st109 1) v102) fun v207 =>
 (bv v207 fun b208=>if b208 then
 (clm (call n 249 (V.sl 1 (lsl (gv st109 0)) false :: [(V.int .i64 a),(gv st109 1),v102,c]) hh110) 1 fun l209 r210 h211 =>
 (bd (bop prog .lss 3 v102 v141) fun v212 =>
 (bv v212 fun b213=>if b213 then
 (bd (bop prog .lss 3 v141 (V.int .i64 b)) fun v214 =>
 (bv v214 fun b215=>if b215 then
 (clm (call n 249 (V.sl 1 l209 false :: [v102,v141,(V.int .i64 b),c]) h211) 1 fun l216 r217 h218 =>
 some (Res.ret (V.sl 1 l216 false :: []),h218))
 else
 some (Res.ret (V.sl 1 l209 false :: []),h211)))
 else
 some (Res.ret (V.sl 1 l209 false :: []),h211))))
 else
 (bd (bop prog .lss 3 v102 v141) fun v219 =>
 (bv v219 fun b220=>if b220 then
 (bd (bop prog .lss 3 v141 (V.int .i64 b)) fun v221 =>
 (bv v221 fun b222=>if b222 then
 (clm (call n 249 (V.sl 1 (lsl (gv st109 0)) false :: [v102,v141,(V.int .i64 b),c]) hh110) 1 fun l223 r224 h225 =>
 some (Res.ret (V.sl 1 l223 false :: []),h225))
 else
 some (Res.ret (V.sl 1 (lsl (gv st109 0)) false :: []),hh110)))
 else
 some (Res.ret (V.sl 1 (lsl (gv st109 0)) false :: []),hh110)))))
 else
 (bd (bop prog .lss 3 v102 v141) fun v226 =>
 (bv v226 fun b227=>if b227 then
 (bd (bop prog .lss 3 v141 (V.int .i64 b)) fun v228 =>
 (bv v228 fun b229=>if b229 then
 (clm (call n 249 (V.sl 1 (lsl (gv st109 0)) false :: [v102,v141,(V.int .i64 b),c]) hh110) 1 fun l230 r231 h232 =>
 some (Res.ret (V.sl 1 l230 false :: []),h232))
 else
 some (Res.ret (V.sl 1 (lsl (gv st109 0)) false :: []),hh110)))
 else
 some (Res.ret (V.sl 1 (lsl (gv st109 0)) false :: []),hh110))))))))))
noncomputable def zoy(n:Nat)(a:Int)(m:Int)(b:Int)(c:V)(v102:V)(v103:V)(v233:V)(st235:List V)(hh236:zd)(next237:List V->zd->Option (Res×zd)):Option (Res×zd) :=
 (bd (bop prog .lss 3 (gv st235 1) (gv st235 2)) fun v238 =>
 (bv v238 fun b239=>if b239 then
 (bd (bop prog .add 3 (gv st235 1) (gv st235 2)) fun v240 =>
 (bd (cvt prog 3 204 v240) fun v241 =>
 (bd (bop prog .shr 204 v241 (V.int .u64 1)) fun v242 =>
 (bd (cvt prog 204 3 v242) fun v243 =>
 (bd (bop prog .sub 3 v233 v243) fun v244 =>
 (bdS (nv v244) fun n245 =>
 (if (1=1/\n245 < ((lsl (gv st235 0))).length/\(some 163:Option Nat)≠some 0) then
 (bd ((lsl (gv st235 0)))[n245]? fun es246 =>
 (bd (es246)[0]? fun v247 =>
 (bdS (nv v243) fun n248 =>
 (if (1=1/\n248 < ((lsl (gv st235 0))).length/\(some 167:Option Nat)≠some 0) then
 (bd ((lsl (gv st235 0)))[n248]? fun es249 =>
 (bd (es249)[0]? fun v250 =>
 (fnK c fun f251 c252=>if (okV prog 3 f251=true) then(if X0 f251 then
 (cl (call n f251 ([v247,v250]++c252) hh236) (fun r253 h254 =>
 (Zr r253 fun v256 =>
 (bd (bop prog .lss 3 v256 (V.int .i64 0)) fun v257 =>
 (bd (uop .not v257) fun v258 =>
 (bv v258 fun b259=>if b259 then
 (bd (bop prog .add 3 v243 (V.int .i64 1)) fun v260 =>
 (next237 [(V.sl 1 (lsl (gv st235 0)) false),v260,(gv st235 2)] h254))
 else
 (next237 [(V.sl 1 (lsl (gv st235 0)) false),(gv st235 1),v243] h254)))))) (fun z255 h254=>none))
 else if W1 f251 then
 (bd (qO [(Kh hh236 v247),(Kh hh236 v250)]) fun a261=>cl (call n f251 (a261++c252) hh236) (fun r253 h254=>if V.simple.simpleL r253 then
 (Zr r253 fun v262 =>
 (bd (bop prog .lss 3 v262 (V.int .i64 0)) fun v263 =>
 (bd (uop .not v263) fun v264 =>
 (bv v264 fun b265=>if b265 then
 (bd (bop prog .add 3 v243 (V.int .i64 1)) fun v266 =>
 (next237 [(V.sl 1 (lsl (gv st235 0)) false),v266,(gv st235 2)] h254))
 else
 (next237 [(V.sl 1 (lsl (gv st235 0)) false),(gv st235 1),v243] h254))))) else none) (fun z255 h254=>if z255.simple then none else none))
 else none) else none))) else none)))) else none)))))))
 else
 (bd (bop prog .sub 3 v103 (gv st235 1)) fun v267 =>
 (bd (bop prog .lss 3 (gv st235 1) (V.int .i64 m)) fun v268 =>
 (bv v268 fun b269=>if b269 then
 (bd (bop prog .lss 3 (V.int .i64 m) v267) fun v270 =>
 (bv v270 fun b271=>if b271 then
 (clm (call n 250 (V.sl 1 (lsl (gv st235 0)) false :: [(gv st235 1),(V.int .i64 m),v267,c]) hh236) 1 fun l272 r273 h274 =>
 (bd (bop prog .lss 3 (V.int .i64 a) (gv st235 1)) fun v275 =>
 (bv v275 fun b276=>if b276 then
 (bd (bop prog .lss 3 (gv st235 1) v102) fun v277 =>
 (bv v277 fun b278=>if b278 then
 (clm (call n 249 (V.sl 1 l272 false :: [(V.int .i64 a),(gv st235 1),v102,c]) h274) 1 fun l279 r280 h281 =>
 (bd (bop prog .lss 3 v102 v267) fun v282 =>
 (bv v282 fun b283=>if b283 then
 (bd (bop prog .lss 3 v267 (V.int .i64 b)) fun v284 =>
 (bv v284 fun b285=>if b285 then
 (clm (call n 249 (V.sl 1 l279 false :: [v102,v267,(V.int .i64 b),c]) h281) 1 fun l286 r287 h288 =>
 some (Res.ret (V.sl 1 l286 false :: []),h288))
 else
 some (Res.ret (V.sl 1 l279 false :: []),h281)))
 else
 some (Res.ret (V.sl 1 l279 false :: []),h281))))
 else
 (bd (bop prog .lss 3 v102 v267) fun v289 =>
 (bv v289 fun b290=>if b290 then
 (bd (bop prog .lss 3 v267 (V.int .i64 b)) fun v291 =>
 (bv v291 fun b292=>if b292 then
 (clm (call n 249 (V.sl 1 l272 false :: [v102,v267,(V.int .i64 b),c]) h274) 1 fun l293 r294 h295 =>
 some (Res.ret (V.sl 1 l293 false :: []),h295))
 else
 some (Res.ret (V.sl 1 l272 false :: []),h274)))
 else
 some (Res.ret (V.sl 1 l272 false :: []),h274)))))
 else
 (bd (bop prog .lss 3 v102 v267) fun v296 =>
 (bv v296 fun b297=>if b297 then
 (bd (bop prog .lss 3 v267 (V.int .i64 b)) fun v298 =>
 (bv v298 fun b299=>if b299 then
 (clm (call n 249 (V.sl 1 l272 false :: [v102,v267,(V.int .i64 b),c]) h274) 1 fun l300 r301 h302 =>
 some (Res.ret (V.sl 1 l300 false :: []),h302))
 else
 some (Res.ret (V.sl 1 l272 false :: []),h274)))
 else
 some (Res.ret (V.sl 1 l272 false :: []),h274))))))
 else
 (bd (bop prog .lss 3 (V.int .i64 a) (gv st235 1)) fun v303 =>
 (bv v303 fun b304=>if b304 then
 (bd (bop prog .lss 3 (gv st235 1) v102) fun v305 =>
 (bv v305 fun b306=>if b306 then
 (clm (call n 249 (V.sl 1 (lsl (gv st235 0)) false :: [(V.int .i64 a),(gv st235 1),v102,c]) hh236) 1 fun l307 r308 h309 =>
 (bd (bop prog .lss 3 v102 v267) fun v310 =>
 (bv v310 fun b311=>if b311 then
 (bd (bop prog .lss 3 v267 (V.int .i64 b)) fun v312 =>
 (bv v312 fun b313=>if b313 then
 (clm (call n 249 (V.sl 1 l307 false :: [v102,v267,(V.int .i64 b),c]) h309) 1 fun l314 r315 h316 =>
 some (Res.ret (V.sl 1 l314 false :: []),h316))
 else
 some (Res.ret (V.sl 1 l307 false :: []),h309)))
 else
 some (Res.ret (V.sl 1 l307 false :: []),h309))))
 else
 (bd (bop prog .lss 3 v102 v267) fun v317 =>
 (bv v317 fun b318=>if b318 then
 (bd (bop prog .lss 3 v267 (V.int .i64 b)) fun v319 =>
 (bv v319 fun b320=>if b320 then
 (clm (call n 249 (V.sl 1 (lsl (gv st235 0)) false :: [v102,v267,(V.int .i64 b),c]) hh236) 1 fun l321 r322 h323 =>
 some (Res.ret (V.sl 1 l321 false :: []),h323))
 else
 some (Res.ret (V.sl 1 (lsl (gv st235 0)) false :: []),hh236)))
 else
 some (Res.ret (V.sl 1 (lsl (gv st235 0)) false :: []),hh236)))))
 else
 (bd (bop prog .lss 3 v102 v267) fun v324 =>
 (bv v324 fun b325=>if b325 then
 (bd (bop prog .lss 3 v267 (V.int .i64 b)) fun v326 =>
 (bv v326 fun b327=>if b327 then
 (clm (call n 249 (V.sl 1 (lsl (gv st235 0)) false :: [v102,v267,(V.int .i64 b),c]) hh236) 1 fun l328 r329 h330 =>
 some (Res.ret (V.sl 1 l328 false :: []),h330))
 else
 some (Res.ret (V.sl 1 (lsl (gv st235 0)) false :: []),hh236)))
 else
 some (Res.ret (V.sl 1 (lsl (gv st235 0)) false :: []),hh236)))))))
 else
 (bd (bop prog .lss 3 (V.int .i64 a) (gv st235 1)) fun v331 =>
 (bv v331 fun b332=>if b332 then
 (bd (bop prog .lss 3 (gv st235 1) v102) fun v333 =>
 (bv v333 fun b334=>if b334 then
 (clm (call n 249 (V.sl 1 (lsl (gv st235 0)) false :: [(V.int .i64 a),(gv st235 1),v102,c]) hh236) 1 fun l335 r336 h337 =>
 (bd (bop prog .lss 3 v102 v267) fun v338 =>
 (bv v338 fun b339=>if b339 then
 (bd (bop prog .lss 3 v267 (V.int .i64 b)) fun v340 =>
 (bv v340 fun b341=>if b341 then
 (clm (call n 249 (V.sl 1 l335 false :: [v102,v267,(V.int .i64 b),c]) h337) 1 fun l342 r343 h344 =>
 some (Res.ret (V.sl 1 l342 false :: []),h344))
 else
 some (Res.ret (V.sl 1 l335 false :: []),h337)))
 else
 some (Res.ret (V.sl 1 l335 false :: []),h337))))
 else
 (bd (bop prog .lss 3 v102 v267) fun v345 =>
 (bv v345 fun b346=>if b346 then
 (bd (bop prog .lss 3 v267 (V.int .i64 b)) fun v347 =>
 (bv v347 fun b348=>if b348 then
 (clm (call n 249 (V.sl 1 (lsl (gv st235 0)) false :: [v102,v267,(V.int .i64 b),c]) hh236) 1 fun l349 r350 h351 =>
 some (Res.ret (V.sl 1 l349 false :: []),h351))
 else
 some (Res.ret (V.sl 1 (lsl (gv st235 0)) false :: []),hh236)))
 else
 some (Res.ret (V.sl 1 (lsl (gv st235 0)) false :: []),hh236)))))
 else
 (bd (bop prog .lss 3 v102 v267) fun v352 =>
 (bv v352 fun b353=>if b353 then
 (bd (bop prog .lss 3 v267 (V.int .i64 b)) fun v354 =>
 (bv v354 fun b355=>if b355 then
 (clm (call n 249 (V.sl 1 (lsl (gv st235 0)) false :: [v102,v267,(V.int .i64 b),c]) hh236) 1 fun l356 r357 h358 =>
 some (Res.ret (V.sl 1 l356 false :: []),h358))
 else
 some (Res.ret (V.sl 1 (lsl (gv st235 0)) false :: []),hh236)))
 else
 some (Res.ret (V.sl 1 (lsl (gv st235 0)) false :: []),hh236))))))))))
noncomputable def zuD(n:Nat)(l:List (List V))(a:Int)(m:Int)(b:Int)(c:V)(h:zd):Option (Res×zd) :=
 (if ((IntKind.i64.wrap (m - a)) == 1) then
 (zR n (zaW n a c) [(V.sl 1 l false),(V.int .i64 m),(V.int .i64 b)] h)
 else
 (if ((IntKind.i64.wrap (b - m)) == 1) then
 (zR n (j6 n m c) [(V.sl 1 l false),(V.int .i64 a),(V.int .i64 m)] h)
 else
 (bd (bop prog .shr 204 (V.int .u64 (IntKind.u64.wrap (IntKind.i64.wrap (a+b)))) (V.int .u64 1)) fun v101 =>
 (bd (cvt prog 204 3 v101) fun v102 =>
 (bd (bop prog .add 3 v102 (V.int .i64 m)) fun v103 =>
 (bd (bop prog .gtr 3 (V.int .i64 m) v102) fun v104 =>
 (bv v104 fun b105=>if b105 then
 (bd (bop prog .sub 3 v103 (V.int .i64 b)) fun v106 =>
 (bd (bop prog .sub 3 v103 (V.int .i64 1)) fun v107 =>
 (zR n (KF n a m b c v102 v103 v107) [(V.sl 1 l false),v106,v102] h)))
 else
 (bd (bop prog .sub 3 v103 (V.int .i64 1)) fun v233 =>
 (zR n (zoy n a m b c v102 v103 v233) [(V.sl 1 l false),(V.int .i64 a),(V.int .i64 m)] h)))))))))
theorem zsx(n:Nat)(l:List (List V))(a:Int)(m:Int)(b:Int)(c:V)(h:zd):call (n+1) 249 [(V.sl 1 l false),(V.int .i64 a),(V.int .i64 m),(V.int .i64 b),c] h=zuD n l a m b c h:=by kernel_rfl
noncomputable def zcZ(n:Nat)(a:Int)(c:V)(st1:List V)(next3:List V->zd->Option (Res×zd))(st7:List V)(hh8:zd)(next9:List V->zd->Option (Res×zd)):Option (Res×zd) :=
 (bd (bop prog .gtr 3 (gv st7 1) (V.int .i64 a)) fun v10 =>
 (bv v10 fun b11=>if b11 then
 (bdS (nv (gv st7 1)) fun n12 =>
 (if (1=1/\n12 < ((lsl (gv st7 0))).length/\(some 25:Option Nat)≠some 0) then
 (bd ((lsl (gv st7 0)))[n12]? fun es13 =>
 (bd (es13)[0]? fun v14 =>
 (bd (bop prog .sub 3 (gv st7 1) (V.int .i64 1)) fun v15 =>
 (bdS (nv v15) fun n16 =>
 (if (1=1/\n16 < ((lsl (gv st7 0))).length/\(some 30:Option Nat)≠some 0) then
 (bd ((lsl (gv st7 0)))[n16]? fun es17 =>
 (bd (es17)[0]? fun v18 =>
 (fnK c fun f19 c20=>if (okV prog 3 f19=true) then(if X0 f19 then
 (cl (call n f19 ([v14,v18]++c20) hh8) (fun r21 h22 =>
 (Zr r21 fun v24 =>
 (bd (bop prog .lss 3 v24 (V.int .i64 0)) fun v25 =>
 (bv v25 fun b26=>if b26 then
 (bd (bop prog .sub 3 (gv st7 1) (V.int .i64 1)) fun v27 =>
 (bd (bop prog .sub 3 (gv st7 1) (V.int .i64 1)) fun v28 =>
 (bdS (nv v28) fun n29 =>
 (if (1=1/\n29 < ((lsl (gv st7 0))).length/\(some 45:Option Nat)≠some 0) then
 (bd ((lsl (gv st7 0)))[n29]? fun es30 =>
 (bd (es30)[0]? fun v31 =>
 (bdS (nv (gv st7 1)) fun n32 =>
 (if (1=1/\n32 < ((lsl (gv st7 0))).length/\(some 49:Option Nat)≠some 0) then
 (bd ((lsl (gv st7 0)))[n32]? fun es33 =>
 (bd (es33)[0]? fun v34 =>
 (bdS (nv (gv st7 1)) fun n35 =>
 (if (1=1/\n35 < ((lsl (gv st7 0))).length/\(some 51:Option Nat)≠some 0) then
 (if ((V.cells v31)).length=1 then
 (if (1=1/\0 < 1/\0+((V.cells v31)).length<=1) then
 (bd ((lsl (gv st7 0)))[n35]? fun es36 =>
 (bdS (nv v27) fun n37 =>
 (if (1=1/\n37 < ((((lsl (gv st7 0))).set n35 (setR es36 0 (V.cells v31)))).length/\(some 52:Option Nat)≠some 0) then
 (if ((V.cells v34)).length=1 then
 (if (1=1/\0 < 1/\0+((V.cells v34)).length<=1) then
 (bd ((((lsl (gv st7 0))).set n35 (setR es36 0 (V.cells v31))))[n37]? fun es38 =>
 (bd (bop prog .sub 3 (gv st7 1) (V.int .i64 1)) fun v39 =>
 (next9 [(V.sl 1 (((((lsl (gv st7 0))).set n35 (setR es36 0 (V.cells v31)))).set n37 (setR es38 0 (V.cells v34))) false),v39] h22))) else none) else none) else none))) else none) else none) else none)))) else none)))) else none))))
 else
 (bd (bop prog .add 3 (gv st1 1) (V.int .i64 1)) fun v40 =>
 (next3 [(V.sl 1 (lsl (gv st7 0)) false),v40] h22)))))) (fun z23 h22=>none))
 else if W1 f19 then
 (bd (qO [(Kh hh8 v14),(Kh hh8 v18)]) fun a41=>cl (call n f19 (a41++c20) hh8) (fun r21 h22=>if V.simple.simpleL r21 then
 (Zr r21 fun v42 =>
 (bd (bop prog .lss 3 v42 (V.int .i64 0)) fun v43 =>
 (bv v43 fun b44=>if b44 then
 (bd (bop prog .sub 3 (gv st7 1) (V.int .i64 1)) fun v45 =>
 (bd (bop prog .sub 3 (gv st7 1) (V.int .i64 1)) fun v46 =>
 (bdS (nv v46) fun n47 =>
 (if (1=1/\n47 < ((lsl (gv st7 0))).length/\(some 45:Option Nat)≠some 0) then
 (bd ((lsl (gv st7 0)))[n47]? fun es48 =>
 (bd (es48)[0]? fun v49 =>
 (bdS (nv (gv st7 1)) fun n50 =>
 (if (1=1/\n50 < ((lsl (gv st7 0))).length/\(some 49:Option Nat)≠some 0) then
 (bd ((lsl (gv st7 0)))[n50]? fun es51 =>
 (bd (es51)[0]? fun v52 =>
 (bdS (nv (gv st7 1)) fun n53 =>
 (if (1=1/\n53 < ((lsl (gv st7 0))).length/\(some 51:Option Nat)≠some 0) then
 (if ((V.cells v49)).length=1 then
 (if (1=1/\0 < 1/\0+((V.cells v49)).length<=1) then
 (bd ((lsl (gv st7 0)))[n53]? fun es54 =>
 (bdS (nv v45) fun n55 =>
 (if (1=1/\n55 < ((((lsl (gv st7 0))).set n53 (setR es54 0 (V.cells v49)))).length/\(some 52:Option Nat)≠some 0) then
 (if ((V.cells v52)).length=1 then
 (if (1=1/\0 < 1/\0+((V.cells v52)).length<=1) then
 (bd ((((lsl (gv st7 0))).set n53 (setR es54 0 (V.cells v49))))[n55]? fun es56 =>
 (bd (bop prog .sub 3 (gv st7 1) (V.int .i64 1)) fun v57 =>
 (next9 [(V.sl 1 (((((lsl (gv st7 0))).set n53 (setR es54 0 (V.cells v49)))).set n55 (setR es56 0 (V.cells v52))) false),v57] h22))) else none) else none) else none))) else none) else none) else none)))) else none)))) else none))))
 else
 (bd (bop prog .add 3 (gv st1 1) (V.int .i64 1)) fun v58 =>
 (next3 [(V.sl 1 (lsl (gv st7 0)) false),v58] h22))))) else none) (fun z23 h22=>if z23.simple then none else none))
 else none) else none))) else none))))) else none))
 else
 (bd (bop prog .add 3 (gv st1 1) (V.int .i64 1)) fun v59 =>
 (next3 [(V.sl 1 (lsl (gv st7 0)) false),v59] hh8))))
noncomputable def zaX(n:Nat)(a:Int)(b:Int)(c:V)(st1:List V)(hh2:zd)(next3:List V->zd->Option (Res×zd)):Option (Res×zd) :=
 (bd (bop prog .lss 3 (gv st1 1) (V.int .i64 b)) fun v4 =>
 (bv v4 fun b5=>if b5 then
 (zR n (zcZ n a c st1 next3) [(V.sl 1 (lsl (gv st1 0)) false),(gv st1 1)] hh2)
 else
 some (Res.ret (V.sl 1 (lsl (gv st1 0)) false :: []),hh2)))
noncomputable def zuE(n:Nat)(l:List (List V))(a:Int)(b:Int)(c:V)(h:zd):Option (Res×zd) :=
 (zR n (zaX n a b c) [(V.sl 1 l false),(V.int .i64 (IntKind.i64.wrap (a+1)))] h)
theorem zsy(n:Nat)(l:List (List V))(a:Int)(b:Int)(c:V)(h:zd):call (n+1) 248 [(V.sl 1 l false),(V.int .i64 a),(V.int .i64 b),c] h=zuE n l a b c h:=by kernel_rfl
noncomputable def qt(n:Nat)(k:Int)(c:V)(st14:List V)(next16:List V->zd->Option (Res×zd))(st21:List V)(hh22:zd)(next23:List V->zd->Option (Res×zd)):Option (Res×zd) :=
 (bd (bop prog .leq 3 (gv st21 2) (V.int .i64 k)) fun v24 =>
 (bv v24 fun b25=>if b25 then
 (bd (bop prog .add 3 (gv st21 1) (gv st14 1)) fun v26 =>
 (clm (call n 249 (V.sl 1 (lsl (gv st21 0)) false :: [(gv st21 1),v26,(gv st21 2),c]) hh22) 1 fun l27 r28 h29 =>
 (bd (bop prog .mul 3 (V.int .i64 2) (gv st14 1)) fun v30 =>
 (bd (bop prog .add 3 (gv st21 2) v30) fun v31 =>
 (next23 [(V.sl 1 l27 false),(gv st21 2),v31] h29)))))
 else
 (bd (bop prog .add 3 (gv st21 1) (gv st14 1)) fun v32 =>
 (bd (bop prog .lss 3 v32 (V.int .i64 k)) fun v33 =>
 (bv v33 fun b34=>if b34 then
 (clm (call n 249 (V.sl 1 (lsl (gv st21 0)) false :: [(gv st21 1),v32,(V.int .i64 k),c]) hh22) 1 fun l35 r36 h37 =>
 (bd (bop prog .mul 3 (gv st14 1) (V.int .i64 2)) fun v38 =>
 (next16 [(V.sl 1 l35 false),v38,(gv st21 1),(gv st21 2)] h37)))
 else
 (bd (bop prog .mul 3 (gv st14 1) (V.int .i64 2)) fun v39 =>
 (next16 [(V.sl 1 (lsl (gv st21 0)) false),v39,(gv st21 1),(gv st21 2)] hh22)))))))
noncomputable def Yy(n:Nat)(k:Int)(c:V)(st14:List V)(hh15:zd)(next16:List V->zd->Option (Res×zd)):Option (Res×zd) :=
 (bd (bop prog .lss 3 (gv st14 1) (V.int .i64 k)) fun v17 =>
 (bv v17 fun b18=>if b18 then
 (bd (bop prog .mul 3 (V.int .i64 2) (gv st14 1)) fun v19 =>
 (zR n (qt n k c st14 next16) [(V.sl 1 (lsl (gv st14 0)) false),(V.int .i64 0),v19] hh15))
 else
 some (Res.ret (V.sl 1 (lsl (gv st14 0)) false :: []),hh15)))
noncomputable def zaY(n:Nat)(k:Int)(c:V)(st1:List V)(hh2:zd)(next3:List V->zd->Option (Res×zd)):Option (Res×zd) :=
 (bd (bop prog .leq 3 (gv st1 2) (V.int .i64 k)) fun v4 =>
 (bv v4 fun b5=>if b5 then
 (clm (call n 248 (V.sl 1 (lsl (gv st1 0)) false :: [(gv st1 1),(gv st1 2),c]) hh2) 1 fun l6 r7 h8 =>
 (bd (bop prog .add 3 (gv st1 2) (V.int .i64 20)) fun v9 =>
 (next3 [(V.sl 1 l6 false),(gv st1 2),v9] h8)))
 else
 (clm (call n 248 (V.sl 1 (lsl (gv st1 0)) false :: [(gv st1 1),(V.int .i64 k),c]) hh2) 1 fun l10 r11 h12 =>
 (zR n (Yy n k c) [(V.sl 1 l10 false),(V.int .i64 20),(gv st1 1),(gv st1 2)] h12))))
noncomputable def ztt(n:Nat)(l:List (List V))(k:Int)(c:V)(h:zd):Option (Res×zd) :=
 (zR n (zaY n k c) [(V.sl 1 l false),(V.int .i64 0),(V.int .i64 20)] h)
theorem zqr(n:Nat)(l:List (List V))(k:Int)(c:V)(h:zd):call (n+1) 246 [(V.sl 1 l false),(V.int .i64 k),c] h=ztt n l k c h:=by kernel_rfl
noncomputable def ztu(n:Nat)(l:List (List V))(c:V)(h:zd):Option (Res×zd) :=
 (clm (call n 246 (V.sl 1 l false :: [(V.int .i64 ((l).length:Int)),c]) h) 1 fun l0 r1 h2 =>
 some (Res.ret (V.sl 1 l0 false :: []),h2))
theorem zqs(n:Nat)(l:List (List V))(c:V)(h:zd):call (n+1) 240 [(V.sl 1 l false),c] h=ztu n l c h:=by kernel_rfl
end Go.Proofs.Tryz
namespace Go.Rp
def Ah(K:Int->Int)(x y:Int):Prop:=K x < K y\/(K x=K y/\x < y)
abbrev Sd(K:Int->Int)(l:List Int):Prop:=l.Pairwise (Ah K)
section
variable {K:Int->Int}
theorem Ah.trans{x y z:Int}(h:Ah K x y)(k:Ah K y z):Ah K x z:=by unfold Ah at *;omega
theorem Ah.asymm{x y:Int}(h:Ah K x y)(k:Ah K y x):False:=by unfold Ah at *;omega
theorem Ah.lt{x y:Int}(h:K x < K y):Ah K x y:=.inl h
theorem Ah.le{x y:Int}(h:K x<=K y)(k:x < y):Ah K x y:=by unfold Ah;omega
theorem Ah.of{x y:Int}(h:Ah K x y):K x<=K y:=by unfold Ah at h;omega
theorem zbK : ∀ {l m : List Int}, l.Perm m -> Sd K l -> Sd K m -> l = m
 | [],m,h,_,_=>(h.symm.eq_nil).symm
 | x :: l,[],h,_,_=>absurd h.eq_nil (by simp)
 | x :: l,y :: m,h,hl,hm=>by
   obtain⟨h1,h2⟩:=Xg.1 hl;obtain⟨k1,k2⟩:=Xg.1 hm;have hx:x∈y :: m:=h.mem_iff.1 (by simp);have hy:y∈x :: l:=h.mem_iff.2 (by simp);obtain rfl:x=y:=by
    rcases zL.1 hx with e|hx
    . exact e
    . rcases zL.1 hy with e|hy
      . exact e.symm
      . exact absurd (h1 y hy) fun a=>(k1 x hx).asymm a
   rw[zbK (List.perm_cons x |>.1 h) h2 k2]
def qF (K : Int -> Int) : List Int -> Int -> List Int -> List Int
 | [],x,b=>x :: b
 | y :: r,x,b=>if K x < K y then qF K r x (y :: b) else r.reverse++y :: x :: b
theorem zbL : ∀ (r : List Int) (x : Int) (b : List Int), (qF K r x b).Perm (r.reverse ++ x :: b)
 | [],x,b=>.refl _
 | y :: r,x,b=>by
   unfold qF;split
   . refine(zbL r x (y :: b)).trans ?_;rw[WE,List.append_assoc];exact List.Perm.append_left _ (List.Perm.swap y x b)
   . rw[WE,List.append_assoc];exact .refl _
theorem zg6 : ∀ (r : List Int) (x : Int) (b : List Int), Sd K (r.reverse ++ b) -> (∀ y ∈ r, y < x) -> (∀ y ∈ b, Ah K x y) -> Sd K (qF K r x b)
 | [],x,b,h,_,hb=>Xg.2 ⟨hb,by simpa using h⟩
 | y :: r,x,b,h,hr,hb=>by
   rw[WE,List.append_assoc] at h;unfold qF;split
   . rename_i hk;exact zg6 r x (y :: b) h (fun z hz=>hr z (zw _ hz)) (fun z hz=>by
      rcases zL.1 hz with rfl|hz
      . exact .lt hk
      . exact hb z hz)
   . rename_i hk;have hyx:Ah K y x:=.le (by omega) (hr y (by simp));obtain⟨h1,h2,h3⟩:=ZJ.1 h;obtain⟨h4,h5⟩:=Xg.1 (show Sd K (y :: b) from h2);refine ZJ.2 ⟨h1,Xg.2 ⟨fun z hz=>?_,Xg.2 ⟨hb,h5⟩⟩,fun u hu v hv=>?_⟩
     . rcases zL.1 hz with rfl|hz
       . exact hyx
       . exact hyx.trans (hb z hz)
     . rcases zL.1 hv with rfl|hv
       . exact h3 u hu v (by simp)
       . rcases zL.1 hv with rfl|hv
         . exact(h3 u hu y (by simp)).trans hyx
         . exact h3 u hu v (by simp[hv])
def qG (K : Int -> Int) : Nat -> List Int
 | 0=>[]
 | n+1=>qF K (qG K n).reverse n []
theorem zbM : ∀ n : Nat, (qG K n).Perm ((List.range n).map Int.ofNat)
 | 0=>.refl _
 | n+1=>by
   unfold qG;refine(zbL _ _ _).trans ?_;rw[QY,List.range_succ,Zu];exact(zbM n).append_right _
theorem zaZ{n:Nat}{x:Int}:x∈qG K n ↔ 0<=x/\x < n:=by
 rw[(zbM n).mem_iff,Zv];constructor
 . rintro ⟨k,hk,rfl⟩;have:=zZ.1 hk;simp;omega
 . rintro ⟨h1,h2⟩;exact⟨x.toNat,zZ.2 (by omega),by simp;omega⟩
theorem zjg(n:Nat):(qG K n).length=n:=by rw[(zbM n).length_eq];simp
theorem zg7 : ∀ n : Nat, Sd K (qG K n)
 | 0=>.nil
 | n+1=>by
   unfold qG;refine zg6 _ _ _ (by simpa using zg7 n) (fun y hy=>?_) (by simp);exact(zaZ.1 (List.mem_reverse.1 hy)).2
theorem zlI(n:Nat):(qG K n).Nodup:=(zg7 (K:=K) n).imp fun h=>by rintro rfl;exact h.asymm h
theorem za0{Q:Int->Prop}{B:List Int}{k:Nat}(hQ:∀ y z,Ah K y z->Q z->Q y)(hB:Sd K B)(hk:k<=B.length)(h:k=0\/Q (B.getD (k - 1) 0)):∀ y∈B.take k,Q y:=by
 intro y hy;obtain⟨i,hi,rfl⟩:=List.mem_iff_getElem.1 hy;rw[Zh] at hi;rw[List.getElem_take];rcases h with h|h
 . omega
 . rw[zV,zg (by omega),Qh] at h;rcases ZX i (k - 1) with h1|h1
   . exact hQ _ _ (XM.1 hB i (k - 1) (by omega) (by omega) h1) h
   . obtain rfl:i=k - 1:=by omega
     exact h
theorem za1{Q:Int->Prop}{B:List Int}{k:Nat}(hQ:∀ y z,Ah K y z->Q y->Q z)(hB:Sd K B)(h:B.length<=k\/Q (B.getD k 0)):∀ y∈B.drop k,Q y:=by
 intro y hy;obtain⟨i,hi,rfl⟩:=List.mem_iff_getElem.1 hy;rw[Xs] at hi;rw[List.getElem_drop];rcases h with h|h
 . omega
 . rw[zV,zg (by omega),Qh] at h;rcases J6 i with h1|h1
   . subst h1;exact h
   . exact hQ _ _ (XM.1 hB k (k+i) (by omega) (by omega) (by omega)) h
theorem zoz{x:Int}{B:List Int}{k:Nat}(hB:Sd K B)(hk:k<=B.length)(hlt:∀ y∈B,x < y)(h1:k=0\/K (B.getD (k - 1) 0) < K x)(h2:B.length<=k\/¬ K (B.getD k 0) < K x):Sd K (B.take k++x :: B.drop k):=by
 have a1:=za0 (Q:=fun y=>K y < K x) (fun y z h hz=>by have:=h.of;omega) hB hk h1;have a2:=za1 (Q:=fun y=>¬ K y < K x) (fun y z h hz=>by have:=h.of;omega) hB h2;have hB':=hB;rw[<- Zy k B] at hB';obtain⟨s1,s2,s3⟩:=ZJ.1 hB';refine ZJ.2 ⟨s1,Xg.2 ⟨fun y hy=>?_,s2⟩,fun u hu v hv=>?_⟩
 . exact .le (by have:=a2 y hy;omega) (hlt y (Zj hy))
 . rcases zL.1 hv with rfl|hv
   . exact .lt (a1 u hu)
   . exact s3 u hu v hv
theorem zlJ{x:Int}{A:List Int}{k:Nat}(hA:Sd K A)(hk:k<=A.length)(hlt:∀ y∈A,y < x)(h1:k=0\/¬ K x < K (A.getD (k - 1) 0))(h2:A.length<=k\/K x < K (A.getD k 0)):Sd K (A.take k++x :: A.drop k):=by
 have a1:=za0 (Q:=fun y=>¬ K x < K y) (fun y z h hz=>by have:=h.of;omega) hA hk h1;have a2:=za1 (Q:=fun y=>K x < K y) (fun y z h hz=>by have:=h.of;omega) hA h2;have hA':=hA;rw[<- Zy k A] at hA';obtain⟨s1,s2,s3⟩:=ZJ.1 hA';refine ZJ.2 ⟨s1,Xg.2 ⟨fun y hy=>.lt (a2 y hy),s2⟩,fun u hu v hv=>?_⟩;rcases zL.1 hv with rfl|hv
 . exact .le (by have:=a1 u hu;omega) (hlt u (Zw hu))
 . exact s3 u hu v hv
theorem zuF {A B : List Int} {i j : Nat} (hA : Sd K A) (hB : Sd K B) (hi : i <= A.length) (hj : j <= B.length) (hlt : ∀ x ∈ A, ∀ y ∈ B, x < y)
    (h1:i=0\/B.length<=j\/¬ K (B.getD j 0) < K (A.getD (i - 1) 0)) (h2:j=0\/A.length<=i\/K (B.getD (j - 1) 0) < K (A.getD i 0)):∀ u∈A.take i++B.take j,∀ v∈A.drop i++B.drop j,Ah K u v:=by
 have a1:∀ u∈A.take i,∀ v∈B.drop j,Ah K u v:=fun u hu v hv=>by
  have h0:¬ K v < K u:=by
   rcases h1 with h1|h1|h1
   . subst h1;simp at hu
   . rw[Zo h1] at hv;cases hv
   . have:=za1 (Q:=fun y=>¬ K y < K (A.getD (i - 1) 0)) (fun y z h hz=>by have:=h.of;omega) hB (.inr h1) v hv;exact za0 (Q:=fun y=>¬ K v < K y) (fun y z h hz=>by have:=h.of;omega) hA hi (.inr this) u hu
  exact .le (by omega) (hlt u (Zw hu) v (Zj hv))
 have a2:∀ u∈B.take j,∀ v∈A.drop i,Ah K u v:=fun u hu v hv=>by
  rcases h2 with h2|h2|h2
  . subst h2;simp at hu
  . rw[Zo h2] at hv;cases hv
  . have:=za1 (Q:=fun y=>K (B.getD (j - 1) 0) < K y) (fun y z h hz=>by have:=h.of;omega) hA (.inr h2) v hv;exact .lt (za0 (Q:=fun y=>K y < K v) (fun y z h hz=>by have:=h.of;omega) hB hj (.inr this) u hu)
 have hA':=hA;have hB':=hB;rw[<- Zy i A] at hA';rw[<- Zy j B] at hB';intro u hu v hv;rcases Zi.1 hu with hu|hu <;> rcases Zi.1 hv with hv|hv
 . exact(ZJ.1 hA').2.2 u hu v hv
 . exact a1 u hu v hv
 . exact a2 u hu v hv
 . exact(ZJ.1 hB').2.2 u hu v hv
end
end Go.Rp
namespace Go.Rp
def zg8(p:Nat->Int):Prop:=∀ i j,i < j->p i < p j
def rng(p:Nat->Int)(lo k:Nat):List Int:=(List.range' lo k).map p
section
variable {p:Nat->Int}
theorem zeb(lo k:Nat):rng p lo (k+1)=rng p lo k++[p (lo+k)]:=by
 unfold rng;rw[List.range'_concat,Zu];simp
theorem zjh(lo k:Nat):rng p lo (k+1)=p lo :: rng p (lo+1) k:=by
 unfold rng;rw[List.range'_succ,zS]
theorem zc0(lo k:Nat):(rng p lo k).length=k:=by simp[rng]
theorem zg9 (lo : Nat) : ∀ (k j : Nat), rng p lo (k + j) = rng p lo k ++ rng p (lo + k) j
 | k,0=>by simp[rng]
 | k,j+1=>by rw[<- ZT,zeb,zg9 lo k j,zeb (lo+k) j,List.append_assoc,ZT]
theorem jf{lo k:Nat}{x:Int}:x∈rng p lo k ↔ ∃ i,lo<=i/\i < lo+k/\p i=x:=by
 unfold rng;rw[Zv];constructor
 . rintro ⟨j,hj,rfl⟩;have:=List.mem_range'_1.1 hj;exact⟨j,by omega,by omega,rfl⟩
 . rintro ⟨i,h1,h2,rfl⟩;exact⟨i,List.mem_range'_1.2 (by omega),rfl⟩
theorem qu{lo k a l:Nat}{x:Int}(h1:lo<=a)(h2:a+l<=lo+k)(h:x∈rng p a l):x∈rng p lo k:=by
 obtain⟨i,a1,a2,a3⟩:=jf.1 h;exact jf.2 ⟨i,by omega,by omega,a3⟩
variable {K:Int->Int}
def sR (K : Int -> Int) (p : Nat -> Int) (lo : Nat) : Nat -> List Int
 | 0=>[]
 | k+1=>qF K (sR K p lo k).reverse (p (lo+k)) []
theorem jg (lo : Nat) : ∀ k, (sR K p lo k).Perm (rng p lo k)
 | 0=>.refl _
 | k+1=>by
   unfold sR;refine(zbL _ _ _).trans ?_;rw[QY,zeb];exact(jg lo k).append_right _
theorem Ke(lo k:Nat):(sR K p lo k).length=k:=by rw[(jg lo k).length_eq,zc0]
theorem zbN{lo k:Nat}{x:Int}:x∈sR K p lo k ↔ ∃ i,lo<=i/\i < lo+k/\p i=x:=by rw[(jg lo k).mem_iff,jf]
theorem zuG(hp:zg8 p){lo i j:Nat}{x y:Int}(hx:x∈sR K p lo i)(hy:y∈sR K p (lo+i) j):x < y:=by
 obtain⟨a,a1,a2,rfl⟩:=zbN.1 hx;obtain⟨b,b1,b2,rfl⟩:=zbN.1 hy;exact hp a b (by omega)
theorem zji (hp : zg8 p) (lo : Nat) : ∀ k, Sd K (sR K p lo k)
 | 0=>.nil
 | k+1=>by
   unfold sR;refine zg6 _ _ _ (by simpa using zji hp lo k) (fun y hy=>?_) (by simp);obtain⟨i,h1,h2,rfl⟩:=zbN.1 (List.mem_reverse.1 hy);exact hp _ _ h2
theorem zoA(hp:zg8 p){lo k:Nat}{C:List Int}(h:C.Perm (rng p lo k))(hs:Sd K C):C=sR K p lo k:=zbK (h.trans (jg lo k).symm) hs (zji hp lo k)
theorem zsz(hp:zg8 p){lo i j:Nat}{C:List Int}(h:C.Perm (sR K p lo i++sR K p (lo+i) j))(hs:Sd K C):C=sR K p lo (i+j):=by
 refine zoA hp (h.trans ?_) hs;rw[zg9];exact(jg lo i).append (jg (lo+i) j)
def Jn (K : Int -> Int) (p : Nat -> Int) (bs : Nat) : Nat -> Nat -> Nat -> List Int
 | 0,_,_=>[]
 | f+1,lo,len=>if len<=bs then sR K p lo len else sR K p lo bs++Jn K p bs f (lo+bs) (len - bs)
theorem zcn {bs : Nat} (hb : 0 < bs) : ∀ (f g lo len : Nat), len <= f -> len <= g -> Jn K p bs f lo len = Jn K p bs g lo len
 | 0,0,lo,len,_,_=>rfl
 | 0,g+1,lo,len,h,_=>by
   obtain rfl:len=0:=by omega
   simp[Jn,sR]
 | f+1,0,lo,len,_,h=>by
   obtain rfl:len=0:=by omega
   simp[Jn,sR]
 | f+1,g+1,lo,len,h,k=>by
   unfold Jn;split
   . rfl
   . rw[zcn hb f g _ _ (by omega) (by omega)]
theorem Wd{bs:Nat}(f lo len:Nat)(h:len<=bs)(hf:0 < f):Jn K p bs f lo len=sR K p lo len:=by
 cases f with
 | zero=>omega
 | succ f=>unfold Jn;rw[if_pos h]
theorem zoB{bs:Nat}(hb:0 < bs)(f lo len:Nat)(h:bs < len)(hf:len<=f):Jn K p bs f lo len=sR K p lo bs++Jn K p bs f (lo+bs) (len - bs):=by
 cases f with
 | zero=>omega
 | succ f =>
   have:=zcn (K:=K) (p:=p) hb f (f+1) (lo+bs) (len - bs) (by omega) (by omega);rw[<- this]
   conv=>lhs;unfold Jn
   rw[if_neg (by omega)]
def atP(l:List Int)(B:Int)(i:Nat):Int:=match l[i]? with|some x=>x|none=>B+(i:Int)
theorem zjj{l:List Int}{B:Int}(hl:l.Pairwise (· < ·))(hB:∀ x∈l,x < B):zg8 (atP l B):=by
 intro i j hij;unfold atP;cases hj:l[j]? with
 | some y =>
   have hjl:=(zi.1 hj).1;rw[zg (show i < l.length by omega)];have:=XM.1 hl i j (by omega) hjl hij;rw[zg hjl] at hj;rw[<- Option.some.inj hj];exact this
 | none =>
   cases hi:l[i]? with
   | some x =>
     have:=hB x (zJ hi);simp only;omega
   | none=>simp only;omega
theorem zha(l:List Int)(B:Int):rng (atP l B) 0 l.length=l:=by
 apply ZU;intro i;unfold rng;rw[zG];by_cases hi:i < l.length
 . rw[List.getElem?_range' hi,zg hi];simp only[Z7,zq,Nat.one_mul];unfold atP;rw[zg hi]
 . rw[Zg (by simp;omega),Zg (by omega)];rfl
end
end Go.Rp
