/- Lrel: what the law needs of these -/import Derived.Laws.OwnMore
import Derived.Maps.AppendAt
import Derived.Laws.CopyRow
import Derived.Test.YtclhmdhdpejhhaaGreatJsv2
set_option linter.unusedVariables false
set_option linter.unusedSimpArgs false
namespace Go.L
open Go.RowKit
inductive Ow where
 | slot (s:Nat)
 | hp (b:Nat)
 deriving DecidableEq
structure G where
 im:Addr->Option Value
 io:Nat->Option Nat
 ow:Nat->Option Ow
abbrev Im:=Addr->Option Value
abbrev Io:=Nat->Option Nat
def zha : Value -> Bool
 | .pointer none|.nilFunc|.nilIface|.map none=>true
 | _=>false
def jQ(a b:Nat):Nat:=(a+b) * (a+b)+a
theorem ziu{a b c d:Nat}(h:jQ a b=jQ c d):a=c/\b=d:=by
 unfold jQ at h;have key:a+b=c+d:=by
  rcases Nat.lt_trichotomy (a+b) (c+d) with hlt|he|hlt
  . have h1:(a+b+1) * (a+b+1)<=(c+d) * (c+d):=QB hlt hlt;have h2:(a+b+1) * (a+b+1)=(a+b) * (a+b)+2 * (a+b)+1:=by rw[Nat.add_mul,Nat.mul_add];omega
    omega
  . exact he
  . have h1:(c+d+1) * (c+d+1)<=(a+b) * (a+b):=QB hlt hlt;have h2:(c+d+1) * (c+d+1)=(c+d) * (c+d)+2 * (c+d)+1:=by rw[Nat.add_mul,Nat.mul_add];omega
    omega
 rw[key] at h;omega
def tok:Value->Nat
 | .slice (some a) _ cap=>1+jQ a.block (jQ a.off cap)
 | _=>0
inductive VR (im : Im) (io : Io) : V -> Value -> Prop
 | int (k n):VR im io (.int k n) (.int k n)
 | bool (b):VR im io (.bool b) (.bool b)
 | str (s):VR im io (.str s) (.string s)
 | val (v) (h:zha v=true):VR im io (.val v) v
 | agg (l:List V) (c:Array Value) (hl:l.length=c.size) (ho:∀ x∈l,x.one=true) (h:∀ (i:Nat) x y,l[i]?=some x->c[i]?=some y->VR im io x y):VR im io (.agg l) (.agg c)
 | sl (sz : Nat) (l : List (List V)) (x : Bool) (A : Option Addr) (cap : Nat) (ad : Addr) (ys : Nat -> Nat -> Value) (hA : l = [] \/ A = some ad) (hx : x = true -> cap = l.length) (hc : l.length <= cap) (hm : cap <= maxLen)
     (hs:∀ es∈l,es.length=sz/\∀ x∈es,x.one=true) (hi:∀ (k:Nat) es (j:Nat) x,l[k]?=some es->es[j]?=some x->im (ad.add (k * sz+j))=some (ys k j))
     (h:∀ (k:Nat) es (j:Nat) x,l[k]?=some es->es[j]?=some x->VR im io x (ys k j)):VR im io (.sl sz l x) (.slice A l.length cap)
 | ptr (b off β) (h:io b=some β):VR im io (.ptr b off) (.pointer (some ⟨β,off,none⟩))
 | iptr (sz : Nat) (l : List V) (off : Nat) (q : Addr) (ys : Nat -> Value) (hl : l.length = sz) (ho : ∀ x ∈ l, x.one = true) (hi : ∀ (j : Nat) x, l[j]? = some x -> im (q.add j) = some (ys j)) (h : ∀ (j : Nat) x, l[j]? = some x -> VR im io x (ys j)) :
     VR im io (.iptr sz l off) (.pointer (some (q.add off)))
 | map (b β) (h:io b=some β):VR im io (.map b) (.map (some β))
 | row (b sz lo hi β o cap u:Nat) (h:io b=some (1+jQ β (jQ o cap))) (h1:lo<=hi) (h2:hi<=cap) (h3:cap<=maxLen) (hu:u=o+lo * sz\/(cap=lo/\0 < lo)):VR im io (.row b sz lo hi) (.slice (some ⟨β,u,none⟩) (hi - lo) (cap - lo))
 | rowN (b sz:Nat) (h:io b=some 0):VR im io (.row b sz 0 0) (.slice none 0 0)
 | rptr (b sz i c β o cap:Nat) (h:io b=some (1+jQ β (jQ o cap))):VR im io (.rptr b sz i c) (.pointer (some ⟨β,o+(i * sz+c),none⟩))
 | fn (f:FuncId) (l:List V) (c:Array Value) (hl:l.length=c.size) (h:∀ (i:Nat) x y,l[i]?=some x->c[i]?=some y->VR im io x y):VR im io (.fn f l) (.func (.func f) #[] c)
 | iface (t:TypeId) (x:V) (y:Value) (h:VR im io x y):VR im io (.iface t x) (.iface t y)
 | yld (b l:Nat) (h:io b=some l):VR im io (.yld b) (.func (.yield l) #[] #[])
 | bf (f:FuncId) (l:List V) (c:Array Value) (hl:l.length=c.size) (h:∀ (i:Nat) x y,l[i]?=some x->c[i]?=some y->VR im io x y):VR im io (.bf f l) (.func (.func f) c #[])
 | mo (t:TypeId) (nm:String):VR im io (.mo t nm) (.func (.methodOf t nm) #[] #[])
def VL(im:Im)(io:Io)(l:List V)(c:List Value):Prop:=l.length=c.length/\∀ (i:Nat) x y,l[i]?=some x->c[i]?=some y->VR im io x y
def Ones(l:List V):Prop:=∀ x∈l,x.one=true
theorem VR.mono{im im':Im}{io io':Io}(hm:∀ p v,im p=some v->im' p=some v)(ho:∀ b β,io b=some β->io' b=some β){x:V}{y:Value}(h:VR im io x y):VR im' io' x y:=by
 induction h with
 | int=>exact .int _ _
 | bool=>exact .bool _
 | str=>exact .str _
 | val _ h=>exact .val _ h
 | agg l c hl ho' _ ih=>exact .agg l c hl ho' ih
 | sl sz l x A cap ad ys hA hx hc hm' hs hi _ ih=>exact .sl sz l x A cap ad ys hA hx hc hm' hs (fun k es j x h1 h2=>hm _ _ (hi k es j x h1 h2)) ih
 | ptr b off β h=>exact .ptr _ _ _ (ho _ _ h)
 | iptr sz l off q ys hl ho' hi _ ih=>exact .iptr sz l off q ys hl ho' (fun j x h=>hm _ _ (hi j x h)) ih
 | map b β h=>exact .map _ _ (ho _ _ h)
 | row b sz lo hi β o cap u h h1 h2 h3 hu=>exact .row _ _ _ _ _ _ _ _ (ho _ _ h) h1 h2 h3 hu
 | rowN b sz h=>exact .rowN _ _ (ho _ _ h)
 | rptr b sz i c β o cap h=>exact .rptr _ _ _ _ _ _ _ (ho _ _ h)
 | fn f l c hl _ ih=>exact .fn f l c hl ih
 | iface t x y _ ih=>exact .iface t x y ih
 | yld b l h=>exact .yld _ _ (ho _ _ h)
 | bf f l c hl _ ih=>exact .bf f l c hl ih
 | mo t nm=>exact .mo t nm
theorem VL.mono{im im':Im}{io io':Io}(hm:∀ p v,im p=some v->im' p=some v)(ho:∀ b β,io b=some β->io' b=some β){l:List V}{c:List Value}(h:VL im io l c):VL im' io' l c :=
 ⟨h.1,fun i x y h1 h2=>(h.2 i x y h1 h2).mono hm ho⟩
theorem VL.nil{im:Im}{io:Io}:VL im io [] []:=⟨rfl,fun i x y h=>by simp at h⟩
theorem VL.cons{im:Im}{io:Io}{x:V}{y:Value}{l:List V}{c:List Value}(h:VR im io x y)(t:VL im io l c):VL im io (x :: l) (y :: c) :=
 ⟨by simp[t.1],fun i a b h1 h2=>by
  cases i with
  | zero=>simp at h1 h2;subst h1;subst h2;exact h
  | succ i=>exact t.2 i a b (by simpa using h1) (by simpa using h2)⟩
theorem VL.uncons{im:Im}{io:Io}{x:V}{l:List V}{c:List Value}(h:VL im io (x :: l) c):∃ y r,c=y :: r/\VR im io x y/\VL im io l r:=by
 cases c with
 | nil=>simp[VL] at h
 | cons y r=>exact⟨y,r,rfl,h.2 0 x y rfl rfl,by simpa using h.1,fun i a b h1 h2=>h.2 (i+1) a b (by simpa using h1) (by simpa using h2)⟩
theorem VL.append{im:Im}{io:Io}{l m:List V}{c d:List Value}(h:VL im io l c)(t:VL im io m d):VL im io (l++m) (c++d):=by
 induction l generalizing c with
 | nil=>have:=h.1;cases c with
   | nil=>simpa using t
   | cons=>simp at this
 | cons x l ih=>obtain⟨y,r,rfl,hy,hr⟩:=h.uncons;exact .cons hy (ih hr)
theorem VL.take{im:Im}{io:Io}{l:List V}{c:List Value}(h:VL im io l c)(n:Nat):VL im io (l.take n) (c.take n) :=
 ⟨by simp[h.1],fun i x y h1 h2=>by
  rw[Ze] at h1 h2;split at h1
  . rename_i hi;rw[if_pos hi] at h2;exact h.2 i x y h1 h2
  . cases h1⟩
theorem VL.drop{im:Im}{io:Io}{l:List V}{c:List Value}(h:VL im io l c)(n:Nat):VL im io (l.drop n) (c.drop n) :=
 ⟨by simp[h.1],fun i x y h1 h2=>by
  rw[Zh] at h1 h2;exact h.2 _ x y h1 h2⟩
theorem VL.get{im:Im}{io:Io}{l:List V}{c:List Value}(h:VL im io l c){i:Nat}{x:V}(hx:l[i]?=some x):∃ y,c[i]?=some y/\VR im io x y:=by
 have hlt:=(zj.1 hx).1;obtain⟨y,hy⟩:∃ y,c[i]?=some y:=⟨_,zf (by rw[<- h.1];exact hlt)⟩;exact⟨y,hy,h.2 i x y hx hy⟩
theorem VL.set{im:Im}{io:Io}{l:List V}{c:List Value}(h:VL im io l c)(i:Nat){x:V}{y:Value}(hx:VR im io x y):VL im io (l.set i x) (c.set i y) :=
 ⟨by simp[h.1],fun j a b h1 h2=>by
  rw[Zd] at h1 h2;split at h1
  . rename_i hij;rw[if_pos hij] at h2;split at h1 <;> split at h2 <;> simp_all
  . rename_i hij;rw[if_neg hij] at h2;exact h.2 j a b h1 h2⟩
theorem Ones.append{l m:List V}(h:Ones l)(k:Ones m):Ones (l++m):=fun x hx=>(Zn.1 hx).elim (h x) (k x)
theorem Ones.take{l:List V}(h:Ones l)(n:Nat):Ones (l.take n):=fun x hx=>h x (Zs hx)
theorem Ones.drop{l:List V}(h:Ones l)(n:Nat):Ones (l.drop n):=fun x hx=>h x (Zk hx)
theorem Ones.set{l:List V}(h:Ones l)(i:Nat){v:V}(hv:v.one=true):Ones (l.set i v):=fun x hx=>by
 rcases Qb hx with hx|rfl
 . exact h x hx
 . exact hv
theorem Ones.setR{cs vs:List V}(h:Ones cs)(k:Ones vs)(o:Nat):Ones (setR cs o vs):=by
 unfold Go.L.setR;split
 . exact h.set o (k _ (by simp))
 . exact((h.take o).append k).append (h.drop _)
theorem VR.cells{im:Im}{io:Io}{x:V}{y:Value}(h:VR im io x y):VL im io x.cells y.cells.toList/\Ones x.cells:=by
 cases h with
 | agg l c hl ho h=>exact⟨⟨by simpa[V.cells,Value.cells] using hl,fun i x y h1 h2=>h i x y h1 (by simpa[Value.cells] using h2)⟩,ho⟩
 | val _ h =>
   refine⟨?_,by simp[Ones,V.cells,V.one]⟩;have:y.cells=#[y]:=by cases y <;> first|rfl|(simp[zha] at h)
   rw[this];exact .cons (.val _ h) .nil
 | int k n=>exact⟨.cons (.int k n) .nil,by simp[Ones,V.cells,V.one]⟩
 | bool b=>exact⟨.cons (.bool b) .nil,by simp[Ones,V.cells,V.one]⟩
 | str s=>exact⟨.cons (.str s) .nil,by simp[Ones,V.cells,V.one]⟩
 | sl sz l x A cap ad ys hA hx hc hm hs hi h=>exact⟨.cons (.sl sz l x A cap ad ys hA hx hc hm hs hi h) .nil,by simp[Ones,V.cells,V.one]⟩
 | ptr b off β h=>exact⟨.cons (.ptr b off β h) .nil,by simp[Ones,V.cells,V.one]⟩
 | iptr sz l off q ys hl ho hi h=>exact⟨.cons (.iptr sz l off q ys hl ho hi h) .nil,by simp[Ones,V.cells,V.one]⟩
 | map b β h=>exact⟨.cons (.map b β h) .nil,by simp[Ones,V.cells,V.one]⟩
 | row b sz lo hi β o cap u h h1 h2 h3 hu=>exact⟨.cons (.row b sz lo hi β o cap u h h1 h2 h3 hu) .nil,by simp[Ones,V.cells,V.one]⟩
 | rowN b sz h=>exact⟨.cons (.rowN b sz h) .nil,by simp[Ones,V.cells,V.one]⟩
 | rptr b sz i c β o cap h=>exact⟨.cons (.rptr b sz i c β o cap h) .nil,by simp[Ones,V.cells,V.one]⟩
 | fn f l c hl h=>exact⟨.cons (.fn f l c hl h) .nil,by simp[Ones,V.cells,V.one]⟩
 | iface t x y h=>exact⟨.cons (.iface t x y h) .nil,by simp[Ones,V.cells,V.one]⟩
 | yld b l h=>exact⟨.cons (.yld b l h) .nil,by simp[Ones,V.cells,V.one]⟩
 | bf f l c hl h=>exact⟨.cons (.bf f l c hl h) .nil,by simp[Ones,V.cells,V.one]⟩
 | mo t nm=>exact⟨.cons (.mo t nm) .nil,by simp[Ones,V.cells,V.one]⟩
theorem VR.oneCell{im:Im}{io:Io}{x:V}{y:Value}(h:VR im io x y)(ho:x.one=true):y.oneCell'=true:=by
 cases h <;> first|rfl|(simp[V.one] at ho)|skip
 rename_i h;cases y <;> first|rfl|(simp[zha] at h)
theorem VL.oneCell{im:Im}{io:Io}{l:List V}{c:List Value}(h:VL im io l c)(ho:Ones l):∀ u∈c,u.oneCell'=true:=fun u hu=>by
 obtain⟨i,hi⟩:=XM.1 hu;have hlt:=(zj.1 hi).1;obtain⟨x,hx⟩:∃ x,l[i]?=some x:=⟨_,zf (by rw[h.1];exact hlt)⟩;exact(h.2 i x u hx hi).oneCell (ho x (zM hx))
theorem zbt{im:Im}{io:Io}{v:Value}{x:V}(h:qz v=some x):VR im io x v/\x.one=true:=by
 unfold qz at h;split at h <;> first|(injection h with h;subst h)|cases h
 . exact⟨.int _ _,rfl⟩
 . exact⟨.bool _,rfl⟩
 . exact⟨.str _,rfl⟩
 . exact⟨.val _ rfl,rfl⟩
 . exact⟨.val _ rfl,rfl⟩
 . exact⟨.val _ rfl,rfl⟩
 . exact⟨.val _ rfl,rfl⟩
 . exact⟨VR.sl (im:=im) (io:=io) 0 [] true none 0 ⟨0,0,none⟩ (fun _ _=>undef) (.inl rfl) (by simp) (by simp) (by simp) (by simp) (by simp) (by simp),rfl⟩
theorem Yq {im : Im} {io : Io} : ∀ {c : List Value} {l : List V}, KP c = some l -> VL im io l c /\ Ones l
 | [],l,h=>by cases h;exact⟨.nil,by simp[Ones]⟩
 | v :: c,l,h=>by
   unfold KP at h;split at h
   . rename_i x r h1 h2;cases h;have hv:=zbt (im:=im) (io:=io) h1;have hr:=Yq (im:=im) (io:=io) h2;refine⟨.cons hv.1 hr.1,fun y hy=>?_⟩;rcases zN.1 hy with rfl|hy
     . exact hv.2
     . exact hr.2 y hy
   . cases h
theorem VL.agg{im:Im}{io:Io}{l:List V}{c:Array Value}(h:VL im io l c.toList)(ho:Ones l):VR im io (.agg l) (.agg c) :=
 .agg l c (by simpa using h.1) ho fun i x y h1 h2=>h.2 i x y h1 (by simpa using h2)
theorem Ys{im:Im}{io:Io}{v:Value}{x:V}(h:ofValue v=some x):VR im io x v:=by
 unfold ofValue at h;split at h
 . rename_i cs;cases hc:KP cs.toList with
   | none=>simp[hc] at h
   | some l =>
     simp[hc] at h;subst h;have:=Yq (im:=im) (io:=io) hc;exact this.1.agg this.2
 . exact(zbt h).1
def zap:Value->Option Nat
 | .slice (some a) _ _=>some a.block
 | .pointer (some a)=>some a.block
 | _=>none
def zd9(w:World)(e size:Nat)(v:Value)(n:Nat)(xs:List Value):Prop :=
 xs.length=n * size/\((v=.slice none 0 0/\n=0) ∨
  ∃ b o cap cur,v=.slice (some ⟨b,o,none⟩) n cap/\w.heap[b]?=some (.cells cur e (0,0))/\n<=cap/\cap<=maxLen/\(cap=0\/cur.size=o+cap * size)/\(cur.toList.drop o).take (n * size)=xs)
theorem Y6{w:World}{e size n:Nat}{v:Value}{xs:List Value}(h:w.ownsRow 0 e size v n xs):zd9 w e size v n xs:=by
 refine⟨h.1,?_⟩;rcases h.2 with h|⟨b,cap,cur,hv,_,h1,h2,h3,h4,h5⟩
 . exact .inl h
 . exact .inr ⟨b,0,cap,cur,hv,h1,h2,h3,.inr (by omega),by simpa using h5⟩
theorem zp6{w:World}{e size n:Nat}{v:Value}{xs:List Value}(h:zd9 w e size v n xs){β:Nat}(hβ:v.ownBlock=some β):β < w.heap.size:=by
 rcases h.2 with ⟨rfl,_⟩|⟨b,o,cap,cur,rfl,h1,_⟩
 . simp[Value.ownBlock] at hβ
 . simp[Value.ownBlock] at hβ;subst hβ;exact(ZB.1 h1).1
def zOk(w:World)(v:Value)(sz:Nat):Prop:=∀ β o n cap,v=.slice (some ⟨β,o,none⟩) n cap->o=0/\∀ c ty fr,w.heap[β]?=some (.cells c ty fr)->c.size=cap * sz
theorem zaq{w:World}{e size n:Nat}{v:Value}{xs:List Value}(h:w.ownsRow 0 e size v n xs):zOk w v size:=fun β o m cap hv=>by
 rcases h.2 with ⟨h,_⟩|⟨b,cap',cur,hv',_,h1,h2,h3,h4,h5⟩
 . rw[h] at hv;cases hv
 . rw[hv'] at hv;cases hv;exact⟨rfl,fun c ty fr hc=>by rw[h1] at hc;cases hc;exact h4⟩
theorem zla{w:World}{e size n:Nat}{v:Value}{xs:List Value}(h:zd9 w e size v n xs)(hz:zOk w v size):w.ownsRow 0 e size v n xs:=by
 refine⟨h.1,?_⟩;rcases h.2 with h|⟨b,o,cap,cur,hv,h1,h2,h3,h4,h5⟩
 . exact .inl h
 . obtain⟨rfl,hs⟩:=hz _ _ _ _ hv;exact .inr ⟨b,cap,cur,hv,z2 _,h1,h2,h3,hs _ _ _ h1,by simpa using h5⟩
theorem zOk.keep{w w':World}{v:Value}{size:Nat}(hz:zOk w v size)(hk:∀ β,v.ownBlock=some β->w'.heap[β]?=w.heap[β]?):zOk w' v size:=fun β o n cap hv=>by
 obtain⟨h1,h2⟩:=hz β o n cap hv;exact⟨h1,fun c ty fr hc=>h2 c ty fr (by rw[<- hk β (by rw[hv];rfl)];exact hc)⟩
def SR (g : G) (w : World) (T : Array Value) (s : Nat) : S -> Value -> Prop
 | .un,_=>True
 | .sk,v=>v=undef
 | .v x,v=>VR g.im g.io x v
 | .tup l,v=>∃ c,v=.tuple c/\VL g.im g.io l c.toList
 | .own e sz l,v=>∃ xs,w.ownsRow 0 e sz v l.length xs/\(∀ es∈l,es.length=sz/\Ones es)/\VL g.im g.io l.flatten xs/\∀ β,v.ownBlock=some β->g.ow β=some (.slot s)
 | .bx n cs,v=>∃ β ty c,v=.pointer (some ⟨β,0,none⟩)/\w.heap[β]?=some (.cells c ty (0,0))/\cs.length=n/\Ones cs/\VL g.im g.io cs c.toList/\g.ow β=some (.slot s)
 | .fp d sz i c,v=>if qA sz i=true then v=T.getD d undef else ∃ β,v=.pointer (some ⟨β,i * sz+c,none⟩)/\zap (T.getD d undef)=some β
 | .gone,_=>True
def LSt.st : LSt -> LoopState
 | .ready=>.ready
 | .busy=>.busy
 | .done _=>.done
def Jmp.code : Jmp -> Code
 | .ret=>.ret
 | .ex i=>.exit i
def LSt.pe : LSt -> Option Code
 | .done j=>some j.code
 | _=>none
def FrR(im:Im)(io:Io)(fr:List (Option V))(T:Array Value):Prop:=fr.length=T.size/\∀ (i:Nat) x,fr[i]?=some (some x)->VR im io x (T.getD i undef)
def BR (g : G) (w : World) (b : Nat) : HB -> Prop
 | .box n cs=>∃ β,g.io b=some β/\g.ow β=some (.hp b)/\∃ ty c,w.heap[β]?=some (.cells c ty (0,0))/\cs.length=n/\Ones cs/\VL g.im g.io cs c.toList
 | .map es=>∃ β,g.io b=some β/\g.ow β=some (.hp b)/\∃ (ms:Array MapEntry) (clock:Nat),w.heap[β]?=some (.map ms clock)/\es.length=ms.size/\∀ (i:Nat) k v e,es[i]?=some (k,v)->ms[i]?=some e->VR g.im g.io k e.key/\VR g.im g.io v e.val
 | .row e sz l z=>∃ v xs,g.io b=some (tok v)/\(∀ β,v.ownBlock=some β->g.ow β=some (.hp b))/\zd9 w e sz v l.length xs/\(∀ es∈l,es.length=sz/\Ones es)/\VL g.im g.io l.flatten xs/\(z=true->zOk w v sz)
 | .dead=>True
 | .defb=>∃ β,g.io b=some β/\g.ow β=some (.hp b)/\w.heap[β]?=some (.deferred (some []))
 | .loop d vc fr ps as_ bd st=>∃ β δ fn T,g.io b=some β/\g.ow β=some (.hp b)/\g.io d=some δ/\w.heap[β]?=some (.loop { state:=st.st,pending:=st.pe,fn:=fn,tmps:=T,params:=ps.toArray,assign:=as_,body:=bd,defers:=δ })/\FrR g.im g.io fr T
structure Hinv(g:G)(h:ze)(w:World):Prop where
 hp:∀ (b:Nat) x,h[b]?=some x->BR g w b x
 io:∀ (b:Nat) β,g.io b=some β->b < h.length
 im:∀ p v,g.im p=some v->w.cell? p=some v/\g.ow p.block=none
 ow:∀ β,g.ow β≠none->β < w.heap.size
def lin : S -> Bool
 | .own ..|.bx ..|.gone=>true
 | _=>false
structure Finv(g:G)(F:List S)(T:Array Value)(w:World):Prop where
 len:F.length=T.size
 fp:∀ (s d sz i c:Nat),F[s]?=some (.fp d sz i c)->∃ x,F[d]?=some x/\lin x=true
 fr:∀ (s:Nat) x,F[s]?=some x->SR g w T s x (T.getD s undef)
structure Step(g:G)(w:World)(g':G)(w':World):Prop where
 im:∀ p v,g.im p=some v->g'.im p=some v
 io:∀ b β,g.io b=some β->g'.io b=some β
 imn:∀ p v,g'.im p=some v->g.im p=some v\/w.heap.size<=p.block\/g.ow p.block≠none
 ow:∀ β,β < w.heap.size->g.ow β=none->g'.ow β=none
 os:w'.os=w.os
 tape:w'.tape=w.tape
 output:w'.output=w.output
 size:w.heap.size<=w'.heap.size
 block:∀ β,β < w.heap.size->g.ow β=none->w'.heap[β]?=w.heap[β]?
theorem Step.refl(g:G)(w:World):Step g w g w:=⟨fun _ _ h=>h,fun _ _ h=>h,fun _ _ h=>.inl h,fun _ _ h=>h,rfl,rfl,rfl,zn _,fun _ _ _=>rfl⟩
theorem Step.trans{g g' g'':G}{w w' w'':World}(h:Step g w g' w')(k:Step g' w' g'' w''):Step g w g'' w'' where
 im p v hp:=k.im p v (h.im p v hp)
 io b β hb:=k.io b β (h.io b β hb)
 imn p v hp:=by
  rcases k.imn p v hp with h1|h1|h1
  . exact h.imn p v h1
  . exact .inr (.inl (ZY h.size h1))
  . rcases ZX p.block w.heap.size with hlt|hge
    . exact .inr (.inr fun h0=>h1 (h.ow _ hlt h0))
    . exact .inr (.inl hge)
 ow β hβ ho:=k.ow β (Z1 hβ h.size) (h.ow β hβ ho)
 os:=k.os.trans h.os
 tape:=k.tape.trans h.tape
 output:=k.output.trans h.output
 size:=ZY h.size k.size
 block β hβ ho:=(k.block β (Z1 hβ h.size) (h.ow β hβ ho)).trans (h.block β hβ ho)
end Go.L
namespace Go.L
open Go.RowKit
theorem jR{w:World}{p:Addr}{v:Value}(h:w.cell? p=some v):p.block < w.heap.size:=by
 unfold World.cell? at h;rcases ZX p.block w.heap.size with hlt|hge
 . exact hlt
 . rw[X2 hge] at h;cases h
theorem SR.keep2 {g g' : G} {w w' : World} {T : Array Value} {s : Nat} {x : S} {v : Value} (h : SR g w T s x v) (him : ∀ p v, g.im p = some v -> g'.im p = some v) (hio : ∀ b β, g.io b = some β -> g'.io b = some β)
    (how0:lin x=true->∀ β,g.ow β=some (.slot s)->g'.ow β=some (.slot s)/\w'.heap[β]?=w.heap[β]?):SR g' w' T s x v:=by
 by_cases hl:lin x=true
 case neg =>
  cases x with
  | own e sz l=>exact absurd rfl hl
  | bx n cs=>exact absurd rfl hl
  | un=>exact h
  | sk=>exact h
  | v x=>exact VR.mono him hio h
  | tup l=>obtain⟨c,e,h⟩:=h;exact⟨c,e,h.mono him hio⟩
  | fp d sz i c=>exact h
  | gone=>exact absurd rfl hl
 have how:=how0 hl;cases x with
 | un=>exact h
 | sk=>exact h
 | v x=>exact VR.mono him hio h
 | tup l=>obtain⟨c,e,h⟩:=h;exact⟨c,e,h.mono him hio⟩
 | own e sz l =>
   obtain⟨xs,h1,h2,h3,h4⟩:=h;refine⟨xs,⟨h1.1,?_⟩,h2,h3.mono him hio,fun β hβ=>(how β (h4 β hβ)).1⟩;rcases h1.2 with h1|⟨b,cap,cur,hv,hb,hh,r⟩
   . exact .inl h1
   . exact .inr ⟨b,cap,cur,hv,hb,by rw[(how b (h4 b (by rw[hv];rfl))).2];exact hh,r⟩
 | bx n cs =>
   obtain⟨β,ty,c,hv,hh,h1,h2,h3,h4⟩:=h;exact⟨β,ty,c,hv,by rw[(how β h4).2];exact hh,h1,h2,h3.mono him hio,(how β h4).1⟩
 | fp d sz i c=>exact h
 | gone=>exact h
theorem SR.keep {g g' : G} {w w' : World} {T : Array Value} {s : Nat} {x : S} {v : Value} (h : SR g w T s x v) (him : ∀ p v, g.im p = some v -> g'.im p = some v) (hio : ∀ b β, g.io b = some β -> g'.io b = some β)
    (how:∀ β,g.ow β=some (.slot s)->g'.ow β=some (.slot s)/\w'.heap[β]?=w.heap[β]?):SR g' w' T s x v:=h.keep2 him hio fun _=>how
theorem BR.keep {g g' : G} {w w' : World} {b : Nat} {x : HB} (h : BR g w b x) (him : ∀ p v, g.im p = some v -> g'.im p = some v) (hio : ∀ b β, g.io b = some β -> g'.io b = some β)
    (hw:∀ β,g.ow β=some (.hp b)->g'.ow β=some (.hp b)/\w'.heap[β]?=w.heap[β]?):BR g' w' b x:=by
 cases x with
 | box n cs=>obtain⟨β,h0,h00,ty,c,hh,h1,h2,h3⟩:=h;exact⟨β,hio _ _ h0,(hw β h00).1,ty,c,by rw[(hw β h00).2];exact hh,h1,h2,h3.mono him hio⟩
 | map es=>obtain⟨β,h0,h00,ms,clock,hh,h1,h2⟩:=h;exact⟨β,hio _ _ h0,(hw β h00).1,ms,clock,by rw[(hw β h00).2];exact hh,h1,fun i k v e h3 h4=>⟨(h2 i k v e h3 h4).1.mono him hio,(h2 i k v e h3 h4).2.mono him hio⟩⟩
 | row e sz l z =>
   obtain⟨v,xs,h0,h00,h1,h2,h3,h4⟩:=h;refine⟨v,xs,hio _ _ h0,fun β hβ=>(hw β (h00 β hβ)).1,⟨h1.1,?_⟩,h2,h3.mono him hio,fun hz=>(h4 hz).keep fun β hβ=>(hw β (h00 β hβ)).2⟩;rcases h1.2 with h1|⟨b',o,cap,cur,hv,hh,r⟩
   . exact .inl h1
   . exact .inr ⟨b',o,cap,cur,hv,by rw[(hw b' (h00 b' (by rw[hv];rfl))).2];exact hh,r⟩
 | dead=>trivial
 | defb=>obtain⟨β,h0,h00,hh⟩:=h;exact⟨β,hio _ _ h0,(hw β h00).1,by rw[(hw β h00).2];exact hh⟩
 | loop d vc fr ps as_ bd st=>obtain⟨β,δ,fn,T,h0,h00,h1,hh,h2,h3⟩:=h;exact⟨β,δ,fn,T,hio _ _ h0,(hw β h00).1,hio _ _ h1,by rw[(hw β h00).2];exact hh,h2,fun i x hx=>VR.mono him hio (h3 i x hx)⟩
theorem Finv.keep {g g' : G} {w w' : World} {F : List S} {T : Array Value} (h : Finv g F T w) (him : ∀ p v, g.im p = some v -> g'.im p = some v) (hio : ∀ b β, g.io b = some β -> g'.io b = some β)
    (how:∀ β s,g.ow β=some (.slot s)->g'.ow β=some (.slot s)/\w'.heap[β]?=w.heap[β]?):Finv g' F T w' :=
 ⟨h.len,h.fp,fun s x hx=>(h.fr s x hx).keep him hio fun β hβ=>how β s hβ⟩
theorem Finv.keep2 {g g' : G} {w w' : World} {F : List S} {T : Array Value} (h : Finv g F T w) (him : ∀ p v, g.im p = some v -> g'.im p = some v) (hio : ∀ b β, g.io b = some β -> g'.io b = some β)
    (how:∀ s x,F[s]?=some x->lin x=true->∀ β,g.ow β=some (.slot s)->g'.ow β=some (.slot s)/\w'.heap[β]?=w.heap[β]?):Finv g' F T w' :=
 ⟨h.len,h.fp,fun s x hx=>(h.fr s x hx).keep2 him hio fun hl β hβ=>how s x hx hl β hβ⟩
theorem Hinv.keep {g g' : G} {w w' : World} {h : ze} (hh : Hinv g h w) (him : g'.im = g.im) (hio : g'.io = g.io)
    (how:∀ β,g.ow β=none->β < w.heap.size->g'.ow β=none/\w'.heap[β]?=w.heap[β]?) (hhp:∀ β b,g.ow β=some (.hp b)->g'.ow β=some (.hp b)/\w'.heap[β]?=w.heap[β]?)
    (hlt:∀ β,g'.ow β≠none->β < w'.heap.size):Hinv g' h w' where
 hp b x hx:=(hh.hp b x hx).keep (by rw[him];exact fun _ _ h=>h) (by rw[hio];exact fun _ _ h=>h) fun β hβ=>hhp β b hβ
 io b β hb:=hh.io b β (by rw[<- hio];exact hb)
 im p v hp:=by
  rw[him] at hp;obtain⟨h1,h2⟩:=hh.im p v hp;have hlt:p.block < w.heap.size:=jR h1;obtain⟨h3,h4⟩:=how _ h2 hlt;exact⟨by rw[World.cell?_of_block (w:=w) h4];exact h1,h3⟩
 ow:=hlt
def G.own(g:G)(β:Nat)(o:Option Ow):G:={ g with ow:=fun b=>if b=β then o else g.ow b }
@[simp] theorem G.own_im(g:G)(β:Nat)(o:Option Ow):(g.own β o).im=g.im:=rfl
@[simp] theorem G.own_io(g:G)(β:Nat)(o:Option Ow):(g.own β o).io=g.io:=rfl
theorem G.own_same(g:G)(β:Nat)(o:Option Ow):(g.own β o).ow β=o:=by simp[G.own]
theorem G.own_ne(g:G){β b:Nat}(o:Option Ow)(h:b≠β):(g.own β o).ow b=g.ow b:=by simp[G.own,h]
theorem Hinv.alloc{g:G}{h:ze}{w:World}(hh:Hinv g h w)(o:Obj)(x:Option Ow):Hinv (g.own w.heap.size x) h (w.alloc o):=by
 refine hh.keep rfl rfl (fun β h1 h2=>⟨?_,Below.heap_alloc _ _ _ h2⟩) (fun β b h1=>?_) (fun β h1=>?_)
 . rw[G.own_ne _ _ (by omega)];exact h1
 . have hlt:=hh.ow β (by rw[h1];simp);exact⟨by rw[G.own_ne _ _ (by omega)];exact h1,Below.heap_alloc _ _ _ hlt⟩
 . show β < (w.heap.push o).size;rw[Array.size_push];by_cases hb:β=w.heap.size
   . omega
   . rw[G.own_ne _ _ hb] at h1;have:=hh.ow β h1;omega
theorem Finv.alloc{g:G}{F:List S}{T:Array Value}{w:World}(hf:Finv g F T w){h:ze}(hh:Hinv g h w)(o:Obj)(x:Option Ow):Finv (g.own w.heap.size x) F T (w.alloc o) :=
 hf.keep (fun _ _ h=>h) (fun _ _ h=>h) fun β s hβ=>by
  have hlt:=hh.ow β (by rw[hβ];simp);exact⟨by rw[G.own_ne _ _ (by omega)];exact hβ,Below.heap_alloc _ _ _ hlt⟩
theorem Step.alloc{g:G}{h:ze}{w:World}(hh:Hinv g h w)(o:Obj)(x:Option Ow):Step g w (g.own w.heap.size x) (w.alloc o) where
 im _ _ h:=h
 io _ _ h:=h
 imn _ _ h:=.inl h
 ow β hβ ho:=by rw[G.own_ne _ _ (by omega)];exact ho
 os:=rfl
 tape:=rfl
 output:=rfl
 size:=by simp
 block β hβ _:=Below.heap_alloc _ _ _ hβ
theorem Hinv.drew{g:G}{h:ze}{w:World}(hh:Hinv g h w):Hinv g h w.drew:=⟨hh.hp,hh.io,hh.im,hh.ow⟩
theorem SR.drew{g:G}{w:World}{T:Array Value}{s:Nat}{x:S}{v:Value}(h:SR g w T s x v):SR g w.drew T s x v:=h.keep (fun _ _ h=>h) (fun _ _ h=>h) fun β h=>⟨h,rfl⟩
theorem Finv.drew{g:G}{F:List S}{T:Array Value}{w:World}(hf:Finv g F T w):Finv g F T w.drew:=⟨hf.len,hf.fp,fun s x hx=>(hf.fr s x hx).drew⟩
theorem Step.drew(g:G)(w:World):Step g w g w.drew:=⟨fun _ _ h=>h,fun _ _ h=>h,fun _ _ h=>.inl h,fun _ _ h=>h,rfl,rfl,rfl,zn _,fun _ _ _=>rfl⟩
theorem zlb{d:Nat}{x:S}{e sz i c:Nat}(h:er1 d x=.fp e sz i c):x=.fp e sz i c/\e≠d:=by
 cases x <;> simp[er1] at h ⊢;split at h
 . cases h
 . rename_i hne;cases h;exact⟨⟨rfl,rfl,rfl,rfl⟩,hne⟩
theorem zmO{d:Nat}{x:S}(h:lin x=true):er1 d x=x:=by cases x <;> first|rfl|(simp[lin] at h)
theorem SR.er1{g:G}{w:World}{T:Array Value}{s d:Nat}{x:S}{v:Value}(h:SR g w T s x v):SR g w T s (Go.L.er1 d x) v:=by
 cases x <;> first|exact h|skip
 simp only[Go.L.er1];split
 . trivial
 . exact h
theorem SR.vals{g:G}{w:World}{T T':Array Value}{s:Nat}{x:S}{v:Value}(h:SR g w T s x v)(ht:∀ d sz i c,x=.fp d sz i c->T'.getD d undef=T.getD d undef):SR g w T' s x v:=by
 cases x <;> first|exact h|skip
 rename_i d sz i c;simp only[SR,ht d sz i c rfl] at h ⊢;exact h
theorem getD_set_ne{T:Array Value}{k j:Nat}{v u:Value}(h:j≠k):(T.setIfInBounds k v).getD j u=T.getD j u:=by
 rw[zY,zY,Array.getElem?_setIfInBounds_ne (by omega)]
theorem zaN{T:Array Value}{k:Nat}{v u:Value}(h:k < T.size):(T.setIfInBounds k v).getD k u=v:=by
 rw[zY,Array.getElem?_setIfInBounds_self_of_lt h];rfl
theorem Finv.put {g : G} {F : List S} {a : Act} {w : World} (hf : Finv g F a.tmps w) (d : Option Nat) (s : S) (v : Value)
    (hs:∀ k,d=some k->k < F.length->SR g w (a.tmps.setIfInBounds k v) k s v) (hfp:∀ k e sz i c,d=some k->s=.fp e sz i c->e≠k/\∃ x,F[e]?=some x/\lin x=true):Finv g (put F d s) (a.put d v).tmps w:=by
 cases d with
 | none=>exact hf
 | some k =>
   have hlen:(Go.L.put F (some k) s).length=F.length:=by
    simp only[Go.L.put];split <;> simp
   have hget:∀ j,j≠k->(Go.L.put F (some k) s)[j]?=F[j]?\/((Go.L.put F (some k) s)[j]?=(F[j]?).map (er1 k)):=fun j hj=>by
    simp only[Go.L.put];split
    . right;rw[zd (Ne.symm hj),zF]
    . right;rw[zd (Ne.symm hj),zF]
    . right;rw[zd (Ne.symm hj),zF]
    . left;rw[zd (Ne.symm hj)]
   have hk:k < F.length->(Go.L.put F (some k) s)[k]?=some s:=fun hlt=>by
    simp only[Go.L.put];split <;> (rw[Zf];simpa using hlt)
   have hnf:∀ j e sz i c,j≠k->(Go.L.put F (some k) s)[j]?=some (.fp e sz i c)->F[j]?=some (.fp e sz i c)/\e≠k:=fun j e sz i c hj hx=>by
    cases hFj:F[j]? with
    | none=>rcases hget j hj with h|h <;> (rw[h,hFj] at hx;simp at hx)
    | some y =>
      have key:∀ y',y'=y\/y'=er1 k y->(Go.L.put F (some k) s)[j]?=some y'->y'=.fp e sz i c:=fun y' _ h=>by rw[h] at hx;exact Option.some.inj hx
      simp only[Go.L.put] at hx;split at hx
      . rw[zd (Ne.symm hj),zF,hFj] at hx;have:=zlb (by simpa using hx);exact⟨by rw[this.1],this.2⟩
      . rw[zd (Ne.symm hj),zF,hFj] at hx;have:=zlb (by simpa using hx);exact⟨by rw[this.1],this.2⟩
      . rw[zd (Ne.symm hj),zF,hFj] at hx;have:=zlb (by simpa using hx);exact⟨by rw[this.1],this.2⟩
      . rename_i h1 h2 h3;rw[zd (Ne.symm hj),hFj] at hx;refine⟨hx,?_⟩;rintro rfl;obtain⟨z,hz,hlz⟩:=hf.fp j e sz i c (by rw[hFj];exact hx);cases z with
        | own a b l=>exact h1 a b l hz
        | bx n cs=>exact h2 n cs hz
        | gone=>exact h3 hz
        | _=>simp[lin] at hlz
   refine⟨by rw[hlen,hf.len];simp[Act.put],fun j e sz i c hx=>?_,fun j x hx=>?_⟩
   . by_cases hj:j=k
     . subst hj;by_cases hlt:j < F.length
       . rw[hk hlt] at hx;obtain⟨hne,y,hy,hly⟩:=hfp j e sz i c rfl (Option.some.inj hx);rcases hget e hne with h|h
         . exact⟨y,by rw[h];exact hy,hly⟩
         . exact⟨y,by rw[h,hy,Z5,zmO hly],hly⟩
       . rw[zS (by rw[hlen];omega)] at hx;cases hx
     . obtain⟨h1,hne⟩:=hnf j e sz i c hj hx;obtain⟨y,hy,hly⟩:=hf.fp j e sz i c h1;rcases hget e hne with h|h
       . exact⟨y,by rw[h];exact hy,hly⟩
       . exact⟨y,by rw[h,hy,Z5,zmO hly],hly⟩
   . by_cases hj:j=k
     . subst hj;by_cases hlt:j < F.length
       . rw[hk hlt] at hx;obtain rfl:=Option.some.inj hx;have:=hs j rfl hlt;rw[show ((a.put (some j) v).tmps).getD j undef=v from zaN (by rw[<- hf.len];exact hlt)];exact this
       . rw[zS (by rw[hlen];omega)] at hx;cases hx
     . rw[show ((a.put (some k) v).tmps).getD j undef=a.tmps.getD j undef from getD_set_ne hj];have hsr:SR g w a.tmps j x (a.tmps.getD j undef):=by
        rcases hget j hj with h|h
        . exact hf.fr j x (by rw[<- h];exact hx)
        . rw[h] at hx;cases hFj:F[j]? with
          | none=>rw[hFj] at hx;cases hx
          | some y =>
            rw[hFj] at hx;obtain rfl:=Option.some.inj hx;exact(hf.fr j y hFj).er1
       exact hsr.vals fun d sz i c hd=>by
        subst hd;exact getD_set_ne (hnf j d sz i c hj hx).2
end Go.L
namespace Go.L
open Go.RowKit
theorem zs7(a:Addr)(n:Nat):(a.add n).block=a.block:=by unfold Addr.add;split <;> rfl
theorem Finv.getD{g:G}{F:List S}{a:Act}{w:World}(hf:Finv g F a.tmps w){t:Nat}{x:S}(hx:F[t]?=some x):SR g w a.tmps t x (a.eval (.tmp t)):=hf.fr t x hx
theorem ZW{g:G}{F:List S}{a:Act}{w:World}(hf:Finv g F a.tmps w){o:Operand}{x:V}(h:evV F o=some x):VR g.im g.io x (a.eval o):=by
 cases o with
 | tmp t =>
   simp only[evV] at h;split at h
   . rename_i y hy;cases h;exact hf.getD hy
   . cases h
 | const v=>exact Ys h
 | func f=>cases h;exact .fn f [] #[] rfl (by simp)
 | global n=>cases h
theorem QD{g:G}{F:List S}{a:Act}{w:World}(hf:Finv g F a.tmps w){o:Operand}{n:Nat}(h:evN F o=some n):∃ k,a.eval o=.int k (n:Int):=by
 unfold evN at h;split at h
 . rename_i k m hm;split at h
   . rename_i h0;cases h;have:=ZW hf hm;cases hv:a.eval o <;> rw[hv] at this <;> cases this;exact⟨k,by rw[Xx h0]⟩
   . cases h
 . cases h
theorem YA {α : Type} {sz : Nat} : ∀ {l : List (List α)} (hs : ∀ es ∈ l, es.length = sz) {k j : Nat} {es : List α}, l[k]? = some es -> j < sz -> l.flatten[k * sz + j]? = es[j]?
 | [],_,k,j,es,h,_=>by simp at h
 | x :: l,hs,k,j,es,h,hj=>by
   have hx:=hs x (by simp);cases k with
   | zero =>
     simp at h;subst h;rw[XG,Jr,zq,zk (by omega)]
   | succ k =>
     rw[XG,zJ (by rw[hx,X3];omega),hx,show (k+1) * sz+j - sz=k * sz+j from by rw[X3];omega];exact YA (fun es h=>hs es (by simp[h])) (by simpa using h) hj
theorem Qf {α : Type} {sz : Nat} : ∀ {l : List (List α)} (hs : ∀ es ∈ l, es.length = sz), l.flatten.length = l.length * sz
 | [],_=>by simp
 | x :: l,hs=>by
   rw[XG,zL,hs x (by simp),Qf (fun es h=>hs es (by simp[h])),zD,X3];omega
theorem zbu {g : G} {w : World} {e sz : Nat} {v : Value} {l : List (List V)} {xs : List Value} (h1 : w.ownsRow 0 e sz v l.length xs) (h2 : ∀ es ∈ l, es.length = sz /\ Ones es) (h3 : VL g.im g.io l.flatten xs) :
    ∃ A cap ad,v=.slice A l.length cap/\l.length<=cap/\cap<=maxLen/\(l=[]\/A=some ad)/\(∀ β,v.ownBlock=some β->A=some ⟨β,0,none⟩) ∧
     (∀ (k:Nat) es (j:Nat) x,l[k]?=some es->es[j]?=some x->w.cell? (ad.add (k * sz+j))=some (xs.getD (k * sz+j) undef)/\v.ownBlock=some (ad.add (k * sz+j)).block/\VR g.im g.io x (xs.getD (k * sz+j) undef)):=by
 have hrow:=h1;rcases h1.2 with ⟨rfl,hn⟩|⟨b,cap,cur,rfl,hb,hh,hc,hm,hsz,htk⟩
 . have:l=[]:=Zr hn;subst this;exact⟨none,0,⟨0,0,none⟩,rfl,by simp,by simp,.inl rfl,by simp[Value.ownBlock],by simp⟩
 . refine⟨some ⟨b,0,none⟩,cap,⟨b,0,none⟩,rfl,hc,hm,.inr rfl,by simp[Value.ownBlock],fun k es j x hk hj=>?_⟩;have hjl:j < sz:=by rw[<- (h2 es (zM hk)).1];exact(zj.1 hj).1
   have hfl:=YA (fun es h=>(h2 es h).1) hk hjl;rw[hj] at hfl;obtain⟨y,hy,hv⟩:=h3.get hfl;have hg:xs.getD (k * sz+j) undef=y:=by rw[zO,hy];rfl
   rw[hg];exact⟨hrow.cells rfl _ _ hy,by rw[zs7];rfl,hv⟩
theorem SR.ptr{g:G}{w:World}{T:Array Value}{s d sz i c:Nat}{v:Value}(h:SR g w T s (.fp d sz i c) v)(hn:qA sz i=false):∃ β,v=.pointer (some ⟨β,i * sz+c,none⟩)/\zap (T.getD d undef)=some β:=by
 simpa only[SR,hn,zt,if_false] using h
theorem SR.name{g:G}{w:World}{T:Array Value}{s d sz i c:Nat}{v:Value}(h:SR g w T s (.fp d sz i c) v)(hn:qA sz i=true):v=T.getD d undef:=by
 simpa only[SR,hn,if_true] using h
theorem zea{sz i:Nat}(h:0 < sz):qA sz i=false:=by unfold qA;simp;omega
theorem Yf{sz:Nat}:qA sz 0=false:=by unfold qA;simp
theorem QX{g:G}{F:List S}{a:Act}{w:World}(hf:Finv g F a.tmps w)(t:Nat):a.eval (.tmp (rt F t))=a.eval (.tmp t):=by
 unfold rt;split
 . rename_i d sz i c hs;split
   . rename_i ha;exact(SR.name (hf.getD hs) ha).symm
   . rfl
 . rfl
theorem zcr(β o n:Nat):(⟨β,o,none⟩:Addr).add n=⟨β,o+n,none⟩:=by
 unfold Addr.add;split
 . rename_i h;subst h;rfl
 . rfl
theorem zbv{w:World}{e sz n β o cap:Nat}{v:Value}{xs:List Value}(h1:zd9 w e sz v n xs)(h:tok v=1+jQ β (jQ o cap)):v=.slice (some ⟨β,o,none⟩) n cap/\∃ cur,w.heap[β]?=some (.cells cur e (0,0))/\n<=cap/\cap<=maxLen/\(cap=0\/cur.size=o+cap * sz)/\(cur.toList.drop o).take (n * sz)=xs:=by
 rcases h1.2 with ⟨rfl,_⟩|⟨b,o',cap',cur,rfl,hh,hc,hm,hs,htk⟩
 . simp[tok] at h;omega
 . have h':1+jQ b (jQ o' cap')=1+jQ β (jQ o cap):=h;obtain⟨rfl,h2⟩:=ziu (show jQ b (jQ o' cap')=jQ β (jQ o cap) by omega);obtain⟨rfl,rfl⟩:=ziu h2;exact⟨rfl,cur,hh,hc,hm,hs,htk⟩
theorem zeb {g : G} {w : World} {e sz β o cap : Nat} {l : List (List V)} {xs : List Value} (h1 : zd9 w e sz (.slice (some ⟨β, o, none⟩) l.length cap) l.length xs) (h2 : ∀ es ∈ l, es.length = sz /\ Ones es) (h3 : VL g.im g.io l.flatten xs) :
    ∀ (k:Nat) es (j:Nat) x,l[k]?=some es->es[j]?=some x->w.cell? ⟨β,o+(k * sz+j),none⟩=some (xs.getD (k * sz+j) undef)/\VR g.im g.io x (xs.getD (k * sz+j) undef):=fun k es j x hk hj=>by
 rcases h1.2 with ⟨h,_⟩|⟨b',o',cap',cur,hv,hh,hc,hm,hs,htk⟩
 . cases h
 . cases hv;have hjl:j < sz:=by rw[<- (h2 es (zM hk)).1];exact(zj.1 hj).1
   have hfl:=YA (fun es h=>(h2 es h).1) hk hjl;rw[hj] at hfl;obtain⟨y,hy,hv⟩:=h3.get hfl;have hg:xs.getD (k * sz+j) undef=y:=by rw[zO,hy];rfl
   rw[hg];refine⟨?_,hv⟩;rw[<- htk,Ze] at hy;split at hy
   . rw[Zh] at hy;simp only[World.cell?,hh];simpa using hy
   . cases hy
theorem ziv {g : G} {w : World} {h : ze} (hh : Hinv g h w) {b sz lo hi : Nat} {l : List (List V)} {v : Value} (hr : jc h b sz lo hi = some l) (hv : VR g.im g.io (.row b sz lo hi) v) :
    ∃ A cap ad,v=.slice A l.length cap/\l.length<=cap/\cap<=maxLen/\(l=[]\/A=some ad)/\(∀ es∈l,es.length=sz/\Ones es) ∧
     ∃ ys:Nat->Nat->Value,∀ (k:Nat) es (j:Nat) x,l[k]?=some es->es[j]?=some x->w.cell? (ad.add (k * sz+j))=some (ys k j)/\VR g.im g.io x (ys k j):=by
 unfold jc at hr;split at hr
 . rename_i e sz' l0 z0 hb;split at hr
   . rename_i hc;obtain⟨rfl,hlo,hhi⟩:=hc;cases hr;obtain⟨v0,xs,hio,how,h1,h2,h3,-⟩:=hh.hp b _ hb;have hsz:∀ es∈(l0.take hi).drop lo,es.length=sz'/\Ones es:=fun es hes=>h2 es (Zs (Zk hes));have hlen:((l0.take hi).drop lo).length=hi - lo:=by rw[XQ,z5];omega
     cases hv with
     | row _ _ _ _ β o cap u hi' q1 q2 q3 hu =>
       rw[hio] at hi';injection hi' with hi';obtain⟨rfl,cur,hcur,hc,hm,hs,htk⟩:=zbv h1 hi';have hrd:=zeb h1 h2 h3;refine⟨_,_,⟨β,o+lo * sz',none⟩,by rw[hlen],by rw[hlen];omega,by omega,?_,hsz,fun k j=>xs.getD ((lo+k) * sz'+j) undef,fun k es j x hk hj=>?_⟩
       . rcases hu with rfl|⟨e1,e2⟩
         . exact .inr rfl
         . left;apply Zr;omega
       rw[Zh,Ze] at hk;split at hk
       . obtain⟨r1,r3⟩:=hrd (lo+k) es j x hk hj;refine⟨?_,r3⟩;rw[zcr];rw[show o+lo * sz'+(k * sz'+j)=o+((lo+k) * sz'+j) by rw[Nat.add_mul];omega];exact r1
       . cases hk
     | rowN _ _ hi' =>
       rw[hio] at hi';injection hi' with hi';have:(l0.take 0).drop 0=([]:List (List V)):=by simp
       rw[this];exact⟨none,0,⟨0,0,none⟩,rfl,by simp,by simp,.inl rfl,by simp,fun _ _=>undef,by simp⟩
   . cases hr
 . cases hr
theorem zv7{g:G}{w:World}{h:ze}(hh:Hinv g h w){b sz lo hi:Nat}{l:List (List V)}{v:Value}(hr:jc h b sz lo hi=some l)(hv:VR g.im g.io (.row b sz lo hi) v):VR (fun p=>w.cell? p) g.io (.sl sz l false) v:=by
 obtain⟨A,cap,ad,rfl,h1,h2,h3,h4,ys,h5⟩:=ziv hh hr hv;exact .sl sz l false A cap ad ys h3 (by simp) h1 h2 h4 (fun k es j x hk hj=>(h5 k es j x hk hj).1) (fun k es j x hk hj=>(h5 k es j x hk hj).2.mono (fun p v hp=>(hh.im p v hp).1) (fun _ _ h=>h))
theorem Wc {g : G} {F : List S} {a : Act} {w : World} {h : ze} (hh : Hinv g h w) (hf : Finv g F a.tmps w) {o : Operand} {sz : Nat} {l : List (List V)} (he : evC F h o = some (sz, l)) :
    ∃ A cap ad,a.eval o=.slice A l.length cap/\(l=[]\/A=some ad)/\(∀ es∈l,es.length=sz/\Ones es) ∧
     ∃ ys:Nat->Nat->Value,∀ (k:Nat) es (j:Nat) x,l[k]?=some es->es[j]?=some x->w.cell? (ad.add (k * sz+j))=some (ys k j)/\VR g.im g.io x (ys k j):=by
 cases o with
 | tmp t =>
   simp only[evC] at he;split at he
   . rename_i e sz' l' hx;cases he;obtain⟨xs,h1,h2,h3,h4⟩:=hf.getD hx;obtain⟨A,cap,ad,hv,hc,hm,hA,_,hr⟩:=zbu h1 h2 h3;rw[QX hf] at hv;exact⟨A,cap,ad,hv,hA,h2,fun k j=>xs.getD (k * sz+j) undef,fun k es j x hk hj=>⟨(hr k es j x hk hj).1,(hr k es j x hk hj).2.2⟩⟩
   . rename_i y hx;cases y with
     | sl sz' l' ex =>
       cases he;have hv:VR g.im g.io (.sl sz l ex) (a.eval (.tmp t)):=by rw[<- QX hf];exact hf.getD hx
       generalize a.eval (.tmp t)=v at hv;cases hv with
       | sl _ _ _ A cap ad ys hA hx hc hm hs hi hr=>exact⟨A,cap,ad,rfl,hA,hs,ys,fun k es j x hk hj=>⟨(hh.im _ _ (hi k es j x hk hj)).1,hr k es j x hk hj⟩⟩
     | row b sz' lo hi =>
       simp only[ZI] at he;cases hr0:jc h b sz' lo hi with
       | none=>rw[hr0] at he;cases he
       | some l' =>
         rw[hr0] at he;cases he;have hv:VR g.im g.io (.row b sz lo hi) (a.eval (.tmp t)):=by rw[<- QX hf];exact hf.getD hx
         obtain⟨A,cap,ad,h1,_,_,h2,h3,h4⟩:=ziv hh hr0 hv;exact⟨A,cap,ad,h1,h2,h3,h4⟩
     | _=>cases he
   . cases he
 | const v =>
   unfold evC at he;split at he
   . rename_i h;cases h
   . rename_i h;cases h;cases he;exact⟨none,0,⟨0,0,none⟩,rfl,.inl rfl,by simp,fun _ _=>undef,by simp⟩
   . cases he
 | func f=>cases he
 | global n=>cases he
theorem G.ext_im{g:G}{w:World}{h:ze}(hh:Hinv g h w){s β:Nat}(ho:g.ow β=some (.slot s)):∀ p v,g.im p=some v->(if p.block=β then w.cell? p else g.im p)=some v:=fun p v hp=>by
 split
 . exact(hh.im p v hp).1
 . exact hp
def G.freeze(g:G)(w:World)(β:Nat):G:={ im:=fun p=>if p.block=β then w.cell? p else g.im p,io:=g.io,ow:=fun b=>if b=β then none else g.ow b }
theorem zcX{g:G}{w:World}{h:ze}(hh:Hinv g h w){s β:Nat}(ho:g.ow β=some (.slot s)):Hinv (g.freeze w β) h w/\Step g w (g.freeze w β) w:=by
 have hm:=G.ext_im hh ho;refine⟨⟨fun b x hx=>?_,hh.io,fun p v hp=>?_,fun b hb=>?_⟩,hm,fun _ _ h=>h,fun p v hp=>?_,fun b hb h0=>?_,rfl,rfl,rfl,zn _,fun _ _ _=>rfl⟩
 . refine(hh.hp b x hx).keep hm (fun _ _ h=>h) fun b' h2=>⟨?_,rfl⟩;have:b'≠β:=by rintro rfl;rw[ho] at h2;cases h2
   simp[G.freeze,this,h2]
 . simp only[G.freeze] at hp;split at hp
   . rename_i hb;exact⟨hp,by simp[G.freeze,hb]⟩
   . rename_i hb;exact⟨(hh.im p v hp).1,by simp[G.freeze,hb,(hh.im p v hp).2]⟩
 . simp only[G.freeze] at hb;split at hb
   . exact absurd rfl hb
   . exact hh.ow b hb
 . simp only[G.freeze] at hp;split at hp
   . rename_i hb;exact .inr (.inr (by rw[hb,ho];simp))
   . exact .inl hp
 . simp only[G.freeze];split
   . rfl
   . exact h0
theorem Finv.mapset {g g' : G} {F : List S} {T : Array Value} {w : World} (hf : Finv g F T w) (k : Nat) (f : S -> S) (s : S) (hfo : ∀ x, (∀ sz i c, x ≠ .fp k sz i c) -> f x = x) (hff : ∀ sz i c e sz' i' c', f (.fp k sz i c) ≠ .fp e sz' i' c')
    (hsr:∀ j sz i c,F[j]?=some (.fp k sz i c)->SR g' w T j (f (.fp k sz i c)) (T.getD j undef)) (hkeep:∀ j x,j≠k->F[j]?=some x->(∀ sz i c,x≠.fp k sz i c)->SR g' w T j x (T.getD j undef))
    (hs:SR g' w T k s (T.getD k undef)) (hns:∀ e sz i c,s≠.fp e sz i c):Finv g' ((F.map f).set k s) T w:=by
 have hget:∀ j x,j≠k->((F.map f).set k s)[j]?=some x->∃ y,F[j]?=some y/\x=f y:=fun j x hj hx=>by
  rw[zd (Ne.symm hj),zF] at hx;cases hF:F[j]? with
  | none=>rw[hF] at hx;cases hx
  | some y=>rw[hF] at hx;exact⟨y,rfl,(Option.some.inj hx).symm⟩
 have hself:∀ x,((F.map f).set k s)[k]?=some x->x=s:=fun x hx=>by
  rw[Zd] at hx;simp at hx;exact hx.2.symm
 refine⟨by simp[hf.len],fun j e sz i c hx=>?_,fun j x hx=>?_⟩
 . by_cases hj:j=k
   . subst hj;exact absurd (hself _ hx).symm (hns _ _ _ _)
   . obtain⟨y,hy,he⟩:=hget j _ hj hx;by_cases hy':∃ sz i c,y=.fp k sz i c
     . obtain⟨sz',i',c',rfl⟩:=hy';exact absurd he.symm (hff _ _ _ _ _ _ _)
     . have hfy:=hfo y (fun sz i c h=>hy' ⟨sz,i,c,h⟩);rw[hfy] at he;subst he;obtain⟨z,hz,hl⟩:=hf.fp j e sz i c hy;have hek:e≠k:=by rintro rfl;exact hy' ⟨sz,i,c,rfl⟩
       refine⟨z,?_,hl⟩;rw[zd (Ne.symm hek),zF,hz,Z5,hfo z (fun sz i c h=>by subst h;simp[lin] at hl)]
 . by_cases hj:j=k
   . subst hj;rw[hself _ hx];exact hs
   . obtain⟨y,hy,he⟩:=hget j _ hj hx;subst he;by_cases hy':∃ sz i c,y=.fp k sz i c
     . obtain⟨sz',i',c',rfl⟩:=hy';exact hsr j sz' i' c' hy
     . have hn:∀ sz i c,y≠.fp k sz i c:=fun sz i c h=>hy' ⟨sz,i,c,h⟩;rw[hfo y hn];exact hkeep j y hj hy hn
theorem Qk {vc : Bool} {g : G} {F F' : List S} {a : Act} {w : World} {h h' : ze} (hh : Hinv g h w) (hf : Finv g F a.tmps w) {o : Operand} {x : V} (he : evE vc F h o = some (x, F', h')) :
    ∃ g',Hinv g' h' w/\Finv g' F' a.tmps w/\Step g w g' w/\VR g'.im g'.io x (a.eval o):=by
 have hpro:∀ (t n:Nat) (cs:List V),F[t]?=some (.bx n cs)->∃ g' β,Hinv g' (YV F h t n cs).2 w/\Finv g' (YV F h t n cs).1 a.tmps w/\Step g w g' w/\a.tmps.getD t undef=.pointer (some ⟨β,0,none⟩)/\g'.io h.length=some β:=fun t n cs hx=>by
  obtain⟨β,ty,c,hv,hb,hn,ho,hl,how⟩:=hf.fr t _ hx;have hnone:g.io h.length=none:=by
   cases hi:g.io h.length with
   | none=>rfl
   | some b=>have:=hh.io _ _ hi;omega
  let g':G:={ im:=g.im,io:=fun b=>if b=h.length then some β else g.io b,ow:=fun b=>if b=β then some (.hp h.length) else g.ow b }
  have hio:∀ b β,g.io b=some β->g'.io b=some β:=fun b β' hb=>by
   show (if b=h.length then some β else g.io b)=some β';split
   . rename_i e;subst e;rw[hnone] at hb;cases hb
   . exact hb
  have hne:∀ b,g.ow b≠some (.slot t)->b≠β:=fun b hb e=>hb (by rw[e];exact how);have how':∀ b,b≠β->g'.ow b=g.ow b:=fun b hb=>if_neg hb;have hioN:g'.io h.length=some β:=if_pos rfl;have howβ:g'.ow β=some (.hp h.length):=if_pos rfl;have hkeepS:∀ j y,j≠t->SR g w a.tmps j y (a.tmps.getD j undef)->SR g' w a.tmps j y (a.tmps.getD j undef):=fun j y hj hsr=>hsr.keep (fun _ _ h=>h) hio fun b hbs=>by
   have:b≠β:=by rintro rfl;rw[how] at hbs;injection hbs with hb';injection hb' with hb';exact hj hb'.symm
   exact⟨by rw[how' b this];exact hbs,rfl⟩
  refine⟨g',β,⟨fun b y hy=>?_,fun b b' hb=>?_,fun p v hp=>?_,fun b hb=>?_⟩,?_,⟨fun _ _ h=>h,hio,fun _ _ h=>.inl h,fun b hb h0=>?_,rfl,rfl,rfl,zn _,fun _ _ _=>rfl⟩,hv,hioN⟩
  . simp only[YV] at hy;rw[ZP] at hy;split at hy
    . exact(hh.hp b y hy).keep (fun _ _ h=>h) hio fun b' h2=>⟨by rw[how' b' (hne b' (by rw[h2];simp))];exact h2,rfl⟩
    . rename_i hge;have hbl:b - h.length=0:=by
       have:=(zj.1 hy).1;simp at this;omega
      have hbeq:b=h.length:=by omega
      subst hbeq;simp at hy;subst hy;exact⟨β,hioN,howβ,ty,c,hb,hn,ho,hl.mono (fun _ _ h=>h) hio⟩
  . show b < (h++[HB.box n cs]).length;have hb:(if b=h.length then some β else g.io b)=some b':=hb;split at hb
    . rename_i e;rw[e];simp
    . have:=hh.io _ _ hb;simp;omega
  . obtain⟨h1,h2⟩:=hh.im p v hp;exact⟨h1,by rw[how' _ (hne _ (by rw[h2];simp))];exact h2⟩
  . by_cases hbb:b=β
    . subst hbb;exact hh.ow b (by rw[how];simp)
    . rw[how' b hbb] at hb;exact hh.ow b hb
  . refine hf.mapset t (zpW t h.length) _ (fun y hy=>?_) (fun sz i c e sz' i' c'=>?_) (fun j sz i c hj=>?_) (fun j y hj hy _=>hkeepS j y hj (hf.fr j y hy)) ?_ (fun e sz i c=>by simp)
    . cases y <;> first|rfl|skip
      rename_i e sz i c;simp only[zpW];rw[if_neg];rintro rfl;exact hy sz i c rfl
    . simp only[zpW,if_true];split <;> simp
    . simp only[zpW,if_true];split
      . rename_i hi;subst hi;obtain⟨b,h1,h2⟩:=(hf.fr j _ hj).ptr Yf;rw[hv] at h2;simp[zap] at h2;subst h2;show VR _ _ _ _;rw[h1,Jr,zq];exact .ptr _ _ _ hioN
      . trivial
    . show VR _ _ _ _;rw[hv];exact .ptr _ _ _ hioN
  . rw[how' b (hne b (by rw[h0];simp))];exact h0
 have hfrz:∀ (t e sz:Nat) (l:List (List V)),F[t]?=some (.own e sz l)->∃ g',Hinv g' h w/\Finv g' ((F.map (er1 t)).set t (.v (.sl sz l false))) a.tmps w/\Step g w g' w/\VR g'.im g'.io (.sl sz l false) (a.eval (.tmp t)):=fun t e sz l hx=>by
  obtain⟨xs,h1,h2,h3,h4⟩:=hf.getD hx;obtain⟨A,cap,ad,hv,hc,hm,hA,hAb,hr⟩:=zbu h1 h2 h3;have hkeepS:∀ (g':G),(∀ p v,g.im p=some v->g'.im p=some v)->g'.io=g.io->(∀ b s,s≠t->g.ow b=some (.slot s)->g'.ow b=some (.slot s))->VR g'.im g'.io (.sl sz l false) (a.eval (.tmp t))->Finv g' ((F.map (er1 t)).set t (.v (.sl sz l false))) a.tmps w:=fun g' him hio how hvr=>by
   refine hf.mapset t (er1 t) _ (fun y hy=>?_) (fun sz i c e sz' i' c'=>by simp[er1]) (fun j sz i c hj=>by simp only[er1,if_true];trivial) (fun j y hj hy _=>(hf.fr j y hy).keep him (by rw[hio];exact fun _ _ h=>h) fun b hb=>⟨how b j hj hb,rfl⟩) hvr (fun e sz i c=>by simp);cases y <;> first|rfl|skip
   rename_i e sz i c;simp only[er1];rw[if_neg];rintro rfl;exact hy sz i c rfl
  cases hob:(a.eval (.tmp t)).ownBlock with
  | none =>
    have hl:l=[]:=by
     rcases hA with hA|hA
     . exact hA
     . rw[hv,hA] at hob;simp[Value.ownBlock] at hob
    subst hl;have hvr:VR g.im g.io (.sl sz [] false) (a.eval (.tmp t)):=by
     rw[hv];exact .sl sz [] false A cap ad (fun _ _=>undef) (.inl rfl) (by simp) hc hm (by simp) (by simp) (by simp)
    exact⟨g,hh,hkeepS g (fun _ _ h=>h) rfl (fun _ _ _ h=>h) hvr,.refl _ _,hvr⟩
  | some β =>
    have how:=h4 β hob;obtain⟨hH,hS⟩:=zcX hh how;have hvr:VR (g.freeze w β).im (g.freeze w β).io (.sl sz l false) (a.eval (.tmp t)):=by
     rw[hv];refine .sl sz l false A cap ad (fun k j=>xs.getD (k * sz+j) undef) hA (by simp) hc hm h2 (fun k es j x hk hj=>?_) (fun k es j x hk hj=>(hr k es j x hk hj).2.2.mono (G.ext_im hh how) (fun _ _ h=>h));obtain⟨h5,h6,_⟩:=hr k es j x hk hj;rw[hob] at h6;show (if (ad.add (k * sz+j)).block=β then w.cell? _ else _)=_;rw[if_pos (by injection h6 with h6;exact h6.symm)];exact h5
    refine⟨_,hH,hkeepS _ hS.im rfl (fun b s hs hb=>?_) hvr,hS,hvr⟩;show (if b=β then none else g.ow b)=_;rw[if_neg]
    . exact hb
    . rintro rfl;rw[how] at hb;injection hb with hb;injection hb with hb;exact hs hb.symm
 have hrow:∀ (t e sz:Nat) (l:List (List V)),F[t]?=some (.own e sz l)->∃ g',Hinv g' (h++[.row e sz l true]) w/\Finv g' ((F.map (er1 t)).set t (.v (.row h.length sz 0 l.length))) a.tmps w/\Step g w g' w/\VR g'.im g'.io (.row h.length sz 0 l.length) (a.eval (.tmp t)):=fun t e sz l hx=>by
  obtain⟨xs,h1,h2,h3,h4⟩:=hf.getD hx;have hnone:g.io h.length=none:=by
   cases hi:g.io h.length with
   | none=>rfl
   | some b=>have:=hh.io _ _ hi;omega
  let g':G:={ im:=g.im,io:=fun b=>if b=h.length then some (tok (a.eval (.tmp t))) else g.io b,ow:=fun b=>if (a.eval (.tmp t)).ownBlock=some b then some (.hp h.length) else g.ow b }
  have hio:∀ b β,g.io b=some β->g'.io b=some β:=fun b β' hb=>by
   show (if b=h.length then some _ else g.io b)=some β';split
   . rename_i e;subst e;rw[hnone] at hb;cases hb
   . exact hb
  have hne:∀ b,g.ow b≠some (.slot t)->(a.eval (.tmp t)).ownBlock≠some b:=fun b hb e=>hb (h4 b e);have how':∀ b,(a.eval (.tmp t)).ownBlock≠some b->g'.ow b=g.ow b:=fun b hb=>if_neg hb;have hioN:g'.io h.length=some (tok (a.eval (.tmp t))):=if_pos rfl;have howβ:∀ β,(a.eval (.tmp t)).ownBlock=some β->g'.ow β=some (.hp h.length):=fun β hβ=>if_pos hβ;have hvr:VR g'.im g'.io (.row h.length sz 0 l.length) (a.eval (.tmp t)):=by
   rcases h1.2 with ⟨hv,hz⟩|⟨β,cap,cur,hv,_,hhp,hc,hm,hcs,htk⟩
   . rw[hv,hz];exact .rowN _ _ (by rw[hioN,hv];rfl)
   . have:=VR.row (im:=g'.im) (io:=g'.io) h.length sz 0 l.length β 0 cap 0 (by rw[hioN,hv];rfl) (z2 _) hc hm (.inl (by simp));rw[hv];simpa using this
  refine⟨g',⟨fun b y hy=>?_,fun b b' hb=>?_,fun p v hp=>?_,fun b hb=>?_⟩,?_,⟨fun _ _ h=>h,hio,fun _ _ h=>.inl h,fun b hb h0=>?_,rfl,rfl,rfl,zn _,fun _ _ _=>rfl⟩,hvr⟩
  . rw[ZP] at hy;split at hy
    . exact(hh.hp b y hy).keep (fun _ _ h=>h) hio fun b' h2=>⟨by rw[how' b' (hne b' (by rw[h2];simp))];exact h2,rfl⟩
    . rename_i hge;have hbl:b - h.length=0:=by
       have:=(zj.1 hy).1;simp at this;omega
      have hbeq:b=h.length:=by omega
      subst hbeq;simp at hy;subst hy;exact⟨a.eval (.tmp t),xs,hioN,howβ,Y6 h1,h2,h3.mono (fun _ _ h=>h) hio,fun _=>zaq h1⟩
  . show b < (h++[HB.row e sz l true]).length;have hb:(if b=h.length then some (tok (a.eval (.tmp t))) else g.io b)=some b':=hb;split at hb
    . rename_i e;rw[e];simp
    . have:=hh.io _ _ hb;simp;omega
  . obtain⟨q1,q2⟩:=hh.im p v hp;exact⟨q1,by rw[how' _ (hne _ (by rw[q2];simp))];exact q2⟩
  . by_cases hbb:(a.eval (.tmp t)).ownBlock=some b
    . exact(h1.lt b hbb).2
    . rw[how' b hbb] at hb;exact hh.ow b hb
  . refine hf.mapset t (er1 t) _ (fun y hy=>?_) (fun sz i c e sz' i' c'=>by simp[er1]) (fun j sz i c hj=>by simp only[er1,if_true];trivial) (fun j y hj hy _=>(hf.fr j y hy).keep (fun _ _ h=>h) hio fun b hb=>⟨by
      rw[how' b fun e=>by have:=h4 b e;rw[this] at hb;injection hb with hb;injection hb with hb;exact hj hb.symm];exact hb,rfl⟩) hvr (fun e sz i c=>by simp)
    cases y <;> first|rfl|skip
    rename_i e sz i c;simp only[er1];rw[if_neg];rintro rfl;exact hy sz i c rfl
  . rw[how' b (hne b (by rw[h0];simp))];exact h0
 cases o with
 | tmp t =>
   simp only[evE] at he;split at he
   . rename_i y hy;cases he;exact⟨g,hh,hf,.refl _ _,hf.getD hy⟩
   . rename_i e sz l hx;split at he
     . cases he;exact hrow t e sz l hx
     . cases he;exact hfrz t e sz l hx
   . rename_i n cs hx;cases he;obtain⟨g',β,h1,h2,h3,h4,h5⟩:=hpro t n cs hx;refine⟨g',h1,h2,h3,?_⟩;show VR _ _ _ (a.tmps.getD t undef);rw[h4];exact .ptr _ _ _ h5
   . rename_i d sz i c hx;split at he
     . rename_i e sz' l hd;split at he
       . rename_i ha;have hval:a.eval (.tmp t)=a.eval (.tmp d):=(hf.getD hx).name ha;split at he
         . cases he;obtain⟨g',h1,h2,h3,h4⟩:=hrow d e sz' l hd;exact⟨g',h1,h2,h3,by rw[hval];exact h4⟩
         . cases he;obtain⟨g',h1,h2,h3,h4⟩:=hfrz d e sz' l hd;exact⟨g',h1,h2,h3,by rw[hval];exact h4⟩
       . cases he
     . rename_i n cs hd;split at he
       . rename_i hi;cases he;obtain⟨g',β,h1,h2,h3,h4,h5⟩:=hpro d n cs hd;obtain⟨b,h6,h7⟩:=(hf.getD hx).ptr (by rw[hi];exact Yf);rw[h4] at h7;simp[zap] at h7;subst h7;refine⟨g',h1,h2,h3,?_⟩;rw[h6,hi,Jr,zq];exact .ptr _ _ _ h5
       . cases he
     . cases he
   . cases he
 | const v =>
   simp only[evE] at he;cases hv:ofValue v with
   | none=>simp[hv] at he
   | some y=>simp[hv] at he;obtain⟨rfl,rfl,rfl⟩:=he;exact⟨g,hh,hf,.refl _ _,Ys hv⟩
 | func f=>cases he;exact⟨g,hh,hf,.refl _ _,.fn f [] #[] rfl (by simp)⟩
 | global n=>cases he
end Go.L
namespace Go.L
open Go.RowKit
theorem Jf{vc:Bool}{a:Act}{w:World}:∀ {os:List Operand} {F F':List S} {h h':ze} {xs:List V} {g:G},Hinv g h w->Finv g F a.tmps w->YL vc F h os=some (xs,F',h') →
    ∃ g',Hinv g' h' w/\Finv g' F' a.tmps w/\Step g w g' w/\VL g'.im g'.io xs (os.map a.eval)
 | [],F,F',h,h',xs,g,hh,hf,he=>by cases he;exact⟨g,hh,hf,.refl _ _,.nil⟩
 | o :: os,F,F',h,h',xs,g,hh,hf,he=>by
   unfold YL at he;split at he
   . rename_i v F1 h1 h2;split at he
     . rename_i vs F2 h3 h4;cases he;obtain⟨g1,a1,a2,a3,a4⟩:=Qk hh hf h2;obtain⟨g2,b1,b2,b3,b4⟩:=Jf a1 a2 h4;exact⟨g2,b1,b2,a3.trans b3,.cons (a4.mono b3.im b3.io) b4⟩
     . cases he
   . cases he
theorem zlc {z vc : Bool} {g : G} {F F' : List S} {a : Act} {w : World} {h h' : ze} (hh : Hinv g h w) (hf : Finv g F a.tmps w) {o : Operand} {x : V} (he : zu8 z vc F h o = some (x, F', h')) :
    ∃ g',Hinv g' h' w/\Finv g' F' a.tmps w/\Step g w g' w/\VR g'.im g'.io x (a.eval o):=by
 unfold zu8 at he;split at he
 . rename_i t;split at he
   . rename_i n cs hx;cases he;obtain⟨β,ty,c,hv,hb,hn,ho,hl,how⟩:=hf.fr t _ hx;obtain⟨hH,hS⟩:=zcX hh how;have hm:=G.ext_im hh how;have hadd:∀ (o j:Nat),(⟨β,o,none⟩:Addr).add j=⟨β,o+j,none⟩:=fun o j=>by unfold Addr.add;split <;> simp_all
     have hvr:∀ off,VR (g.freeze w β).im (g.freeze w β).io (.iptr n cs off) (.pointer (some ⟨β,off,none⟩)):=fun off=>by
      have:=VR.iptr (im:=(g.freeze w β).im) (io:=(g.freeze w β).io) n cs off ⟨β,0,none⟩ (fun j=>c.toList.getD j undef) hn ho (fun j x hx=>by
       obtain⟨y,hy,_⟩:=hl.get hx;rw[hadd,zq];show (if (⟨β,j,none⟩:Addr).block=β then w.cell? _ else _)=_;rw[if_pos rfl,zO,hy];simp only[World.cell?,hb];simpa using hy) (fun j x hx=>by
       obtain⟨y,hy,hr⟩:=hl.get hx;rw[zO,hy];exact hr.mono hm (fun _ _ h=>h))
      rw[hadd,zq] at this;exact this
     refine⟨_,hH,hf.mapset t (zpX t n cs) _ (fun y hy=>?_) (fun sz i c e sz' i' c'=>?_) (fun j sz i c hj=>?_) (fun j y hj hy _=>?_) ?_ (fun e sz i c=>by simp),hS,by rw[show a.eval (.tmp t)=a.tmps.getD t undef from rfl,hv];exact hvr 0⟩
     . cases y <;> first|rfl|skip
       rename_i e sz i c;simp only[zpX];rw[if_neg];rintro rfl;exact hy sz i c rfl
     . simp only[zpX,if_true];split <;> simp
     . simp only[zpX,if_true];split
       . rename_i hi;subst hi;obtain⟨b,h1,h2⟩:=(hf.fr j _ hj).ptr Yf;rw[hv] at h2;simp[zap] at h2;subst h2;show VR _ _ _ _;rw[h1,Jr,zq];exact hvr _
       . trivial
     . refine(hf.fr j y hy).keep hm (fun _ _ h=>h) fun b hbs=>⟨?_,rfl⟩;show (if b=β then none else g.ow b)=_;rw[if_neg]
       . exact hbs
       . rintro rfl;rw[how] at hbs;injection hbs with hb';injection hb' with hb';exact hj hb'.symm
     . show VR _ _ _ _;rw[hv];exact hvr 0
   . exact Qk hh hf he
 . exact Qk hh hf he
theorem zcY{z vc:Bool}{a:Act}{w:World}:∀ {os:List Operand} {F F':List S} {h h':ze} {xs:List V} {g:G},Hinv g h w->Finv g F a.tmps w->zin z vc F h os=some (xs,F',h') →
    ∃ g',Hinv g' h' w/\Finv g' F' a.tmps w/\Step g w g' w/\VL g'.im g'.io xs (os.map a.eval)
 | [],F,F',h,h',xs,g,hh,hf,he=>by cases he;exact⟨g,hh,hf,.refl _ _,.nil⟩
 | o :: os,F,F',h,h',xs,g,hh,hf,he=>by
   unfold zin at he;split at he
   . rename_i v F1 h1 h2;split at he
     . rename_i vs F2 h3 h4;cases he;obtain⟨g1,a1,a2,a3,a4⟩:=zlc hh hf h2;obtain⟨g2,b1,b2,b3,b4⟩:=zcY a1 a2 h4;exact⟨g2,b1,b2,a3.trans b3,.cons (a4.mono b3.im b3.io) b4⟩
     . cases he
   . cases he
theorem zdJ{g:G}{F:List S}{a:Act}{w:World}(hf:Finv g F a.tmps w){s d sz i c:Nat}(hs:F[s]?=some (.fp d sz i c))(hn:qA sz i=false){β:Nat}{T:Value}(hd:a.tmps.getD d undef=T)(hb:zap T=some β):a.eval (.tmp s)=.pointer (some ⟨β,i * sz+c,none⟩):=by
 obtain⟨b,h1,h2⟩:=(hf.getD hs).ptr hn;rw[hd,hb] at h2;cases h2;exact h1
theorem ziw {g : G} {F : List S} {a : Act} {w : World} {h : ze} (hh : Hinv g h w) (hf : Finv g F a.tmps w) {o : Operand} {cs : List V} {n c : Nat} (he : place F h o = some (cs, n, c)) :
    ∃ q:Addr,a.eval o=.pointer (some q)/\cs.length=n/\Ones cs/\∀ (j:Nat) x,cs[c+j]?=some x->∃ y,w.cell? (q.add j)=some y/\VR g.im g.io x y:=by
 have hadd:∀ (β o j:Nat),(⟨β,o,none⟩:Addr).add j=⟨β,o+j,none⟩:=fun β o j=>by unfold Addr.add;split <;> simp_all
 have hbox:∀ (β ty:Nat) (cc:Array Value) (cs:List V) (o:Nat),w.heap[β]?=some (.cells cc ty (0,0))->VL g.im g.io cs cc.toList->∀ (j:Nat) x,cs[o+j]?=some x->∃ y,w.cell? ((⟨β,o,none⟩:Addr).add j)=some y/\VR g.im g.io x y:=fun β ty cc cs o hb hl j x hx=>by
  obtain⟨y,hy,hv⟩:=hl.get hx;refine⟨y,?_,hv⟩;rw[hadd];simp only[World.cell?,hb];simpa using hy
 unfold place at he;split at he
 . rename_i s;split at he
   . rename_i m l hs;cases he;obtain⟨β,ty,cc,hv,hb,hn,ho,hl,how⟩:=hf.getD hs;exact⟨_,hv,hn,ho,hbox β ty cc cs 0 hb hl⟩
   . rename_i d sz i c' hs;split at he
     . rename_i m l hd;split at he
       . rename_i hi;cases he;obtain⟨β,ty,cc,hv,hb,hn,ho,hl,how⟩:=hf.getD hd;have hp:=zdJ hf hs (by rw[hi];exact Yf) hv rfl;rw[hi,Jr,zq] at hp;exact⟨_,hp,hn,ho,hbox β ty cc cs c hb hl⟩
       . cases he
     . rename_i e sz' l hd;split at he
       . rename_i hsz;obtain⟨hsz,hpos⟩:=hsz;subst hsz;split at he
         . rename_i es hes;cases he;obtain⟨xs,h1,h2,h3,h4⟩:=hf.getD hd;obtain⟨A,cap,ad,hv,hc,hm,hA,hAb,hr⟩:=zbu h1 h2 h3;obtain⟨hlen,hon⟩:=h2 cs (zM hes);have hob:∃ β,(a.eval (.tmp d)).ownBlock=some β/\A=some ⟨β,0,none⟩:=by
            rcases h1.2 with ⟨hnil,hz⟩|⟨b,cap',cur,hb,_⟩
            . rw[z7.1 hz] at hes;simp at hes
            . exact⟨b,by rw[hb];rfl,hAb b (by rw[hb];rfl)⟩
           obtain⟨β,hob,rfl⟩:=hob;have hp:=zdJ hf hs (zea hpos) (β:=β) (T:=a.eval (.tmp d)) rfl (by rw[hv];rfl);refine⟨_,hp,hlen,hon,fun j x hx=>?_⟩;rcases hA with hA|hA
           . subst hA;simp at hes
           . cases hA;obtain⟨h5,h6,h7⟩:=hr i cs (c+j) x hes hx;refine⟨_,?_,h7⟩;rw[hadd] at h5 ⊢;rw[zq] at h5;rw[ZR];exact h5
         . cases he
       . cases he
     . cases he
   . rename_i y hs;cases y with
     | ptr b o' =>
       simp only[Zv] at he;split at he
       . rename_i m l hb';cases he;obtain⟨β,hio,how,ty,cc,hb,hn,ho,hl⟩:=hh.hp b _ hb';have hv:VR g.im g.io (.ptr b c) (a.eval (.tmp s)):=hf.getD hs;generalize a.eval (.tmp s)=v at hv;cases hv with
         | ptr _ _ β' h =>
           rw[hio] at h;cases h;exact⟨_,rfl,hn,ho,hbox β ty cc cs c hb hl⟩
       . cases he
     | iptr m l o' =>
       simp only[Zv] at he;cases he;have hv:VR g.im g.io (.iptr n cs c) (a.eval (.tmp s)):=hf.getD hs;generalize a.eval (.tmp s)=v at hv;cases hv with
       | iptr _ _ _ q ys hl ho hi hr =>
         refine⟨_,rfl,hl,ho,fun j x hx=>⟨_,?_,hr _ _ hx⟩⟩;rw[show (q.add c).add j=q.add (c+j) from by
          unfold Addr.add;by_cases h1:c=0 <;> by_cases h2:j=0 <;> simp[h1,h2,ZR]]
         exact(hh.im _ _ (hi _ _ hx)).1
     | rptr b sz' i c' =>
       simp only[Zv] at he;split at he
       . rename_i e sz2 l zz hb';split at he
         . rename_i hsz;obtain⟨hsz,hpos⟩:=hsz;subst hsz;split at he
           . rename_i es hes;cases he;obtain⟨v0,xs,hio,how,h1,h2,h3,-⟩:=hh.hp b _ hb';obtain⟨hlen,hon⟩:=h2 cs (zM hes);have hv:VR g.im g.io (.rptr b n i c) (a.eval (.tmp s)):=hf.getD hs;generalize a.eval (.tmp s)=v at hv;cases hv with
             | rptr _ _ _ _ β o cap hi' =>
               rw[hio] at hi';injection hi' with hi';obtain⟨rfl,cur,hcur,hc,hm,hs',htk⟩:=zbv h1 hi';have hrd:=zeb h1 h2 h3;refine⟨_,rfl,hlen,hon,fun j x hx=>?_⟩;obtain⟨r1,r3⟩:=hrd i cs (c+j) x hes hx;refine⟨_,?_,r3⟩;rw[zcr];rw[show o+(i * n+c)+j=o+(i * n+(c+j)) by omega];exact r1
           . cases he
         . cases he
       . cases he
     | _=>cases he
   . cases he
 . cases he
theorem zcZ{R:Type}{F:List S}{h:ze}{x:Operand}{K:List V->Nat->Nat->Option R}{r:R}(hx:YN F h x K=some r):∃ cs n c,place F h x=some (cs,n,c)/\K cs n c=some r:=by
 unfold YN at hx;unfold place
 repeat' (split at hx)
 all_goals first
  | exact⟨_,_,_,rfl,hx⟩
  | (cases hx;done)
  | (simp_all;exact⟨_,_,_,⟨rfl,rfl,rfl⟩,hx⟩)
theorem zix{R:Type}{F:List S}{h:ze}{vs:List V}{x:Operand}{K:List S->ze->Option R}{r:R}(hx:zd3 F h vs x K=some r):∃ F' h',write F h vs x=some (F',h')/\K F' h'=some r:=by
 unfold zd3 at hx;unfold write
 repeat' (split at hx)
 all_goals first
  | exact⟨_,_,rfl,hx⟩
  | (cases hx;done)
  | (simp_all;exact⟨_,_,⟨rfl,rfl⟩,hx⟩)
theorem YY{cs vs:List V}{o:Nat}(h:o+vs.length<=cs.length):setR cs o vs=cs.take o++vs++cs.drop (o+vs.length):=by
 unfold setR;split
 . rename_i v;simp at h;rw[List.set_eq_take_append_cons_drop,if_pos (by omega)];simp
 . rfl
theorem zbw{cs vs:List V}{o:Nat}(h:o+vs.length<=cs.length):(setR cs o vs).length=cs.length:=by
 rw[YY h];simp;omega
theorem VL.setR{im:Im}{io:Io}{cs vs:List V}{c us:List Value}(h:VL im io cs c)(k:VL im io vs us){o:Nat}(hl:o+vs.length<=cs.length):VL im io (Go.L.setR cs o vs) (c.take o++us++c.drop (o+us.length)):=by
 rw[YY hl,<- k.1];exact((h.take o).append k).append (h.drop _)
theorem KR{sz:Nat}:∀ {l:List (List V)} (hs:∀ es∈l,es.length=sz) {i:Nat} {es:List V} (hi:l[i]?=some es) {c:Nat} {vs:List V} (hl:c+vs.length<=sz),
    (l.set i (setR es c vs)).flatten=l.flatten.take (i * sz+c)++vs++l.flatten.drop (i * sz+c+vs.length)
 | [],_,i,es,hi,_,_,_=>by simp at hi
 | x :: l,hs,i,es,hi,c,vs,hl=>by
   have hx:=hs x (by simp);cases i with
   | zero =>
     simp at hi;subst hi;rw[Ji,XG,XG,YY (by omega),Jr,zq,Qj (by omega),QW (by omega)];simp
   | succ i =>
     rw[List.set_cons_succ,XG,XG,KR (fun es h=>hs es (by simp[h])) (by simpa using hi) hl];rw[List.take_append,List.drop_append,zU (l:=x) (by rw[hx,X3];omega),ZC (l:=x) (by rw[hx,X3];omega),hx,
      show (i+1) * sz+c - sz=i * sz+c from by rw[X3];omega,show (i+1) * sz+c+vs.length - sz=i * sz+c+vs.length from by rw[X3];omega]
     simp
theorem Hinv.setRow{g:G}{h:ze}{w:World}(hh:Hinv g h w){β s:Nat}(how:g.ow β=some (.slot s))(c':Array Value):Hinv g h (w.setRow β c'):=by
 refine hh.keep rfl rfl (fun b h1 h2=>⟨h1,setRow_other _ _ _ _ (by rintro rfl;rw[how] at h1;cases h1)⟩) (fun b b' h1=>⟨h1,setRow_other _ _ _ _ (by rintro rfl;rw[how] at h1;cases h1)⟩) (fun b h1=>by rw[setRow_size];exact hh.ow b h1)
theorem Step.setRow{g:G}{w:World}{β:Nat}(how:g.ow β≠none)(c':Array Value):Step g w g (w.setRow β c') :=
 ⟨fun _ _ h=>h,fun _ _ h=>h,fun _ _ h=>.inl h,fun _ _ h=>h,rfl,rfl,rfl,by rw[setRow_size];exact zn _,fun b _ h1=>setRow_other _ _ _ _ (by rintro rfl;exact how h1)⟩
theorem Finv.own {g : G} {F : List S} {T : Array Value} {w w' : World} (hf : Finv g F T w) {d : Nat} {x x' : S} (hx : F[d]? = some x) (hlx : lin x' = true) (hk : ∀ β s, s ≠ d -> g.ow β = some (.slot s) -> w'.heap[β]? = w.heap[β]?)
    (hs:SR g w' T d x' (T.getD d undef)):Finv g (F.set d x') T w':=by
 refine⟨by simp[hf.len],fun j e sz i c hj=>?_,fun j y hj=>?_⟩
 . rw[Zd] at hj;split at hj
   . split at hj
     . cases hj;simp[lin] at hlx
     . cases hj
   . obtain⟨z,hz,hl⟩:=hf.fp j e sz i c hj;by_cases he:e=d
     . subst he;exact⟨x',by rw[Zf (zj.1 hx).1],hlx⟩
     . exact⟨z,by rw[zd (Ne.symm he)];exact hz,hl⟩
 . by_cases hjd:j=d
   . subst hjd;rw[Zf (zj.1 hx).1] at hj;cases hj;exact hs
   . rw[zd (Ne.symm hjd)] at hj;exact(hf.fr j y hj).keep (fun _ _ h=>h) (fun _ _ h=>h) fun β hβ=>⟨hβ,hk β j hjd hβ⟩
theorem ziy {g : G} {F F' : List S} {a : Act} {w : World} {h h' : ze} (P : Program) (hh : Hinv g h w) (hf : Finv g F a.tmps w) {o : Operand} {vs : List V} {us : List Value} (hv : VL g.im g.io vs us) (hon : Ones vs) (he : write F h vs o = some (F', h')) :
    ∃ q w',a.eval o=.pointer (some q)/\(storeCells q us).run P w=.ok () w'/\Hinv g h' w'/\Finv g F' a.tmps w'/\Step g w g w':=by
 have h1c:=hv.oneCell hon;have hrun:∀ (β o ty:Nat) (cc:Array Value),w.heap[β]?=some (.cells cc ty (0,0))->o+us.length<=cc.size->(storeCells ⟨β,o,none⟩ us).run P w=.ok () (w.setRow β (cc.toList.take o++us++cc.toList.drop (o+us.length)).toArray):=fun β o ty cc hb hl=>by
  simpa using run_storeCells_at P β o ty us 0 cc w hb (by simpa using hl) h1c
 have hbx:∀ (d:Nat) (n:Nat) (cs:List V) (c:Nat),F[d]?=some (.bx n cs)->c+vs.length<=n->∃ β w',a.tmps.getD d undef=.pointer (some ⟨β,0,none⟩)/\(storeCells ⟨β,c,none⟩ us).run P w=.ok () w'/\Hinv g h w'/\Finv g (F.set d (.bx n (setR cs c vs))) a.tmps w'/\Step g w g w':=fun d n cs c hd hl=>by
  obtain⟨β,ty,cc,hv',hb,hn,ho,hL,how⟩:=hf.getD hd;have hsz:cc.size=n:=by rw[<- hn,hL.1];simp
  refine⟨β,_,hv',hrun β c ty cc hb (by rw[<- hv.1,hsz];exact hl),hh.setRow how _,?_,.setRow (by rw[how];simp) _⟩;refine hf.own hd rfl (fun b s hs hb'=>setRow_other _ _ _ _ (by rintro rfl;rw[how] at hb';cases hb';exact hs rfl)) ?_;exact⟨β,ty,_,hv',setRow_heap w β cc _ ty _ hb,by rw[zbw (by omega)];exact hn,ho.setR hon _,by simpa using hL.setR hv (by omega),how⟩
 unfold write at he;split at he
 . rename_i s;split at he
   . rename_i n cs hs;split at he
     . rename_i hl;cases he;obtain⟨β,w',h1,h2,h3⟩:=hbx s n cs 0 hs (by omega);exact⟨_,w',h1,h2,h3⟩
     . cases he
   . rename_i d sz i c hs;split at he
     . rename_i n cs hd;split at he
       . rename_i hl;cases he;obtain⟨β,w',h1,h2,h3⟩:=hbx d n cs c hd hl.2;have hp:=zdJ hf hs (by rw[hl.1];exact Yf) h1 rfl;rw[hl.1,Jr,zq] at hp;exact⟨_,w',hp,h2,h3⟩
       . cases he
     . rename_i e sz' l hd;split at he
       . rename_i hl;obtain⟨hsz,hpos,hl⟩:=hl;subst hsz;split at he
         . rename_i es hes;cases he;obtain⟨xs,h1,h2,h3,h4⟩:=hf.getD hd;have h1':=h1;rcases h1.2 with ⟨hnil,hz⟩|⟨β,cap,cur,hb,_,hhp,hc,hm,hcs,htk⟩
           . rw[z7.1 hz] at hes;simp at hes
           . have how:=h4 β (by rw[hb];rfl);have hp:=zdJ hf hs (zea hpos) (β:=β) (T:=a.eval (.tmp d)) rfl (by rw[hb];rfl);have hilt:i < l.length:=(zj.1 hes).1;have hmul:i * sz'+sz'<=l.length * sz':=by rw[<- X3];exact XX _ hilt
             have hmul2:l.length * sz'<=cap * sz':=XX _ hc;have hvl:=hv.1;refine⟨_,_,hp,hrun β _ e cur hhp (by omega),hh.setRow how _,?_,.setRow (by rw[how];simp) _⟩;refine hf.own hd rfl (fun b s hs' hb'=>setRow_other _ _ _ _ (by rintro rfl;rw[how] at hb';cases hb';exact hs' rfl)) ?_;have hfl:=KR (fun es h=>(h2 es h).1) hes hl;have hlen:=Qf (fun es h=>(h2 es h).1);refine⟨xs.take (i * sz'+c)++us++xs.drop (i * sz'+c+us.length),⟨?_,.inr ⟨β,cap,_,?_,z2 _,setRow_heap w β cur _ e _ hhp,by simpa using hc,hm,?_,?_⟩⟩,fun es' hes'=>?_,?_,h4⟩
             . have:=h1.1;simp;omega
             . rw[zw];exact hb
             . simp;omega
             . rw[zw,<- htk,List.toList_toArray];apply ZM;intro j;simp only[Ze,ZP,Zh,zL,z5];by_cases hj:j < l.length * sz'
               . have e1:min (i * sz'+c) cur.toList.length=i * sz'+c:=by simp;omega
                 have e2:min (i * sz'+c) (min (l.length * sz') cur.toList.length)=i * sz'+c:=by simp;omega
                 simp only[hj,if_true,e1,e2];by_cases hj1:j < i * sz'+c+us.length
                 . simp only[hj1,if_true]
                 . simp only[hj1,if_false];rw[if_pos (by omega)]
               . have e1:min (i * sz'+c) cur.toList.length=i * sz'+c:=by simp;omega
                 have e2:min (i * sz'+c) (min (l.length * sz') cur.toList.length)=i * sz'+c:=by simp;omega
                 simp only[hj,if_false,e1,e2];rw[if_neg (by omega),if_neg (by omega)]
             . rcases Qb hes' with hm'|rfl
               . exact h2 es' hm'
               . have hee:=h2 es (zM hes);exact⟨by rw[zbw (by omega)];exact hee.1,hee.2.setR hon _⟩
             . rw[hfl,<- hvl];exact((h3.take _).append hv).append (h3.drop _)
         . cases he
       . cases he
     . cases he
   . rename_i y hs;split at he
     case h_2=>cases he
     rename_i b0 x0 hwb;cases he;cases y with
     | ptr b o' =>
       simp only[Zl] at hwb;split at hwb
       . rename_i n cs hb';split at hwb
         . rename_i hl;cases hwb;obtain⟨β,hio,how,ty,cc,hb,hn,ho,hL⟩:=hh.hp _ _ hb';have hvp:VR g.im g.io (.ptr b0 o') (a.eval (.tmp s)):=hf.getD hs;generalize hev:a.eval (.tmp s)=v at hvp;cases hvp with
           | ptr _ _ β' h =>
             rw[hio] at h;cases h;have hsz:cc.size=n:=by rw[<- hn,hL.1];simp
             refine⟨_,_,rfl,hrun β o' ty cc hb (by rw[<- hv.1,hsz];exact hl),⟨fun b2 x hx=>?_,fun b2 β2 h2=>by rw[zw];exact hh.io b2 β2 h2,fun p v hp=>?_,fun b2 h2=>by rw[setRow_size];exact hh.ow b2 h2⟩,?_,.setRow (by rw[how];simp) _⟩
             . rw[Zd] at hx;split at hx
               . rename_i e;subst e;split at hx
                 . cases hx;exact⟨β,hio,how,ty,_,setRow_heap w β cc _ ty _ hb,by rw[zbw (by omega)];exact hn,ho.setR hon _,by simpa using hL.setR hv (by omega)⟩
                 . cases hx
               . rename_i hne;refine(hh.hp b2 x hx).keep (fun _ _ h=>h) (fun _ _ h=>h) fun β2 i2=>⟨i2,setRow_other _ _ _ _ ?_⟩;rintro rfl;rw[how] at i2;cases i2;exact hne rfl
             . obtain⟨i1,i2⟩:=hh.im p v hp;exact⟨by rw[cell_setRow_other _ _ _ _ (by rintro e;rw[e,how] at i2;cases i2)];exact i1,i2⟩
             . exact hf.keep (fun _ _ h=>h) (fun _ _ h=>h) fun b2 s2 h2=>⟨h2,setRow_other _ _ _ _ (by rintro rfl;rw[how] at h2;cases h2)⟩
         . cases hwb
       . cases hwb
     | rptr b sz i c =>
       simp only[Zl] at hwb;split at hwb
       . rename_i e sz' l zz hb';split at hwb
         . rename_i hl;obtain⟨hsz,hpos,hl⟩:=hl;subst hsz;split at hwb
           . rename_i es hes;cases hwb;obtain⟨v0,xs,hio,how0,h1,h2,h3,h4⟩:=hh.hp _ _ hb';have hvp:VR g.im g.io (.rptr b0 sz' i c) (a.eval (.tmp s)):=hf.getD hs;generalize hev:a.eval (.tmp s)=v at hvp;cases hvp with
             | rptr _ _ _ _ β o cap hi' =>
               rw[hio] at hi';injection hi' with hi';obtain⟨rfl,cur,hhp,hc,hm,hcs,htk⟩:=zbv h1 hi';have how:=how0 β rfl;have hilt:i < l.length:=(zj.1 hes).1;have hmul:i * sz'+sz'<=l.length * sz':=by rw[<- X3];exact XX _ hilt
               have hmul2:l.length * sz'<=cap * sz':=XX _ hc;have hvl:=hv.1;refine⟨_,_,rfl,hrun β _ e cur hhp (by omega),⟨fun b2 x hx=>?_,fun b2 β2 h2=>by rw[zw];exact hh.io b2 β2 h2,fun p v hp=>?_,fun b2 h2=>by rw[setRow_size];exact hh.ow b2 h2⟩,?_,.setRow (by rw[how];simp) _⟩
               . rw[Zd] at hx;split at hx
                 . rename_i e;subst e;split at hx
                   . cases hx;have hfl:=KR (fun es h=>(h2 es h).1) hes hl;have hlen:=Qf (fun es h=>(h2 es h).1);refine⟨_,xs.take (i * sz'+c)++us++xs.drop (i * sz'+c+us.length),hio,how0,⟨?_,.inr ⟨β,o,cap,_,?_,setRow_heap w β cur _ _ _ hhp,by simpa using hc,hm,?_,?_⟩⟩,fun es' hes'=>?_,?_,fun hz=>?_⟩
                     . have:=h1.1;simp;omega
                     . rw[zw]
                     . simp;omega
                     . have hcs':cur.size=o+cap * sz':=by rcases hcs with h0|h0 <;> first|exact h0|omega
                       rw[zw,<- htk,List.toList_toArray];apply ZM;intro j;simp only[Ze,ZP,Zh,zL,z5,XQ];by_cases hj:j < l.length * sz'
                       . have e1:min (o+(i * sz'+c)) cur.toList.length=o+(i * sz'+c):=by simp;omega
                         have e2:min (i * sz'+c) (min (l.length * sz') (cur.toList.length - o))=i * sz'+c:=by simp;omega
                         simp only[hj,if_true,e1,e2];by_cases hj1:j < i * sz'+c+us.length
                         . rw[if_pos (show o+j < o+(i * sz'+c)+us.length by omega),if_pos hj1];by_cases hj2:j < i * sz'+c
                           . rw[if_pos (show o+j < o+(i * sz'+c) by omega),if_pos hj2,if_pos (show o+j < o+(i * sz'+c) by omega),if_pos hj2]
                           . rw[if_neg (show ¬ o+j < o+(i * sz'+c) by omega),if_neg hj2];congr 1;omega
                         . rw[if_neg (show ¬ o+j < o+(i * sz'+c)+us.length by omega),if_neg hj1];rw[if_pos (by omega)];congr 1;omega
                       . have e1:min (o+(i * sz'+c)) cur.toList.length=o+(i * sz'+c):=by simp;omega
                         have e2:min (i * sz'+c) (min (l.length * sz') (cur.toList.length - o))=i * sz'+c:=by simp;omega
                         simp only[hj,if_false,e1,e2];rw[if_neg (by omega),if_neg (by omega)]
                     . rcases Qb hes' with hm'|rfl
                       . exact h2 es' hm'
                       . have hee:=h2 es (zM hes);exact⟨by rw[zbw (by omega)];exact hee.1,hee.2.setR hon _⟩
                     . rw[hfl,<- hvl];exact((h3.take _).append hv).append (h3.drop _)
                     . intro β2 o2 n2 cap2 hv2;obtain⟨k1,k2⟩:=h4 hz β2 o2 n2 cap2 hv2;cases hv2;refine⟨k1,fun c2 ty2 fr2 hc2=>?_⟩;rw[setRow_heap w β cur _ _ _ hhp] at hc2;cases hc2;rw[<- k2 _ _ _ hhp];simp;omega
                   . cases hx
                 . rename_i hne;refine(hh.hp b2 x hx).keep (fun _ _ h=>h) (fun _ _ h=>h) fun β2 i2=>⟨i2,setRow_other _ _ _ _ ?_⟩;rintro rfl;rw[how] at i2;cases i2;exact hne rfl
               . obtain⟨i1,i2⟩:=hh.im p v hp;exact⟨by rw[cell_setRow_other _ _ _ _ (by rintro e;rw[e,how] at i2;cases i2)];exact i1,i2⟩
               . exact hf.keep (fun _ _ h=>h) (fun _ _ h=>h) fun b2 s2 h2=>⟨h2,setRow_other _ _ _ _ (by rintro rfl;rw[how] at h2;cases h2)⟩
           . cases hwb
         . cases hwb
       . cases hwb
     | _=>cases hwb
   . cases he
 . cases he
end Go.L
