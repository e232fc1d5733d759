/- Lopen: what the law needs of these -/import Derived.Deep.Slices
import Derived.ChangeSlices
import Derived.ChangeArms
import Derived.Test.YtclhmdhdpejhhaaGreatJdo10
set_option linter.unusedVariables false
namespace Go.L
open Go.ChangeShapes Go.WideShapes Go.Rp
def iks (P : Program) : Nat -> TypeId -> Option (List IntKind)
 | 0,_=>none
 | d+1,t=>match P.underlying t with
   | some (.int k)=>some [k]
   | some (.struct fs)=>(match fs.toList.foldlM (fun(acc:List IntKind) f=>if f.offset=acc.length then(match iks P d f.type with|some ks=>if P.cellsOf f.type=ks.length then some (acc++ks) else none|none=>none) else none) [] with
     | some ks=>if P.cellsOf t=ks.length then some ks else none
     | none=>none)
   | _=>none
def Fits(ks:List IntKind)(cs:List Value):Prop:=cs.length=ks.length/\∀ (i:Nat) k,ks[i]?=some k->∃ n,cs[i]?=some (.int k n)/\(Lit.int k n).wf=true
theorem Fits.nil:Fits [] []:=⟨rfl,fun i k h=>by simp at h⟩
theorem Fits.append{ks ks':List IntKind}{cs cs':List Value}(h:Fits ks cs)(h':Fits ks' cs'):Fits (ks++ks') (cs++cs'):=by
 refine⟨by rw[zE,zE,h.1,h'.1],fun i k hi=>?_⟩;rw[ZK] at hi ⊢;rw[h.1];split
 . rename_i hlt;rw[if_pos hlt] at hi;exact h.2 i k hi
 . rename_i hlt;rw[if_neg hlt] at hi;exact h'.2 _ k hi
theorem Fits.cons{k:IntKind}{ks:List IntKind}{cs:List Value}(h:Fits (k :: ks) cs):∃ n r,cs=.int k n :: r/\(Lit.int k n).wf=true/\Fits ks r:=by
 obtain⟨n,hn,hw⟩:=h.2 0 k rfl;cases cs with
 | nil=>simp at hn
 | cons v r =>
   simp at hn;subst hn;exact⟨n,r,rfl,hw,by have:=h.1;simp at this;exact this,fun i k hi=>by simpa using h.2 (i+1) k (by simpa using hi)⟩
theorem Fits.empty{cs:List Value}(h:Fits [] cs):cs=[]:=ZI h.1
section
variable {H:Type} {enc:TypeId×Value->H} {P:Program} {w:World} {base:Nat} {spare:Nat->Bool} {held:Bool}
theorem zdR : ∀ (d : Nat) (t : TypeId) (ks : List IntKind), iks P d t = some ks -> ∀ {n : Nat} {cs : List Value} {x : DataW H × List MemPlace}, DataW.trod enc P w base spare held n t cs = some x -> Fits ks cs
 | 0,t,ks,h,n,cs,x,_=>by cases h
 | d+1,t,ks,h,n,cs,x,hx=>by
   unfold iks at h;split at h
   . rename_i k ht;cases h;obtain⟨m,rfl,_,hw⟩:=DataW.trod_int ht hx;exact⟨rfl,fun i k hi=>by
      match i,hi with
      | 0,hi=>cases hi;exact⟨m,rfl,hw⟩
      | i+1,hi=>simp at hi⟩
   . rename_i fs ht;split at h
     . rename_i ks' hf;split at h
       . rename_i hc;cases h;obtain⟨xs,m,_,_,hl,hlen,hfs⟩:=DataW.trod_struct ht hx;have key:∀ (l:List Field) (pre:List Field) (acc ks:List IntKind),fs.toList=pre++l->l.foldlM (fun(acc:List IntKind) f=>if f.offset=acc.length then(match iks P d f.type with|some ks=>if P.cellsOf f.type=ks.length then some (acc++ks) else none|none=>none) else none) acc=some ks →
             Fits acc (cs.take acc.length)->Fits ks (cs.take ks.length):=fun l=>by
          induction l with
          | nil=>intro pre acc ks _ h hacc;simp at h;subst h;exact hacc
          | cons f l ih =>
            intro pre acc ks hpre h hacc;rw[QE] at h;cases hstep:(if f.offset=acc.length then(match iks P d f.type with|some ks=>if P.cellsOf f.type=ks.length then some (acc++ks) else none|none=>none) else none:Option (List IntKind)) with
            | none=>rw[hstep] at h;cases h
            | some acc' =>
              rw[hstep] at h;split at hstep
              . rename_i hoff;split at hstep
                . rename_i kf hkf;split at hstep
                  . rename_i hcf;cases hstep;have hfi:fs[pre.length]?=some f:=by
                     rw[<- Array.getElem?_toList,hpre];simp
                    have htr:=hfs pre.length f hfi;obtain⟨y,hy⟩:∃ y,xs[pre.length]?=some y:=⟨_,zg (by
                     rw[hlen];have:=congrArg List.length hpre;simp at this;omega)⟩
                    rw[hy] at htr;have hfit:=zdR d f.type kf hkf htr;refine ih (pre++[f]) (acc++kf) ks (by rw[hpre];simp) h ?_;rw[hoff,hcf] at hfit;have:=hacc.append hfit;rw[zE,List.take_add];exact this
                  . cases hstep
                . cases hstep
              . cases hstep
         have:=key fs.toList [] [] ks rfl hf (by simpa using Fits.nil);rwa[zN (by rw[hl,hc];exact zl _)] at this
       . cases h
     . cases h
   . cases h
end
theorem zdS {α : Type} {p : Nat -> α -> Prop} : ∀ (n : Nat), (∀ i, i < n -> ∃ x, p i x) -> ∃ l : List α, l.length = n /\ ∀ (i : Nat) x, l[i]? = some x -> p i x
 | 0,_=>⟨[],rfl,fun i x h=>by simp at h⟩
 | n+1,h=>by
   obtain⟨l,hl,hp⟩:=zdS n (fun i hi=>h i (by omega));obtain⟨x,hx⟩:=h n (by omega);refine⟨l++[x],by simp[hl],fun i y hy=>?_⟩;rw[ZK] at hy;split at hy
   . exact hp i y hy
   . rename_i hi;have hlt:=(zi.1 hy).1;simp at hlt;have h0:i - l.length=0:=by omega
     rw[h0] at hy;simp at hy;subst hy;obtain rfl:i=n:=by omega
     exact hx
section
variable {H:Type} {enc:TypeId×Value->H} {P:Program} {w:World} {held:Bool}
end
section
variable {H:Type} {enc:TypeId×Value->H} {P:Program} {w w':World} {held:Bool} {spare:Nat->Bool}
end
end Go.L
