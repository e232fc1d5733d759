/- Mem: what the law needs of these -/import Derived.WalkKit
import Derived.Deep.Draws
import Derived.Lib.Hide
import Derived.Test.YtclhmdhdpejhhaaGreatJsv5
namespace Go.RowKit
end Go.RowKit
namespace Go.TR
open Go.RowKit
def sliceB(P:Program)(t e size bytes:Nat):Bool :=
 (match P.underlying t with|some (.slice e')=>e' == e|_=>false) &&
 (match P.info? e with|some i=>(match i.zero with|some z=>i.size == size && i.bytes == bytes && z.cells.size == size && decide (0 < size)|none=>false)|none=>false)
theorem ziG {P : Program} {t e size bytes : Nat} (h : sliceB P t e size bytes = true) :
    P.underlying t=some (.slice e)/\0 < size/\∃ i z,P.info? e=some i/\i.zero=some z/\i.size=size/\i.bytes=bytes/\z.cells.size=size:=by
 unfold sliceB at h;rw[zE] at h;obtain⟨h1,h2⟩:=h;split at h1
 . rename_i e' he;have:e'=e:=by simpa using h1
   subst this;split at h2
   . rename_i i hi;split at h2
     . rename_i z hz;simp only[zE,beq_iff_eq,decide_eq_true_eq] at h2;exact⟨he,h2.2,i,z,hi,hz,h2.1.1.1,h2.1.1.2,h2.1.2⟩
     . cases h2
   . cases h2
 . cases h1
section
variable {P:Program} {ops:Array Oper} {rest:List Oper} {o:Oper} {a:Act} {Q:Exit->Act->World->Prop} {w:World}
end
section
variable {α:Type} {w w':World} {B B' size:Nat} {c:α->List Value} {A:Option Addr} {l:List α}
end
section
variable {P:Program} {w:World}
theorem zdB {base t ty e size c : Nat} {i : TypeInfo} (ht : P.underlying t = some (.slice e)) (hi : P.info? e = some i)
    {v:Value} {n:Nat} {xs:List Value} (hown:w.ownsRow base e size v n xs):(Builtin.append_ #[t,t] ty #[v,.slice none 0 c]).run P w=.ok v w:=by
 rcases hown.2 with ⟨rfl,rfl⟩|⟨g,cap,cur,rfl,_,_,hnc,_⟩
 . simp[Builtin.append_,run_underlying ht,Go.sizeOf,Go.typeInfo,hi,Builtin.lenOf,Builtin.firstCells]
 . simp[Builtin.append_,run_underlying ht,Go.sizeOf,Go.typeInfo,hi,Builtin.lenOf,Builtin.firstCells,hnc,storeCells]
theorem wpList_append_rd {ops : Array Oper} {rest : List Oper} {o : Oper} {a : Act} {Q : Exit -> Act -> World -> Prop} (hgd : o.guard = none) {s x : Operand} {t : TypeId}
    (ho:o.op=.call { callee:=.builtin .append,args:=#[s,x],argTypes:=#[t,t] })
    {base e size bytes:Nat} (ht:sliceB P t e size bytes=true)
    {v:Value} {n:Nat} {xs:List Value} (hown:w.ownsRow base e size v n xs) (hs:a.eval s=v)
    {A:Option Addr} {m c:Nat} {news:List Value} (hx:a.eval x=.slice A m c) (hl:news.length=m * size)
    (hc:∀ j u,news[j]?=some u->∃ ad,A=some ad/\w.cell? (ad.add j)=some u)
    (h1:∀ u∈news,u.oneCell'=true) {a0:World} (hbel:Below base a0 w) (h0:base<=a0.heap.size) {B0:Nat} {e0:World} (hbel0:Below B0 e0 w) (hB0:B0<=base) (h63:n+m<=maxLen) (hbytes:(n+m) * bytes<=140737488355328)
    (h:∀ v' w',w'.ownsRow base e size v' (n+m) (xs++news)->w.grownBy w' v.ownBlock->Below base a0 w'->Below B0 e0 w'->wpList P ops Q rest (a.put o.dst v') w'):wpList P ops Q (o :: rest) a w:=by
 obtain⟨hu,hsz,i,z,hi,hz,hs1,hs2,hs3⟩:=ziG ht;cases A with
 | some ad =>
   refine wpList_append_own w hgd s x t ho base e i z size bytes hu hi hz hs1 hs2 hs3 hsz v n xs hs hown ad m c news hx hl (fun j u hj=>?_) h1 h63 hbytes (ZY h0 hbel.size) (fun v' w' a b _=>h v' w' a b (hbel.grown b (ZY h0 hbel.size) (fun k hk=>(hown.lt k hk).1)) (hbel0.grown b (ZY hB0 (ZY h0 hbel.size)) (fun k hk=>ZY hB0 (hown.lt k hk).1)));obtain⟨ad',e,hc⟩:=hc j u hj;cases e;exact hc
 | none =>
   have hn:news=[]:=by
    cases news with
    | nil=>rfl
    | cons u l=>obtain⟨ad,e,_⟩:=hc 0 u rfl;cases e
   subst hn;have hm:m=0:=by
    rcases WE m with h|h
    . exact h
    . have:=Nat.mul_pos h hsz;simp at hl;omega
   subst hm;refine wpList_plain hgd fun K hK=>?_;have hrun:=zdB (ty:=o.type) (c:=c) hu hi hown;unfold Oper.wp;simp only[execOp,ho,resolve,invoke,builtin,Sem.run_bind,Sem.run_pure,Result.andThen_ok,List.map_toArray,zW,Q8,hs,hx,hrun];exact hK _ _ (h v w (by simpa using hown) (World.grownBy.refl w _) hbel hbel0)
end
section
variable {α:Type} {w w':World} {B B' T size:Nat} {c:α->List Value} {A:Option Addr} {l:List α}
end
section
variable {α:Type} {w w':World} {B B' T size:Nat} {c:α->List Value} {A:Option Addr} {l:List α} {v:Value}
end
theorem bcell{B:Nat}{W w1:World}(hb:Below B W w1):(∀ b o,b < B->w1.cell? ⟨b,o,none⟩=W.cell? ⟨b,o,none⟩)/\(∀ b o,b < B->w1.frozen? ⟨b,o,none⟩=W.frozen? ⟨b,o,none⟩) :=
 ⟨fun b o h=>hb.cell (p:=⟨b,o,none⟩) h,fun b o h=>hb.frozen (p:=⟨b,o,none⟩) h⟩
def zhj(w:World)(g:Nat):Option Nat:=match w.heap[g]? with|some (.cells _ e _)=>some e|_=>none
@[simp] theorem zuy(w:World)(g:Nat):zhj w.drew g=zhj w g:=rfl
@[simp] theorem ztb(w:World)(n g:Nat):zhj (w.drewN n) g=zhj w g:=rfl
end Go.TR
