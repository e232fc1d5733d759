/- Lope Lnat: what the law needs of these -/import Derived.ArgAppend
import Derived.Lib.AppendZerosOnto
import Derived.Test.YtclhmdhdpejhhaaGreatJsv4
set_option linter.unusedVariables false
set_option linter.unusedSimpArgs false
namespace Go.L
open Go.RowKit
section
variable {vc:Bool} {P:Program} {o:Oper} {a:Act} {g:G} {w:World} {F:List S} {h:ze}
theorem zf8:∀ (vs:List Value) (k off:Nat) (cs:List Value),off+k+vs.length<=cs.length →
    ((vs.zipIdx k).foldl (fun(cs:Array Value) (p:Value×Nat)=>cs.setIfInBounds (off+p.2) p.1) cs.toArray).toList=cs.take (off+k)++vs++cs.drop (off+k+vs.length)
 | [],k,off,cs,_=>by simp
 | v :: vs,k,off,cs,h=>by
   rw[List.zipIdx_cons,List.foldl_cons];simp only[List.setIfInBounds_toArray];have hl:off+(k+1)+vs.length<=(cs.set (off+k) v).length:=by simp at h ⊢;omega
   rw[zf8 vs (k+1) off (cs.set (off+k) v) hl];apply ZM;intro j;simp only[zD] at h;simp only[ZP,Ze,Zh,Zd,zL,z5,zw,zD,List.getElem?_cons];have e1:min (off+(k+1)) cs.length=off+k+1:=by omega
   have e2:min (off+k) cs.length=off+k:=by omega
   simp only[e1,e2];by_cases h1:j < off+k
   . simp[show j < off+k+1 from by omega,show j < off+k+1+vs.length from by omega,show j < off+k+(vs.length+1) from by omega,h1,show ¬ off+k=j from by omega,show j < off+(k+1) from by omega]
   . by_cases h2:j=off+k
     . subst h2;simp[show off+k < off+k+1+vs.length from by omega,show off+k < off+k+(vs.length+1) from by omega,show off+k < off+(k+1) from by omega,show off+k < cs.length from by omega]
     . by_cases h3:j < off+k+1+vs.length
       . simp[h1,h3,show j < off+k+(vs.length+1) from by omega,show ¬ j < off+k+1 from by omega,show ¬ j - (off+k)=0 from by omega];congr 1 <;> omega
       . simp[h1,h3,show ¬ j < off+k+(vs.length+1) from by omega,show ¬ j < off+k+1 from by omega];rw[if_neg (by omega)];congr 1 <;> omega
theorem fill_set (v : Value) (off : Nat) (cells : Array Value) (h : off + v.cells.size <= cells.size) :
    (v.cells.zipIdx.foldl (fun cs (p:Value×Nat)=>cs.setIfInBounds (off+p.2) p.1) cells).toList=cells.toList.take off++v.cells.toList++cells.toList.drop (off+v.cells.size):=by
 have:=zf8 v.cells.toList 0 off cells.toList (by simpa using h);rw[<- Array.foldl_toList,Array.toList_zipIdx];simpa using this
theorem za5{im:Im}{io:Io}(pl:Nat->Option (Nat×Nat)):∀ (is:List Nat) (vs:List V) (us:List Value) (cs cs':List V) (cc:Array Value),VL im io vs us->is.length=vs.length->VL im io cs cc.toList->Ones cs->zcV pl cs (is.zip vs)=some cs' →
    ∃ cc',Instr.fill pl cc (is.zip us)=some cc'/\VL im io cs' cc'.toList/\Ones cs'
 | [],vs,us,cs,cs',cc,hv,hl,hc,ho,hf=>by
   simp[zcV] at hf;subst hf;exact⟨cc,by simp[Instr.fill],hc,ho⟩
 | i :: is,[],us,cs,cs',cc,hv,hl,hc,ho,hf=>by simp at hl
 | i :: is,v :: vs,us,cs,cs',cc,hv,hl,hc,ho,hf=>by
   obtain⟨u,us',rfl,hu,hv'⟩:=hv.uncons;rw[Qu] at hf ⊢;unfold zcV at hf;unfold Instr.fill;split at hf
   . rename_i off n hp;split at hf
     . rename_i hc';obtain⟨hn,hlt⟩:=hc';have hcl:=hu.cells;have hus:u.cells.size=n:=by rw[<- hn,hcl.1.1];simp
       have hcs:=hc.1;simp at hcs;have h1:(u.cells.size != n || decide (off+u.cells.size > cc.size))=false:=by
        simp[hus];omega
       rw[hp];simp only[ne_eq,h1];have hset:=fill_set u off cc (by omega);have hnew:VL im io (setR cs off v.cells) (u.cells.zipIdx.foldl (fun cs (p:Value×Nat)=>cs.setIfInBounds (off+p.2) p.1) cc).toList:=by
        rw[hset];have:=hc.setR hcl.1 (o:=off) (by omega);rwa[show u.cells.toList.length=u.cells.size from by simp] at this
       obtain⟨cc',e1,e2,e3⟩:=za5 pl is vs us' _ cs' _ hv' (by simpa using hl) hnew (ho.setR hcl.2 _) hf;refine⟨cc',?_,e2,e3⟩;rw[<- e1];simp[hus];intro hh;omega
     . cases hf
   . cases hf
theorem zll {t : TypeId} {ps : Array (Nat × Operand)} {vs z cs : List V} {F1 : List S} {h1 : ze} {pl : List (Nat × Nat)} (ho : o.op = .build t ps) (he : YL vc F h (ps.toList.map (·.2)) = some (vs, F1, h1)) (hz : Q1 P t = some z) (hp : zg5 P t = some pl)
    (hf':zcV (fun i=>pl[i]?) z ((ps.toList.map (·.1)).zip vs)=some cs) (hh:Hinv g h w) (hf:Finv g F a.tmps w):QG P o a g w (put F1 o.dst (.v (.agg cs))) h1:=by
 obtain⟨g1,a1,a2,a3,a4⟩:=Jf hh hf he;obtain⟨i,zv,hi,hzv,hzs,hzl,hzo,_,_⟩:=Q9 hz;unfold zg5 at hp;split at hp
 . rename_i fs hu;have hlen:(ps.toList.map (·.1)).length=vs.length:=by have:=a4.1;simp at this ⊢;omega
   obtain⟨cc',e1,e2,e3⟩:=za5 (fun i=>pl[i]?) _ vs _ z cs zv.cells a4 hlen (hzl _ _) hzo hf';refine XI (v:=.agg cc') ?_ a1 a2 a3 (e2.agg e3);have hmap:∀ (fl:List Field) (pl:List (Nat×Nat)),fl.mapM (fun f=>(Jy P f.type).map (f.offset,·))=some pl->(fl.mapM (m:=Sem) fun f=>do Pure.pure (f.offset,<- sizeOf f.type)).run P w=.ok pl w:=by
    intro fl
    induction fl with
    | nil=>intro pl h;simp at h;subst h;rfl
    | cons f fl ih =>
      intro pl h;rw[W8] at h;simp only[bind,Qx,pure,Option.some.injEq] at h;obtain⟨x,hx,r,hr,rfl⟩:=h;cases hs:Jy P f.type with
      | none=>simp[hs] at hx
      | some n =>
        simp[hs] at hx;subst hx;rw[W8];simp only[Sem.run_bind,zcs hs,Result.andThen_ok,Sem.run_pure,ih r hr]
   have hm:=hmap fs.toList pl hp;have hzip:(ps.toList.map (·.1)).zip ((ps.toList.map (·.2)).map a.eval)=ps.toList.map (fun p=>(p.1,a.eval p.2)):=by
    generalize ps.toList=l
    induction l with
    | nil=>rfl
    | cons p l ih=>rw[zW,zW,zW,Qu,ih,zW]
   rw[hzip] at e1;simp only[execOp,ho,Instr.build,Sem.run_bind,YB hi hzv,Result.andThen_ok,run_underlying hu,Wo,Sem.run_map,hm,Array.toList_map];have e1':Instr.fill (fun x=>pl.toArray[x]?) zv.cells (List.map (fun x=>(x.1,a.eval x.2)) ps.toList)=some cc':=by simpa using e1
   simp only[e1'];rfl
 . cases hp
theorem ziC {t : TypeId} {ps : Array (Nat × Operand)} {vs z cs : List V} {F1 : List S} {h1 : ze} {len sz : Nat} (ho : o.op = .build t ps) (he : YL vc F h (ps.toList.map (·.2)) = some (vs, F1, h1)) (hz : Q1 P t = some z) (hp : zcU P t = some (len, sz))
    (hf':zcV (fun i=>some (i * sz,sz)) z ((ps.toList.map (·.1)).zip vs)=some cs) (hh:Hinv g h w) (hf:Finv g F a.tmps w):QG P o a g w (put F1 o.dst (.v (.agg cs))) h1:=by
 obtain⟨g1,a1,a2,a3,a4⟩:=Jf hh hf he;obtain⟨i,zv,hi,hzv,hzs,hzl,hzo,_,_⟩:=Q9 hz;unfold zcU at hp;split at hp
 . rename_i len' e hu;split at hp
   . rename_i ie hie;split at hp
     . cases hp
     . cases hp;have hlen:(ps.toList.map (·.1)).length=vs.length:=by have:=a4.1;simp at this ⊢;omega
       obtain⟨cc',e1,e2,e3⟩:=za5 (fun i=>some (i * ie.size,ie.size)) _ vs _ z cs zv.cells a4 hlen (hzl _ _) hzo hf';refine XI (v:=.agg cc') ?_ a1 a2 a3 (e2.agg e3);have hzip:(ps.toList.map (·.1)).zip ((ps.toList.map (·.2)).map a.eval)=ps.toList.map (fun p=>(p.1,a.eval p.2)):=by
        generalize ps.toList=l
        induction l with
        | nil=>rfl
        | cons p l ih=>rw[zW,zW,zW,Qu,ih,zW]
       rw[hzip] at e1;have hsz:∀ w,(sizeOf e).run P w=.ok ie.size w:=fun w=>by simp[sizeOf,typeInfo,hie]
       simp only[execOp,ho,Instr.build,Sem.run_bind,YB hi hzv,Result.andThen_ok,run_underlying hu,hsz,Array.toList_map];have e1':Instr.fill (fun x=>some (x * ie.size,ie.size)) zv.cells (List.map (fun x=>(x.1,a.eval x.2)) ps.toList)=some cc':=by simpa using e1
       simp only[e1'];rfl
   . cases hp
 . cases hp
theorem qG(z:Array Value)(sz n:Nat)(hz:z.size=sz)(hpos:0 < sz):((Array.range (n * sz)).map (z[· % z.size]!)).toList=(List.replicate n z.toList).flatten:=by
 apply ZM;intro j;simp only[Array.toList_map,Array.toList_range,zF];by_cases hj:j < n * sz
 . rw[Qe hj];have hd:j / sz < n:=(Nat.div_lt_iff_lt_mul hpos).2 hj;have hm:j % sz < sz:=WD _ hpos;have:=YA (sz:=sz) (l:=List.replicate n z.toList) (fun es h=>by rw[ZK h];simpa using hz) (k:=j / sz) (j:=j % sz) (es:=z.toList) (by rw[Zw];simp[hd]) hm;rw[Nat.div_add_mod' j sz] at this;rw[this];simp[hz,hm]
 . rw[zS (by simp;omega)];rw[zS]
   . rfl
   . rw[Qf (sz:=sz) (fun es h=>by rw[ZK h];simpa using hz)];simp;omega
theorem VL.flat_rep {im : Im} {io : Io} {z : List V} {zc : List Value} (h : VL im io z zc) : ∀ n, VL im io (List.replicate n z).flatten (List.replicate n zc).flatten
 | 0=>.nil
 | n+1=>by
   rw[XP,XP,XG,XG];exact h.append (VL.flat_rep h n)
theorem zei {t e sz n m : Nat} {l c : Operand} {z : List V} (ho : o.op = .makeSlice t l c) (hl : evN F l = some n) (hc : evN F c = some m) (he : QQ P t = some (e, sz)) (hz : (Ki P t).bind (Q1 P) = some z) (hnm : n <= m) (hn : m < lim) (hzl : z.length = sz)
    (hh:Hinv g h w) (hf:Finv g F a.tmps w):QG P o a g w (put F o.dst (.own e sz (List.replicate n z))) h:=by
 obtain⟨k1,hk1⟩:=QD hf hl;obtain⟨k2,hk2⟩:=QD hf hc;obtain⟨hu,i,hi,hsz,hpos,hby,z0,hz0,hz0s⟩:=Qd he;have hz':Q1 P e=some z:=by simpa[Ki,hu] using hz
 obtain⟨i',zv,hi',hzv,hzs,hzvl,hzo,_,_⟩:=Q9 hz';rw[hi] at hi';cases hi';rw[hz0] at hzv;cases hzv;have hcells:=qG z0.cells sz n hz0s hpos;have hones:∀ es∈List.replicate n z,es.length=sz/\Ones es:=fun es h=>by rw[ZK h];exact⟨hzl,hzo⟩
 have hvl:=(hzvl g.im g.io).flat_rep n;have hlen:((Array.range (m * sz)).map (z0.cells[· % z0.cells.size]!)).size=m * sz:=by simp
 have hcm:=qG z0.cells sz m hz0s hpos;unfold lim at hn;have hbytes:(i.bytes:Int) * m<=281474976710656:=by
  have h1:i.bytes * m<=65536 * 2147483648:=QB hby (by omega);rw[<- Int.natCast_mul];omega
 refine zby (ob:=.cells ((Array.range (m * sz)).map (z0.cells[· % z0.cells.size]!)) e) (v:=.slice (some ⟨w.heap.size,0,none⟩) n m) ?_ hh hf (.refl _ _) (fun k T hk=>?_) (by simp)
 . have hr:=run_make (P:=P) w t e i z0 hu hi hz0 k1 k2 (n:Int) (m:Int) (by omega) (by omega) (by omega) (by omega);simp only[madeCells,XR,hsz] at hr;simp only[execOp,ho,hk1,hk2,Sem.run_bind,hr,Result.andThen_ok,Sem.run_pure]
 . refine⟨(List.replicate n z0.cells.toList).flatten,⟨by rw[Qf (sz:=sz) (fun es h=>by rw[ZK h];simpa using hz0s)];simp,.inr ⟨w.heap.size,m,_,by simp,z2 _,heap_alloc_new w _,by simpa using hnm,by simp only[maxLen];omega,hlen,?_⟩⟩,hones,hvl,fun β hβ=>?_⟩
   . rw[hcm,ZZ];obtain⟨d,rfl⟩:=Nat.exists_eq_add_of_le hnm;rw[<- List.replicate_append_replicate,QF,List.take_left' (Qf (sz:=sz) (fun es h=>by rw[ZK h];simpa using hz0s) |>.trans (by simp))]
   . cases hβ;exact G.own_same _ _ _
end
end Go.L
namespace Go.L
open Go.RowKit
section
variable {vc:Bool} {P:Program} {o:Oper} {a:Act} {g:G} {w:World} {F:List S} {h:ze}
theorem zc1{im:Im}{io:Io}(sz:Nat):∀ (is:List Nat) (vs:List V) (us:List Value) (l l':List (List V)) (cc:Array Value),VL im io vs us->is.length=vs.length->VL im io l.flatten cc.toList->(∀ es∈l,es.length=sz/\Ones es) →
    (is.zip vs).foldlM (fun(l:List (List V)) (p:Nat×V)=>if p.2.cells.length=sz/\p.1 < l.length then some (l.set p.1 p.2.cells) else none) l=some l' →
    ∃ cc',Instr.fill (fun i=>some (i * sz,sz)) cc (is.zip us)=some cc'/\VL im io l'.flatten cc'.toList/\(∀ es∈l',es.length=sz/\Ones es)/\l'.length=l.length
 | [],vs,us,l,l',cc,hv,hl,hc,ho,hf=>by
   simp at hf;subst hf;exact⟨cc,by simp[Instr.fill],hc,ho,rfl⟩
 | i :: is,[],us,l,l',cc,hv,hl,hc,ho,hf=>by simp at hl
 | i :: is,v :: vs,us,l,l',cc,hv,hl,hc,ho,hf=>by
   obtain⟨u,us',rfl,hu,hv'⟩:=hv.uncons;rw[Qu] at hf ⊢;rw[JF] at hf;simp only[bind,Qx] at hf;obtain⟨l1,h1,h2⟩:=hf;split at h1
   . rename_i hcond;obtain⟨hn,hlt⟩:=hcond;cases h1;have hcl:=hu.cells;have hus:u.cells.size=sz:=by rw[<- hn,hcl.1.1];simp
     obtain⟨es,hes⟩:∃ es,l[i]?=some es:=⟨_,zf hlt⟩;have hesl:=(ho es (zM hes)).1;have hcs:=hc.1;rw[Qf (fun es h=>(ho es h).1)] at hcs;simp at hcs;have hmul:i * sz+sz<=l.length * sz:=by rw[<- X3];exact XX _ hlt
     have hset:=fill_set u (i * sz) cc (by omega);have hfl:=KR (fun es h=>(ho es h).1) hes (c:=0) (vs:=v.cells) (by omega);rw[YY (by omega)] at hfl;simp only[J9,zX,zq,hn,z8] at hfl;rw[show es.drop sz=[] from ZC (by omega),z6] at hfl;have hnew:VL im io (l.set i v.cells).flatten (u.cells.zipIdx.foldl (fun cs (p:Value×Nat)=>cs.setIfInBounds (i * sz+p.2) p.1) cc).toList:=by
      rw[hset,hfl,hus];exact((hc.take _).append hcl.1).append (hc.drop _)
     obtain⟨cc',e1,e2,e3,e4⟩:=zc1 sz is vs us' _ l' _ hv' (by simpa using hl) hnew (fun es' hes'=>by
      rcases Qb hes' with hm|rfl
      . exact ho es' hm
      . exact⟨hn,hcl.2⟩) h2
     refine⟨cc',?_,e2,e3,by rw[e4,zw]⟩;have h0:((u.cells.size != sz) || decide (i * sz+u.cells.size > cc.size))=false:=by simp[hus];omega
     rw[Instr.fill];simp only[ne_eq];rw[if_neg (by simp[hus];omega)];exact e1
   . cases h1
theorem zdr {t e sz n : Nat} {ps : Array (Nat × Operand)} {vs z : List V} {l : List (List V)} {F1 : List S} {h1 : ze} (ho : o.op = .buildSlice t n ps) (he : YL vc F h (ps.toList.map (·.2)) = some (vs, F1, h1)) (hez : QQ P t = some (e, sz))
    (hz:(Ki P t).bind (Q1 P)=some z) (hzl:z.length=sz/\n * sz<=65536/\0 < n)
    (hl:((ps.toList.map (·.1)).zip vs).foldlM (fun(l:List (List V)) (p:Nat×V)=>if p.2.cells.length=sz/\p.1 < l.length then some (l.set p.1 p.2.cells) else none) (List.replicate n z)=some l)
    (hh:Hinv g h w) (hf:Finv g F a.tmps w):QG P o a g w (put F1 o.dst (.own e sz l)) h1:=by
 obtain⟨g1,a1,a2,a3,a4⟩:=Jf hh hf he;obtain⟨hu,i,hi,hsz,hpos,hby,z0,hz0,hz0s⟩:=Qd hez;have hz':Q1 P e=some z:=by simpa[Ki,hu] using hz
 obtain⟨i',zv,hi',hzv,hzs,hzvl,hzo,_,_⟩:=Q9 hz';rw[hi] at hi';cases hi';rw[hz0] at hzv;cases hzv;have hcells:=qG z0.cells sz n hz0s hpos;have hones:∀ es∈List.replicate n z,es.length=sz/\Ones es:=fun es h=>by rw[ZK h];exact⟨hzl.1,hzo⟩
 have hvl:=(hzvl g1.im g1.io).flat_rep n;rw[<- hcells] at hvl;have hlen:(ps.toList.map (·.1)).length=vs.length:=by have:=a4.1;simp at this ⊢;omega
 obtain⟨cc',e1,e2,e3,e4⟩:=zc1 sz _ vs _ _ l _ a4 hlen hvl hones hl;have hzip:(ps.toList.map (·.1)).zip ((ps.toList.map (·.2)).map a.eval)=ps.toList.map (fun p=>(p.1,a.eval p.2)):=by
  generalize ps.toList=l
  induction l with
  | nil=>rfl
  | cons p l ih=>rw[zW,zW,zW,Qu,ih,zW]
 rw[hzip] at e1;have hll:l.length=n:=by rw[e4];simp
 have hnl:n<=65536:=ZY (Nat.le_mul_of_pos_right _ hpos) hzl.2.1;refine zby (ob:=.cells cc' e) (v:=.slice (some ⟨w.heap.size,0,none⟩) l.length n) ?_ a1 a2 a3 (fun k T hk=>?_) (by simp)
 . have hbig : ¬ n * sz > 2 ^ 24 := by have : (2 : Nat) ^ 24 = 16777216 := by decide
                                       omega
   have e1':Instr.fill (fun i=>some (i * sz,sz)) ((Array.range (n * sz)).map (z0.cells[· % z0.cells.size]!)) (Array.map (fun x=>(x.1,a.eval x.2)) ps).toList=some cc':=by simpa using e1
   simp only[execOp,ho,Instr.buildSlice,Sem.run_bind,run_underlying hu,Result.andThen_ok,sizeOf,typeInfo,run_program,hi,Sem.run_pure,hsz,hbig,if_false];have hz1:¬ n * sz=0:=by
    have:=Nat.mul_pos hzl.2.2 hpos;omega
   simp only[hz1,if_false,Sem.run_bind,YB hi hz0,Result.andThen_ok,Sem.run_pure,e1',newRow,run_newObj,hll];rfl
 . have hcs:cc'.size=n * sz:=by
     have:=e2.1;rw[Qf (fun es h=>(e3 es h).1),hll] at this;simpa using this.symm
   refine⟨cc'.toList,⟨by simpa[hll] using hcs,.inr ⟨w.heap.size,n,cc',rfl,z2 _,heap_alloc_new _ _,by omega,by simp only[maxLen];omega,hcs,by rw[hll];exact zU (by simp[hcs])⟩⟩,e3,e2,fun β hβ=>?_⟩;cases hβ;exact G.own_same _ _ _
end
end Go.L
namespace Go.L
open Go.RowKit
section
variable {vc:Bool} {P:Program} {o:Oper} {a:Act} {g:G} {w:World} {F:List S} {h:ze}
theorem zqk(a:Addr)(i j:Nat):(a.add i).add j=a.add (i+j):=by
 unfold Addr.add;by_cases hi:i=0 <;> by_cases hj:j=0 <;> simp[hi,hj,ZR]
theorem Qv{n y:Nat}{k:IntKind}(hle:n<=y)(c:BoundsCode)(w:World):(Instr.sliceBound (.int k (n:Int)) y c).run P w=.ok n w:=by
 have:(0:Int)<=n/\(n:Int)<=y:=by omega
 simp[Instr.sliceBound,asIntOf,this]
theorem zlm {t e sz sz' : Nat} {x : Operand} {lo hi mx : Option Operand} {l : List (List V)} {ex : Bool} {F1 : List S} {h1 : ze} {p q : Nat} {m : Option Nat} (ho : o.op = .slice t x lo hi mx) (hez : QQ P t = some (e, sz)) (he : evE vc F h x = some (.sl sz' l ex, F1, h1)) (hz : sz' = sz \/ l.isEmpty = true)
    (hlo:qq F1 0 lo=some p) (hhi:qq F1 l.length hi=some q) (hmx:zdn F1 mx=some m)
    (hpq:p<=q) (hq:q<=l.length) (hm:m=none\/m=some q) (hmh:(mx.isNone || hi.isSome)=true) (hh:Hinv g h w) (hf:Finv g F a.tmps w):QG P o a g w (put F1 o.dst (.v (.sl sz ((l.take q).drop p) m.isSome))) h1:=by
 obtain⟨g1,a1,a2,a3,a5⟩:=Qk hh hf he;have a4:VR g1.im g1.io (.sl sz l ex) (a.eval x):=by
  rcases hz with rfl|hz
  . exact a5
  . have:l=[]:=by simpa using hz
    subst this;generalize a.eval x=y at a5;cases a5 with
    | sl _ _ _ A cap ad ys hA hx hc hm hs hi hr=>exact .sl sz [] ex A cap ad ys hA hx hc hm (by simp) (by simp) (by simp)
 obtain⟨hu,i,hi',hsz,hpos,hby,z0,hz0,hz0s⟩:=Qd hez;generalize hev:a.eval x=xv at a4;cases a4 with
 | sl _ _ _ A cap ad ys hA hx hc hm' hs hi2 hr =>
   have hlov:(match lo.map a.eval with|some v=>∃ k,v=.int k (p:Int)|none=>p=0):=by
    cases lo with
    | none=>simpa[qq] using hlo.symm
    | some y=>exact QD a2 hlo
   have hhiv:(match hi.map a.eval with|some v=>∃ k,v=.int k (q:Int)|none=>q=l.length):=by
    cases hi with
    | none=>simp[qq] at hhi;exact hhi.symm
    | some y=>exact QD a2 hhi
   obtain⟨M,hM,hMq,hMx⟩:∃ M:Nat,(match mx.map a.eval with|some v=>∃ k,v=.int k (M:Int)|none=>M=cap)/\(q<=M/\M<=cap)/\(m.isSome=true->M=q):=by
    cases mx with
    | none =>
      refine⟨cap,rfl,by omega,fun hs=>?_⟩;simp[zdn] at hmx;subst hmx;simp at hs
    | some y =>
      cases hy:evN F1 y with
      | none=>simp[zdn,hy] at hmx
      | some n =>
        simp[zdn,hy] at hmx;subst hmx;rcases hm with hm|hm
        . cases hm
        . cases hm;obtain⟨k,hk⟩:=QD a2 hy;exact⟨q,⟨k,hk⟩,by omega,fun _=>rfl⟩
   have hsb:(Instr.sliceBounds true l.length cap (lo.map a.eval) (hi.map a.eval) (mx.map a.eval)).run P w=.ok (p,q,M) w:=by
    cases mx with
    | none =>
      simp at hM;subst hM;cases hi with
      | none =>
        simp at hhiv;subst hhiv;cases lo with
        | none=>simp at hlov;subst hlov;simp[Instr.sliceBounds]
        | some y=>simp at hlov;obtain⟨k,hk⟩:=hlov;simp[Instr.sliceBounds,hk,Qv hpq]
      | some y2 =>
        simp at hhiv;obtain⟨k2,hk2⟩:=hhiv;cases lo with
        | none=>simp at hlov;subst hlov;simp[Instr.sliceBounds,hk2,Qv hMq.1]
        | some y=>simp at hlov;obtain⟨k,hk⟩:=hlov;simp[Instr.sliceBounds,hk,hk2,Qv hpq,Qv hMq.1]
    | some y3 =>
      simp at hM;obtain⟨k3,hk3⟩:=hM;cases hi with
      | none=>simp at hmh
      | some y2 =>
        simp at hhiv;obtain⟨k2,hk2⟩:=hhiv;cases lo with
        | none=>simp at hlov;subst hlov;simp[Instr.sliceBounds,hk2,hk3,Qv hMq.1,Qv hMq.2]
        | some y=>simp at hlov;obtain⟨k,hk⟩:=hlov;simp[Instr.sliceBounds,hk,hk2,hk3,Qv hpq,Qv hMq.1,Qv hMq.2]
   have hlen:((l.take q).drop p).length=q - p:=by simp;omega
   refine XI (v:=.slice (if M=p then A else A.map (·.add (p * sz))) (q - p) (M - p)) ?_ a1 a2 a3 ?_
   . simp[execOp,ho,hev,Instr.sliceAt,Instr.slice,run_underlying hu,hsb,sizeOf,typeInfo,hi',hsz]
   . have:=VR.sl (im:=g1.im) (io:=g1.io) sz ((l.take q).drop p) m.isSome (if M=p then A else A.map (·.add (p * sz))) (M - p) (ad.add (p * sz)) (fun k j=>ys (k+p) j) ?_ ?_ ?_ ?_ ?_ ?_ ?_
     . rwa[hlen] at this
     . rcases ZX p q with hlt|hge
       . right;rw[if_neg (by omega)];rcases hA with hA|hA
         . subst hA;simp at hq;omega
         . rw[hA];rfl
       . left;apply Zr;omega
     . intro hs;rw[hlen,hMx hs]
     . rw[hlen];omega
     . omega
     . intro es hes;exact hs es (Zs (Zk hes))
     . intro k es j x hk hj;rw[Zh,Ze] at hk;split at hk
       . rw[Nat.add_comm] at hk;rw[zqk,show p * sz+(k * sz+j)=(k+p) * sz+j from by rw[Nat.add_mul];omega];exact hi2 _ es j x hk hj
       . cases hk
     . intro k es j x hk hj;rw[Zh,Ze] at hk;split at hk
       . rw[Nat.add_comm] at hk;exact hr _ es j x hk hj
       . cases hk
theorem zds {t e sz : Nat} {x ym yh : Operand} {lo : Option Operand} {b u v : Nat} {F1 : List S} {h1 : ze} {q : Nat} (ho : o.op = .slice t x lo (some yh) (some ym)) (hez : QQ P t = some (e, sz)) (he : evE vc F h x = some (.row b sz u v, F1, h1))
    (hlo:qq F1 0 lo=some q) (hhi:evN F1 yh=some q) (hmx:evN F1 ym=some q) (hq:q<=v - u) (hh:Hinv g h w) (hf:Finv g F a.tmps w):QG P o a g w (put F1 o.dst (.v (.sl sz [] true))) h1:=by
 obtain⟨g1,a1,a2,a3,a4⟩:=Qk hh hf he;obtain⟨hu,i,hi',hsz,hpos,hby,z0,hz0,hz0s⟩:=Qd hez;obtain⟨k2,hk2⟩:=QD a2 hhi;obtain⟨k3,hk3⟩:=QD a2 hmx;have hlov:(match lo.map a.eval with|some v=>∃ k,v=.int k (q:Int)|none=>q=0):=by
  cases lo with
  | none=>simpa[qq] using hlo.symm
  | some y=>exact QD a2 hlo
 have hsb:∀ cap,q<=cap->(Instr.sliceBounds true (v - u) cap (lo.map a.eval) (some (a.eval yh)) (some (a.eval ym))).run P w=.ok (q,q,q) w:=fun cap hcap=>by
  cases lo with
  | none=>simp at hlov;simp[Instr.sliceBounds,hk2,hk3,Qv hcap,Qv (zn q)];omega
  | some y=>simp at hlov;obtain⟨k,hk⟩:=hlov;simp[Instr.sliceBounds,hk,hk2,hk3,Qv hcap,Qv (zn q)]
 generalize hev:a.eval x=xv at a4;have hvr:∀ A,VR g1.im g1.io (.sl sz [] true) (.slice A 0 0):=fun A=>by
  have:=VR.sl (im:=g1.im) (io:=g1.io) sz [] true A 0 ⟨0,0,none⟩ (fun _ _=>.nilFunc) (.inl rfl) (fun _=>rfl) (zn _) (by simp[maxLen]) (by simp) (by simp) (by simp);simpa using this
 cases a4 with
 | row _ _ _ _ β o' cap U q0 q1 q2 q3 q4 =>
   refine XI (v:=.slice (if q=q then some ⟨β,U,none⟩ else(some (⟨β,U,none⟩:Addr)).map (·.add (q * sz))) (q - q) (q - q)) ?_ a1 a2 a3 (by rw[X8];exact hvr _);have:=hsb (cap - u) (by omega);simp[execOp,ho,hev,Instr.sliceAt,Instr.slice,run_underlying hu,this,sizeOf,typeInfo,hi',hsz]
 | rowN =>
   have hq':q=0:=by omega
   subst hq';refine XI (v:=.slice none 0 0) ?_ a1 a2 a3 (hvr _);have:=hsb 0 (zn _);simp at this;simp[execOp,ho,hev,Instr.sliceAt,Instr.slice,run_underlying hu,this,sizeOf,typeInfo,hi',hsz]
theorem zej {t e sz : Nat} {x : Operand} {lo hi : Option Operand} {b u v : Nat} {F1 : List S} {h1 : ze} {p q : Nat} (ho : o.op = .slice t x lo hi none) (hez : QQ P t = some (e, sz)) (he : evE vc F h x = some (.row b sz u v, F1, h1))
    (hlo:qq F1 0 lo=some p) (hhi:qq F1 (v - u) hi=some q) (hpq:p<=q) (hq:q<=v - u) (hh:Hinv g h w) (hf:Finv g F a.tmps w):QG P o a g w (put F1 o.dst (.v (.row b sz (u+p) (u+q)))) h1:=by
 obtain⟨g1,a1,a2,a3,a4⟩:=Qk hh hf he;obtain⟨hu,i,hi',hsz,hpos,hby,z0,hz0,hz0s⟩:=Qd hez;have hlov:(match lo.map a.eval with|some v=>∃ k,v=.int k (p:Int)|none=>p=0):=by
  cases lo with
  | none=>simpa[qq] using hlo.symm
  | some y=>exact QD a2 hlo
 have hhiv:(match hi.map a.eval with|some v=>∃ k,v=.int k (q:Int)|none=>q=v - u):=by
  cases hi with
  | none=>simp[qq] at hhi;exact hhi.symm
  | some y=>exact QD a2 hhi
 have hsb:∀ cap,q<=cap->(Instr.sliceBounds true (v - u) cap (lo.map a.eval) (hi.map a.eval) none).run P w=.ok (p,q,cap) w:=fun cap hcap=>by
  cases hi with
  | none =>
    simp at hhiv;subst hhiv;cases lo with
    | none=>simp at hlov;subst hlov;simp[Instr.sliceBounds]
    | some y=>simp at hlov;obtain⟨k,hk⟩:=hlov;simp[Instr.sliceBounds,hk,Qv hpq]
  | some y2 =>
    simp at hhiv;obtain⟨k2,hk2⟩:=hhiv;cases lo with
    | none=>simp at hlov;subst hlov;simp[Instr.sliceBounds,hk2,Qv hcap]
    | some y=>simp at hlov;obtain⟨k,hk⟩:=hlov;simp[Instr.sliceBounds,hk,hk2,Qv hpq,Qv hcap]
 generalize hev:a.eval x=xv at a4;cases a4 with
 | row _ _ _ _ β o' cap U q0 q1 q2 q3 q4 =>
   refine XI (v:=.slice (if cap - u=p then some ⟨β,U,none⟩ else(some (⟨β,U,none⟩:Addr)).map (·.add (p * sz))) (q - p) (cap - u - p)) ?_ a1 a2 a3 ?_
   . have:=hsb (cap - u) (by omega);simp[execOp,ho,hev,Instr.sliceAt,Instr.slice,run_underlying hu,this,sizeOf,typeInfo,hi',hsz]
   . have key:∀ U',(U'=o'+(u+p) * sz\/(cap=u+p/\0 < u+p))->VR g1.im g1.io (.row b sz (u+p) (u+q)) (.slice (some ⟨β,U',none⟩) (q - p) (cap - u - p)):=fun U' hU=>by
       have:=VR.row (im:=g1.im) (io:=g1.io) b sz (u+p) (u+q) β o' cap U' q0 (by omega) (by omega) q3 hU;rwa[show u+q - (u+p)=q - p by omega,show cap - (u+p)=cap - u - p by omega] at this
     split
     . rename_i hM;refine key U ?_;by_cases h0:u+p=0
       . left;rcases q4 with h|⟨_,h⟩
         . rw[h];have h1:u=0:=by omega
           have h2:p=0:=by omega
           rw[h1,h2]
         . omega
       . right;omega
     . rename_i hM;rw[Z5,zcr];refine key _ (.inl ?_);rcases q4 with h|⟨h,_⟩
       . rw[h,Nat.add_mul];omega
       . omega
 | rowN =>
   have hp:p=0:=by omega
   have hq':q=0:=by omega
   subst hp;subst hq';refine XI (v:=.slice none 0 0) ?_ a1 a2 a3 (.rowN _ _ (by assumption));have:=hsb 0 (zn _);simp at this;simp[execOp,ho,hev,Instr.sliceAt,Instr.slice,run_underlying hu,this,sizeOf,typeInfo,hi',hsz]
theorem zql {c : Call} {t : TypeId} {x : Operand} {sz : Nat} {l : List (List V)} (ho : o.op = .call c) (hc : c.callee = .builtin .len) (hts : c.argTypes.toList = [t]) (has : c.args.toList = [x]) {e : TypeId} (hu : P.underlying t = some (.slice e)) (he : evC F h x = some (sz, l))
    (hh:Hinv g h w) (hf:Finv g F a.tmps w):QG P o a g w (put F o.dst (.v (.int .i64 l.length))) h:=by
 obtain⟨A,cap,ad,hv,_⟩:=Wc hh hf he;have h1:c.argTypes=#[t]:=by apply Array.ext';simpa using hts
 have h2:c.args=#[x]:=by apply Array.ext';simpa using has
 refine XI (v:=.int .i64 l.length) ?_ hh hf (.refl _ _) (.int _ _);simp[execOp,ho,resolve,hc,invoke,builtin,Builtin.len_,h1,h2,run_underlying hu,hv,goInt]
theorem zhg {c : Call} {t : TypeId} {x : Operand} {s : ByteArray} (ho : o.op = .call c) (hc : c.callee = .builtin .len) (hts : c.argTypes.toList = [t]) (has : c.args.toList = [x]) (hu : P.underlying t = some .string) (he : evV F x = some (.str s))
    (hh:Hinv g h w) (hf:Finv g F a.tmps w):QG P o a g w (put F o.dst (.v (.int .i64 s.size))) h:=by
 have hv:=ZW hf he;generalize hev:a.eval x=xv at hv;cases hv;have h1:c.argTypes=#[t]:=by apply Array.ext';simpa using hts
 have h2:c.args=#[x]:=by apply Array.ext';simpa using has
 refine XI (v:=.int .i64 s.size) ?_ hh hf (.refl _ _) (.int _ _);simp[execOp,ho,resolve,hc,invoke,builtin,Builtin.len_,h1,h2,run_underlying hu,hev,goInt]
theorem zhh {c : Call} {t : TypeId} {x : Operand} {b : Nat} {es : List (V × V)} (ho : o.op = .call c) (hc : c.callee = .builtin .len) (hts : c.argTypes.toList = [t]) (has : c.args.toList = [x]) {k e : TypeId} (hu : P.underlying t = some (.map k e)) (he : evV F x = some (.map b)) (hb : h[b]? = some (.map es))
    (hh:Hinv g h w) (hf:Finv g F a.tmps w):QG P o a g w (put F o.dst (.v (.int .i64 es.length))) h:=by
 have hv:=ZW hf he;generalize hev:a.eval x=xv at hv;cases hv with
 | map _ β hβ =>
   obtain⟨β',h1,h2,ms,clock,hm,hl,_⟩:=hh.hp b _ hb;rw[h1] at hβ;cases hβ;have h1:c.argTypes=#[t]:=by apply Array.ext';simpa using hts
   have h2:c.args=#[x]:=by apply Array.ext';simpa using has
   refine XI (v:=.int .i64 ms.size) ?_ hh hf (.refl _ _) (by rw[hl];exact .int _ _);simp[execOp,ho,resolve,hc,invoke,builtin,Builtin.len_,h1,h2,run_underlying hu,hev,goInt,getObj,Sem.run,hm]
theorem ziD {base t ty e size c : Nat} {i : TypeInfo} {A : Option Addr} (ht : P.underlying t = some (.slice e)) (hi : P.info? e = some i)
    {v:Value} {n:Nat} {xs:List Value} (hown:w.ownsRow base e size v n xs) (hA:A=none):(Builtin.append_ #[t,t] ty #[v,.slice A 0 c]).run P w=.ok v w:=by
 subst hA;rcases hown.2 with ⟨rfl,rfl⟩|⟨g,cap,cur,rfl,_,_,hnc,_⟩
 . simp[Builtin.append_,run_underlying ht,Go.sizeOf,Go.typeInfo,hi,Builtin.lenOf,Builtin.firstCells]
 . simp[Builtin.append_,run_underlying ht,Go.sizeOf,Go.typeInfo,hi,Builtin.lenOf,Builtin.firstCells,hnc,storeCells]
theorem WG {A : Option Addr} {ad : Addr} {sz : Nat} {l : List (List V)} {im : Im} {io : Io} (hA : l = [] \/ A = some ad) (hs : ∀ es ∈ l, es.length = sz /\ Ones es) (hpos : 0 < sz)
    {ys:Nat->Nat->Value} (hr:∀ (k:Nat) es (j:Nat) x,l[k]?=some es->es[j]?=some x->w.cell? (ad.add (k * sz+j))=some (ys k j)/\VR im io x (ys k j)) :
    ∃ news:List Value,news.length=l.length * sz/\VL im io l.flatten news/\∀ (j:Nat) u,news[j]?=some u->w.cell? (ad.add j)=some u:=by
 have hfl:=Qf (fun es h=>(hs es h).1);have key:∀ j,j < l.length * sz->∃ x,l.flatten[j]?=some x/\w.cell? (ad.add j)=some (ys (j / sz) (j % sz))/\VR im io x (ys (j / sz) (j % sz)):=fun j hj=>by
  have hd:j / sz < l.length:=(Nat.div_lt_iff_lt_mul hpos).2 hj;have hm:j % sz < sz:=WD _ hpos;obtain⟨es,hes⟩:∃ es,l[j / sz]?=some es:=⟨_,zf hd⟩;have hel:=(hs es (zM hes)).1;obtain⟨x,hx⟩:∃ x,es[j % sz]?=some x:=⟨_,zf (by omega)⟩;have h1:=YA (fun es h=>(hs es h).1) hes hm;rw[Nat.div_add_mod' j sz,hx] at h1;have h2:=hr _ es _ x hes hx;rw[Nat.div_add_mod' j sz] at h2;exact⟨x,h1,h2⟩
 refine⟨(List.range (l.length * sz)).map fun j=>ys (j / sz) (j % sz),by simp,⟨by rw[hfl];simp,fun j x y h1 h2=>?_⟩,fun j u hu=>?_⟩
 . have hj:j < l.length * sz:=by rw[<- hfl];exact(zj.1 h1).1
   obtain⟨x',hx',_,hv⟩:=key j hj;rw[zF,Qe hj] at h2;rw[h1] at hx';cases hx';simp at h2;subst h2;exact hv
 . have hj:j < l.length * sz:=by have:=(zj.1 hu).1;simpa using this
   obtain⟨x',_,hc,_⟩:=key j hj;rw[zF,Qe hj] at hu;simp at hu;subst hu;exact hc
theorem WV {v v' : Value} {w' : World} {e sz s : Nat} {l news : List (List V)} {xs nc : List Value} {F1 : List S} (hrun : (execOp a.eval o).run P w = .ok (.value v') w') (hh : Hinv g h w) (hf : Finv g F1 a.tmps w) (hun : ∀ x, F1[s]? = some x -> lin x = false)
    (how:∀ β,v.ownBlock=some β->g.ow β=some (.slot s)) (h2:∀ es∈l,es.length=sz/\Ones es) (h3:VL g.im g.io l.flatten xs) (n2:∀ es∈news,es.length=sz/\Ones es) (n3:VL g.im g.io news.flatten nc)
    (hown:w'.ownsRow 0 e sz v' (l.length+news.length) (xs++nc)) (hg:w.grownBy w' v.ownBlock) (hob:∀ β,v'.ownBlock=some β->v.ownBlock=some β\/w.heap.size<=β):QG P o a g w (put F1 o.dst (.own e sz (l++news))) h:=by
 have hones:∀ es∈l++news,es.length=sz/\Ones es:=fun es hes=>(Zn.1 hes).elim (h2 es) (n2 es);have hvl:VL g.im g.io (l++news).flatten (xs++nc):=by rw[QF];exact h3.append n3
 have hsame:∀ β,β < w.heap.size->g.ow β≠some (.slot s)->w'.heap[β]?=w.heap[β]?:=fun β hβ hne=>hg.block β hβ fun e=>hne (how β e.symm)
 let g':G:=match v'.ownBlock with|some β=>g.own β (o.dst.map .slot)|none=>g
 have him:g'.im=g.im:=by show (match v'.ownBlock with|some β=>g.own β (o.dst.map .slot)|none=>g).im=_;split <;> rfl
 have hio:g'.io=g.io:=by show (match v'.ownBlock with|some β=>g.own β (o.dst.map .slot)|none=>g).io=_;split <;> rfl
 have howner:∀ β,v'.ownBlock=some β->g'.ow β=o.dst.map .slot:=fun β hβ=>by
  show (match v'.ownBlock with|some β=>g.own β (o.dst.map .slot)|none=>g).ow β=_;rw[hβ];exact G.own_same _ _ _
 have hother:∀ β,v'.ownBlock≠some β->g'.ow β=g.ow β:=fun β hβ=>by
  show (match v'.ownBlock with|some β=>g.own β (o.dst.map .slot)|none=>g).ow β=_;split
  . rename_i b hb;exact G.own_ne _ _ (by rintro rfl;exact hβ hb)
  . rfl
 have hkeep:∀ β,g.ow β≠some (.slot s)->β < w.heap.size->g'.ow β=g.ow β:=fun β h1 h2=>hother β fun e=>by
  rcases hob β e with h|h
  . exact h1 (how β h)
  . omega
 refine⟨v',w',g',.inl hrun,?_,?_,⟨fun p v hp=>by rw[him];exact hp,fun b β hb=>by rw[hio];exact hb,fun p v hp=>.inl (by rw[him] at hp;exact hp),fun β hβ h0=>?_,hg.os,hg.tape,hg.output,hg.size,fun β hβ h0=>hsame β hβ (by rw[h0];simp)⟩⟩
 . refine hh.keep him hio (fun β h0 hlt=>⟨?_,hsame β hlt (by rw[h0];simp)⟩) (fun β b hb=>⟨?_,hsame β (hh.ow β (by rw[hb];simp)) (by rw[hb];simp)⟩) (fun β hβ=>?_)
   . rw[hkeep β (by rw[h0];simp) hlt];exact h0
   . have:=hh.ow β (by rw[hb];simp);rw[hkeep β (by rw[hb];simp) (by omega)];exact hb
   . by_cases hv:v'.ownBlock=some β
     . exact(hown.lt β hv).2
     . rw[hother β hv] at hβ;exact Z1 (hh.ow β hβ) hg.size
 . refine Finv.put ?_ o.dst (.own e sz (l++news)) v' (fun k hk _=>show SR _ _ _ _ (.own e sz (l++news)) _ from⟨xs++nc,by rw[zL];exact hown,hones,by rw[him,hio];exact hvl,fun β hβ=>by rw[howner β hβ,hk];rfl⟩) (fun k e sz i c _ he=>by cases he);refine hf.keep2 (by rw[him];exact fun _ _ h=>h) (by rw[hio];exact fun _ _ h=>h) fun s' x hx hl β hβ=>?_;have hne:g.ow β≠some (.slot s):=fun e=>by
    rw[hβ] at e;injection e with e;injection e with e;subst e;rw[hun x hx] at hl;cases hl
   have hlt:=hh.ow β (by rw[hβ];simp);exact⟨by rw[hkeep β hne (by omega)];exact hβ,hsame β hlt hne⟩
 . rw[hkeep β (by rw[h0];simp) (by omega)];exact h0
end
end Go.L
namespace Go.L
open Go.RowKit
section
variable {vc:Bool} {P:Program} {o:Oper} {a:Act} {g:G} {w:World} {F:List S} {h:ze}
theorem zbA {sz : Nat} : ∀ {l : List (List V)} (hs : ∀ es ∈ l, es.length = sz) (n : Nat), (l.take n).flatten = l.flatten.take (n * sz)
 | [],_,n=>by simp
 | x :: l,hs,0=>by simp
 | x :: l,hs,n+1=>by
   have hx:=hs x (by simp);rw[List.take_succ_cons,XG,XG,zbA (fun es h=>hs es (by simp[h])) n,List.take_append,zU (l:=x) (by rw[hx,X3];omega),hx,show (n+1) * sz - sz=n * sz by rw[X3];omega]
theorem zbB {sz : Nat} : ∀ {l : List (List V)} (hs : ∀ es ∈ l, es.length = sz) (n : Nat), (l.drop n).flatten = l.flatten.drop (n * sz)
 | [],_,n=>by simp
 | x :: l,hs,0=>by simp
 | x :: l,hs,n+1=>by
   have hx:=hs x (by simp);rw[List.drop_succ_cons,XG,zbB (fun es h=>hs es (by simp[h])) n,List.drop_append,ZC (l:=x) (by rw[hx,X3];omega),hx,show (n+1) * sz - sz=n * sz by rw[X3];omega,zX]
theorem ziE{sz lo hi:Nat}{l:List (List V)}(hs:∀ es∈l,es.length=sz)(h1:lo<=hi)(h2:hi<=l.length):((l.take hi).drop lo).flatten=(l.flatten.take (hi * sz)).drop (lo * sz):=by
 rw[zbB (fun es h=>hs es (Zs h)),zbA hs]
theorem zf9{cur:List Value}{o lo hi n sz:Nat}(h1:lo<=hi)(h2:hi<=n):(cur.drop (o+lo * sz)).take ((hi - lo) * sz)=(((cur.drop o).take (n * sz)).take (hi * sz)).drop (lo * sz):=by
 have hm:hi * sz<=n * sz:=XX _ h2;rw[List.take_take,Q3 hm,List.drop_take,List.drop_drop,<- Nat.sub_mul]
theorem J2 {c : Call} {t : TypeId} {x y : Operand} (ho : o.op = .call c) (hc : c.callee = .builtin .append) (hts : c.argTypes.toList = [t, t]) (has : c.args.toList = [x, y]) {v' : Value} {w' : World}
    (hr:(Builtin.append_ #[t,t] o.type #[a.eval x,a.eval y]).run P w=.ok v' w'):(execOp a.eval o).run P w=.ok (.value v') w':=by
 have h1:c.argTypes=#[t,t]:=by apply Array.ext';simpa using hts
 have h2:c.args=#[x,y]:=by apply Array.ext';simpa using has
 simp only[execOp,ho,resolve,hc,Sem.run_bind,Sem.run_pure,Result.andThen_ok,invoke,builtin,h1,h2];simp[hr]
theorem YO {c : Call} {t e sz sz' s : Nat} {x y : Operand} {l news : List (List V)} {xs : List Value} {F1 : List S} (ho : o.op = .call c) (hc : c.callee = .builtin .append) (hts : c.argTypes.toList = [t, t]) (has : c.args.toList = [x, y])
    (hez:QQ P t=some (e,sz)) (hy:evC F h y=some (sz',news)) (hsz:sz'=sz\/news.isEmpty) (hlen:l.length+news.length < lim) (hh:Hinv g h w) (hf:Finv g F a.tmps w) (hf1:Finv g F1 a.tmps w) (hun:∀ x,F1[s]?=some x->lin x=false)
    (hown:w.ownsRow 0 e sz (a.eval x) l.length xs) (h2:∀ es∈l,es.length=sz/\Ones es) (h3:VL g.im g.io l.flatten xs) (h4:∀ β,(a.eval x).ownBlock=some β->g.ow β=some (.slot s)):QG P o a g w (put F1 o.dst (.own e sz (l++news))) h:=by
 obtain⟨hu,i,hi,his,hpos,hby,z0,hz0,hz0s⟩:=Qd hez;obtain⟨A,cap,ad,hv,hA,hs,ys,hr⟩:=Wc hh hf hy;have hs':∀ es∈news,es.length=sz/\Ones es:=fun es hes=>by
  rcases hsz with rfl|hn
  . exact hs es hes
  . simp at hn;subst hn;cases hes
 have hr':∀ (k:Nat) es (j:Nat) x,news[k]?=some es->es[j]?=some x->w.cell? (ad.add (k * sz+j))=some (ys k j)/\VR g.im g.io x (ys k j):=fun k es j x hk hj=>by
  rcases hsz with rfl|hn
  . exact hr k es j x hk hj
  . simp at hn;subst hn;simp at hk
 obtain⟨nc,n1,n2,n3⟩:=WG hA hs' hpos hr';unfold lim at hlen;have hb:(l.length+news.length) * i.bytes<=140737488355328:=by
  have:(l.length+news.length) * i.bytes<=2147483648 * 65536:=QB (by omega) hby;omega
 have hm:l.length+news.length<=maxLen:=by simp only[maxLen];omega
 cases A with
 | none =>
   have hn:news=[]:=by rcases hA with h|h <;> first|exact h|cases h
   subst hn;have hnc:nc=[]:=by simpa using n1
   subst hnc;have hr0:=ziD (P:=P) (ty:=o.type) (c:=cap) hu hi hown rfl;refine WV (v:=a.eval x) (xs:=xs) (nc:=[]) (J2 ho hc hts has (by rw[hv];exact hr0)) hh hf1 hun h4 h2 h3 hs' n2 (by simpa using hown) (World.grownBy.refl w _) (fun β hβ=>.inl hβ)
 | some q =>
   have hq:∀ (j:Nat) u,nc[j]?=some u->w.cell? (q.add j)=some u:=fun j u hj=>by
    rcases hA with hA|hA
    . subst hA;have hnc:nc=[]:=by simpa using n1
      subst hnc;simp at hj
    . cases hA;exact n3 j u hj
   have ho1:=n2.oneCell (fun x hx=>by
    obtain⟨es,hes,hx⟩:=JG.1 hx;exact(hs' es hes).2 x hx)
   obtain⟨v',w',r1,r2,r3,_,r5⟩:=run_append_own_at (P:=P) w 0 t o.type e i z0 sz i.bytes hu hi hz0 his rfl hz0s hpos (a.eval x) l.length xs hown q news.length cap nc n1 hq ho1 hm hb (z2 _);refine WV (v:=a.eval x) (J2 ho hc hts has (by rw[hv];exact r1)) hh hf1 hun h4 h2 h3 hs' n2 r2 r3 (fun β hβ=>?_);rcases r5 with r5|r5
   . left;rw[<- r5];exact hβ
   . right;rw[r5] at hβ;cases hβ;exact zn _
theorem jr{w:World}{base e size n:Nat}{v:Value}{xs:List Value}(h:w.ownsRow base e size v n xs):w.ownsRow 0 e size v n xs:=by
 obtain⟨h1,h2⟩:=h;refine⟨h1,?_⟩;rcases h2 with h2|⟨g,cap,cur,hv,hg,r⟩
 . exact .inl h2
 . exact .inr ⟨g,cap,cur,hv,z2 _,r⟩
theorem VR.resize{im:Im}{io:Io}{s1 s2:Nat}{l:List (List V)}{x:Bool}{v:Value}(h:s1=s2\/l.isEmpty=true)(hv:VR im io (.sl s1 l x) v):VR im io (.sl s2 l x) v:=by
 rcases h with rfl|h
 . exact hv
 . have hl:l=[]:=by simpa using h
   subst hl;cases hv with
   | sl _ _ _ A cap ad ys hA hx hc hm hs hi h=>exact .sl s2 [] x A cap ad ys hA hx hc hm (by simp) (by simp) (by simp)
theorem zc2 {c : Call} {t e sz sz' s0 s : Nat} {y : Operand} {news l' : List (List V)} {x : S} (ho : o.op = .call c) (hc : c.callee = .builtin .append) (hts : c.argTypes.toList = [t, t]) (has : c.args.toList = [.tmp s0, y]) (hse : a.eval (.tmp s) = a.eval (.tmp s0))
    (hez:QQ P t=some (e,sz)) (hy:evC F h y=some (sz',news)) (hsz:sz'=sz\/news.isEmpty) (hx:F[s]?=some x) (ha:app e sz x news=some l') (hh:Hinv g h w) (hf:Finv g F a.tmps w):QG P o a g w (put (put F (some s) .un) o.dst (.own e sz l')) h:=by
 have hun:∀ x,(put F (some s) .un)[s]?=some x->lin x=false:=fun x hx=>by rw[zld hx];rfl
 unfold app at ha;split at ha
 . rename_i e' sz2 l;split at ha
   . rename_i hcond;obtain⟨rfl,rfl,hlen⟩:=hcond;cases ha;obtain⟨xs,h1,h2,h3,h4⟩:=hf.getD hx;exact YO (x:=.tmp s0) (s:=s) ho hc hts has hez hy hsz hlen hh hf (hf.drop s) hun (by rw[<- hse];exact h1) h2 h3 (by rw[<- hse];exact h4)
   . cases ha
 . rename_i sz2 l;split at ha
   . rename_i hcond;obtain⟨hszz,hlen,hne⟩:=hcond;cases ha;have hv:VR g.im g.io (.sl sz l true) (a.eval (.tmp s)):=VR.resize hszz (hf.getD hx);rw[hse] at hv;generalize hev:a.eval (.tmp s0)=v at hv;cases hv with
     | sl _ _ _ A cap ad ys hA hx' hcp hm hs hi2 hr =>
       have hcap:=hx' rfl;subst hcap;obtain⟨hu,i,hi,his,hpos,hby,z0,hz0,hz0s⟩:=Qd hez;cases A with
       | none =>
         have hl:l=[]:=by rcases hA with h|h <;> first|exact h|cases h
         subst hl;have:=YO (x:=.tmp s0) (l:=[]) (xs:=[]) (F1:=put F (some s) .un) (s:=s) ho hc hts has hez hy hsz hlen hh hf (hf.drop s) hun (by rw[hev];exact World.ownsRow_nil _ _ _ _) (by simp) .nil (fun β hβ=>by rw[hev] at hβ;simp[Value.ownBlock] at hβ);simpa using this
       | some q =>
         have hread:∀ (k:Nat) es (j:Nat) x,l[k]?=some es->es[j]?=some x->w.cell? (ad.add (k * sz+j))=some (ys k j)/\VR g.im g.io x (ys k j):=fun k es j x hk hj=>⟨(hh.im _ _ (hi2 k es j x hk hj)).1,hr k es j x hk hj⟩;obtain⟨oc,o1,o2,o3⟩:=WG hA hs hpos hread;have hqo:∀ (j:Nat) u,oc[j]?=some u->w.cell? (q.add j)=some u:=fun j u hj=>by
          rcases hA with hA|hA
          . subst hA;have hnc:oc=[]:=by simpa using o1
            subst hnc;simp at hj
          . cases hA;exact o3 j u hj
         obtain⟨A2,cap2,ad2,hv2,hA2,hs2,ys2,hr2⟩:=Wc hh hf hy;have hs':∀ es∈news,es.length=sz/\Ones es:=fun es hes=>by
          rcases hsz with rfl|hn
          . exact hs2 es hes
          . simp at hn;subst hn;cases hes
         have hr':∀ (k:Nat) es (j:Nat) x,news[k]?=some es->es[j]?=some x->w.cell? (ad2.add (k * sz+j))=some (ys2 k j)/\VR g.im g.io x (ys2 k j):=fun k es j x hk hj=>by
          rcases hsz with rfl|hn
          . exact hr2 k es j x hk hj
          . simp at hn;subst hn;simp at hk
         obtain⟨nc,n1,n2,n3⟩:=WG hA2 hs' hpos hr';have hnn:news≠[]:=by intro hn;subst hn;simp at hne
         have hA2':A2=some ad2:=by rcases hA2 with h|h <;> first|exact absurd h hnn|exact h
         subst hA2';have hpn:0 < news.length:=Zy.2 hnn;unfold lim at hlen;have hb:(l.length+news.length) * i.bytes<=140737488355328:=by
          have:(l.length+news.length) * i.bytes<=2147483648 * 65536:=QB (by omega) hby;omega
         obtain⟨v',w',r1,r2,r3⟩:=run_append_arg_grows (P:=P) w t o.type e i z0 sz i.bytes hu hi hz0 his rfl hz0s hpos q l.length l.length oc o1 hqo ad2 news.length cap2 nc n1 n3 (by omega) (by simp only[maxLen];omega) hb;refine WV (v:=.slice none 0 0) (J2 ho hc hts has (by rw[hev,hv2];exact r1)) hh (hf.drop s) hun (fun β hβ=>by simp[Value.ownBlock] at hβ) hs o2 hs' n2 (jr r2) (by simpa[Value.ownBlock] using r3) (fun β hβ=>.inr (r2.lt β hβ).1)
   . cases ha
 . cases ha
theorem zdt {β off sLen sCap m cc t ty e e' : Nat} {i : TypeInfo} {q : Addr} {news : List Value} {cur : Array Value} (ht : P.underlying t = some (.slice e)) (hi : P.info? e = some i)
    (hl:news.length=m * i.size) (hnews:∀ (j:Nat) u,news[j]?=some u->w.cell? (q.add j)=some u) (h1:∀ u∈news,u.oneCell'=true) (hroom:sLen+m<=sCap) (hb:w.heap[β]?=some (.cells cur e' (0,0))) (hfit:off+sLen * i.size+news.length<=cur.size) :
    (Builtin.append_ #[t,t] ty #[.slice (some ⟨β,off,none⟩) sLen sCap,.slice (some q) m cc]).run P w=.ok (.slice (some ⟨β,off,none⟩) (sLen+m) sCap) (w.setRow β (cur.toList.take (off+sLen * i.size)++news++cur.toList.drop (off+sLen * i.size+news.length)).toArray):=by
 have hfc:=run_firstCells_some (P:=P) w i.size m q m cc news hl hnews;have hst:=run_storeCells_at P β (off+sLen * i.size) e' news 0 cur w hb (by simpa using hfit) h1;simp only[z8] at hst;simp[Builtin.append_,run_underlying ht,sizeOf,typeInfo,hi,Builtin.lenOf,hroom,hfc,Addr.add_lit,hst]
theorem zbC{t ty e c n cap:Nat}{i:TypeInfo}{A B:Option Addr}(ht:P.underlying t=some (.slice e))(hi:P.info? e=some i)(hn:n<=cap)(hB:B=none->n=0/\cap=0):(Builtin.append_ #[t,t] ty #[.slice B n cap,.slice A 0 c]).run P w=.ok (.slice B n cap) w:=by
 cases B with
 | none =>
   obtain⟨rfl,rfl⟩:=hB rfl;cases A with
   | none=>simp[Builtin.append_,run_underlying ht,Go.sizeOf,Go.typeInfo,hi,Builtin.lenOf,Builtin.firstCells]
   | some q=>simp[Builtin.append_,run_underlying ht,Go.sizeOf,Go.typeInfo,hi,Builtin.lenOf,Builtin.firstCells,loadCells,loadCellsFrom]
 | some b =>
   cases A with
   | none=>simp[Builtin.append_,run_underlying ht,Go.sizeOf,Go.typeInfo,hi,Builtin.lenOf,Builtin.firstCells,hn,storeCells]
   | some q=>simp[Builtin.append_,run_underlying ht,Go.sizeOf,Go.typeInfo,hi,Builtin.lenOf,Builtin.firstCells,hn,storeCells,loadCells,loadCellsFrom]
theorem Jg {v v' : Value} {w' : World} {zz : Bool} {e sz b : Nat} {l' : List (List V)} {xs' : List Value} (hrun : (execOp a.eval o).run P w = .ok (.value v') w') (hh : Hinv g h w) (hf : Finv g F a.tmps w)
    (how:∀ β,v.ownBlock=some β->g.ow β=some (.hp b)) (h2:∀ es∈l',es.length=sz/\Ones es) (h3:VL g.im g.io l'.flatten xs')
    (hown:zd9 w' e sz v' l'.length xs') (hg:w.grownBy w' v.ownBlock) (hob:∀ β,v'.ownBlock=some β->v.ownBlock=some β\/w.heap.size<=β) (hzz:zz=true->zOk w' v' sz):QG P o a g w (put F o.dst (.v (.row h.length sz 0 l'.length))) (h.set b .dead++[.row e sz l' zz]):=by
 have hnone:g.io h.length=none:=by
  cases hi:g.io h.length with
  | none=>rfl
  | some b=>have:=hh.io _ _ hi;omega
 let g':G:={ im:=g.im,io:=fun c=>if c=h.length then some (tok v') else g.io c,ow:=fun β=>if v'.ownBlock=some β then some (.hp h.length) else g.ow β }
 have hio:∀ c β,g.io c=some β->g'.io c=some β:=fun c β' hc=>by
  show (if c=h.length then some _ else g.io c)=some β';split
  . rename_i e;subst e;rw[hnone] at hc;cases hc
  . exact hc
 have hne:∀ β,β < w.heap.size->g.ow β≠some (.hp b)->v'.ownBlock≠some β:=fun β hlt hb e=>by
  rcases hob β e with h|h
  . exact hb (how β h)
  . omega
 have how':∀ β,v'.ownBlock≠some β->g'.ow β=g.ow β:=fun β hb=>if_neg hb;have hioN:g'.io h.length=some (tok v'):=if_pos rfl;have howβ:∀ β,v'.ownBlock=some β->g'.ow β=some (.hp h.length):=fun β hβ=>if_pos hβ;have hsame:∀ β,β < w.heap.size->g.ow β≠some (.hp b)->w'.heap[β]?=w.heap[β]?:=fun β hβ hn=>hg.block β hβ fun e=>hn (how β e.symm);have hvr:VR g'.im g'.io (.row h.length sz 0 l'.length) v':=by
  rcases hown.2 with ⟨hv,hz⟩|⟨β,o',cap,cur,hv,hhp,hc,hm,hcs,htk⟩
  . rw[hv,hz];exact .rowN _ _ (by rw[hioN,hv];rfl)
  . have:=VR.row (im:=g'.im) (io:=g'.io) h.length sz 0 l'.length β o' cap o' (by rw[hioN,hv];rfl) (z2 _) hc hm (.inl (by simp));rw[hv];simpa using this
 refine XI (g':=g') (w':=w') (v:=v') hrun ⟨fun c y hy=>?_,fun c c' hc=>?_,fun p u hp=>?_,fun β hβ=>?_⟩ ?_ ⟨fun _ _ h=>h,hio,fun _ _ h=>.inl h,fun β hβ h0=>?_,hg.os,hg.tape,hg.output,hg.size,fun β hβ h0=>hsame β hβ (by rw[h0];simp)⟩ hvr
 . rw[ZP] at hy;split at hy
   . rename_i hlt;rw[zw] at hlt;rw[Zd] at hy;split at hy
     . first
         | (cases hy;trivial)
         | (split at hy
            . cases hy;trivial
            . cases hy)
     . rename_i hcb;refine(hh.hp c y hy).keep (fun _ _ h=>h) hio fun β i2=>?_;have hβ:=hh.ow β (by rw[i2];simp);have hn:g.ow β≠some (.hp b):=by rw[i2];intro e;cases e;exact hcb rfl
       exact⟨by rw[how' β (hne β hβ hn)];exact i2,hsame β hβ hn⟩
   . rename_i hge;rw[zw] at hge hy;have hcl:c - h.length=0:=by
      have:=(zj.1 hy).1;simp at this;omega
     have hceq:c=h.length:=by omega
     subst hceq;simp at hy;subst hy;exact⟨v',xs',hioN,howβ,hown,h2,h3.mono (fun _ _ h=>h) hio,hzz⟩
 . show c < (h.set b HB.dead++[HB.row e sz l' zz]).length;have hc:(if c=h.length then some (tok v') else g.io c)=some c':=hc;split at hc
   . rename_i e;rw[e];simp
   . have:=hh.io _ _ hc;simp;omega
 . obtain⟨q1,q2⟩:=hh.im p u hp;have hlt:=jR q1;have hn:g.ow p.block≠some (.hp b):=by rw[q2];simp
   exact⟨by rw[World.cell?_of_block (w:=w) (hsame _ hlt hn)];exact q1,by rw[how' _ (hne _ hlt hn)];exact q2⟩
 . by_cases hbb:v'.ownBlock=some β
   . exact zp6 hown hbb
   . rw[how' β hbb] at hβ;exact Z1 (hh.ow β hβ) hg.size
 . refine hf.keep (fun _ _ h=>h) hio fun β s hβ=>?_;have hlt:=hh.ow β (by rw[hβ];simp);have hn:g.ow β≠some (.hp b):=by rw[hβ];simp
   exact⟨by rw[how' β (hne β hlt hn)];exact hβ,hsame β hlt hn⟩
 . rw[how' β (hne β hβ (by rw[h0];simp))];exact h0
structure SrcRun(P:Program)(w:World)(t tn ty e:TypeId)(i:TypeInfo)(sz:Nat)(yv:Value)(n:Nat)(nc:List Value):Prop where
 empty:n=0->∀ B m cap,m<=cap->(B=none->m=0/\cap=0)->(Builtin.append_ #[t,tn] ty #[.slice B m cap,yv]).run P w=.ok (.slice B m cap) w
 room:0 < n->∀ (β off sLen sCap:Nat) (cur:Array Value),sLen+n<=sCap->w.heap[β]?=some (.cells cur e (0,0))->off+sLen * i.size+nc.length<=cur.size->(Builtin.append_ #[t,tn] ty #[.slice (some ⟨β,off,none⟩) sLen sCap,yv]).run P w=.ok (.slice (some ⟨β,off,none⟩) (sLen+n) sCap) (w.setRow β (cur.toList.take (off+sLen * i.size)++nc++cur.toList.drop (off+sLen * i.size+nc.length)).toArray)
 grow:0 < n->∀ (q:Addr) (sLen sCap:Nat) (olds:List Value),olds.length=sLen * sz->(∀ (j:Nat) x,olds[j]?=some x->w.cell? (q.add j)=some x)->sCap < sLen+n->sLen+n<=maxLen->(sLen+n) * i.bytes<=140737488355328 →
  ∃ v' w',(Builtin.append_ #[t,tn] ty #[.slice (some q) sLen sCap,yv]).run P w=.ok v' w'/\w'.ownsRow w.heap.size e sz v' (sLen+n) (olds++nc)/\w.grownBy w' none
 nil:0 < n->n<=maxLen->n * i.bytes<=140737488355328->∃ v' w',(Builtin.append_ #[t,tn] ty #[.slice none 0 0,yv]).run P w=.ok v' w'/\w'.ownsRow 0 e sz v' n nc/\w.grownBy w' none/\∀ β,v'.ownBlock=some β->w.heap.size<=β
theorem qp {zz : Bool} {t tn e sz s0 s b lo hi : Nat} {i : TypeInfo} {yv : Value} {nc : List Value} {news l : List (List V)} (hex : ∀ {xv v' w'}, a.eval (.tmp s0) = xv -> (Builtin.append_ #[t, tn] o.type #[xv, yv]).run P w = .ok v' w' -> (execOp a.eval o).run P w = .ok (.value v') w') (hse : a.eval (.tmp s) = a.eval (.tmp s0))
    (his:i.size=sz) (hpos:0 < sz) (hby:i.bytes<=65536) (n1:nc.length=news.length * sz) (n2:VL g.im g.io news.flatten nc) (hs':∀ es∈news,es.length=sz/\Ones es) (src:SrcRun P w t tn o.type e i sz yv news.length nc)
    (hx:F[s]?=some (.v (.row b sz lo hi))) (hb:h[b]?=some (.row e sz l zz)) (h1:lo<=hi) (h2:hi<=l.length) (hlen:(hi - lo)+news.length < lim) (hh:Hinv g h w) (hf:Finv g F a.tmps w) :
    QG P o a g w (put F o.dst (.v (.row h.length sz 0 ((hi - lo)+news.length)))) (h.set b .dead++[.row e sz ((l.take hi).drop lo++news) (zz && lo == 0)]):=by
 unfold lim at hlen;have hbb:((hi - lo)+news.length) * i.bytes<=140737488355328:=by
  have:((hi - lo)+news.length) * i.bytes<=2147483648 * 65536:=QB (by omega) hby;omega
 have hmm:(hi - lo)+news.length<=maxLen:=by simp only[maxLen];omega
 obtain⟨v0,xs,hio,how0,r1,r2,r3,r4⟩:=hh.hp b _ hb;have hvr:VR g.im g.io (.row b sz lo hi) (a.eval (.tmp s0)):=by rw[<- hse];exact hf.getD hx
 have hsz2:∀ es∈(l.take hi).drop lo,es.length=sz/\Ones es:=fun es hes=>r2 es (Zs (Zk hes));have hll:((l.take hi).drop lo).length=hi - lo:=by rw[XQ,z5];omega
 have hones:∀ es∈(l.take hi).drop lo++news,es.length=sz/\Ones es:=fun es hes=>(Zn.1 hes).elim (hsz2 es) (hs' es);have hl2:((l.take hi).drop lo++news).length=(hi - lo)+news.length:=by rw[zL,hll]
 have hfl2:((l.take hi).drop lo).flatten=(l.flatten.take (hi * sz)).drop (lo * sz):=ziE (fun es h=>(r2 es h).1) h1 h2;have hold:VL g.im g.io ((l.take hi).drop lo).flatten ((xs.take (hi * sz)).drop (lo * sz)):=by rw[hfl2];exact(r3.take _).drop _
 have holdl:((xs.take (hi * sz)).drop (lo * sz)).length=(hi - lo) * sz:=by
  have:=hold.1;rw[<- this,Qf (fun es h=>(hsz2 es h).1),hll]
 have hvl:VL g.im g.io ((l.take hi).drop lo++news).flatten ((xs.take (hi * sz)).drop (lo * sz)++nc):=by rw[QF];exact hold.append n2
 rw[<- hl2];generalize hev:a.eval (.tmp s0)=xv at hvr;cases hvr with
 | row _ _ _ _ β o' cap u q0 q1 q2 q3 q4 =>
   rw[hio] at q0;injection q0 with q0;obtain⟨rfl,cur,hcur,hcc,hm,hcs,htk⟩:=zbv r1 q0;have how:=how0 β rfl;have hzb:(zz && lo == 0)=true->u=0/\lo=0/\cur.size=cap * sz:=fun hz=>by
    rw[zE] at hz;have hlo:lo=0:=by simpa using hz.2
    obtain⟨k1,k2⟩:=r4 hz.1 β o' l.length cap rfl;subst hlo;rcases q4 with h|⟨_,h⟩
    . exact⟨by rw[h,k1];simp,rfl,k2 _ _ _ hcur⟩
    . omega
   by_cases hn:news=[]
   . subst hn;have hnc:nc=[]:=by simpa using n1
     subst hnc;have hrun:=src.empty rfl (some ⟨β,u,none⟩) (hi - lo) (cap - lo) (by omega) (by simp);refine Jg (v:=.slice (some ⟨β,u,none⟩) (hi - lo) (cap - lo)) (hex hev hrun) hh hf (fun β' hβ'=>by simp[Value.ownBlock] at hβ';subst hβ';exact how) hones hvl ?_ (World.grownBy.refl w _) (fun β hβ=>.inl hβ) (fun hz β2 o2 n2 cap2 hv2=>by
      obtain⟨k1,k2,k3⟩:=hzb hz;cases hv2;exact⟨k1,fun c2 ty2 fr2 hc2=>by rw[hcur] at hc2;cases hc2;rw[k3,k2];simp⟩)
     refine⟨by rw[hl2];simp[holdl],.inr ⟨β,u,cap - lo,cur,by rw[hl2];simp,hcur,by rw[hl2];simp;omega,by omega,?_,?_⟩⟩
     . by_cases h0:cap - lo=0
       . exact .inl h0
       . right;rcases q4 with h|⟨h,_⟩
         . rcases hcs with h'|h'
           . omega
           . rw[h',h,ZR,<- Nat.add_mul];congr 2;omega
         . omega
     . rw[hl2];by_cases h0:hi=lo
       . subst h0;simp
       . rcases q4 with h|⟨h,_⟩
         . simp only[z6,zP,z8];rw[h,<- htk];exact zf9 h1 h2
         . omega
   have hpn:0 < news.length:=Zy.2 hn;by_cases hroom:(hi - lo)+news.length<=cap - lo
   . have hU:u=o'+lo * sz:=by rcases q4 with h|⟨h,_⟩ <;> first|exact h|omega
     have hcs':cur.size=o'+cap * sz:=by rcases hcs with h|h <;> first|exact h|omega
     have hmul:(hi+news.length) * sz<=cap * sz:=XX _ (by omega);have hUl:u+(hi - lo) * i.size=o'+hi * sz:=by
      rw[hU,his,ZR,<- Nat.add_mul];congr 2;omega
     have hfit:u+(hi - lo) * i.size+nc.length<=cur.size:=by
      rw[hUl,n1,hcs',ZR,<- Nat.add_mul];omega
     have hrun:=src.room hpn β u (hi - lo) (cap - lo) cur hroom hcur hfit;rw[hUl] at hrun;refine Jg (v:=.slice (some ⟨β,u,none⟩) (hi - lo) (cap - lo)) (v':=.slice (some ⟨β,u,none⟩) (hi - lo+news.length) (cap - lo)) (w':=w.setRow β (List.take (o'+hi * sz) cur.toList++nc++List.drop (o'+hi * sz+nc.length) cur.toList).toArray) (hex hev hrun) hh hf (fun β' hβ'=>by simp[Value.ownBlock] at hβ';subst hβ';exact how) hones hvl ?_ ⟨rfl,rfl,rfl,by rw[setRow_size];exact zn _,fun k _ hk=>setRow_other w β k _ (fun e=>hk (by simp[Value.ownBlock,e]))⟩ (fun β hβ=>.inl hβ) (fun hz β2 o2 n2 cap2 hv2=>by
      obtain⟨k1,k2,k3⟩:=hzb hz;cases hv2;refine⟨k1,fun c2 ty2 fr2 hc2=>?_⟩;rw[setRow_heap w β cur _ _ _ hcur] at hc2;cases hc2;rw[hUl] at hfit;rw[k2,Nat.sub_zero,<- k3];simp;omega)
     refine⟨by rw[hl2,zL,holdl,n1,<- Nat.add_mul],.inr ⟨β,u,cap - lo,_,by rw[hl2],setRow_heap w β cur _ e _ hcur,by rw[hl2];exact hroom,by omega,.inr ?_,?_⟩⟩
     . simp;rw[n1] at hfit ⊢;rw[hUl] at hfit;have:u+(cap - lo) * sz=o'+cap * sz:=by rw[hU,ZR,<- Nat.add_mul];congr 2;omega
       omega
     . rw[hl2,List.toList_toArray];have e0:u<=o'+hi * sz:=by
        have:lo * sz<=hi * sz:=XX _ h1;omega
       have e1:(cur.toList.take (o'+hi * sz)).length=o'+hi * sz:=by
        rw[z5,Array.length_toList];rw[hUl,n1] at hfit;omega
       rw[List.append_assoc,QW (by omega),<- List.append_assoc];rw[Qj (by
        rw[zL,XQ,e1,n1,Nat.add_mul,<- hUl,his];omega)]
       rw[zU (by rw[zL,XQ,e1,n1,Nat.add_mul,<- hUl,his];omega)];congr 1;rw[<- htk,hU,List.drop_take];rw[<- zf9 h1 h2];rw[show o'+hi * sz - (o'+lo * sz)=(hi - lo) * sz by rw[Nat.sub_mul];omega]
   . have holds:∀ (j:Nat) x,((xs.take (hi * sz)).drop (lo * sz))[j]?=some x->w.cell? ((⟨β,u,none⟩:Addr).add j)=some x:=fun j x hj=>by
       have hjl:=(zj.1 hj).1;rw[holdl] at hjl;have hlt:lo < hi:=by
        rcases ZX lo hi with h|h
        . exact h
        . rw[show hi - lo=0 by omega,Jr] at hjl;omega
       have hU:u=o'+lo * sz:=by rcases q4 with h|⟨h,_⟩ <;> first|exact h|omega
       rw[zcr,hU];rw[Zh,Ze] at hj;split at hj
       . rw[<- htk,Ze] at hj;split at hj
         . rw[Zh] at hj;simp only[World.cell?,hcur];rw[ZR];simpa using hj
         . cases hj
       . cases hj
     obtain⟨v',w',k1,k2,k3⟩:=src.grow hpn ⟨β,u,none⟩ (hi - lo) (cap - lo) _ holdl holds (by omega) hmm hbb;refine Jg (v:=.slice (some ⟨β,u,none⟩) (hi - lo) (cap - lo)) (hex hev k1) hh hf (fun β' hβ'=>by simp[Value.ownBlock] at hβ';subst hβ';exact how) hones hvl (by rw[hl2];exact Y6 (jr k2)) ⟨k3.os,k3.tape,k3.output,k3.size,fun k hk _=>k3.block k hk (by simp)⟩ (fun β hβ=>.inr (k2.lt β hβ).1) (fun _=>zaq (jr k2))
 | rowN =>
   have hl0:(l.take 0).drop 0=([]:List (List V)):=by simp
   by_cases hn:news=[]
   . subst hn;have hnc:nc=[]:=by simpa using n1
     subst hnc;have hrun:=src.empty rfl none 0 0 (by omega) (by simp);exact Jg (v:=.slice none 0 0) (hex hev hrun) hh hf (fun β' hβ'=>by simp[Value.ownBlock] at hβ') hones hvl ⟨by rw[hl2];simp,.inl ⟨rfl,by rw[hl2];simp⟩⟩ (World.grownBy.refl w _) (fun β hβ=>.inl hβ) (fun _ β2 o2 n2 cap2 hv2=>by cases hv2)
   . obtain⟨v',w',k1,k2,k3,k5⟩:=src.nil (Zy.2 hn) (by omega) (by simpa using hbb);refine Jg (v:=.slice none 0 0) (hex hev k1) hh hf (fun β' hβ'=>by simp[Value.ownBlock] at hβ') hones hvl (by rw[hl2];simpa using Y6 k2) k3 (fun β hβ=>?_) (fun _=>zaq k2);exact .inr (k5 β hβ)
theorem zvd {w : World} {t ty e : TypeId} {i : TypeInfo} {sz : Nat} {A : Option Addr} {ad : Addr} {n cap2 : Nat} {nc : List Value} {z0 : Value} (hu : P.underlying t = some (.slice e)) (hi : P.info? e = some i) (his : i.size = sz) (hpos : 0 < sz) (hz0 : i.zero = some z0) (hz0s : z0.cells.size = sz)
    (hA:n=0\/A=some ad) (n1:nc.length=n * sz) (n3:∀ (j:Nat) u,nc[j]?=some u->w.cell? (ad.add j)=some u) (ho1:∀ u∈nc,u.oneCell'=true):SrcRun P w t t ty e i sz (.slice A n cap2) n nc where
 empty hn B m cap hm hB:=by subst hn;exact zbC hu hi hm hB
 room hn β off sLen sCap cur hroom hcur hfit:=by
  obtain rfl:A=some ad:=by rcases hA with h|h <;> first|omega|exact h
  exact zdt hu hi (by rw[n1,his]) n3 ho1 hroom hcur hfit
 grow hn q sLen sCap olds hol holds hg hm hbb:=by
  obtain rfl:A=some ad:=by rcases hA with h|h <;> first|omega|exact h
  exact run_append_arg_grows (P:=P) w t ty e i z0 sz i.bytes hu hi hz0 his rfl hz0s hpos q sLen sCap _ hol holds ad n cap2 nc n1 n3 hg hm hbb
 nil hn hm hbb:=by
  obtain rfl:A=some ad:=by rcases hA with h|h <;> first|omega|exact h
  obtain⟨v',w',k1,k2,k3,_,k5⟩:=run_append_own_at (P:=P) w 0 t ty e i z0 sz i.bytes hu hi hz0 his rfl hz0s hpos (.slice none 0 0) 0 [] (World.ownsRow_nil _ _ _ _) ad n cap2 nc n1 n3 ho1 (by simpa using hm) (by simpa using hbb) (z2 _);refine⟨v',w',k1,by simpa using k2,k3,fun β hβ=>?_⟩;rcases k5 with k5|k5
  . rw[k5] at hβ;cases hβ
  . rw[k5] at hβ;cases hβ;exact zn _
theorem zdu {zz : Bool} {c : Call} {t e sz sz' s0 s b lo hi : Nat} {y : Operand} {news l : List (List V)} (ho : o.op = .call c) (hc : c.callee = .builtin .append) (hts : c.argTypes.toList = [t, t]) (has : c.args.toList = [.tmp s0, y]) (hse : a.eval (.tmp s) = a.eval (.tmp s0))
    (hez:QQ P t=some (e,sz)) (hy:evC F h y=some (sz',news)) (hsz:sz'=sz\/news.isEmpty) (hx:F[s]?=some (.v (.row b sz lo hi))) (hb:h[b]?=some (.row e sz l zz)) (h1:lo<=hi) (h2:hi<=l.length) (hlen:(hi - lo)+news.length < lim) (hh:Hinv g h w) (hf:Finv g F a.tmps w) :
    QG P o a g w (put F o.dst (.v (.row h.length sz 0 ((hi - lo)+news.length)))) (h.set b .dead++[.row e sz ((l.take hi).drop lo++news) (zz && lo == 0)]):=by
 obtain⟨hu,i,hi',his,hpos,hby,z0,hz0,hz0s⟩:=Qd hez;obtain⟨A,cap2,ad,hv,hA,hs,ys,hr⟩:=Wc hh hf hy;have hs':∀ es∈news,es.length=sz/\Ones es:=fun es hes=>by
  rcases hsz with rfl|hn
  . exact hs es hes
  . simp at hn;subst hn;cases hes
 have hr':∀ (k:Nat) es (j:Nat) x,news[k]?=some es->es[j]?=some x->w.cell? (ad.add (k * sz+j))=some (ys k j)/\VR g.im g.io x (ys k j):=fun k es j x hk hj=>by
  rcases hsz with rfl|hn
  . exact hr k es j x hk hj
  . simp at hn;subst hn;simp at hk
 obtain⟨nc,n1,n2,n3⟩:=WG hA hs' hpos hr';have ho1:=n2.oneCell (fun x hx=>by
  obtain⟨es,hes,hx⟩:=JG.1 hx;exact(hs' es hes).2 x hx)
 exact qp (fun hev hrun=>J2 ho hc hts has (by rw[hev,hv];exact hrun)) hse his hpos hby n1 n2 hs' (zvd hu hi' his hpos hz0 hz0s (by rcases hA with h|h;exact .inl (by rw[h];rfl);exact .inr h) n1 n3 ho1) hx hb h1 h2 hlen hh hf
def zv8:S->Bool|.v (.sl ..)=>true|_=>false
theorem zdv {c : Call} {t e sz sz' s0 s s1 : Nat} {y : Operand} {l : List (List V)} (ho : o.op = .call c) (hc : c.callee = .builtin .append) (hts : c.argTypes.toList = [t, t]) (has : c.args.toList = [.tmp s0, y]) (hse : a.eval (.tmp s) = a.eval (.tmp s0))
    (hez:QQ P t=some (e,sz)) (hy:evC F h y=some (sz',[])) (hx:F[s]?=some (.v (.sl s1 l true))) (hh:Hinv g h w) (hf:Finv g F a.tmps w) :
    QG P o a g w (put F o.dst (.v (.sl s1 l true))) h:=by
 obtain⟨hu,i,hi,-⟩:=Qd hez;have hv:VR g.im g.io (.sl s1 l true) (a.eval (.tmp s)):=hf.getD hx;rw[hse] at hv;obtain⟨A2,cap2,ad2,hv2,-⟩:=Wc hh hf hy;refine XI (v:=a.eval (.tmp s0)) ?_ hh hf (.refl _ _) hv;generalize hev:a.eval (.tmp s0)=v at hv;cases hv with
 | sl _ _ _ A cap ad ys hA hx' hcp hm hs hi2 hr =>
   have hcap:=hx' rfl;subst hcap;exact J2 ho hc hts has (by
    rw[hev,hv2];exact zbC hu hi (zn _) fun hB=>by
     rcases hA with h|h
     . subst h;exact⟨rfl,rfl⟩
     . rw[h] at hB;cases hB)
theorem zek {c : Call} {t e sz sz' s0 s : Nat} {y : Operand} {news l' : List (List V)} {x : S} (ho : o.op = .call c) (hc : c.callee = .builtin .append) (hts : c.argTypes.toList = [t, t]) (has : c.args.toList = [.tmp s0, y]) (hse : a.eval (.tmp s) = a.eval (.tmp s0))
    (hez:QQ P t=some (e,sz)) (hy:evC F h y=some (sz',news)) (hsz:sz'=sz\/news.isEmpty) (hx:F[s]?=some x) (his:zv8 x=true) (ha:app e sz x news=some l') (hh:Hinv g h w) (hf:Finv g F a.tmps w) :
    QG P o a g w (put F o.dst (.v (.row h.length sz 0 l'.length))) (h++[.row e sz l' true]):=by
 have hset:h.set h.length HB.dead=h:=Wy (zn _);unfold app at ha;split at ha
 . simp[zv8] at his
 . rename_i sz2 l;split at ha
   . rename_i hcond;obtain⟨hszz,hlen,hne⟩:=hcond;cases ha;have hv:VR g.im g.io (.sl sz l true) (a.eval (.tmp s)):=VR.resize hszz (hf.getD hx);rw[hse] at hv;generalize hev:a.eval (.tmp s0)=v at hv;cases hv with
     | sl _ _ _ A cap ad ys hA hx' hcp hm hs hi2 hr =>
       have hcap:=hx' rfl;subst hcap;obtain⟨hu,i,hi,his',hpos,hby,z0,hz0,hz0s⟩:=Qd hez;obtain⟨A2,cap2,ad2,hv2,hA2,hs2,ys2,hr2⟩:=Wc hh hf hy;have hs':∀ es∈news,es.length=sz/\Ones es:=fun es hes=>by
        rcases hsz with rfl|hn
        . exact hs2 es hes
        . simp at hn;subst hn;cases hes
       have hr':∀ (k:Nat) es (j:Nat) x,news[k]?=some es->es[j]?=some x->w.cell? (ad2.add (k * sz+j))=some (ys2 k j)/\VR g.im g.io x (ys2 k j):=fun k es j x hk hj=>by
        rcases hsz with rfl|hn
        . exact hr2 k es j x hk hj
        . simp at hn;subst hn;simp at hk
       obtain⟨nc,n1,n2,n3⟩:=WG hA2 hs' hpos hr';have ho1:=n2.oneCell (fun x hx=>by
        obtain⟨es,hes,hx⟩:=JG.1 hx;exact(hs' es hes).2 x hx)
       have hnn:news≠[]:=by intro hn;subst hn;simp at hne
       have hA2':A2=some ad2:=by rcases hA2 with h|h <;> first|exact absurd h hnn|exact h
       subst hA2';have hpn:0 < news.length:=Zy.2 hnn;unfold lim at hlen;have hb:(l.length+news.length) * i.bytes<=140737488355328:=by
        have:(l.length+news.length) * i.bytes<=2147483648 * 65536:=QB (by omega) hby;omega
       have hmm:l.length+news.length<=maxLen:=by simp only[maxLen];omega
       have hread:∀ (k:Nat) es (j:Nat) x,l[k]?=some es->es[j]?=some x->w.cell? (ad.add (k * sz+j))=some (ys k j)/\VR g.im g.io x (ys k j):=fun k es j x hk hj=>⟨(hh.im _ _ (hi2 k es j x hk hj)).1,hr k es j x hk hj⟩;obtain⟨oc,o1,o2,o3⟩:=WG hA hs hpos hread;have hones:∀ es∈l++news,es.length=sz/\Ones es:=fun es hes=>(Zn.1 hes).elim (hs es) (hs' es);have hvl:VL g.im g.io (l++news).flatten (oc++nc):=by rw[QF];exact o2.append n2
       cases A with
       | none =>
         have hl:l=[]:=by rcases hA with h|h <;> first|exact h|cases h
         subst hl;have hoc:oc=[]:=by simpa using o1
         subst hoc;obtain⟨v',w',k1,k2,k3,_,k5⟩:=run_append_own_at (P:=P) w 0 t o.type e i z0 sz i.bytes hu hi hz0 his' rfl hz0s hpos (.slice none 0 0) 0 [] (World.ownsRow_nil _ _ _ _) ad2 news.length cap2 nc n1 n3 ho1 (by simpa using hmm) (by simpa using hb) (z2 _);have:=Jg (v:=.slice none 0 0) (b:=h.length) (zz:=true) (xs':=[]++nc) (J2 ho hc hts has (by rw[hev,hv2];exact k1)) hh hf (fun β' hβ'=>by simp[Value.ownBlock] at hβ') hones hvl (by simpa using Y6 k2) k3 (fun β hβ=>by
          rcases k5 with k5|k5
          . left;rw[<- k5];exact hβ
          . right;rw[k5] at hβ;cases hβ;exact zn _) (fun _=>zaq k2)
         rw[hset] at this;exact this
       | some q =>
         have hqo:∀ (j:Nat) u,oc[j]?=some u->w.cell? (q.add j)=some u:=fun j u hj=>by
          rcases hA with hA|hA
          . subst hA;have hnc:oc=[]:=by simpa using o1
            subst hnc;simp at hj
          . cases hA;exact o3 j u hj
         obtain⟨v',w',r1,r2,r3⟩:=run_append_arg_grows (P:=P) w t o.type e i z0 sz i.bytes hu hi hz0 his' rfl hz0s hpos q l.length l.length oc o1 hqo ad2 news.length cap2 nc n1 n3 (by omega) hmm hb;have:=Jg (v:=.slice none 0 0) (b:=h.length) (zz:=true) (xs':=oc++nc) (J2 ho hc hts has (by rw[hev,hv2];exact r1)) hh hf (fun β hβ=>by simp[Value.ownBlock] at hβ) hones hvl (by rw[zL];exact Y6 (jr r2)) (by simpa[Value.ownBlock] using r3) (fun β hβ=>.inr (r2.lt β hβ).1) (fun _=>zaq (jr r2));rw[hset] at this;exact this
   . cases ha
 . cases ha
theorem zdw {c : Call} {t e sz sz' : Nat} {y : Operand} {news l' : List (List V)} (ho : o.op = .call c) (hc : c.callee = .builtin .append) (hts : c.argTypes.toList = [t, t]) (has : c.args.toList = [.const (.slice none 0 0), y])
    (hez:QQ P t=some (e,sz)) (hy:evC F h y=some (sz',news)) (hsz:sz'=sz\/news.isEmpty) (ha:app e sz (.own e sz []) news=some l') (hh:Hinv g h w) (hf:Finv g F a.tmps w):QG P o a g w (put F o.dst (.own e sz l')) h:=by
 unfold app at ha;simp only[true_and] at ha;split at ha
 . rename_i hlen;cases ha;exact YO (s:=F.length) (xs:=[]) ho hc hts has hez hy hsz hlen hh hf hf (fun x hx=>by rw[zS (zn _)] at hx;cases hx) (World.ownsRow_nil _ _ _ _) (by simp) .nil (fun β hβ=>by simp[Act.eval,Value.ownBlock] at hβ)
 . cases ha
theorem jV {c : Call} {t tn : TypeId} {x y : Operand} (ho : o.op = .call c) (hc : c.callee = .builtin .append) (hts : c.argTypes.toList = [t, tn]) (has : c.args.toList = [x, y]) {v' : Value} {w' : World}
    (hr:(Builtin.append_ #[t,tn] o.type #[a.eval x,a.eval y]).run P w=.ok v' w'):(execOp a.eval o).run P w=.ok (.value v') w':=by
 have h1:c.argTypes=#[t,tn]:=by apply Array.ext';simpa using hts
 have h2:c.args=#[x,y]:=by apply Array.ext';simpa using has
 simp only[execOp,ho,resolve,hc,Sem.run_bind,Sem.run_pure,Result.andThen_ok,invoke,builtin,h1,h2];simp[hr]
theorem zbD {c : Call} {t tn e sz n s0 s1 : Nat} {kn : IntKind} {y : Operand} {z : List V} (ho : o.op = .call c) (hc : c.callee = .builtin .append) (hts : c.argTypes.toList = [t, tn]) (has : c.args.toList = [.tmp s0, y])
    (hez:QQ P t=some (e,sz)) (htn:P.underlying tn=some (.int kn)) (hz:(Ki P t).bind (Q1 P)=some z) (hzl:z.length=sz) (hy:evN F y=some n) (h0:0 < n) (hn:n < lim) (hv:VR g.im g.io (.sl s1 [] true) (a.eval (.tmp s0))) (hh:Hinv g h w) (hf:Finv g F a.tmps w):QG P o a g w (put F o.dst (.own e sz (List.replicate n z))) h:=by
 obtain⟨k1,hk1⟩:=QD hf hy;obtain⟨hu,i,hi,hsz,hpos,hby,z0,hz0,hz0s⟩:=Qd hez;have hz':Q1 P e=some z:=by simpa[Ki,hu] using hz
 obtain⟨i',zv,hi',hzv,hzs,hzvl,hzo,_,_⟩:=Q9 hz';rw[hi] at hi';cases hi';rw[hz0] at hzv;cases hzv;generalize hev:a.eval (.tmp s0)=v at hv;cases hv with
 | sl _ _ _ A cap ad ys hA hx hcp hm hs hi2 hr =>
   have hcap:cap=0:=hx rfl;subst hcap;have hev:a.eval (.tmp s0)=.slice A 0 0:=hev;have zc:∀ m,(Builtin.zeroCells z0.cells m).toList=(List.replicate m z0.cells.toList).flatten:=fun m=>by
    have:=qG z0.cells sz m hz0s hpos;rw[<- hz0s] at this;exact this
   have zl:∀ m,(Builtin.zeroCells z0.cells m).size=m * sz:=fun m=>by simp[Builtin.zeroCells,hz0s]
   unfold lim at hn;have hb:n * i.bytes<=2147483648 * 65536:=QB (by omega) hby;have hold:(Builtin.firstCells i.size 0 (.slice A 0 0)).run P w.drew=.ok ([]:List Value).toArray w.drew:=by
    cases A with
    | none=>exact run_firstCells_none ..
    | some b=>exact run_firstCells_some w.drew i.size 0 b 0 0 [] (by simp) (fun j v h=>by simp at h)
   have hr:=Lib.run_append_grow_zeros (P:=P) w t tn o.type e i z0 k1 kn hu htn hi hz0 A 0 0 [] hold n h0 (by omega) (by omega) (by omega) (by omega) (by rw[zq,nextslicecap_zero h0];omega);have hge:=grownCap_ge w (0+n) 0 e;have hcm:grownCap w (0+n) 0 e<=maxLen:=grownCap_le_maxLen w (0+n) 0 e (by simp only[maxLen];omega);have hones:∀ es∈List.replicate n z,es.length=sz/\Ones es:=fun es h=>by rw[ZK h];exact⟨hzl,hzo⟩
   refine WV (v:=.slice none 0 0) (s:=F.length) (l:=[]) (xs:=[]) (news:=List.replicate n z) (nc:=(List.replicate n z0.cells.toList).flatten) (jV ho hc hts has (by rw[hev,hk1];exact hr)) hh hf (fun x hx=>by rw[zS (zn _)] at hx;cases hx) (fun β hβ=>by cases hβ) (by simp) .nil hones ((hzvl g.im g.io).flat_rep n) ⟨?_,.inr ⟨w.heap.size,_,_,by simp,z2 _,heap_alloc_new w.drew _,by simp only[zP,ZZ];exact hge,hcm,?_,?_⟩⟩ ⟨rfl,rfl,rfl,by simp,fun k hk _=>heap_alloc_old w.drew _ k hk⟩ (fun β hβ=>by cases hβ;exact .inr (zn _))
   . rw[zX,Qf (sz:=sz) (fun es h=>by rw[ZK h];simpa using hz0s)];simp
   . simp only[Array.size_append,List.size_toArray,zP,zl,zq,<- Nat.add_mul];rw[zq] at hge;congr 1;omega
   . simp only[Array.toList_append,zP,ZZ,zq,zX,zc];rw[List.take_left' (by rw[Qf (sz:=sz) (fun es h=>by rw[ZK h];simpa using hz0s)];simp)]
theorem Kn(z0:Value){sz:Nat}(hz0s:z0.cells.size=sz)(hpos:0 < sz)(m:Nat):(Builtin.zeroCells z0.cells m).toList=(List.replicate m z0.cells.toList).flatten:=by
 have:=qG z0.cells sz m hz0s hpos;rw[<- hz0s] at this;exact this
theorem qH(z0:Value){sz:Nat}(hz0s:z0.cells.size=sz)(m:Nat):(Builtin.zeroCells z0.cells m).size=m * sz:=by simp[Builtin.zeroCells,hz0s]
theorem WW(z0:Value){sz:Nat}(hz0s:z0.cells.size=sz)(m:Nat):(List.replicate m z0.cells.toList).flatten.length=m * sz:=by
 rw[Qf (sz:=sz) (fun es h=>by rw[ZK h];simpa using hz0s)];simp
theorem zga {w : World} {t tn ty e : TypeId} {i : TypeInfo} {sz : Nat} {kq kn : IntKind} {n : Nat} {z0 : Value} (hu : P.underlying t = some (.slice e)) (htn : P.underlying tn = some (.int kn)) (hi : P.info? e = some i) (his : i.size = sz) (hpos : 0 < sz) (hby : i.bytes <= 65536) (hz0 : i.zero = some z0) (hz0s : z0.cells.size = sz)
    (hn:n < lim) (ho1:∀ u∈(List.replicate n z0.cells.toList).flatten,u.oneCell'=true):SrcRun P w t tn ty e i sz (.int kq n) n (List.replicate n z0.cells.toList).flatten:=by
 unfold lim at hn;have hb:n * i.bytes<=2147483648 * 65536:=QB (by omega) hby;have hw:IntKind.i64.wrap (n:Int)=n:=by rw[IntKind.wrap_i64];omega
 have hneg:¬ ((n:Int) < 0):=by omega
 have h48i:¬ (281474976710656 < (n:Int) * (i.bytes:Int)):=by
  rw[<- Int.natCast_mul];omega
 constructor
 . intro h0 B m cap hm hB;subst h0;have hw0:IntKind.i64.wrap (0:Int)=0:=by decide
   cases B with
   | none =>
     obtain⟨rfl,rfl⟩:=hB rfl;simp[Builtin.append_,run_underlying hu,run_underlying htn,Go.sizeOf,Go.typeInfo,hi,asInt,asIntOf,hw0]
   | some b=>simp[Builtin.append_,run_underlying hu,run_underlying htn,Go.sizeOf,Go.typeInfo,hi,asInt,asIntOf,hw0,hm,storeCells]
 . intro h0 β off sLen sCap cur hroom hcur hfit;have hst:=run_storeCells_at P β (off+sLen * i.size) e (List.replicate n z0.cells.toList).flatten 0 cur w hcur (by simpa using hfit) ho1;simp only[z8] at hst;have hns:¬ (n * i.size=0):=Nat.mul_ne_zero (by omega) (by omega);have hn0:n≠0:=by omega
   simp[Builtin.append_,run_underlying hu,run_underlying htn,Go.sizeOf,Go.typeInfo,zeroValue,hi,hz0,asInt,asIntOf,hw,hneg,h48i,hroom,hns,hn0,Kn z0 hz0s hpos,Addr.add_lit,hst]
 . intro h0 q sLen sCap olds hol holds hg hm hbb;have hge:=grownCap_ge w (sLen+n) sCap e;have hcm:grownCap w (sLen+n) sCap e<=maxLen:=grownCap_le_maxLen w (sLen+n) sCap e hm;have hm':=hm;simp only[maxLen] at hm';have hold:(Builtin.firstCells i.size sLen (.slice (some q) sLen sCap)).run P w.drew=.ok olds.toArray w.drew:=run_firstCells_some w.drew i.size sLen q sLen sCap olds (by rw[hol,his]) (fun j v h=>by simpa using holds j v h);have hr:=Lib.run_append_grow_zeros (P:=P) w t tn ty e i z0 kq kn hu htn hi hz0 (some q) sLen sCap olds hold n h0 (by omega) hg (by omega) (by omega) (growslice_fits hg hbb);refine⟨_,_,hr,⟨?_,.inr ⟨w.heap.size,_,_,rfl,zn _,heap_alloc_new w.drew _,hge,hcm,?_,?_⟩⟩,⟨rfl,rfl,rfl,by simp,fun k hk _=>heap_alloc_old w.drew _ k hk⟩⟩
   . rw[zL,hol,WW z0 hz0s,<- Nat.add_mul]
   . simp only[Array.size_append,List.size_toArray,qH z0 hz0s,hol,<- Nat.add_mul];congr 1;omega
   . simp only[Array.toList_append,Kn z0 hz0s hpos];rw[List.take_left'];rw[zL,hol,WW z0 hz0s,<- Nat.add_mul]
 . intro h0 hm hbb;have hm':=hm;simp only[maxLen] at hm';have hge:=grownCap_ge w n 0 e;have hcm:grownCap w n 0 e<=maxLen:=grownCap_le_maxLen w n 0 e hm;have hr:=Lib.run_append_nil_zeros (P:=P) w t tn ty e i z0 kq kn hu htn hi hz0 n h0 (by omega) (by omega) (by omega);refine⟨_,_,hr,⟨?_,.inr ⟨w.heap.size,_,_,rfl,z2 _,heap_alloc_new w.drew _,hge,hcm,?_,?_⟩⟩,⟨rfl,rfl,rfl,by simp,fun k hk _=>heap_alloc_old w.drew _ k hk⟩,fun β hβ=>by cases hβ;exact zn _⟩
   . rw[WW z0 hz0s]
   . simp only[Array.size_append,qH z0 hz0s,<- Nat.add_mul];congr 1;omega
   . simp only[Array.toList_append,Kn z0 hz0s hpos];rw[List.take_left'];rw[WW z0 hz0s]
theorem zdx {c : Call} {t tn e sz s0 s s1 : Nat} {kn : IntKind} {y : Operand} (ho : o.op = .call c) (hc : c.callee = .builtin .append) (hts : c.argTypes.toList = [t, tn]) (has : c.args.toList = [.tmp s0, y]) (hse : a.eval (.tmp s) = a.eval (.tmp s0))
    (hez:QQ P t=some (e,sz)) (htn:P.underlying tn=some (.int kn)) (hy:evN F y=some 0) (hx:F[s]?=some (.v (.sl s1 [] true))) (hh:Hinv g h w) (hf:Finv g F a.tmps w) :
    QG P o a g w (put F o.dst (.v (.sl s1 [] true))) h:=by
 obtain⟨k1,hk1⟩:=QD hf hy;obtain⟨hu,i,hi',his,hpos,hby,z0,hz0,hz0s⟩:=Qd hez;have hv:VR g.im g.io (.sl s1 [] true) (a.eval (.tmp s)):=hf.getD hx;rw[hse] at hv;refine XI (v:=a.eval (.tmp s0)) ?_ hh hf (.refl _ _) hv;generalize hev:a.eval (.tmp s0)=v at hv;cases hv with
 | sl _ _ _ A cap ad ys hA hx' hcp hm hs hi2 hr =>
   have hcap:=hx' rfl;subst hcap;have src:=zga (w:=w) (ty:=o.type) (kq:=k1) (n:=0) hu htn hi' his hpos hby hz0 hz0s (by unfold lim;omega) (by simp);exact jV ho hc hts has (by
    rw[hev,hk1];exact src.empty rfl _ _ _ (zn _) fun hB=>by
     rcases hA with h|h
     . exact⟨rfl,rfl⟩
     . rw[h] at hB;cases hB)
theorem zcv {zz : Bool} {c : Call} {t tn e sz n s0 s b lo hi : Nat} {kn : IntKind} {y : Operand} {z : List V} {l : List (List V)} (ho : o.op = .call c) (hc : c.callee = .builtin .append) (hts : c.argTypes.toList = [t, tn]) (has : c.args.toList = [.tmp s0, y]) (hse : a.eval (.tmp s) = a.eval (.tmp s0))
    (hez:QQ P t=some (e,sz)) (htn:P.underlying tn=some (.int kn)) (hz:(Ki P t).bind (Q1 P)=some z) (hzl:z.length=sz) (hy:evN F y=some n) (hn:n < lim) (hx:F[s]?=some (.v (.row b sz lo hi))) (hb:h[b]?=some (.row e sz l zz)) (h1:lo<=hi) (h2:hi<=l.length) (hlen:(hi - lo)+(List.replicate n z).length < lim) (hh:Hinv g h w) (hf:Finv g F a.tmps w) :
    QG P o a g w (put F o.dst (.v (.row h.length sz 0 ((hi - lo)+(List.replicate n z).length)))) (h.set b .dead++[.row e sz ((l.take hi).drop lo++List.replicate n z) (zz && lo == 0)]):=by
 obtain⟨k1,hk1⟩:=QD hf hy;obtain⟨hu,i,hi',his,hpos,hby,z0,hz0,hz0s⟩:=Qd hez;have hz':Q1 P e=some z:=by simpa[Ki,hu] using hz
 obtain⟨i',zv,hi2,hzv,hzs,hzvl,hzo,_,_⟩:=Q9 hz';rw[hi'] at hi2;cases hi2;rw[hz0] at hzv;cases hzv;have hs':∀ es∈List.replicate n z,es.length=sz/\Ones es:=fun es h=>by rw[ZK h];exact⟨hzl,hzo⟩
 have n2:=(hzvl g.im g.io).flat_rep n;have ho1:=n2.oneCell (fun x hx=>by
  obtain⟨es,hes,hx⟩:=JG.1 hx;exact(hs' es hes).2 x hx)
 exact qp (yv:=.int k1 n) (nc:=(List.replicate n z0.cells.toList).flatten) (fun hev hrun=>jV ho hc hts has (by rw[hev,hk1];exact hrun)) hse his hpos hby (by rw[WW z0 hz0s];simp) n2 hs' (by simpa using zga hu htn hi' his hpos hby hz0 hz0s hn ho1) hx hb h1 h2 hlen hh hf
end
end Go.L
namespace Go.L
open Go.RowKit
section
variable {vc:Bool} {P:Program} {o:Oper} {a:Act} {g:G} {w:World} {F:List S} {h:ze}
theorem zmS{d:Nat}{t:TypeId}{ks:List Nat}(h:kds P d t=some ks):(XY P t=false/\ks.length=1)\/∃ fs,P.underlying t=some (.struct fs):=by
 cases d with
 | zero=>simp[kds] at h
 | succ d =>
   unfold kds at h;split at h
   . rename_i hu;cases h;exact .inl ⟨by simp[XY,hu],rfl⟩
   . rename_i hu;cases h;exact .inl ⟨by simp[XY,hu],rfl⟩
   . rename_i hu;cases h;exact .inl ⟨by simp[XY,hu],rfl⟩
   . rename_i fs hu;exact .inr ⟨fs,hu⟩
   . cases h
theorem zln{im:Im}{io:Io}{k:V}{kv:Value}(h:VR im io k kv){t:TypeId}(ho:k.one=!XY P t):kv=reg P t kv.cells.toList:=by
 unfold reg;cases hag:XY P t with
 | true =>
   rw[hag] at ho;cases h <;> first|(simp[V.one] at ho;done)|skip
   simp[Value.cells]
 | false =>
   rw[hag] at ho;cases h <;> first|(simp[V.one] at ho;done)|rfl|skip
   rename_i hp;cases kv <;> first|rfl|(simp[zha] at hp)
theorem YZ(em:Bool):∀ (d:Nat) (t:TypeId) (ks:List Nat),kds P d t=some ks->∀ (D:Nat),d<=D->∀ (cs:List Value) (w:World),cs.length=ks.length->(∀ x∈cs,x.oneCell'=true) →
    (Instr.checkKey em D t (reg P t cs)).run P w=.ok () w
 | 0,t,ks,h,_,_,_,_,_,_=>by simp[kds] at h
 | d+1,t,ks,h,0,hD,_,_,_,_=>by omega
 | d+1,t,ks,h,D+1,hD,cs,w,hl,hone=>by
   have scal:∀ ty,P.underlying t=some ty->(ty=.bool\/ty=.string\/∃ k,ty=.int k)->(Instr.checkKey em (D+1) t (reg P t cs)).run P w=.ok () w:=fun ty hu hty=>by
    unfold Instr.checkKey;simp only[Sem.run_bind,run_underlying hu,Result.andThen_ok];rcases hty with rfl|rfl|⟨k,rfl⟩ <;> rfl
   unfold kds at h;split at h
   . rename_i k hu;exact scal _ hu (.inr (.inr ⟨k,rfl⟩))
   . rename_i hu;exact scal _ hu (.inl rfl)
   . rename_i hu;exact scal _ hu (.inr (.inl rfl))
   . rename_i fs hu;split at h
     . cases h
     . rename_i hst;rw[zbz hu];unfold Instr.checkKey;simp only[Sem.run_bind,run_underlying hu,Result.andThen_ok];rw[<- Array.forIn_toList];have key:∀ (fl:List Field) (acc:List Nat),fl.foldlM (fun(acc:List Nat) f=>if f.name≠ "_"/\f.offset=acc.length then(match kds P d f.type with|some ks=>if Jy P f.type=some ks.length then some (acc++ks) else none|none=>none) else none) acc=some ks →
           (forIn fl PUnit.unit (fun(f:Field) (_:PUnit)=>(do
            if f.name≠ "_" then do
             let v ← part f.type cs.toArray f.offset
             Instr.checkKey em D f.type v
             pure (ForInStep.yield PUnit.unit)
            else pure (ForInStep.yield PUnit.unit):Sem (ForInStep PUnit)))).run P w=.ok PUnit.unit w:=by
        intro fl
        induction fl with
        | nil=>intro acc hf;rfl
        | cons f fl ih =>
          intro acc hf;rw[JF] at hf;simp only[bind,Qx] at hf;obtain⟨acc',ha,hf⟩:=hf;split at ha
          . rename_i hn;split at ha
            . rename_i kf hkf;split at ha
              . rename_i hsz;cases ha;have hpre:∃ r,ks=(acc++kf)++r:=by
                 have mono:∀ (fl:List Field) (acc:List Nat),fl.foldlM (fun(acc:List Nat) f=>if f.name≠ "_"/\f.offset=acc.length then(match kds P d f.type with|some ks=>if Jy P f.type=some ks.length then some (acc++ks) else none|none=>none) else none) acc=some ks->∃ r,ks=acc++r:=by
                  intro fl
                  induction fl with
                  | nil=>intro acc h;simp at h;exact⟨[],by simp[h]⟩
                  | cons f fl ih =>
                    intro acc h;rw[JF] at h;simp only[bind,Qx] at h;obtain⟨acc',ha,h⟩:=h;obtain⟨r,hr⟩:=ih _ h;split at ha
                    . split at ha
                      . split at ha
                        . cases ha;exact⟨_,by rw[hr,List.append_assoc]⟩
                        . cases ha
                      . cases ha
                    . cases ha
                 exact mono fl _ hf
                obtain⟨r,hr⟩:=hpre;have hlen:acc.length+kf.length<=cs.length:=by rw[hl,hr,zL,zL];omega
                have hkpos:XY P f.type=false->0 < kf.length:=fun hag=>by
                 rcases zmS hkf with h|⟨fs',hu'⟩
                 . omega
                 . simp[XY,hu'] at hag
                have p1:=jo hsz (cs:=cs.toArray) (off:=f.offset) (by rw[hn.2];simpa using hlen) hkpos w;rw[hn.2] at p1;have p2:=YZ em d f.type kf hkf D (by omega) ((cs.drop acc.length).take kf.length) w (by simp;omega) (fun x hx=>hone x (Zk (Zs hx)));have p1':(part f.type cs.toArray acc.length).run P w=.ok (reg P f.type ((cs.drop acc.length).take kf.length)) w:=p1;rw[List.forIn_cons];simp only[ne_eq,hn.1,not_false_eq_true,if_true,hn.2,Sem.run_bind,p1',Result.andThen_ok,p2,Sem.run_pure];exact ih _ hf
              . cases ha
            . cases ha
          . cases ha
       have:=key fs.toList [] h;simp at this ⊢;rw[this];rfl
   . cases h
theorem zoq{a b:ByteArray}(h:a.toList=b.toList):a=b:=by
 rw[ByteArray.toList_eq,ByteArray.toList_eq] at h;obtain⟨⟨x⟩⟩:=a;obtain⟨⟨y⟩⟩:=b;simp at h;rw[h]
theorem zbE {im : Im} {io : Io} : ∀ {ks : List Nat} {l m : List V} {cs ds : List Value}, VL im io l cs -> VL im io m ds -> eqK ks l m = some true -> cs = ds /\ ∀ x ∈ cs, (∃ k n, x = .int k n) \/ (∃ b, x = .bool b) \/ ∃ s, x = .string s
 | [],l,m,cs,ds,hl,hm,he=>by
   have:=KS he;have h1:=z7.1 this.1;have h2:=z7.1 this.2;subst h1;subst h2;have h3:=z7.1 hl.1.symm;have h4:=z7.1 hm.1.symm;subst h3;subst h4;exact⟨rfl,by simp⟩
 | k :: ks,l,m,cs,ds,hl,hm,he=>by
   unfold eqK at he;split at he
   . rename_i e;cases e
   . rename_i e;cases e;split at he
     . rename_i hk;subst hk;split at he
       . rename_i r hr;obtain⟨x,r1,rfl,hx,h1⟩:=hl.uncons;obtain⟨y,r2,rfl,hy,h2⟩:=hm.uncons;cases hx;cases hy;simp at he;obtain⟨h3,h4⟩:=zbE h1 h2 (by rw[hr,he.2]);rw[he.1,h3];exact⟨rfl,fun z hz=>by rcases zN.1 hz with rfl|hz;exact .inl ⟨_,_,rfl⟩;exact h4 z (by rw[h3];exact hz)⟩
       . cases he
     . cases he
   . rename_i e;cases e;split at he
     . rename_i r hr;obtain⟨x,r1,rfl,hx,h1⟩:=hl.uncons;obtain⟨y,r2,rfl,hy,h2⟩:=hm.uncons;cases hx;cases hy;simp at he;obtain⟨h3,h4⟩:=zbE h1 h2 (by rw[hr,he.2]);rw[he.1,h3];exact⟨rfl,fun z hz=>by rcases zN.1 hz with rfl|hz;exact .inr (.inl ⟨_,rfl⟩);exact h4 z (by rw[h3];exact hz)⟩
     . cases he
   . rename_i e;cases e;split at he
     . rename_i r hr;obtain⟨x,r1,rfl,hx,h1⟩:=hl.uncons;obtain⟨y,r2,rfl,hy,h2⟩:=hm.uncons;cases hx;cases hy;have he':=Option.some.inj he;rw[zE] at he';obtain⟨h3,h4⟩:=zbE h1 h2 (by rw[hr,he'.2]);have hb:=he'.1;rw[zoq (eq_of_beq hb),h3];exact⟨rfl,fun z hz=>by rcases zN.1 hz with rfl|hz;exact .inr (.inr ⟨_,rfl⟩);exact h4 z (by rw[h3];exact hz)⟩
     . cases he
   . cases he
theorem zel{ks:List Nat}{k x:V}{b:Bool}(h:keq ks k x=some b):k.one=x.one/\eqK ks k.cells x.cells=some b:=by
 unfold keq at h;split at h
 . rename_i ho;exact⟨ho,h⟩
 . cases h
theorem zgb {im : Im} {io : Io} {kt : TypeId} {ks : List Nat} (hk : kds P 12 kt = some ks) {k x : V} {kv xv : Value} (h1 : VR im io k kv) (h2 : VR im io x xv) (ho : k.one = !XY P kt) {b : Bool} (he : keq ks k x = some b) (w : World) :
    (Op.equal kt kv xv).run P w=.ok b w:=by
 have hq:=zel he;clear he;obtain⟨ho2,he⟩:=hq;have e1:=zln (P:=P) h1 ho;have e2:=zln (P:=P) h2 (by rw[<- ho2];exact ho);rw[e1,e2];have:=qF (P:=P) (im:=im) (io:=io) 12 kt ks hk 10000 (by decide) k.cells x.cells kv.cells.toList xv.cells.toList b w h1.cells.1 h2.cells.1 he;exact this
theorem zc3 {im : Im} {io : Io} {kt : TypeId} {ks : List Nat} (hk : kds P 12 kt = some ks) (hag : XY P kt = false) {ty : TypeDesc} (hu : P.underlying kt = some ty) {k x : V} {kv xv : Value} (h1 : VR im io k kv) (h2 : VR im io x xv) (ho : k.one = !XY P kt) {b : Bool} (he : keq ks k x = some b) :
    Instr.sameNow ty kv xv=some b:=by
 have hq:=zel he;clear he;obtain⟨ho2,he⟩:=hq;rw[hag] at ho;have hx1:x.one=true:=by rw[<- ho2];simpa using ho
 have hc1:k.cells=[k]:=by cases k <;> first|rfl|(simp[V.one] at ho)
 have hc2:x.cells=[x]:=by cases x <;> first|rfl|(simp[V.one] at hx1)
 rw[hc1,hc2] at he;unfold kds at hk;rw[hu] at hk;split at hk <;> rename_i hty
 . cases hty;cases hk;unfold eqK at he;split at he <;> first|(rename_i e _ _;cases e;done)|cases he|skip
   rename_i e e1 e2;cases e;cases e1;cases e2;cases h1;cases h2;split at he
   . rename_i hkk;subst hkk;simp[eqK] at he;simp[Instr.sameNow,he]
   . cases he
 . cases hty;cases hk;unfold eqK at he;split at he <;> first|(rename_i e _ _;cases e;done)|cases he|skip
   rename_i e e1 e2;cases e;cases e1;cases e2;cases h1;cases h2;simp[eqK] at he;simp[Instr.sameNow,he]
 . cases hty;cases hk;unfold eqK at he;split at he <;> first|(rename_i e _ _;cases e;done)|cases he|skip
   rename_i e e1 e2;cases e;cases e1;cases e2;cases h1;cases h2;simp[eqK] at he;simp[Instr.sameNow,beq_toListBytes,he]
 . cases hty;simp[XY,hu] at hag
 . cases hk
theorem K7 {im : Im} {io : Io} {kt : TypeId} {ks : List Nat} (hk : kds P 12 kt = some ks) {k : V} {kv : Value} (h1 : VR im io k kv) (ho : k.one = !XY P kt) {es : List (V × V)} {ms : List MapEntry} (hl : es.length = ms.length)
    (hr:∀ (i:Nat) x v e,es[i]?=some (x,v)->ms[i]?=some e->VR im io x e.key/\VR im io v e.val) {r:Option Nat} (hf:Qp ks k es 0=some r) (w:World) :
    (match r with|none=>True|some i=>∃ x v e,es[i]?=some (x,v)/\ms[i]?=some e/\keq ks k x=some true)/\(Instr.findKey kt kv ms).run P w=.ok (r.bind fun i=>(ms[i]?).map fun e=>(i,e.val)) w:=by
 have hu:∃ ty,P.underlying kt=some ty:=by
  unfold kds at hk;split at hk <;> first|exact⟨_,by assumption⟩|cases hk
 obtain⟨ty,hu⟩:=hu;have hplace:∀ (es:List (V×V)) (n:Nat) (r:Option Nat),Qp ks k es n=some r->(match r with|none=>True|some i=>n<=i/\∃ x v,es[i - n]?=some (x,v)/\keq ks k x=some true):=by
  intro es
  induction es with
  | nil=>intro n r h;cases h;trivial
  | cons p es ih =>
    intro n r h;obtain⟨x,v⟩:=p;unfold Qp at h;split at h
    . rename_i hk;cases h;exact⟨zn _,x,v,by simp,hk⟩
    . have:=ih _ _ h;cases r with
      | none=>trivial
      | some i =>
        obtain⟨h1,x',v',h2,h3⟩:=this;exact⟨by omega,x',v',by rw[show i - n=(i - (n+1))+1 from by omega];simpa using h2,h3⟩
    . cases h
 refine⟨?_,?_⟩
 . have:=hplace es 0 r hf;cases r with
   | none=>trivial
   | some i =>
     obtain⟨_,x,v,h2,h3⟩:=this;simp at h2;obtain⟨e,he⟩:∃ e,ms[i]?=some e:=⟨_,zf (by rw[<- hl];exact(zj.1 h2).1)⟩;exact⟨x,v,e,h2,he,h3⟩
 . have hshift:∀ (ms:List MapEntry) (r:Option Nat) (n:Nat) (e:MapEntry),(r.bind fun i=>(ms[i]?).map fun e=>(i,e.val))=(r.bind fun i=>(ms[i]?).map fun e=>(i,e.val)):=fun _ _ _ _=>rfl;unfold Instr.findKey;simp only[Sem.run_bind,run_underlying hu,Result.andThen_ok];rcases zmS hk with ⟨hag,hlen⟩|⟨fs,hfs⟩
   . have:∀ (es:List (V×V)) (ms:List MapEntry) (n:Nat) (r:Option Nat),es.length=ms.length->(∀ (i:Nat) x v e,es[i]?=some (x,v)->ms[i]?=some e->VR im io x e.key)->Qp ks k es n=some r →
         Instr.findNow ty kv ms n=some (r.bind fun i=>(ms[i - n]?).map fun e=>(i,e.val)):=by
       intro es
       induction es with
       | nil=>intro ms n r hl hr h;cases h;cases ms with
         | nil=>rfl
         | cons=>simp at hl
       | cons p es ih =>
         intro ms n r hl hr h;obtain⟨x,v⟩:=p;cases ms with
         | nil=>simp at hl
         | cons e ms =>
           have hx:=hr 0 x v e rfl rfl;unfold Qp at h;unfold Instr.findNow;split at h
           . rename_i hkx;cases h;rw[zc3 hk hag hu h1 hx ho hkx];simp
           . rename_i hkx;rw[zc3 hk hag hu h1 hx ho hkx];simp only;rw[ih ms (n+1) r (by simpa using hl) (fun i x v e h2 h3=>hr (i+1) x v e (by simpa using h2) (by simpa using h3)) h];cases r with
             | none=>rfl
             | some i =>
               have:=hplace _ _ _ h;simp only[Option.bind_some];rw[show i - n=(i - (n+1))+1 from by omega];simp
           . cases h
     rw[this es ms 0 r hl (fun i x v e h2 h3=>(hr i x v e h2 h3).1) hf];simp
   . rw[hu] at hfs;cases hfs;have hag:XY P kt=true:=by simp[XY,hu]
     cases es with
     | nil =>
       cases ms with
       | nil=>cases hf;simp[Instr.findNow]
       | cons=>simp at hl
     | cons p es =>
       cases ms with
       | nil=>simp at hl
       | cons e ms =>
         have hnone:Instr.findNow (.struct fs) kv (e :: ms) 0=none:=by
          simp[Instr.findNow,Instr.sameNow]
         rw[hnone];have:∀ (es:List (V×V)) (ms:List MapEntry) (n:Nat) (r:Option Nat),es.length=ms.length->(∀ (i:Nat) x v e,es[i]?=some (x,v)->ms[i]?=some e->VR im io x e.key)->Qp ks k es n=some r →
             (Instr.findAsking kt kv ms n).run P w=.ok (r.bind fun i=>(ms[i - n]?).map fun e=>(i,e.val)) w:=by
          intro es
          induction es with
          | nil=>intro ms n r hl hr h;cases h;cases ms with
            | nil=>simp[Instr.findAsking]
            | cons=>simp at hl
          | cons p es ih =>
            intro ms n r hl hr h;obtain⟨x,v⟩:=p;cases ms with
            | nil=>simp at hl
            | cons e ms =>
              have hx:=hr 0 x v e rfl rfl;unfold Qp at h;unfold Instr.findAsking;split at h
              . rename_i hkx;cases h;rw[Sem.run_bind,zgb hk h1 hx ho hkx w];simp
              . rename_i hkx;rw[Sem.run_bind,zgb hk h1 hx ho hkx w];simp only[Result.andThen_ok,zt,if_false];rw[ih ms (n+1) r (by simpa using hl) (fun i x v e h2 h3=>hr (i+1) x v e (by simpa using h2) (by simpa using h3)) h];cases r with
                | none=>rfl
                | some i =>
                  have:=hplace _ _ _ h;simp only[Option.bind_some];rw[show i - n=(i - (n+1))+1 from by omega];simp
              . cases h
         have hq:=this (p :: es) (e :: ms) 0 r hl (fun i x v e h2 h3=>(hr i x v e h2 h3).1) hf;simpa using hq
end
end Go.L
namespace Go.L
open Go.RowKit
section
variable {vc:Bool} {P:Program} {o:Oper} {a:Act} {g:G} {w:World} {F:List S} {h:ze}
theorem jW{im:Im}{io:Io}{et:TypeId}{z:List V}{zv:Value}(hz:VL im io z zv.cells.toList)(ho:Ones z){i:TypeInfo}(hi:P.info? et=some i)(hzv:i.zero=some zv)(hag:zd1 P et=XY P et){x:V}(hx:Jd (XY P et) z 0 z.length=some x):VR im io x zv:=by
 unfold Jd at hx;cases hagg:XY P et with
 | true =>
   rw[hagg] at hx hag;simp at hx;subst hx;simp only[zd1,hi,hzv] at hag;cases zv <;> simp at hag;exact VL.agg hz ho
 | false =>
   rw[hagg] at hx hag;simp at hx;simp only[zd1,hi,hzv] at hag;obtain⟨y,hy,hv⟩:=hz.get hx;have:zv.cells=#[zv]:=by cases zv <;> first|rfl|(simp at hag)
   rw[this] at hy;simp at hy;subst hy;exact hv
theorem zdy {t kt et : TypeId} {m k : Operand} {ok : Bool} {b : Nat} {key zero v : V} {es : List (V × V)} {z : List V} {ks : List Nat} {r : Option Nat} (ho : o.op = .lookup t m k ok) (hu : P.underlying t = some (.map kt et)) (hm : evV F m = some (.map b)) (hk : evV F k = some key)
    (hb:h[b]?=some (.map es)) (hz:Q1 P et=some z) (hks:kds P 12 kt=some ks) (hfi:Qp ks key es 0=some r) (hp:Jd (XY P et) z 0 z.length=some zero) (hv:J1 es zero r=some v)
    (hc:key.one=!XY P kt/\key.cells.length=ks.length/\zd1 P et=XY P et) (hh:Hinv g h w) (hf:Finv g F a.tmps w) :
    QG P o a g w (put F o.dst (if ok then .tup [v,.bool r.isSome] else .v v)) h:=by
 have hmv:=ZW hf hm;generalize hme:a.eval m=mv at hmv;have hkv:=ZW hf hk;generalize hke:a.eval k=kv at hkv;cases hmv with
 | map _ β hβ =>
   obtain⟨β',i1,i2,ms,clock,hmap,hl,hr⟩:=hh.hp b _ hb;rw[i1] at hβ;cases hβ;obtain⟨i,zv,hi,hzv,hzs,hzl,hzo,_,_⟩:=Q9 hz;have hr':∀ (i:Nat) x v e,es[i]?=some (x,v)->ms.toList[i]?=some e->VR g.im g.io x e.key/\VR g.im g.io v e.val:=fun i x v e h1 h2=>hr i x v e h1 (by simpa using h2);obtain⟨f1,f2⟩:=K7 hks hkv hc.1 (by simpa using hl) hr' hfi w;have hck:=YZ (P:=P) (ms.isEmpty) 12 kt ks hks 10000 (by decide) kv.cells.toList w (by rw[<- hkv.cells.1.1];exact hc.2.1) (hkv.cells.1.oneCell hkv.cells.2);rw[<- zln hkv hc.1] at hck;have hans:∃ u,VR g.im g.io v u/\(execOp a.eval o).run P w=.ok (.value (if ok then .tuple #[u,.bool r.isSome] else u)) w:=by
    cases r with
    | none =>
      simp only[J1] at hv;cases hv;refine⟨zv,jW (hzl _ _) hzo hi hzv hc.2.2 hp,?_⟩;simp only[Option.bind_none] at f2;simp only[execOp,ho,hme,hke,Instr.lookup,Sem.run_bind,run_underlying hu,Result.andThen_ok,getObj,Sem.run,hmap,Sem.run_pure,hck,f2,YB hi hzv];rfl
    | some j =>
      obtain⟨x,v',e,h1,h2,h3⟩:=f1;simp only[J1,h1,Z5] at hv;cases hv;refine⟨e.val,(hr' j x _ e h1 h2).2,?_⟩;simp only[Option.bind_some,h2,Z5] at f2;simp only[execOp,ho,hme,hke,Instr.lookup,Sem.run_bind,run_underlying hu,Result.andThen_ok,getObj,Sem.run,hmap,Sem.run_pure,hck,f2];rfl
   obtain⟨u,hvr,hrun⟩:=hans;cases ok with
   | true =>
     refine za4 (x:=.tup [v,.bool r.isSome]) hrun hh hf (.refl _ _) (fun _ _=>⟨_,rfl,?_⟩) rfl (by simp);exact .cons hvr (.cons (.bool _) .nil)
   | false=>exact XI hrun hh hf (.refl _ _) hvr
theorem zdz {x : Operand} {xt t : TypeId} {ok : Bool} {v : V} {s : V × Bool} (ho : o.op = .typeAssert x xt t ok) (hx : evV F x = some v) (hs : zpY P t ok v = some s) (hh : Hinv g h w) (hf : Finv g F a.tmps w) :
    QG P o a g w (put F o.dst (zut ok s.1 s.2)) h:=by
 have hxv:=ZW hf hx;generalize hxe:a.eval x=xv at hxv;unfold zpY at hs;split at hs
 . rename_i u z hu hz;split at hs
   . cases hs
   . rename_i hc;have hc1:zd2 P t=false:=by cases hb:zd2 P t <;> simp_all
     have hc2:zd1 P t=XY P t:=by
      cases hb:(zd1 P t == XY P t) with
      | true=>exact eq_of_beq hb
      | false=>exact absurd (by rw[hb];simp) hc
     unfold zd2 at hc1;rw[hu] at hc1;obtain⟨i,zv,hi,hzv,hzs,hzl,hzo,_,_⟩:=Q9 hz;split at hs
     . rename_i t' v' zero hp;cases hxv with
       | iface _ _ y hy =>
         split at hs
         . rename_i hte;subst hte;cases hs;cases ok with
           | true =>
             refine za4 (v:=.tuple #[y,.bool true]) (x:=.tup [v',.bool true]) ?_ hh hf (.refl _ _) (fun _ _=>⟨_,rfl,.cons hy (.cons (.bool _) .nil)⟩) rfl (by simp);simp only[execOp,ho,hxe,Instr.typeAssert,Sem.run_bind,run_underlying hu,Result.andThen_ok];cases u <;> first|(simp at hc1;done)|(simp;done)
           | false =>
             refine XI (v:=y) ?_ hh hf (.refl _ _) hy;simp only[execOp,ho,hxe,Instr.typeAssert,Sem.run_bind,run_underlying hu,Result.andThen_ok];cases u <;> first|(simp at hc1;done)|(simp;done)
         . rename_i hte;split at hs
           . rename_i hok;subst hok;cases hs;refine za4 (v:=.tuple #[zv,.bool false]) (x:=.tup [zero,.bool false]) ?_ hh hf (.refl _ _) (fun _ _=>⟨_,rfl,.cons (jW (hzl _ _) hzo hi hzv hc2 hp) (.cons (.bool _) .nil)⟩) rfl (by simp);simp only[execOp,ho,hxe,Instr.typeAssert,Sem.run_bind,run_underlying hu,Result.andThen_ok];cases u <;> first|(simp at hc1;done)|(simp[hte,YB hi hzv];done)
           . cases hs
     . rename_i zero hp;cases hxv;split at hs
       . rename_i hok;subst hok;cases hs;refine za4 (v:=.tuple #[zv,.bool false]) (x:=.tup [zero,.bool false]) ?_ hh hf (.refl _ _) (fun _ _=>⟨_,rfl,.cons (jW (hzl _ _) hzo hi hzv hc2 hp) (.cons (.bool _) .nil)⟩) rfl (by simp);simp only[execOp,ho,hxe,Instr.typeAssert,Sem.run_bind,run_underlying hu,Result.andThen_ok];cases u <;> first|(simp at hc1;done)|(simp[YB hi hzv];done)
       . cases hs
     . cases hs
 . cases hs
theorem zdA {t kt et : TypeId} {m k : Operand} {ok : Bool} {key zero v : V} {z : List V} {ks : List Nat} {r : Option Nat} (ho : o.op = .lookup t m k ok) (hu : P.underlying t = some (.map kt et)) (hm : evV F m = some (.val (.map none))) (hk : evV F k = some key)
    (hz:Q1 P et=some z) (hks:kds P 12 kt=some ks) (hfi:Qp ks key [] 0=some r) (hp:Jd (XY P et) z 0 z.length=some zero) (hv:J1 [] zero r=some v)
    (hc:key.one=!XY P kt/\key.cells.length=ks.length/\zd1 P et=XY P et) (hh:Hinv g h w) (hf:Finv g F a.tmps w) :
    QG P o a g w (put F o.dst (if ok then .tup [v,.bool r.isSome] else .v v)) h:=by
 have hmv:=ZW hf hm;generalize hme:a.eval m=mv at hmv;have hkv:=ZW hf hk;generalize hke:a.eval k=kv at hkv;cases hmv with
 | val _ hpl =>
   obtain⟨i,zv,hi,hzv,hzs,hzl,hzo,_,_⟩:=Q9 hz;obtain⟨f1,f2⟩:=K7 (im:=g.im) (io:=g.io) (ms:=[]) hks hkv hc.1 rfl (fun i x v e h1 h2=>by simp at h1) hfi w;have hck:=YZ (P:=P) ((#[]:Array MapEntry).isEmpty) 12 kt ks hks 10000 (by decide) kv.cells.toList w (by rw[<- hkv.cells.1.1];exact hc.2.1) (hkv.cells.1.oneCell hkv.cells.2);rw[<- zln hkv hc.1] at hck;cases hfi;simp only[J1] at hv;cases hv;have hrun:(execOp a.eval o).run P w=.ok (.value (if ok then .tuple #[zv,.bool false] else zv)) w:=by
    simp only[Option.bind_none] at f2;simp only[execOp,ho,hme,hke,Instr.lookup,Sem.run_bind,run_underlying hu,Result.andThen_ok,Sem.run_pure,hck,f2,YB hi hzv]
   have hvr:VR g.im g.io zero zv:=jW (hzl _ _) hzo hi hzv hc.2.2 hp;cases ok with
   | true =>
     refine za4 (x:=.tup [zero,.bool false]) hrun hh hf (.refl _ _) (fun _ _=>⟨_,rfl,?_⟩) rfl (by simp);exact .cons hvr (.cons (.bool _) .nil)
   | false=>exact XI hrun hh hf (.refl _ _) hvr
theorem ziF {t kt et : TypeId} {m k : Operand} {ok : Bool} {mv key zero v : V} {es : List (V × V)} {z : List V} {ks : List Nat} {r : Option Nat} (ho : o.op = .lookup t m k ok) (hu : P.underlying t = some (.map kt et)) (hm : evV F m = some mv) (hk : evV F k = some key)
    (hb:Yy h mv=some es) (hz:Q1 P et=some z) (hks:kds P 12 kt=some ks) (hfi:Qp ks key es 0=some r) (hp:Jd (XY P et) z 0 z.length=some zero) (hv:J1 es zero r=some v)
    (hc:key.one=!XY P kt/\key.cells.length=ks.length/\zd1 P et=XY P et) (hh:Hinv g h w) (hf:Finv g F a.tmps w) :
    QG P o a g w (put F o.dst (if ok then .tup [v,.bool r.isSome] else .v v)) h:=by
 unfold Yy at hb;split at hb
 . rename_i b;split at hb
   . rename_i es' hes;cases hb;exact zdy ho hu hm hk hes hz hks hfi hp hv hc hh hf
   . cases hb
 . cases hb;exact zdA ho hu hm hk hz hks hfi hp hv hc hh hf
 . cases hb
theorem Yt:∀ (v:Value),((∃ k n,v=.int k n)\/(∃ b,v=.bool b)\/∃ s,v=.string s)->∀ n,Instr.sameBits n v v=true:=by
 rintro v (⟨k,n,rfl⟩|⟨b,rfl⟩|⟨s,rfl⟩) n
 . cases n <;> simp[Instr.sameBits]
 . cases n <;> simp[Instr.sameBits]
 . cases n <;> (simp[Instr.sameBits];rw[beq_toListBytes];simp)
theorem zhi{v:Value}(hc:∀ x∈v.cells.toList,(∃ k n,x=.int k n)\/(∃ b,x=.bool b)\/∃ s,x=.string s):Instr.sameBits 10000 v v=true:=by
 cases v with
 | agg c =>
   have hc':∀ x∈c.toList,(∃ k n,x=.int k n)\/(∃ b,x=.bool b)\/∃ s,x=.string s:=hc;show (c.size == c.size && (c.toList.zip c.toList).all fun(x,y)=>Instr.sameBits 9999 x y)=true;rw[zE];refine⟨by simp,Zz.2 fun p hp=>?_⟩;obtain⟨x,y⟩:=p;have hxy:x=y:=by
    generalize c.toList=l at hp
    induction l with
    | nil=>simp at hp
    | cons z l ih =>
      rw[Qu] at hp;rcases zN.1 hp with h|h
      . cases h;rfl
      . exact ih h
   subst hxy;exact Yt x (hc' x (List.of_mem_zip hp).1) 9999
 | int k n=>exact Yt _ (.inl ⟨_,_,rfl⟩) _
 | bool b=>exact Yt _ (.inr (.inl ⟨_,rfl⟩)) _
 | string s=>exact Yt _ (.inr (.inr ⟨_,rfl⟩)) _
 | _ =>
   rcases hc _ (by simp[Value.cells];rfl) with ⟨_,_,h⟩|⟨_,h⟩|⟨_,h⟩ <;> cases h
theorem qI {t kt et : TypeId} {m k x : Operand} {b : Nat} {key v : V} {es : List (V × V)} {ks : List Nat} {r : Option Nat} {F1 : List S} {h1 : ze} (ho : o.op = .mapUpdate t m k x \/ o.op = .insert t m k x) (hu : P.underlying t = some (.map kt et)) (hm : evV F m = some (.map b)) (hk : evV F k = some key)
    (he:evE vc F h x=some (v,F1,h1)) (hb:h1[b]?=some (.map es)) (hks:kds P 12 kt=some ks) (hfi:Qp ks key es 0=some r) (hc:key.one=!XY P kt/\key.cells.length=ks.length) (hh:Hinv g h w) (hf:Finv g F a.tmps w) :
    QG P o a g w (put F1 o.dst .sk) (h1.set b (.map (upd es key v r))):=by
 obtain⟨g1,a1,a2,a3,a4⟩:=Qk hh hf he;have hmv:=(ZW hf hm).mono a3.im a3.io;generalize hme:a.eval m=mv at hmv;have hkv:=(ZW hf hk).mono a3.im a3.io;generalize hke:a.eval k=kv at hkv;generalize hxe:a.eval x=xv at a4;cases hmv with
 | map _ β hβ =>
   obtain⟨β',i1,i2,ms,clock,hmap,hl,hr⟩:=a1.hp b _ hb;rw[i1] at hβ;cases hβ;have hr':∀ (i:Nat) x v e,es[i]?=some (x,v)->ms.toList[i]?=some e->VR g1.im g1.io x e.key/\VR g1.im g1.io v e.val:=fun i x v e h1 h2=>hr i x v e h1 (by simpa using h2);obtain⟨f1,f2⟩:=K7 hks hkv hc.1 (by simpa using hl) hr' hfi w;have hck:=YZ (P:=P) false 12 kt ks hks 10000 (by decide) kv.cells.toList w (by rw[<- hkv.cells.1.1];exact hc.2) (hkv.cells.1.oneCell hkv.cells.2);rw[<- zln hkv hc.1] at hck;have hans:∃ ms' clock',(execOp a.eval o).run P w=.ok .skip { w with heap:=w.heap.setIfInBounds β (.map ms' clock') }/\(upd es key v r).length=ms'.size ∧
       ∀ (i:Nat) k v' e,(upd es key v r)[i]?=some (k,v')->ms'[i]?=some e->VR g1.im g1.io k e.key/\VR g1.im g1.io v' e.val:=by
    cases r with
    | none =>
      refine⟨ms.push { key:=kv,val:=xv,born:=clock },clock+1,?_,by simp[upd,hl],fun i k' v' e h2 h3=>?_⟩
      . simp only[Option.bind_none] at f2;rcases ho with ho|ho <;> (simp only[execOp,ho,hme,hke,hxe,Instr.mapUpdate,Sem.run_bind,run_underlying hu,Result.andThen_ok,getObj,Sem.run,hmap,Sem.run_pure,hck,f2,setObj])
      . simp only[upd] at h2;rw[ZP] at h2;rw[QE] at h3;split at h2
        . rename_i hlt;rw[if_neg (by omega)] at h3;exact hr i k' v' e h2 h3
        . rename_i hge;have:i=es.length:=by
           have:=(zj.1 h2).1;simp at this;omega
          subst this;simp at h2;rw[if_pos hl] at h3;cases h3;obtain⟨rfl,rfl⟩:=h2;exact⟨hkv,a4⟩
    | some j =>
      obtain⟨x',v',e,h2,h3,h4⟩:=f1;obtain⟨o1,o2⟩:=zel h4;have hkey:=zbE (hkv.cells.1) ((hr' j x' v' e h2 h3).1.cells.1) o2;have heq:e.key=kv:=by
       rw[zln (P:=P) hkv hc.1,zln (P:=P) (hr' j x' v' e h2 h3).1 (by rw[<- o1];exact hc.1),hkey.1]
      have hsb:Instr.sameBits 10000 kv kv=true:=zhi hkey.2;have h3':ms[j]?=some e:=by simpa using h3
      refine⟨ms.modify j fun e=>{ e with key:=kv,val:=xv },clock,?_,by simp[upd,hl],fun i k' v2 e2 h5 h6=>?_⟩
      . simp only[Option.bind_some,h3,Z5] at f2;rcases ho with ho|ho <;> (simp only[execOp,ho,hme,hke,hxe,Instr.mapUpdate,Sem.run_bind,run_underlying hu,Result.andThen_ok,getObj,Sem.run,hmap,Sem.run_pure,hck,f2,h3',Z5,Wk,heq,Instr.keyThatStays,hsb,if_true,setObj])
      . simp only[upd] at h5;rw[Zd] at h5;rw[Array.getElem?_modify] at h6;split at h5
        . rename_i hij;subst hij;rw[if_pos rfl,h3'] at h6;simp at h6;subst h6;split at h5
          . cases h5;exact⟨hkv,a4⟩
          . cases h5
        . rename_i hij;rw[if_neg hij] at h6;exact hr i k' v2 e2 h5 h6
   obtain⟨ms',clock',hrun,hlen,hrel⟩:=hans;have hβlt:β < w.heap.size:=a1.ow β (by rw[i2];simp);have hset:∀ b',b'≠β->({ w with heap:=w.heap.setIfInBounds β (.map ms' clock') }:World).heap[b']?=w.heap[b']?:=fun b' hb'=>by
    show (w.heap.setIfInBounds β _)[b']?=_;rw[Array.getElem?_setIfInBounds_ne (Ne.symm hb')]
   have hself:({ w with heap:=w.heap.setIfInBounds β (.map ms' clock') }:World).heap[β]?=some (.map ms' clock'):=by
    show (w.heap.setIfInBounds β _)[β]?=_;rw[Array.getElem?_setIfInBounds_self_of_lt hβlt]
   refine⟨undef,_,g1,.inr ⟨hrun,rfl⟩,⟨fun b2 y hy=>?_,fun b2 β2 h2=>by rw[zw];exact a1.io b2 β2 h2,fun p u hp=>?_,fun b2 h2=>by simpa using a1.ow b2 h2⟩,Finv.put ?_ o.dst .sk _ (fun k _ _=>rfl) (fun k e sz i c _ he=>by cases he),a3.trans ⟨fun _ _ h=>h,fun _ _ h=>h,fun _ _ h=>.inl h,fun _ _ h=>h,rfl,rfl,rfl,by simp,fun b2 _ h2=>hset b2 (by rintro rfl;rw[i2] at h2;cases h2)⟩⟩
   . rw[Zd] at hy;split at hy
     . rename_i e;subst e;split at hy
       . cases hy;exact⟨β,i1,i2,ms',clock',hself,hlen,hrel⟩
       . cases hy
     . rename_i hne;refine(a1.hp b2 y hy).keep (fun _ _ h=>h) (fun _ _ h=>h) fun β2 j2=>⟨j2,hset β2 ?_⟩;rintro rfl;rw[i2] at j2;cases j2;exact hne rfl
   . obtain⟨j1,j2⟩:=a1.im p u hp;exact⟨by rw[World.cell?_of_block (w:=w) (hset _ (by rintro e;rw[e,i2] at j2;cases j2))];exact j1,j2⟩
   . exact a2.keep (fun _ _ h=>h) (fun _ _ h=>h) fun b2 s2 h2=>⟨h2,hset b2 (by rintro rfl;rw[i2] at h2;cases h2)⟩
end
end Go.L
namespace Go.L
open Go.RowKit
section
variable {vc:Bool} {P:Program} {o:Oper} {a:Act} {g:G} {w:World} {F:List S} {h:ze}
def NatPost(w:World)(v:Value)(e n:Nat)(xs:List Value)(en:Ending)(w':World):Prop :=
 ∃ v',en=.returned v'/\w'.ownsRow 0 e 1 v' n xs/\w.grownBy w' v.ownBlock/\∀ β,v'.ownBlock=some β->v.ownBlock=some β\/w.heap.size<=β
def NatPost3(w:World)(v:Value)(e n:Nat)(xs:List Value)(en:Ending)(w':World):Prop :=
 ∃ v',en=.returned v'/\w'.ownsRow 0 e 3 v' n xs/\w.grownBy w' v.ownBlock/\∀ β,v'.ownBlock=some β->v.ownBlock=some β\/w.heap.size<=β
structure NatOk(P:Program):Prop where
 clone3:∀ f e,natF P f=some (3,e)->∀ (w:World) (A:Option Addr) (cap:Nat) (ad:Addr) (n:Nat) (xs:List Value),xs.length=n * 3->n < lim->(n=0\/A=some ad)->(∀ (j:Nat) u,xs[j]?=some u->w.cell? (ad.add j)=some u)->(∀ u∈xs,u.oneCell'=true) →
  Calls P f #[.slice A n cap] w (NatPost3 w (.slice none 0 0) e n xs)
 fn:∀ f k e,natF P f=some (k,e)->∃ fn,P.funcs[f]?=some fn/\fn.body.isNone=false/\(fn.name == "runtime.NumGoroutine")=false
 clone:∀ f e,natF P f=some (0,e)->∀ (w:World) (A:Option Addr) (cap:Nat) (ad:Addr) (xs:List Value),xs.length < lim->(xs=[]\/A=some ad)->(∀ (j:Nat) u,xs[j]?=some u->w.cell? (ad.add j)=some u)->(∀ u∈xs,u.oneCell'=true) →
  Calls P f #[.slice A xs.length cap] w (NatPost w (.slice none 0 0) e xs.length xs)
 insert:∀ f e,natF P f=some (1,e)->∀ (w:World) (v vy:Value) (xs:List Value) (x:Value) (i:Nat),w.ownsRow 0 e 1 v xs.length xs->w.ownsRow 0 e 1 vy 1 [x]->v.ownBlock≠vy.ownBlock->i<=xs.length->xs.length+1 < lim->(∀ u∈xs,u.oneCell'=true)->x.oneCell'=true →
  Calls P f #[v,.int .i64 i,vy] w (NatPost w v e (xs.length+1) (xs.take i++[x]++xs.drop i))
 delete:∀ f e,natF P f=some (2,e)->∀ (w:World) (v:Value) (xs:List Value) (i j:Nat),w.ownsRow 0 e 1 v xs.length xs->i < j->j<=xs.length->xs.length < lim->(∀ u∈xs,u.oneCell'=true) →
  Calls P f #[v,.int .i64 i,.int .i64 j] w (NatPost w v e (xs.length - (j - i)) (xs.take i++xs.drop j))
theorem zbF {v v' : Value} {w' : World} {e s sz : Nat} {l : List (List V)} {xs : List Value} {F1 : List S} (hh : Hinv g h w) (hf : Finv g F1 a.tmps w) (hun : ∀ x, F1[s]? = some x -> lin x = false \/ x = .gone)
    (how:∀ β,v.ownBlock=some β->g.ow β=some (.slot s)) (hones:∀ es∈l,es.length=sz/\Ones es) (hvl:VL g.im g.io l.flatten xs)
    (hown:w'.ownsRow 0 e sz v' l.length xs) (hg:w.grownBy w' v.ownBlock) (hob:∀ β,v'.ownBlock=some β->v.ownBlock=some β\/w.heap.size<=β) :
    ∃ g',Hinv g' h w'/\Finv g' (put F1 o.dst (.own e sz l)) (a.put o.dst v').tmps w'/\Step g w g' w':=by
 have hsame:∀ β,β < w.heap.size->g.ow β≠some (.slot s)->w'.heap[β]?=w.heap[β]?:=fun β hβ hne=>hg.block β hβ fun e=>hne (how β e.symm)
 let g':G:=match v'.ownBlock with|some β=>g.own β (o.dst.map .slot)|none=>g
 have him:g'.im=g.im:=by show (match v'.ownBlock with|some β=>g.own β (o.dst.map .slot)|none=>g).im=_;split <;> rfl
 have hio:g'.io=g.io:=by show (match v'.ownBlock with|some β=>g.own β (o.dst.map .slot)|none=>g).io=_;split <;> rfl
 have howner:∀ β,v'.ownBlock=some β->g'.ow β=o.dst.map .slot:=fun β hβ=>by
  show (match v'.ownBlock with|some β=>g.own β (o.dst.map .slot)|none=>g).ow β=_;rw[hβ];exact G.own_same _ _ _
 have hother:∀ β,v'.ownBlock≠some β->g'.ow β=g.ow β:=fun β hβ=>by
  show (match v'.ownBlock with|some β=>g.own β (o.dst.map .slot)|none=>g).ow β=_;split
  . rename_i b hb;exact G.own_ne _ _ (by rintro rfl;exact hβ hb)
  . rfl
 have hkeep:∀ β,g.ow β≠some (.slot s)->β < w.heap.size->g'.ow β=g.ow β:=fun β h1 h2=>hother β fun e=>by
  rcases hob β e with h|h
  . exact h1 (how β h)
  . omega
 refine⟨g',?_,?_,⟨fun p v hp=>by rw[him];exact hp,fun b β hb=>by rw[hio];exact hb,fun p v hp=>.inl (by rw[him] at hp;exact hp),fun β hβ h0=>?_,hg.os,hg.tape,hg.output,hg.size,fun β hβ h0=>hsame β hβ (by rw[h0];simp)⟩⟩
 . refine hh.keep him hio (fun β h0 hlt=>⟨?_,hsame β hlt (by rw[h0];simp)⟩) (fun β b hb=>⟨?_,hsame β (hh.ow β (by rw[hb];simp)) (by rw[hb];simp)⟩) (fun β hβ=>?_)
   . rw[hkeep β (by rw[h0];simp) hlt];exact h0
   . have:=hh.ow β (by rw[hb];simp);rw[hkeep β (by rw[hb];simp) (by omega)];exact hb
   . by_cases hv:v'.ownBlock=some β
     . exact(hown.lt β hv).2
     . rw[hother β hv] at hβ;exact Z1 (hh.ow β hβ) hg.size
 . refine Finv.put ?_ o.dst (.own e sz l) v' (fun k hk _=>show SR _ _ _ _ (.own e sz l) _ from⟨xs,hown,hones,by rw[him,hio];exact hvl,fun β hβ=>by rw[howner β hβ,hk];rfl⟩) (fun k e sz' i c _ he=>by cases he);refine hf.keep3 (by rw[him];exact fun _ _ h=>h) (by rw[hio];exact fun _ _ h=>h) fun s' x hx hl hng β hβ=>?_;have hne:g.ow β≠some (.slot s):=fun e=>by
    rw[hβ] at e;injection e with e;injection e with e;subst e;rcases hun x hx with h|h
    . rw[h] at hl;cases hl
    . exact hng h
   have hlt:=hh.ow β (by rw[hβ];simp);exact⟨by rw[hkeep β hne (by omega)];exact hβ,hsame β hlt hne⟩
 . rw[hkeep β (by rw[h0];simp) (by omega)];exact h0
theorem zcw(hf:Finv g F a.tmps w){x:Operand}{n:Nat}(he:evI F x=some n):a.eval x=.int .i64 (n:Int):=by
 unfold evI at he;split at he
 . rename_i m hv;split at he
   . rename_i h0;cases he;have:=ZW hf hv;generalize a.eval x=y at this;cases this;rw[Xx h0]
   . cases he
 . cases he
theorem zmT{l:List (List V)}(h:∀ es∈l,es.length=1/\Ones es)(n:Nat):(l.take n).flatten=l.flatten.take n/\(l.drop n).flatten=l.flatten.drop n:=by
 induction l generalizing n with
 | nil=>simp
 | cons es l ih =>
   cases n with
   | zero=>simp
   | succ n =>
     obtain⟨h1,h2⟩:=ih (fun e he=>h e (zu _ he)) n;have hl:=(h es (zG ..)).1;obtain⟨x,rfl⟩:=ZS.1 hl;simp[h1,h2]
theorem zbG{im:Im}{io:Io}{l:List (List V)}{xs:List Value}(h:∀ es∈l,es.length=1/\Ones es)(hv:VL im io l.flatten xs):xs.length=l.length/\∀ u∈xs,u.oneCell'=true :=
 ⟨by rw[<- hv.1,Qf (fun es hes=>(h es hes).1),Z9],hv.oneCell fun x hx=>by
  obtain⟨es,hes,hx⟩:=JG.1 hx;exact(h es hes).2 x hx⟩
theorem zor (hnat : NatOk P) {f k e : Nat} {args : List Operand} (hfk : natF P f = some (k, e)) {R : Type} {K : List S -> Option R} {r : R} (hx : zio o k e args F h K = some r) (hh : Hinv g h w) (hf : Finv g F a.tmps w) :
    Calls P f (args.map a.eval).toArray w fun en w'=>∃ v' F' g',en=.returned v'/\K F'=some r/\Hinv g' h w'/\Finv g' F' (a.put o.dst v').tmps w'/\Step g w g' w':=by
 unfold zio at hx;split at hx
 . rename_i x;split at hx
   . rename_i sz l hc;split at hx
     . rename_i hcond;obtain⟨hsz,hlen⟩:=hcond;obtain⟨A,cap,ad,hv,hA,hs,ys,hr⟩:=Wc hh hf hc;have hs':∀ es∈l,es.length=1/\Ones es:=fun es hes=>by
        rcases hsz with rfl|hn
        . exact hs es hes
        . simp at hn;subst hn;cases hes
       have hr':∀ (k:Nat) es (j:Nat) x,l[k]?=some es->es[j]?=some x->w.cell? (ad.add (k * 1+j))=some (ys k j)/\VR g.im g.io x (ys k j):=fun k es j x hk hj=>by
        rcases hsz with rfl|hn
        . exact hr k es j x hk hj
        . simp at hn;subst hn;simp at hk
       obtain⟨nc,n1,n2,n3⟩:=WG hA hs' (by omega) hr';obtain⟨m1,m2⟩:=zbG hs' n2;rw[show ([x]:List Operand).map a.eval=[.slice A nc.length cap] from by rw[zW,Q8,hv,m1]];have hcell:∀ (j:Nat) u,nc[j]?=some u->w.cell? (ad.add j)=some u:=n3;refine(hnat.clone f e hfk w A cap ad nc (by rw[m1];exact hlen) (by
        rcases hA with h|h
        . left;subst h;exact Zr (by rw[m1];rfl)
        . exact .inr h) hcell m2).mono ?_
       rintro en w' ⟨v',rfl,h1,h2,h3⟩;obtain⟨g',b1,b2,b3⟩:=zbF (o:=o) (s:=F.length) (l:=l) (v:=.slice none 0 0) hh hf (fun x hx=>by rw[zS (zn _)] at hx;cases hx) (fun β hβ=>by simp[Value.ownBlock] at hβ) hs' n2 (by rw[<- m1];exact h1) h2 h3;exact⟨v',_,g',rfl,hx,b1,b2,b3⟩
     . cases hx
   . cases hx
 . rename_i x;split at hx
   . rename_i sz l hc;split at hx
     . rename_i hcond;obtain⟨hsz,hlen⟩:=hcond;obtain⟨A,cap,ad,hv,hA,hs,ys,hr⟩:=Wc hh hf hc;have hs':∀ es∈l,es.length=3/\Ones es:=fun es hes=>by
        rcases hsz with rfl|hn
        . exact hs es hes
        . simp at hn;subst hn;cases hes
       have hr':∀ (k:Nat) es (j:Nat) x,l[k]?=some es->es[j]?=some x->w.cell? (ad.add (k * 3+j))=some (ys k j)/\VR g.im g.io x (ys k j):=fun k es j x hk hj=>by
        rcases hsz with rfl|hn
        . exact hr k es j x hk hj
        . simp at hn;subst hn;simp at hk
       obtain⟨nc,n1,n2,n3⟩:=WG hA hs' (by omega) hr';have m2:=n2.oneCell (fun x hx=>by
        obtain⟨es,hes,hx⟩:=JG.1 hx;exact(hs' es hes).2 x hx)
       rw[show ([x]:List Operand).map a.eval=[.slice A l.length cap] from by rw[zW,Q8,hv]];have hcell:∀ (j:Nat) u,nc[j]?=some u->w.cell? (ad.add j)=some u:=n3;refine(hnat.clone3 f e hfk w A cap ad l.length nc n1 hlen (by
        rcases hA with h|h
        . left;rw[h];rfl
        . exact .inr h) hcell m2).mono ?_
       rintro en w' ⟨v',rfl,h1,h2,h3⟩;obtain⟨g',b1,b2,b3⟩:=zbF (o:=o) (s:=F.length) (l:=l) (v:=.slice none 0 0) hh hf (fun x hx=>by rw[zS (zn _)] at hx;cases hx) (fun β hβ=>by simp[Value.ownBlock] at hβ) hs' n2 h1 h2 h3;exact⟨v',_,g',rfl,hx,b1,b2,b3⟩
     . cases hx
   . cases hx
 . rename_i s i y;split at hx
   . rename_i e1 s1 l n e2 s2 x hs hi hy;split at hx
     . rename_i hcond;obtain⟨⟨rfl,rfl⟩,⟨rfl,rfl⟩,hne,hn,hlen⟩:=hcond;obtain⟨xs,h1,h2,h3,h4⟩:=hf.getD hs;obtain⟨zs,k1,k2,k3,k4⟩:=hf.getD hy;obtain⟨m1,m2⟩:=zbG h2 h3;obtain⟨m3,m4⟩:=zbG k2 k3;obtain⟨z,rfl⟩:=ZS.1 m3;have hob:(a.eval (.tmp (rt F s))).ownBlock≠(a.eval (.tmp (rt F y))).ownBlock\/(a.eval (.tmp (rt F y))).ownBlock=none:=by
        cases hb:(a.eval (.tmp (rt F y))).ownBlock with
        | none=>exact .inr rfl
        | some β =>
          refine .inl fun hc=>?_;have q1:=k4 β hb;have q2:=h4 β hc;rw[q1] at q2;injection q2 with q2;injection q2 with q2;exact hne q2.symm
       have hyb:(a.eval (.tmp (rt F y))).ownBlock≠none:=by
        rcases k1.2 with ⟨_,h0⟩|⟨b,cap,cur,hb,_⟩
        . cases h0
        . rw[hb];simp[Value.ownBlock]
       have hob':=hob.resolve_right hyb;rw[show ([.tmp s,i,.tmp y]:List Operand).map a.eval=[a.eval (.tmp (rt F s)),.int .i64 n,a.eval (.tmp (rt F y))] from by
        simp only[zW,Q8,QX hf,zcw hf hi]]
       refine(hnat.insert f _ hfk w _ _ xs z n (by rw[m1];exact h1) k1 hob' (by rw[m1];exact hn) (by rw[m1];exact hlen) m2 (m4 z (by simp))).mono ?_;rintro en w' ⟨v',rfl,q1,q2,q3⟩;have hx1:x.length=1:=(k2 x (by simp)).1;have hshape:∀ es∈l.take n++[x]++l.drop n,es.length=1/\Ones es:=fun es hes=>by
        rcases Zn.1 hes with hes|hes
        . rcases Zn.1 hes with hes|hes
          . exact h2 es (Zs hes)
          . exact k2 es hes
        . exact h2 es (Zk hes)
       have hvl:VL g.im g.io (l.take n++[x]++l.drop n).flatten (xs.take n++[z]++xs.drop n):=by
        rw[QF,QF,(zmT h2 n).1,(zmT h2 n).2];exact((h3.take n).append (by simpa using k3)).append (h3.drop n)
       have hll:(l.take n++[x]++l.drop n).length=xs.length+1:=by simp;omega
       obtain⟨g',b1,b2,b3⟩:=zbF (o:=o) (s:=rt F s) (l:=l.take n++[x]++l.drop n) hh (hf.give hs rfl) (fun x hx=>.inr (by rw[Zf (zj.1 hs).1] at hx;cases hx;rfl)) h4 hshape hvl (by rw[hll];exact q1) q2 q3;exact⟨v',_,g',rfl,hx,b1,b2,b3⟩
     . cases hx
   . cases hx
 . rename_i s i j;split at hx
   . rename_i e1 s1 l n m hs hi hj;split at hx
     . rename_i hcond;obtain⟨⟨rfl,rfl⟩,hnm,hm,hlen⟩:=hcond;obtain⟨xs,h1,h2,h3,h4⟩:=hf.getD hs;obtain⟨m1,m2⟩:=zbG h2 h3;rw[show ([.tmp s,i,j]:List Operand).map a.eval=[a.eval (.tmp (rt F s)),.int .i64 n,.int .i64 m] from by
        simp only[zW,Q8,QX hf,zcw hf hi,zcw hf hj]]
       refine(hnat.delete f _ hfk w _ xs n m (by rw[m1];exact h1) hnm (by rw[m1];exact hm) (by rw[m1];exact hlen) m2).mono ?_;rintro en w' ⟨v',rfl,q1,q2,q3⟩;have hshape:∀ es∈l.take n++l.drop m,es.length=1/\Ones es:=fun es hes=>by
        rcases Zn.1 hes with hes|hes
        . exact h2 es (Zs hes)
        . exact h2 es (Zk hes)
       have hvl:VL g.im g.io (l.take n++l.drop m).flatten (xs.take n++xs.drop m):=by
        rw[QF,(zmT h2 n).1,(zmT h2 m).2];exact(h3.take n).append (h3.drop m)
       have hll:(l.take n++l.drop m).length=xs.length - (m - n):=by simp;omega
       obtain⟨g',b1,b2,b3⟩:=zbF (o:=o) (s:=rt F s) (l:=l.take n++l.drop m) hh (hf.give hs rfl) (fun x hx=>.inr (by rw[Zf (zj.1 hs).1] at hx;cases hx;rfl)) h4 hshape hvl (by rw[hll];exact q1) q2 q3;exact⟨v',_,g',rfl,hx,b1,b2,b3⟩
     . cases hx
   . cases hx
 . cases hx
end
end Go.L
