/- Reg Fast: what the law needs of these -/import Derived.Orders
import Derived.Tactics
import Derived.Laws.World
theorem zb:type_of% @List.getElem?_cons_zero:=@List.getElem?_cons_zero
theorem zd:type_of% @List.getElem?_set_ne:=@List.getElem?_set_ne
theorem zf:type_of% @List.getElem?_eq_getElem:=@List.getElem?_eq_getElem
theorem zg:type_of% @List.getD_cons_zero:=@List.getD_cons_zero
theorem zh:type_of% @List.getElem?_cons_succ:=@List.getElem?_cons_succ
theorem zi:type_of% @List.getD_cons_succ:=@List.getD_cons_succ
theorem zj:type_of% @List.getElem?_eq_some_iff:=@List.getElem?_eq_some_iff
theorem zk:type_of% @List.getElem?_append_left:=@List.getElem?_append_left
theorem zn:type_of% @Nat.le_refl:=@Nat.le_refl
theorem zp:type_of% @List.length_map:=@List.length_map
theorem zq:type_of% @Nat.zero_add:=@Nat.zero_add
theorem zt:type_of% @Bool.false_eq_true:=@Bool.false_eq_true
theorem zu:type_of% @List.mem_cons_of_mem:=@List.mem_cons_of_mem
theorem zw:type_of% @List.length_set:=@List.length_set
theorem zx:type_of% @List.getElem?_concat_length:=@List.getElem?_concat_length
theorem zD:type_of% @List.length_cons:=@List.length_cons
theorem zE:type_of% @Bool.and_eq_true:=@Bool.and_eq_true
theorem zF:type_of% @List.getElem?_map:=@List.getElem?_map
theorem zG:type_of% @List.mem_cons_self:=@List.mem_cons_self
theorem zJ:type_of% @List.getElem?_append_right:=@List.getElem?_append_right
theorem zL:type_of% @List.length_append:=@List.length_append
theorem zM:type_of% @List.mem_of_getElem?:=@List.mem_of_getElem?
theorem zN:type_of% @List.mem_cons:=@List.mem_cons
theorem zO:type_of% @List.getD_eq_getElem?_getD:=@List.getD_eq_getElem?_getD
theorem zP:type_of% @List.length_nil:=@List.length_nil
theorem zR:type_of% @List.drop_zero:=@List.drop_zero
theorem zS:type_of% @List.getElem?_eq_none:=@List.getElem?_eq_none
theorem zU:type_of% @List.take_of_length_le:=@List.take_of_length_le
theorem zW:type_of% @List.map_cons:=@List.map_cons
theorem zX:type_of% @List.nil_append:=@List.nil_append
theorem zY:type_of% @Array.getD_eq_getD_getElem?:=@Array.getD_eq_getD_getElem?
theorem z2:type_of% @Nat.zero_le:=@Nat.zero_le
theorem z5:type_of% @List.length_take:=@List.length_take
theorem z6:type_of% @List.append_nil:=@List.append_nil
theorem z7:type_of% @List.length_eq_zero_iff:=@List.length_eq_zero_iff
theorem z8:type_of% @Nat.add_zero:=@Nat.add_zero
theorem z9:type_of% @List.mem_append_left:=@List.mem_append_left
theorem Za:type_of% @Array.getElem?_eq_getElem:=@Array.getElem?_eq_getElem
theorem Zb:type_of% @List.drop_eq_getElem_cons:=@List.drop_eq_getElem_cons
theorem Zc:type_of% @List.mem_range:=@List.mem_range
theorem Zd:type_of% @List.getElem?_set:=@List.getElem?_set
theorem Ze:type_of% @List.getElem?_take:=@List.getElem?_take
theorem Zf:type_of% @List.getElem?_set_self:=@List.getElem?_set_self
theorem Zg:type_of% @List.mem_map_of_mem:=@List.mem_map_of_mem
theorem Zh:type_of% @List.getElem?_drop:=@List.getElem?_drop
theorem Zi:type_of% @List.set_append_right:=@List.set_append_right
theorem Zj:type_of% @List.mem_filter:=@List.mem_filter
theorem Zk:type_of% @List.mem_of_mem_drop:=@List.mem_of_mem_drop
theorem Zn:type_of% @List.mem_append:=@List.mem_append
theorem Zo:type_of% @List.map_append:=@List.map_append
theorem Zr:type_of% @List.eq_nil_of_length_eq_zero:=@List.eq_nil_of_length_eq_zero
theorem Zs:type_of% @List.mem_of_mem_take:=@List.mem_of_mem_take
theorem Zt:type_of% @List.nodup_cons:=@List.nodup_cons
theorem Zu:type_of% @List.take_append_drop:=@List.take_append_drop
theorem Zw:type_of% @List.getElem?_replicate:=@List.getElem?_replicate
theorem Zy:type_of% @List.length_pos_iff:=@List.length_pos_iff
theorem Zz:type_of% @List.all_eq_true:=@List.all_eq_true
theorem ZA:type_of% @List.mem_append_right:=@List.mem_append_right
theorem ZB:type_of% @Array.getElem?_eq_some_iff:=@Array.getElem?_eq_some_iff
theorem ZC:type_of% @List.drop_of_length_le:=@List.drop_of_length_le
theorem ZE:type_of% @List.mem_singleton:=@List.mem_singleton
theorem ZG:type_of% @List.length_singleton:=@List.length_singleton
theorem ZH:type_of% @List.eq_nil_or_concat:=@List.eq_nil_or_concat
theorem ZK:type_of% @List.eq_of_mem_replicate:=@List.eq_of_mem_replicate
theorem ZL:type_of% @List.mem_map:=@List.mem_map
theorem ZM:type_of% @List.ext_getElem?:=@List.ext_getElem?
theorem ZN:type_of% @List.getElem_mem:=@List.getElem_mem
theorem ZO:type_of% @List.pairwise_append:=@List.pairwise_append
theorem ZP:type_of% @List.getElem?_append:=@List.getElem?_append
theorem ZR:type_of% @Nat.add_assoc:=@Nat.add_assoc
theorem ZS:type_of% @List.length_eq_one_iff:=@List.length_eq_one_iff
theorem ZV:type_of% @Int.tmod_eq_emod_of_nonneg:=@Int.tmod_eq_emod_of_nonneg
theorem ZX:type_of% @Nat.lt_or_ge:=@Nat.lt_or_ge
theorem ZY:type_of% @Nat.le_trans:=@Nat.le_trans
theorem ZZ:type_of% @List.length_replicate:=@List.length_replicate
theorem Z0:type_of% @List.mem_filterMap:=@List.mem_filterMap
theorem Z1:type_of% @Nat.lt_of_lt_of_le:=@Nat.lt_of_lt_of_le
theorem Z2:type_of% @List.drop_eq_nil_of_le:=@List.drop_eq_nil_of_le
theorem Z4:type_of% @List.cons_append:=@List.cons_append
theorem Z5:type_of% @Option.map_some:=@Option.map_some
theorem Z6:type_of% @List.pairwise_cons:=@List.pairwise_cons
theorem Z9:type_of% @Nat.mul_one:=@Nat.mul_one
theorem Xx:type_of% @Int.toNat_of_nonneg:=@Int.toNat_of_nonneg
theorem XC:type_of% @List.mem_zipIdx_iff_getElem?:=@List.mem_zipIdx_iff_getElem?
theorem XG:type_of% @List.flatten_cons:=@List.flatten_cons
theorem XM:type_of% @List.mem_iff_getElem?:=@List.mem_iff_getElem?
theorem XO:type_of% @List.filter_eq_self:=@List.filter_eq_self
theorem XP:type_of% @List.replicate_succ:=@List.replicate_succ
theorem XQ:type_of% @List.length_drop:=@List.length_drop
theorem XR:type_of% @Int.toNat_natCast:=@Int.toNat_natCast
theorem XS:type_of% @List.getElem?_eq_none_iff:=@List.getElem?_eq_none_iff
theorem XU:type_of% @Bool.or_eq_true:=@Bool.or_eq_true
theorem XX:type_of% @Nat.mul_le_mul_right:=@Nat.mul_le_mul_right
theorem X2:type_of% @Array.getElem?_eq_none:=@Array.getElem?_eq_none
theorem X3:type_of% @Nat.succ_mul:=@Nat.succ_mul
theorem X8:type_of% @Nat.sub_self:=@Nat.sub_self
theorem X9:type_of% @List.take_length:=@List.take_length
theorem Qb:type_of% @List.mem_or_eq_of_mem_set:=@List.mem_or_eq_of_mem_set
theorem Qe:type_of% @List.getElem?_range:=@List.getElem?_range
theorem Qi:type_of% @List.nodup_append:=@List.nodup_append
theorem Qj:type_of% @List.take_append_of_le_length:=@List.take_append_of_le_length
theorem Qo:type_of% @List.map_set:=@List.map_set
theorem Qu:type_of% @List.zip_cons_cons:=@List.zip_cons_cons
theorem Qx:type_of% @Option.bind_eq_some_iff:=@Option.bind_eq_some_iff
theorem Qy:type_of% @Nat.add_sub_cancel_left:=@Nat.add_sub_cancel_left
theorem QB:type_of% @Nat.mul_le_mul:=@Nat.mul_le_mul
theorem QC:type_of% @List.take_succ_eq_append_getElem:=@List.take_succ_eq_append_getElem
theorem QE:type_of% @Array.getElem?_push:=@Array.getElem?_push
theorem QF:type_of% @List.flatten_append:=@List.flatten_append
theorem QH:type_of% @List.pairwise_iff_getElem:=@List.pairwise_iff_getElem
theorem QK:type_of% @List.concat_eq_append:=@List.concat_eq_append
theorem QO:type_of% @List.eq_nil_iff_forall_not_mem:=@List.eq_nil_iff_forall_not_mem
theorem QP:type_of% @Array.eq_empty_of_size_eq_zero:=@Array.eq_empty_of_size_eq_zero
theorem QW:type_of% @List.drop_append_of_le_length:=@List.drop_append_of_le_length
theorem QZ:type_of% @List.drop_sublist:=@List.drop_sublist
theorem Q3:type_of% @Nat.min_eq_left:=@Nat.min_eq_left
theorem Q8:type_of% @List.map_nil:=@List.map_nil
theorem Ji:type_of% @List.set_cons_zero:=@List.set_cons_zero
theorem Jj:type_of% @Array.getElem?_append_left:=@Array.getElem?_append_left
theorem Jr:type_of% @Nat.zero_mul:=@Nat.zero_mul
theorem Js:type_of% @Nat.le_of_eq:=@Nat.le_of_eq
theorem Jv:type_of% @Bool.not_true:=@Bool.not_true
theorem Jw:type_of% @List.filter_sublist:=@List.filter_sublist
theorem Jx:type_of% @List.replicate_zero:=@List.replicate_zero
theorem JF:type_of% @List.foldlM_cons:=@List.foldlM_cons
theorem JG:type_of% @List.mem_flatten:=@List.mem_flatten
theorem JQ:type_of% @List.filter_append:=@List.filter_append
theorem JW:type_of% @List.find?_append:=@List.find?_append
theorem JX:type_of% @List.take_sublist:=@List.take_sublist
theorem JY:type_of% @List.getElem_take:=@List.getElem_take
theorem JZ:type_of% @List.take_add_one:=@List.take_add_one
theorem J9:type_of% @List.take_zero:=@List.take_zero
theorem Wa:type_of% @Int.tdiv_eq_ediv_of_nonneg:=@Int.tdiv_eq_ediv_of_nonneg
theorem Wk:type_of% @Option.getD_some:=@Option.getD_some
theorem Wl:type_of% @List.drop_length:=@List.drop_length
theorem Wo:type_of% @Array.mapM_eq_mapM_toList:=@Array.mapM_eq_mapM_toList
theorem Wr:type_of% @List.getElem_of_mem:=@List.getElem_of_mem
theorem Wx:type_of% @Array.getElem?_replicate:=@Array.getElem?_replicate
theorem Wy:type_of% @List.set_eq_of_length_le:=@List.set_eq_of_length_le
theorem WD:type_of% @Nat.mod_lt:=@Nat.mod_lt
theorem WE:type_of% @Nat.eq_zero_or_pos:=@Nat.eq_zero_or_pos
theorem WP:type_of% @Nat.le_succ:=@Nat.le_succ
theorem W8:type_of% @List.mapM_cons:=@List.mapM_cons
theorem W9:type_of% @Nat.testBit_or:=@Nat.testBit_or
theorem Yb:type_of% @List.reverse_cons:=@List.reverse_cons
set_option linter.unusedSimpArgs false
set_option linter.unusedVariables false
namespace Go.TR
def Only (Q : Exit -> Act -> World -> Prop) : Exit -> Act -> World -> Prop
 | .normal,a,w=>Q .normal a w
 | _,_,_=>False
def WFree{α:Type}(P:Program)(s:Sem α):Prop:=(∃ v,∀ w,s.run P w=.ok v w)\/(∀ w,∃ h w',s.run P w=.halt h w')
def zxd{α:Type}(P:Program)(s:Sem α):Prop:=∀ w,(∃ v,s.run P w=.ok v w)\/(∃ h w',s.run P w=.halt h w')
def zik(P:Program)(t:TypeId):Bool:=match P.underlying t with|some (.int _)=>true|_=>false
def ql:Operand->Bool|.tmp _=>true|_=>false
def zk4:Operand->Bool|.const (.int _ _)=>true|_=>false
def asserted (P : Program) : Op -> List Operand
 | .binOp _ t x y _=>if zik P t then[x,y].filter ql else[]
 | .convert s d x=>if zik P s && zik P d then[x].filter ql else[]
 | .call { callee:=.builtin .min,args,.. }|.call { callee:=.builtin .max,args,.. }=>args.toList.filter ql
 | _=>[]
def Ev(P:Program)(o:Oper)(ρ:Operand->Value):Prop:=(∀ v,ρ (.const v)=v)/\∀ x∈asserted P o.op,∃ k n,ρ x=.int k n
theorem zg1(P:Program)(op:Op):∀ x∈asserted P op,x∈op.operands:=by
 intro x hx;unfold asserted at hx;split at hx
 . split at hx
   . have:=(Zj.1 hx).1;simpa[Op.operands] using this
   . cases hx
 . split at hx
   . have:=(Zj.1 hx).1;simpa[Op.operands] using this
   . cases hx
 . have:=(Zj.1 hx).1;simpa[Op.operands,Call.operands] using this
 . have:=(Zj.1 hx).1;simpa[Op.operands,Call.operands] using this
 . cases hx
theorem zaZ{P:Program}{ops:Array Oper}(o:Oper)(a:Act)(d:Option Tmp)(v:Value)(h:∀ x,d=some x->x ∉ o.looksAt ops):Ev P o (a.put d v).eval ↔ Ev P o a.eval:=by
 have key:∀ x∈asserted P o.op,(a.put d v).eval x=a.eval x:=fun x hx =>
  Act.eval_put fun e he hxe=>h e he (by
   subst hxe;exact z9 _ (Z0.2 ⟨.tmp e,by simpa using zg1 P o.op _ hx,rfl⟩))
 unfold Ev;exact⟨fun hh=>⟨fun v=>rfl,fun x hx=>by rw[<- key x hx];exact hh.2 x hx⟩,fun hh=>⟨fun v=>by cases d <;> rfl,fun x hx=>by rw[key x hx];exact hh.2 x hx⟩⟩
def zcj(P:Program)(o:Oper):Prop:=∀ ρ,Ev P o ρ->(∃ v,∀ w,(execOp ρ o).run P w=.ok (.value v) w)\/(∀ w,∃ h w',(execOp ρ o).run P w=.halt h w')
def zck(P:Program)(o:Oper):Prop:=∀ ρ w,(∃ v,(execOp ρ o).run P w=.ok (.value v) w)\/(∃ h w',(execOp ρ o).run P w=.halt h w')
def zdY(P:Program)(o:Oper):Prop:=∀ ρ w v ob,(execOp ρ o).run P w=.ok (.value v) w->(execOp ρ o).run P (w.alloc ob)=.ok (.value v) (w.alloc ob)
def zmH(P:Program)(o:Oper):Prop:=∀ ρ,(∃ (f:Nat->Value) (ob:Obj),∀ w,(execOp ρ o).run P w=.ok (.value (f w.heap.size)) (w.alloc ob))\/(∀ w,∃ h w',(execOp ρ o).run P w=.halt h w')
def zu6(P:Program)(oi oj:Oper):Prop:=zcj P oi\/zcj P oj\/(zck P oi/\zck P oj)\/(zck P oi/\zdY P oi/\zmH P oj)
section
variable {P:Program} {ops:Array Oper} {Q:Exit->Act->World->Prop}
theorem zfY:¬ LetsOut (Only Q):=fun⟨_,_,h⟩=>h
def wpE(P:Program)(ops:Array Oper)(Q:Exit->Act->World->Prop)(i:Nat)(K:Act->World->Prop)(a:Act)(w:World):Prop :=
 match ops[i]? with
 | none=>K a w
 | some o=>if Region.wanted o (yielded ops a.tmps) then Ev P o a.eval/\o.wp P a w K (Only Q) else K (a.put o.dst undef) w
theorem qv {i : Nat} {o : Oper} {K : Act -> World -> Prop} {a : Act} {w : World} (hi : ops[i]? = some o) :
    wpE P ops Q i K a w=(if Region.wanted o (yielded ops a.tmps) then Ev P o a.eval/\o.wp P a w K (Only Q) else K (a.put o.dst undef) w):=by
 unfold wpE;simp only[hi]
theorem zpT{i:Nat}{a:Act}{w:World}{K K':Act->World->Prop}(h:∀ a w,K a w->K' a w)(hh:wpE P ops Q i K a w):wpE P ops Q i K' a w:=by
 unfold wpE at *;split
 . exact h _ _ (by simpa[*] using hh)
 . rename_i o ho;simp only[ho] at hh;split
   . rename_i hw;simp only[hw,if_true] at hh;exact⟨hh.1,Oper.wp_mono h hh.2⟩
   . rename_i hw;simp only[hw] at hh;exact h _ _ hh
theorem zk5{i:Nat}{a:Act}{w:World}{K:Act->World->Prop}(hh:wpE P ops Q i K a w):wpOp P ops (Only Q) i K a w:=by
 unfold wpE at hh;unfold wpOp;split
 . simpa[*] using hh
 . rename_i o ho;simp only[ho] at hh;split
   . rename_i hw;simp only[hw,if_true] at hh;exact .inl hh.2
   . rename_i hw;simp only[hw] at hh;exact hh
def zod (P : Program) (ops : Array Oper) (Q : Exit -> Act -> World -> Prop) : List Nat -> Act -> World -> Prop
 | [],a,w=>Q .normal a w
 | i :: l,a,w=>wpE P ops Q i (zod P ops Q l) a w
theorem zam {o : Oper} (ho : zck P o) {K : Act -> World -> Prop} {a : Act} {w : World} :
    o.wp P a w K (Only Q) ↔ ∃ v,(execOp a.eval o).run P w=.ok (.value v) w/\K (a.put o.dst v) w:=by
 unfold Oper.wp;rcases ho a.eval w with ⟨v,h⟩|⟨h,w',hr⟩
 . simp only[h,Oper.upon];constructor
   . intro hk;exact⟨v,rfl,hk⟩
   . rintro ⟨v',hv,hk⟩;cases hv;exact hk
 . simp only[hr];constructor
   . cases h <;> simp[Oper.upon,Only]
   . rintro ⟨v',hv,_⟩;cases hv
theorem zbo {o : Oper} (ho : zcj P o) {K : Act -> World -> Prop} {a : Act} {w : World} (he : Ev P o a.eval) :
    o.wp P a w K (Only Q) ↔ ∃ v,(∀ w,(execOp a.eval o).run P w=.ok (.value v) w)/\K (a.put o.dst v) w:=by
 unfold Oper.wp;rcases ho a.eval he with ⟨v,h⟩|hn
 . simp only[h w,Oper.upon];constructor
   . intro hk;exact⟨v,h,hk⟩
   . rintro ⟨v',hv,hk⟩;have:=(h w).symm.trans (hv w);cases this;exact hk
 . obtain⟨h,w',hr⟩:=hn w;simp only[hr];constructor
   . cases h <;> simp[Oper.upon,Only]
   . rintro ⟨v',hv,_⟩;rw[hv w] at hr;cases hr
theorem zcl {o : Oper} {a : Act} {w : World} {K : Act -> World -> Prop} {F : Act -> Prop}
    (hput:∀ u (b:Act),F b->F (b.put o.dst u)) (hdef:∀ d (b:Act),F b->F { b with defers:=d :: b.defers }) (hF:F a)
    (h:o.wp P a w K (Only Q)):o.wp P a w (fun a' w'=>F a'/\K a' w') (Only Q):=by
 unfold Oper.wp at *;generalize (execOp a.eval o).run P w=r at *;cases r with
 | ok n w' =>
   cases n <;> simp only[Oper.upon] at h ⊢
   case value u=>exact⟨hput u a hF,h⟩
   case skip=>exact⟨hput _ a hF,h⟩
   case defer d=>exact⟨hput _ _ (hdef d a hF),h⟩
   case enter f args =>
    refine Calls.mono h fun e w'' he=>?_;cases e with
    | returned u=>exact⟨hput u a hF,he⟩
    | panicked c=>exact he
    | outgrown=>exact he
   case row row args=>exact Rows.mono h fun u w'' he=>⟨hput u a hF,he⟩
 | halt x w' =>
   cases x <;> simp only[Oper.upon] at h ⊢
   case panic u=>exact h
theorem zmI{o:Oper}{a:Act}{w:World}{K:Act->World->Prop}(h:o.wp P a w K (Only Q)):∃ u b w',(b=a\/∃ d,b={ a with defers:=d :: a.defers })/\K (b.put o.dst u) w':=by
 unfold Oper.wp at *;generalize (execOp a.eval o).run P w=r at *;cases r with
 | ok n w' =>
   cases n <;> simp only[Oper.upon] at h
   case value u=>exact⟨u,a,_,.inl rfl,h⟩
   case skip=>exact⟨_,a,_,.inl rfl,h⟩
   case defer d=>exact⟨_,_,_,.inr ⟨d,rfl⟩,h⟩
   case enter f args =>
    obtain⟨e,w'',fr,hR,_⟩:=h [];cases e with
    | returned u=>exact⟨u,a,_,.inl rfl,hR⟩
    | panicked c=>exact hR.elim
    | outgrown=>exact(zfY hR).elim
   case row row args =>
    obtain⟨v,w'',hR,_⟩:=h default [];exact⟨v,a,_,.inl rfl,hR⟩
 | halt x w' =>
   cases x <;> simp only[Oper.upon] at h
   case panic u=>exact h.elim
theorem zdZ {o : Oper} {a : Act} {w : World} {K : Act -> World -> Prop} {d : Option Tmp} {v : Value} (hs : ∀ cs b, o.op ≠ .select cs b)
    (h1:∀ x,d=some x->x ∉ o.looksAt ops) (h2:∀ x,d=some x->o.dst≠some x) :
    o.wp P (a.put d v) w K (Only Q) ↔ o.wp P a w (fun a' w'=>K (a'.put d v) w') (Only Q):=by
 unfold Oper.wp;rw[execOp_put (ops:=ops) o hs a d v h1];generalize (execOp a.eval o).run P w=r;cases r with
 | ok n w' =>
   cases n <;> simp only[Oper.upon]
   case value u=>rw[Act.put_comm a v u h2]
   case skip=>rw[Act.put_comm a v undef h2]
   case defer x=>rw[Act.put_defers,<- Act.put_comm _ v undef h2]
   case enter f args =>
    constructor
    . intro h;refine Calls.mono h fun e w'' he=>?_;cases e with
      | returned u=>show K _ _;rw[<- Act.put_comm a v u h2];exact he
      | panicked c=>exact he
      | outgrown=>exact he
    . intro h;refine Calls.mono h fun e w'' he=>?_;cases e with
      | returned u=>show K _ _;rw[Act.put_comm a v u h2];exact he
      | panicked c=>exact he
      | outgrown=>exact he
   case row row args =>
    constructor
    . intro h;exact Rows.mono h fun u w'' he=>by rw[<- Act.put_comm a v u h2];exact he
    . intro h;exact Rows.mono h fun u w'' he=>by rw[Act.put_comm a v u h2];exact he
 | halt x w' =>
   cases x <;> simp only[Oper.upon]
   case panic u=>exact Iff.rfl
theorem swap {i j : Nat} {oi oj : Oper} (hi : ops[i]? = some oi) (hj : ops[j]? = some oj) (hap : oi.apart ops oj = true)
    (hsi:∀ cs b,oi.op≠.select cs b) (hsj:∀ cs b,oj.op≠.select cs b)
    (hcls:zu6 P oi oj) {K:Act->World->Prop} {a:Act} {w:World}
    (h:wpE P ops Q i (wpE P ops Q j K) a w):wpE P ops Q j (wpE P ops Q i K) a w:=by
 obtain⟨h1,h2,h3⟩:=Oper.apart_spec hap;have h2':∀ d,oj.dst=some d->oi.dst≠some d:=fun d hd he=>h2 d he hd;have fi:wpE P ops Q i K=fun a w=>(if Region.wanted oi (yielded ops a.tmps) then Ev P oi a.eval/\oi.wp P a w K (Only Q) else K (a.put oi.dst undef) w):=by
  funext a w;exact qv hi
 have fj:wpE P ops Q j K=fun a w=>(if Region.wanted oj (yielded ops a.tmps) then Ev P oj a.eval/\oj.wp P a w K (Only Q) else K (a.put oj.dst undef) w):=by
  funext a w;exact qv hj
 rw[qv hi,fj] at h;rw[qv hj,fi];have wj:∀ (b:Act) v,Region.wanted oj (yielded ops (b.put oi.dst v).tmps)=Region.wanted oj (yielded ops b.tmps):=fun b v=>wanted_put oj b oi.dst v h1;have wi:∀ (b:Act) v,Region.wanted oi (yielded ops (b.put oj.dst v).tmps)=Region.wanted oi (yielded ops b.tmps):=fun b v=>wanted_put oi b oj.dst v h3;by_cases ci:Region.wanted oi (yielded ops a.tmps)=true
 . rw[if_pos ci] at h;obtain⟨ei,h⟩:=h;by_cases cj:Region.wanted oj (yielded ops a.tmps)=true
   . rw[if_pos cj];have hh:oi.wp P a w (fun a w=>Ev P oj a.eval/\oj.wp P a w K (Only Q)) (Only Q):=by
      have:=zcl (F:=fun b=>Region.wanted oj (yielded ops b.tmps)=true) (fun u b hb=>by rw[wj];exact hb) (fun d b hb=>hb) cj h;exact Oper.wp_mono (fun b w' ⟨hb,hk⟩=>by rw[if_pos hb] at hk;exact hk) this
     have ej:Ev P oj a.eval:=by
      obtain⟨u,b,w',hb,hk,_⟩:=zmI hh;rw[zaZ (ops:=ops) oj b oi.dst u h1] at hk;rcases hb with rfl|⟨d,rfl⟩ <;> exact hk
     have hh:=Oper.wp_mono (K':=fun a w=>oj.wp P a w K (Only Q)) (fun b w' hb=>hb.2) hh;refine⟨ej,?_⟩;have goal:oj.wp P a w (fun a w=>oi.wp P a w K (Only Q)) (Only Q):=by
      rcases hcls with hf|hf|⟨hr,hr'⟩|⟨hr,hst,hn⟩
      . rw[zbo hf ei] at hh;obtain⟨v,hv,hk⟩:=hh;rw[zdZ (ops:=ops) hsj h1 h2] at hk;have key:=zcl (F:=fun b=>(execOp b.eval oi)=execOp a.eval oi/\Ev P oi b.eval) (fun u b hb=>⟨by rw[execOp_put (ops:=ops) oi hsi b oj.dst u h3];exact hb.1,(zaZ (ops:=ops) oi b oj.dst u h3).2 hb.2⟩) (fun d b hb=>hb) ⟨rfl,ei⟩ hk;refine Oper.wp_mono (fun b w' ⟨⟨hb,he⟩,hk⟩=>?_) key;rw[zbo hf he];exact⟨v,fun w=>by rw[hb];exact hv w,hk⟩
      . have hjv:∃ v,∀ w,(execOp a.eval oj).run P w=.ok (.value v) w:=by
          obtain⟨u,b,w',hb,hk⟩:=zmI hh;have hbe:execOp b.eval oj=execOp a.eval oj:=by rcases hb with rfl|⟨d,rfl⟩ <;> rfl
          have hev:Ev P oj (b.put oi.dst u).eval:=by rw[zaZ (ops:=ops) oj b oi.dst u h1];rcases hb with rfl|⟨d,rfl⟩ <;> exact ej
          rw[zbo hf hev] at hk;obtain⟨v,hv,_⟩:=hk;exact⟨v,fun w=>by have:=hv w;rwa[execOp_put (ops:=ops) oj hsj b oi.dst u h1,hbe] at this⟩
        obtain⟨v,hv⟩:=hjv;rw[zbo hf ej];refine⟨v,hv,?_⟩;rw[zdZ (ops:=ops) hsi h3 h2'];have key:=zcl (F:=fun b=>(execOp b.eval oj)=execOp a.eval oj/\Ev P oj b.eval) (fun u b hb=>⟨by rw[execOp_put (ops:=ops) oj hsj b oi.dst u h1];exact hb.1,(zaZ (ops:=ops) oj b oi.dst u h1).2 hb.2⟩) (fun d b hb=>hb) ⟨rfl,ej⟩ hh;refine Oper.wp_mono (fun b w' ⟨⟨hb,he⟩,hk⟩=>?_) key;rw[zbo hf he] at hk;obtain⟨v',hv',hk⟩:=hk;have:=hv' w';rw[hb,hv w'] at this;cases this;exact hk
      . rw[zam hr] at hh;obtain⟨v,hv,hk⟩:=hh;rw[zam hr'] at hk;obtain⟨u,hu,hk⟩:=hk;rw[execOp_put (ops:=ops) oj hsj a oi.dst v h1] at hu;rw[zam hr'];refine⟨u,hu,?_⟩;rw[zam hr];refine⟨v,by rw[execOp_put (ops:=ops) oi hsi a oj.dst u h3];exact hv,?_⟩;rw[<- Act.put_comm a v u h2];exact hk
      . rw[zam hr] at hh;obtain⟨v,hv,hk⟩:=hh;rw[zdZ (ops:=ops) hsj h1 h2] at hk;rcases hn a.eval with ⟨f,ob,hj'⟩|hn'
        . unfold Oper.wp at hk ⊢;rw[hj' w] at hk ⊢;simp only[Oper.upon] at hk ⊢;have:=(zam (Q:=Q) hr (K:=K) (a:=a.put oj.dst (f w.heap.size)) (w:=w.alloc ob)).2 ⟨v,by rw[execOp_put (ops:=ops) oi hsi a oj.dst _ h3];exact hst _ _ _ _ hv,hk⟩;exact this
        . obtain⟨h,w',e⟩:=hn' w;unfold Oper.wp at hk;rw[e] at hk;cases h <;> simp[Oper.upon,Only] at hk
     have key:=zcl (F:=fun b=>Region.wanted oi (yielded ops b.tmps)=true/\Ev P oi b.eval) (fun u b hb=>⟨by rw[wi];exact hb.1,(zaZ (ops:=ops) oi b oj.dst u h3).2 hb.2⟩) (fun d b hb=>hb) ⟨ci,ei⟩ goal;refine Oper.wp_mono (fun b w' ⟨hb,hk⟩=>?_) key;rw[if_pos hb.1];exact⟨hb.2,hk⟩
   . rw[if_neg cj]
     dsimp only
     rw[if_pos (by rw[wi];exact ci)];refine⟨(zaZ (ops:=ops) oi a oj.dst undef h3).2 ei,?_⟩;rw[zdZ (ops:=ops) hsi h3 h2'];have key:=zcl (F:=fun b=>Region.wanted oj (yielded ops b.tmps)≠true) (fun u b hb=>by rw[wj];exact hb) (fun d b hb=>hb) cj h;refine Oper.wp_mono (fun b w' ⟨hb,hk⟩=>?_) key;rw[if_neg hb] at hk;exact hk
 . rw[if_neg ci] at h;by_cases cj:Region.wanted oj (yielded ops a.tmps)=true
   . rw[if_pos cj];rw[if_pos (by rw[wj];exact cj),zdZ (ops:=ops) hsj h1 h2,zaZ (ops:=ops) oj a oi.dst undef h1] at h;refine⟨h.1,?_⟩;have key:=zcl (F:=fun b=>Region.wanted oi (yielded ops b.tmps)≠true) (fun u b hb=>by rw[wi];exact hb) (fun d b hb=>hb) ci h.2;refine Oper.wp_mono (fun b w' ⟨hb,hk⟩=>?_) key;rw[if_neg hb];exact hk
   . rw[if_neg cj]
     dsimp only
     rw[if_neg (by rw[wi];exact ci),<- Act.put_comm a undef undef h2];rw[if_neg (by rw[wj];exact cj)] at h;exact h
def descs (md : Region.Mode) (p : Nat) : List Oper -> Array Bool -> Array Bool
 | [],acc=>acc
 | o :: l,acc=>descs md p l (acc.push (o.after.any fun e=>Region.binds md e && (e.on == p || acc.getD e.on false)))
theorem za0(md:Region.Mode)(p:Nat):∀ (l:List Oper) (acc:Array Bool),
    (∀ j,(descs md p l acc).getD j false=true->acc.getD j false=true\/(acc.size<=j/\∃ o,l[j - acc.size]?=some o ∧
     ∃ e∈o.after,Region.binds md e=true/\(e.on=p\/(e.on < j/\(descs md p l acc).getD e.on false=true)))) ∧
    (∀ j,j < acc.size->(descs md p l acc).getD j false=acc.getD j false)
 | [],acc=>⟨fun j h=>.inl h,fun _ _=>rfl⟩
 | o :: l,acc=>by
   obtain⟨h1,h2⟩:=za0 md p l (acc.push (o.after.any fun e=>Region.binds md e && (e.on == p || acc.getD e.on false)));simp only[Array.size_push] at h1 h2;have keep:∀ j,j < acc.size->(descs md p (o :: l) acc).getD j false=acc.getD j false:=fun j hj=>by
    show (descs md p l _).getD j false=_;rw[h2 j (by omega)];simp[QE,Nat.ne_of_lt hj]
   refine⟨fun j h=>?_,keep⟩;rcases h1 j h with h|⟨hj,o',ho',e,he,hb,h⟩
   . by_cases hj:j=acc.size
     . subst hj;refine .inr ⟨zn _,o,by simp,?_⟩;simp only[zY,QE,if_true,Wk] at h;obtain⟨e,he,hb⟩:=Array.any_eq_true'.1 h;simp only[zE,XU,beq_iff_eq] at hb;refine⟨e,he,hb.1,hb.2.imp id fun hh=>?_⟩;have hlt:e.on < acc.size:=by
        rcases ZX e.on acc.size with h'|h'
        . exact h'
        . simp[X2 h'] at hh
       exact⟨hlt,by rw[keep _ hlt];simpa using hh⟩
     . left;simpa[QE,hj] using h
   . exact .inr ⟨by omega,o',by rw[show j - acc.size=(j - (acc.size+1))+1 from by omega];simpa using ho',e,he,hb,h⟩
def Closed(md:Region.Mode)(ops:Array Oper)(listed:Array Bool):Prop :=
 ∀ i o,ops[i]?=some o->listed.getD i false=true->∀ e∈o.after,Region.binds md e=true->listed.getD e.on false=true
theorem descs_listed{md:Region.Mode}{listed:Array Bool}(hc:Closed md ops listed)(p:Nat):∀ j oj,ops[j]?=some oj →
    (∀ e∈oj.after,Region.binds md e=true->listed.getD e.on false=true) →
    (descs md p ops.toList #[]).getD j false=true->listed.getD p false=true:=by
 intro j
 induction j using Nat.strongRecOn with
 | _ j ih =>
   intro oj hj hl hd;rcases(za0 md p ops.toList #[]).1 j hd with h|⟨_,o,ho,e,he,hb,h⟩
   . simp at h
   . have:o=oj:=by simpa[hj] using ho.symm
     subst this;have hle:=hl e he hb;rcases h with rfl|⟨hlt,h⟩
     . exact hle
     . have hex:∃ oe,ops[e.on]?=some oe:=by
         cases hoe:ops[e.on]? with
         | some oe=>exact⟨oe,rfl⟩
         | none =>
           rcases(za0 md p ops.toList #[]).1 e.on h with h'|⟨_,o',ho',_⟩
           . simp at h'
           . simp[hoe] at ho'
       obtain⟨oe,hoe⟩:=hex;exact ih e.on hlt oe hoe (hc e.on oe hoe hle) h
def textB(cls:Op->Nat)(ops:Array Oper):Bool :=
 Region.noSelect ops &&
 ops.toList.zipIdx.all fun(oi,i) =>
  let d:=descs .any i ops.toList #[]
  ops.toList.zipIdx.all fun(oj,j) =>
   !(decide (i < j)) || d.getD j false ||
    (oi.apart ops oj && (let x:=cls oi.op;let y:=cls oj.op;x == 0 || y == 0 || (x == 1 && y == 1) || (x == 1 && y == 3)))
def zmJ(P:Program)(cls:Op->Nat):Prop:=∀ o:Oper,(cls o.op=0->zcj P o)/\(cls o.op=1->zck P o/\zdY P o)/\(cls o.op=3->zmH P o)
theorem zk6 {cls : Op -> Nat} (hcls : zmJ P cls) (h : textB cls ops = true) {i j : Nat} {oi oj : Oper} (hi : ops[i]? = some oi) (hj : ops[j]? = some oj) (hij : i < j) :
    (descs .any i ops.toList #[]).getD j false=true\/(oi.apart ops oj=true/\zu6 P oi oj):=by
 unfold textB at h;rw[zE] at h;have h1:=Zz.1 h.2 (oi,i) (XC.2 (by simpa using hi));have h2:=Zz.1 h1 (oj,j) (XC.2 (by simpa using hj));simp only[hij,decide_true,Jv,Bool.false_or,XU,zE,beq_iff_eq] at h2;rcases h2 with h2|⟨ha,h2⟩
 . exact .inl h2
 . refine .inr ⟨ha,?_⟩;rcases h2 with ((h2|h2)|⟨h2,h3⟩)|⟨h2,h3⟩
   . exact .inl ((hcls oi).1 h2)
   . exact .inr (.inl ((hcls oj).1 h2))
   . exact .inr (.inr (.inl ⟨((hcls oi).2.1 h2).1,((hcls oj).2.1 h3).1⟩))
   . exact .inr (.inr (.inr ⟨((hcls oi).2.1 h2).1,((hcls oi).2.1 h2).2,(hcls oj).2.2 h3⟩))
def left(n:Nat)(listed:Array Bool):List Nat:=(List.range n).filter fun i=>!listed.getD i true
theorem zpU{i:Nat}{oi:Oper}(hi:ops[i]?=some oi)(hs:Region.noSelect ops=true):∀ (pre post:List Nat) (a:Act) (w:World),
    (∀ p∈pre,∃ op,ops[p]?=some op/\op.apart ops oi=true/\zu6 P op oi) →
    zod P ops Q (pre++i :: post) a w->wpE P ops Q i (zod P ops Q (pre++post)) a w
 | [],post,a,w,_,h=>h
 | p :: pre,post,a,w,hp,h=>by
   obtain⟨op,hop,hap,hc⟩:=hp p (zG ..);have h':=zpT (fun a w=>zpU hi hs pre post a w (fun q hq=>hp q (zu _ hq))) h;have:=swap hop hi hap (fun cs b=>Region.noSelect_spec hs p op cs b hop) (fun cs b=>Region.noSelect_spec hs i oi cs b hi) hc h';exact this
theorem zil{cls:Op->Nat}(hcls:zmJ P cls)(hB:textB cls ops=true):∀ (fuel:Nat) (listed:Array Bool) (a:Act) (w:World),listed.size=ops.size →
    (left ops.size listed).length<=fuel->Closed .any ops listed->(Region.ready .any ops listed=[]->left ops.size listed=[]) →
    (∀ l:Array Bool,l.size=ops.size->Closed .any ops l->Region.ready .any ops l=[]->left ops.size l=[]) →
    zod P ops Q (left ops.size listed) a w->wpAny P .any ops (Only Q) fuel listed a w:=by
 have hs:Region.noSelect ops=true:=by unfold textB at hB;rw[zE] at hB;exact hB.1
 intro fuel
 induction fuel with
 | zero =>
   intro listed a w hsz hlen hcl hend _ h;have hl:left ops.size listed=[]:=Zr (by omega);rw[hl] at h;refine⟨?_,h⟩;refine QO.2 fun i hi=>?_;have hm:=mem_ready.1 hi;obtain⟨h0,o,ho,_⟩:=hm;have:i∈left ops.size listed:=Zj.2 ⟨Zc.2 (ZB.1 ho).1,by simpa using h0⟩;rw[hl] at this;cases this
 | succ fuel ih =>
   intro listed a w hsz hlen hcl hend hall h;refine⟨fun hr=>?_,fun i hi=>?_⟩
   . rw[hend hr] at h;exact h
   . obtain⟨h0,oi,hoi,hed⟩:=mem_ready.1 hi;have hin:i < ops.size:=(ZB.1 hoi).1;have hmem:i∈left ops.size listed:=Zj.2 ⟨Zc.2 hin,by simpa using h0⟩;have hnd:(left ops.size listed).Nodup:=List.Sublist.nodup Jw List.nodup_range;have hsorted:(left ops.size listed).Pairwise (· < ·):=List.Pairwise.filter _ List.pairwise_lt_range;obtain⟨pre,post,hpp⟩:=List.append_of_mem hmem;rw[hpp] at h hsorted hnd;have hpre:∀ p∈pre,p < i:=fun p hp=>(ZO.1 hsorted).2.2 p hp i (zG ..);have hset:left ops.size (listed.setIfInBounds i true)=pre++post:=by
      have h1:left ops.size (listed.setIfInBounds i true)=(left ops.size listed).filter (fun k=>k != i):=by
       unfold left;rw[List.filter_filter];refine List.filter_congr fun k hk=>?_;by_cases hki:k=i
       . subst hki;have:k < listed.size:=by omega
         simp[this]
       . rw[getD_set_ne true (fun e=>hki e.symm)];simp[hki]
      rw[h1,hpp,JQ,List.filter_cons];have hni:i ∉ pre/\i ∉ post:=by
       rw[Qi] at hnd;refine⟨fun hc=>?_,fun hc=>?_⟩
       . exact hnd.2.2 i hc i (zG ..) rfl
       . exact(Zt.1 hnd.2.1).1 hc
      rw[XO.2 (fun k hk=>by simp;rintro rfl;exact hni.1 hk),XO.2 (fun k hk=>by simp;rintro rfl;exact hni.2 hk)];simp
     have hstep:=zpU hoi hs pre post a w (fun p hp=>by
      have hpl:p∈left ops.size listed:=by rw[hpp];exact z9 _ hp
      obtain⟨hpn,hpu⟩:=Zj.1 hpl;have hpn:=Zc.1 hpn;refine⟨ops[p],Za hpn,?_⟩;rcases zk6 hcls hB (Za hpn) hoi (hpre p hp) with hd|hd
      . have:=descs_listed hcl p i oi hoi hed hd;have hsz':p < listed.size:=by omega
        simp[hsz'] at hpu this;rw[this] at hpu;cases hpu
      . exact hd) h
     refine wpOp_mono (fun a' w' h'=>?_) (zk5 hstep);have hcl':Closed .any ops (listed.setIfInBounds i true):=by
      intro k o hk hl e he hb;by_cases hki:k=i
      . subst hki;rw[hoi] at hk;cases hk;exact getD_set_true (hed e he hb)
      . rw[getD_set_ne false (fun e=>hki e.symm)] at hl;exact getD_set_true (hcl k o hk hl e he hb)
     have hsz2:(listed.setIfInBounds i true).size=ops.size:=by simpa using hsz
     refine ih (listed.setIfInBounds i true) a' w' hsz2 ?_ hcl' (hall _ hsz2 hcl') hall (by rw[hset];exact h');rw[hset];rw[hpp] at hlen;simp at hlen ⊢;omega
theorem ready_nil {md : Region.Mode} {listed : Array Bool} (hb : ops.toList.zipIdx.all (fun (o, i) => o.after.all fun e => !Region.binds md e || decide (e.on < i)) = true) (hsz : listed.size = ops.size)
    (h:Region.ready md ops listed=[]):left ops.size listed=[]:=by
 refine QO.2 fun i=>?_
 induction i using Nat.strongRecOn with
 | _ i ih =>
   intro hi;obtain⟨hin,hiu⟩:=Zj.1 hi;have hin:=Zc.1 hin
   have hr:i∈Region.ready md ops listed:=by
    refine mem_ready.2 ⟨by simpa using hiu,ops[i],Za hin,fun e he hbe=>?_⟩;have h1:=Zz.1 hb (ops[i],i) (XC.2 (by simp[hin]));have h2:=Array.all_eq_true_iff_forall_mem.1 h1 e he;simp only[hbe,Jv,Bool.false_or,decide_eq_true_eq] at h2;have h3:=ih e.on h2;have hel:e.on < listed.size:=by omega
    cases hc:listed[e.on] with
    | true=>simp[hel,hc]
    | false=>exact absurd (Zj.2 ⟨Zc.2 (by omega),by simp[hel,hc]⟩) h3
   rw[h] at hr;cases hr
def backB(ops:Array Oper):Bool:=ops.toList.zipIdx.all (fun(o,i)=>o.after.all fun e=>!Region.binds .any e || decide (e.on < i))
def assertOp(o:Oper)(x:Operand):Oper:={ dst:=none,op:=.unOp .xor 0 x,type:=0,pos:= "",after:=#[],guard:=o.guard }
def withAsserts (P : Program) : List Oper -> List Oper
 | []=>[]
 | o :: l=>(asserted P o.op).map (assertOp o)++o :: withAsserts P l
theorem zcT{o:Oper}{rest:List Oper}{a:Act}{w:World}:wpList P ops (Only Q) (o :: rest) a w ↔
    (if Region.wanted o (yielded ops a.tmps) then o.wp P a w (wpList P ops (Only Q) rest) (Only Q) else wpList P ops (Only Q) rest (a.put o.dst undef) w):=by
 rw[wpList];split
 . exact⟨fun h=>h.resolve_right (fun h=>zfY h.2),.inl⟩
 . exact Iff.rfl
theorem zk7{o:Oper}{x:Operand}{a:Act}{w:World}{K:Act->World->Prop}(h:(assertOp o x).wp P a w K (Only Q)):(∃ k n,a.eval x=.int k n)/\K a w:=by
 unfold Oper.wp assertOp execOp at h;simp only[Sem.run_bind,Op.unary] at h;cases hx:a.eval x with
 | int k n =>
   refine⟨⟨k,n,rfl⟩,?_⟩;rw[hx] at h;simp[Op.intBits,Oper.upon,Act.put] at h;exact h
 | pointer p=>cases p <;> simp[hx,Oper.upon,stuck,unsupported] at h
 | _=>simp[hx,Oper.upon,stuck] at h
theorem jL{o:Oper}:∀ (xs:List Operand) (rest:List Oper) (a:Act) (w:World),wpList P ops (Only Q) (xs.map (assertOp o)++rest) a w →
    (Region.wanted o (yielded ops a.tmps)=true->∀ x∈xs,∃ k n,a.eval x=.int k n)/\wpList P ops (Only Q) rest a w
 | [],rest,a,w,h=>⟨fun _ x hx=>(by cases hx),h⟩
 | x :: xs,rest,a,w,h=>by
   rw[zW,Z4,zcT] at h;have hg:Region.wanted (assertOp o x) (yielded ops a.tmps)=Region.wanted o (yielded ops a.tmps):=rfl;rw[hg] at h;split at h
   . rename_i hw;obtain⟨hx,h⟩:=zk7 h;obtain⟨h1,h2⟩:=jL xs rest a w h;refine⟨fun hw y hy=>?_,h2⟩;rcases zN.1 hy with rfl|hy
     . exact hx
     . exact h1 hw y hy
   . rename_i hw;obtain⟨h1,h2⟩:=jL xs rest _ w h;exact⟨fun hw'=>absurd hw' hw,h2⟩
theorem qw:∀ (l:List Oper) (k:Nat) (a:Act) (w:World),(∀ j,l[j]?=ops[k+j]?) →
    wpList P ops (Only Q) (withAsserts P l) a w->zod P ops Q (List.range' k l.length) a w
 | [],k,a,w,_,h=>h
 | o :: l,k,a,w,hk,h=>by
   have h0:ops[k]?=some o:=by simpa using(hk 0).symm
   obtain⟨h1,h2⟩:=jL _ _ a w h;rw[zD,List.range'_succ];show wpE P ops Q k _ a w;rw[qv h0];rw[zcT] at h2;have ih:∀ a w,wpList P ops (Only Q) (withAsserts P l) a w->zod P ops Q (List.range' (k+1) l.length) a w:=fun a w =>
    qw l (k+1) a w (fun j=>by have:=hk (j+1);simpa[ZR,Nat.add_comm 1 j] using this)
   split
   . rename_i hw;rw[if_pos hw] at h2;exact⟨⟨fun v=>rfl,h1 hw⟩,Oper.wp_mono ih h2⟩
   . rename_i hw;rw[if_neg hw] at h2;exact ih _ _ h2
def isInt:Value->Bool|.int _ _=>true|_=>false
theorem wpList_assert {R : Exit -> Act -> World -> Prop} {o : Oper} {x : Operand} {rest : List Oper} {a : Act} {w : World} (he : (isInt (a.eval x) || !Region.wanted o (yielded ops a.tmps)) = true) (h : wpList P ops R rest a w) :
    wpList P ops R (assertOp o x :: rest) a w:=by
 unfold wpList;have hg:Region.wanted (assertOp o x) (yielded ops a.tmps)=Region.wanted o (yielded ops a.tmps):=rfl;rw[hg];split
 . rename_i hw;left;simp only[hw,Jv,Bool.or_false] at he;cases hv:a.eval x <;> simp[hv,isInt] at he;unfold Oper.wp assertOp execOp;simp[Op.unary,hv,Op.intBits,Oper.upon,Act.put];exact h
 . exact h
theorem zoe:Only Q=Exit.then (fun a w=>Q .normal a w) (fun _ _ _=>False):=by
 funext e a w;cases e <;> rfl
theorem any_region_text {cls : Op -> Nat} (hcls : zmJ P cls) {l : List Oper} {a : Act} {w : World}
    (hB:(textB cls l.toArray && backB l.toArray)=true)
    (h:wpList P l.toArray (Exit.then (fun a w=>Q .normal a w) (fun _ _ _=>False)) (withAsserts P l) a w):wpAny P .any l.toArray (Only Q) l.toArray.size (Array.replicate l.toArray.size false) a w:=by
 rw[<- zoe] at h;rw[zE] at hB;have hfull:left l.toArray.size (Array.replicate l.toArray.size false)=List.range l.toArray.size:=by
  refine XO.2 fun k hk=>?_;have:=Zc.1 hk;simp at this;simp[this]
 have hcl:Closed .any l.toArray (Array.replicate l.toArray.size false):=by
  intro k o hk hl;exfalso;rw[zY,Wx] at hl;split at hl <;> simp at hl
 refine zil hcls hB.1 _ _ a _ (by simp) (by rw[hfull];simp) hcl (ready_nil hB.2 (by simp)) (fun l' hl' _=>ready_nil hB.2 hl') ?_;rw[hfull,List.range_eq_range',<- Array.length_toList];exact qw l.toArray.toList 0 a _ (by simp) h
end
section classes
variable {P:Program}
theorem WFree.pure{α:Type}(a:α):WFree P (Pure.pure a:Sem α):=.inl ⟨a,fun _=>rfl⟩
theorem WFree.halt{α:Type}(h:Halt):WFree P (Sem.halt h:Sem α):=.inr fun w=>⟨h,w,rfl⟩
theorem WFree.bind{α β:Type}{s:Sem α}{f:α->Sem β}(hs:WFree P s)(hf:∀ a,WFree P (f a)):WFree P (s >>= f):=by
 rcases hs with ⟨v,hv⟩|hn
 . rcases hf v with ⟨u,hu⟩|hn
   . exact .inl ⟨u,fun w=>by simp[hv w,hu w]⟩
   . refine .inr fun w=>?_;obtain⟨h,w',e⟩:=hn w;exact⟨h,w',by simp[hv w,e]⟩
 . refine .inr fun w=>?_;obtain⟨h,w',e⟩:=hn w;exact⟨h,w',by simp[e]⟩
theorem WFree.ite{α:Type}{c:Prop}[Decidable c]{s t:Sem α}(hs:WFree P s)(ht:WFree P t):WFree P (if c then s else t):=by split <;> assumption
theorem WFree.program:WFree P (Go.program):=.inl ⟨P,fun _=>rfl⟩
theorem WFree.typeInfo(t:TypeId):WFree P (Go.typeInfo t):=by
 refine WFree.bind .program fun p=>?_;cases h:p.info? t
 . exact .halt _
 . exact .pure _
theorem WFree.underlying(t:TypeId):WFree P (Go.underlying t):=by
 refine WFree.bind .program fun p=>?_;cases h:p.underlying t
 . exact .halt _
 . exact .pure _
theorem WFree.sizeOf(t:TypeId):WFree P (Go.sizeOf t):=WFree.bind (.typeInfo t) fun _=>.pure _
theorem WFree.zeroValue(t:TypeId):WFree P (Go.zeroValue t):=by
 refine WFree.bind (.typeInfo t) fun i=>?_;cases h:i.zero
 . exact .halt _
 . exact .pure _
theorem WFree.isAgg(t:TypeId):WFree P (Go.isAgg t):=by
 refine WFree.bind (.underlying t) fun d=>?_;cases d <;> exact .pure _
theorem WFree.asIntOf(v:Value):WFree P (Go.asIntOf v):=by
 cases v with
 | int k n=>exact .pure _
 | pointer p=>cases p <;> exact .halt _
 | _=>exact .halt _
theorem WFree.asBool(v:Value):WFree P (Go.asBool v):=by cases v <;> first|exact .pure _|exact .halt _
theorem WFree.sureAddr(v:Value):WFree P (Instr.sureAddr v):=by
 cases v with
 | pointer p=>cases p <;> first|exact .pure _|exact .halt _
 | _=>exact .halt _
def Never{α:Type}(P:Program)(s:Sem α):Prop:=∀ w,∃ h w',s.run P w=.halt h w'
theorem Never.free{α:Type}{s:Sem α}(h:Never P s):WFree P s:=.inr h
theorem Never.halt{α:Type}(h:Halt):Never P (Sem.halt h:Sem α):=fun w=>⟨h,w,rfl⟩
theorem Never.after{α β:Type}{s:Sem α}{f:α->Sem β}(hf:∀ a,Never P (f a)):Never P (s >>= f):=fun w=>by
 rw[Sem.run_bind];cases hr:s.run P w with
 | ok a w'=>obtain⟨h,w'',e⟩:=hf a w';exact⟨h,w'',by simp[e]⟩
 | halt h w'=>exact⟨h,w',by simp⟩
theorem Never.runtimePanic{α:Type}(e:RuntimeError):Never P (Go.runtimePanic e:Sem α):=by
 unfold Go.runtimePanic;refine Never.after fun p=>?_;cases e <;> simp only[goPanic] <;> first|exact Never.halt _|exact Never.after fun _=>Never.halt _|exact Never.after fun _=>Never.after fun _=>Never.halt _
theorem Never.boundsPanic{α:Type}(k:IntKind)(x y:Int)(c:BoundsCode):Never P (Go.boundsPanic k x y c:Sem α):=by
 unfold Go.boundsPanic;split <;> exact Never.after fun _=>Never.runtimePanic _
theorem Jc{o:Oper}{s:(Operand->Value)->Sem Value}(he:∀ ρ,execOp ρ o=(do let x ← s ρ;Pure.pure (.value x)))(h:∀ ρ,Ev P o ρ->WFree P (s ρ)):zcj P o:=fun ρ hev=>by
 rw[he];rcases h ρ hev with ⟨v,hv⟩|hn
 . exact .inl ⟨v,fun w=>by simp[hv w]⟩
 . refine .inr fun w=>?_;obtain⟨x,w',e⟩:=hn w;exact⟨x,w',by simp[e]⟩
theorem WFree.indexAt(t:TypeId)(x i:Value):WFree P (Instr.indexAt t x i):=by
 unfold Instr.indexAt;refine WFree.bind (.asIntOf i) fun ki=>WFree.bind (.underlying t) fun d=>?_;have tail:∀ (base:Option Addr) (len elem:Nat) (d:TypeDesc),WFree P (
     let tiny:Bool:=decide (len<=1) && (match d with|.array ..=>true|_=>false)
     match base with
     | some a =>
       if 0<=ki.2/\ki.2 < len then(do Pure.pure (Value.pointer (some (a.add (ki.2.toNat * (← Go.sizeOf elem))))))
       else if tiny then unsupported (.noEntry "op/indexAddr.an index out of range at an array of length 0 or 1 (ledger 616)")
       else boundsPanic ki.1 ki.2 len .index
     | none=>boundsPanic ki.1 ki.2 0 .index):=fun base len elem d=>by
  cases base with
  | none=>exact(Never.boundsPanic _ _ _ _).free
  | some a=>exact WFree.ite (WFree.bind (.sizeOf _) fun _=>.pure _) (WFree.ite (.halt _) (Never.boundsPanic _ _ _ _).free)
 cases d with
 | array len elem=>exact WFree.bind (.sureAddr x) fun a=>WFree.bind (.pure _) fun r=>WFree.bind (.underlying t) fun d=>tail _ _ _ d
 | slice elem=>cases x <;> first|exact WFree.bind (.pure _) fun r=>WFree.bind (.underlying t) fun d=>tail _ _ _ d|exact WFree.bind (.halt _) fun r=>WFree.bind (.underlying t) fun d=>tail _ _ _ d
 | _=>exact WFree.bind (.halt _) fun r=>WFree.bind (.underlying t) fun d=>tail _ _ _ d
theorem WFree.sliceBound(x:Value)(y:Nat)(c:BoundsCode):WFree P (Instr.sliceBound x y c):=by
 unfold Instr.sliceBound;exact WFree.bind (.asIntOf x) fun ki=>WFree.ite (.pure _) (Never.boundsPanic _ _ _ _).free
theorem WFree.sliceBounds(b:Bool)(len cap:Nat)(lo hi mx:Option Value):WFree P (Instr.sliceBounds b len cap lo hi mx):=by
 unfold Instr.sliceBounds;have fin:∀ (m h:Nat),WFree P (do
     let l ← match lo with
      | some v=>Instr.sliceBound v h (if mx.isSome then .slice3C else .sliceB)
      | none=>Pure.pure 0
     Pure.pure (l,h,m)):=fun m h=>by
  cases lo with
  | none=>exact WFree.bind (.pure _) fun _=>.pure _
  | some v=>exact WFree.bind (.sliceBound _ _ _) fun _=>.pure _
 cases mx with
 | none =>
   refine WFree.bind (.pure _) fun m=>?_;cases hi with
   | none=>exact WFree.bind (.pure _) fun h=>fin m h
   | some v=>exact WFree.bind (.sliceBound _ _ _) fun h=>fin m h
 | some x =>
   refine WFree.bind (.sliceBound _ _ _) fun m=>?_;cases hi with
   | none=>exact WFree.bind (.halt _) fun h=>fin m h
   | some v=>exact WFree.bind (.sliceBound _ _ _) fun h=>fin m h
theorem WFree.sliceAt{t e:TypeId}(ht:P.underlying t=some (.slice e))(x:Value)(lo hi mx:Option Value):WFree P (Instr.sliceAt t x lo hi mx):=by
 have hu:∀ {β:Type} (f:TypeDesc->Sem β),WFree P (f (.slice e))->WFree P (Go.underlying t >>= f):=fun f hf=>by
  have:∀ w,(Go.underlying t).run P w=.ok (.slice e) w:=fun w=>run_underlying ht w;rcases hf with ⟨v,hv⟩|hn
  . exact .inl ⟨v,fun w=>by rw[Sem.run_bind,this w];exact hv w⟩
  . exact .inr fun w=>by rw[Sem.run_bind,this w];exact hn w
 unfold Instr.sliceAt;refine hu _ ?_;unfold Instr.slice;refine hu _ ?_;cases x <;> first|exact WFree.bind (.sliceBounds _ _ _ _ _ _) fun _=>WFree.bind (.sizeOf _) fun _=>.pure _|exact .halt _
theorem WFree.fieldAt{s:TypeId}{fs:Array Field}{k:Nat}{f:Field}{i:TypeInfo}(hs:P.underlying s=some (.struct fs))(hf:fs[k]?=some f)(hi:P.info? f.type=some i)(hz:i.size≠0)(x:Value):WFree P (Instr.fieldAt s x k):=by
 unfold Instr.fieldAt;have hu:∀ {β:Type} (g:TypeDesc->Sem β),WFree P (g (.struct fs))->WFree P (Go.underlying s >>= g):=fun g hg=>by
  have:∀ w,(Go.underlying s).run P w=.ok (.struct fs) w:=fun w=>run_underlying hs w;rcases hg with ⟨v,hv⟩|hn
  . exact .inl ⟨v,fun w=>by rw[Sem.run_bind,this w];exact hv w⟩
  . exact .inr fun w=>by rw[Sem.run_bind,this w];exact hn w
 refine hu _ ?_;simp only[hf];refine WFree.bind (.sureAddr x) fun a=>WFree.bind ?_ fun p=>.pure _;unfold fieldPlace;have hsz:∀ w,(Go.sizeOf f.type).run P w=.ok i.size w:=fun w=>by simp[Go.sizeOf,Go.typeInfo,Go.program,Sem.run,hi]
 refine .inl ⟨a.add f.offset,fun w=>?_⟩;rw[Sem.run_bind,hsz w];simp[hz]
theorem WFree.extract(x:Value)(i:Nat):WFree P (Instr.extract x i):=by
 unfold Instr.extract;split
 . split
   . exact .pure _
   . exact .halt _
 . exact .halt _
theorem WFree.fill_build(t:TypeId)(ps:Array (Nat×Value))(hm:∀ fs:Array Field,WFree P (fs.mapM (m:=Sem) fun f=>do Pure.pure (f.offset,<- Go.sizeOf f.type))):WFree P (Instr.build t ps):=by
 unfold Instr.build;refine WFree.bind (.zeroValue t) fun z=>WFree.bind (.underlying t) fun d=>?_;cases d with
 | struct fs =>
   refine WFree.bind (hm fs) fun places=>?_;split
   . exact .pure _
   . exact .halt _
 | array n e =>
   refine WFree.bind (.sizeOf e) fun sz=>?_;split
   . exact .pure _
   . exact .halt _
 | _=>exact .halt _
theorem WFree.listMapM {α β : Type} (g : α -> Sem β) (hg : ∀ x, WFree P (g x)) : ∀ l : List α, WFree P (l.mapM g)
 | []=>by rw[List.mapM_nil];exact .pure _
 | x :: l=>by rw[W8];exact WFree.bind (hg x) fun y=>WFree.bind (WFree.listMapM g hg l) fun ys=>.pure _
theorem WFree.build(t:TypeId)(ps:Array (Nat×Value)):WFree P (Instr.build t ps):=WFree.fill_build t ps fun fs=>by
 rw[Wo];exact WFree.bind (WFree.listMapM _ (fun f=>WFree.bind (.sizeOf _) fun _=>.pure _) _) fun _=>.pure _
theorem WFree.unary(op:UnOp)(x:Value):WFree P (Op.unary op x):=by
 unfold Op.unary;split <;> first|exact .pure _|exact .halt _|(unfold Op.intArith;exact .pure _)|(unfold Op.intBits;exact .pure _)
theorem WFree.intBin(op:BinOp)(t:TypeId)(k k':IntKind)(m n:Int):WFree P (Go.binOp op t (.int k m) (.int k' n)):=by
 unfold Go.binOp;have sh:∀ op k m k' n,WFree P (Op.shift op k m k' n):=fun op k m k' n=>by
  unfold Op.shift;refine WFree.ite (Never.runtimePanic _).free ?_;split <;> first|exact .pure _|exact .halt _
 have dv:∀ op k m n,WFree P (Op.intDiv op k m n):=fun op k m n=>by
  unfold Op.intDiv;refine WFree.ite (Never.runtimePanic _).free ?_;split <;> first|exact .pure _|exact .halt _
 cases op <;> simp only [] <;> first
  | exact sh _ _ _ _ _
  | (refine WFree.ite (.halt _) ?_;first|exact dv _ _ _ _|(unfold Op.intArith;exact .pure _)|(unfold Op.intBits;exact .pure _)|(unfold Op.intCmp;exact .pure _))
theorem WFree.eqGuardInt(op:BinOp)(t:TypeId)(x y:Operand)(k k':IntKind)(m n:Int):WFree P (eqGuard op t x y (.int k m) (.int k' n)):=by
 unfold eqGuard;refine WFree.ite (.pure _) (.pure _)
theorem WFree.loadCells (a : Addr) (w : World) : ∀ (n i : Nat) (acc : Array Value), (∃ v, (loadCellsFrom a i n acc).run P w = .ok v w) \/ (∃ h w', (loadCellsFrom a i n acc).run P w = .halt h w')
 | 0,i,acc=>.inl ⟨acc,rfl⟩
 | n+1,i,acc=>by
   show (∃ v,((load (a.add i)) >>= fun v=>loadCellsFrom a (i+1) n (acc.push v)).run P w=_)\/(∃ h w',((load (a.add i)) >>= fun v=>loadCellsFrom a (i+1) n (acc.push v)).run P w=_);rw[Sem.run_bind];simp only[load,Sem.run];cases w.cell? (a.add i) with
   | some v=>exact WFree.loadCells a w n (i+1) (acc.push v)
   | none =>
     dsimp only
     cases w.farLoad P (a.add i) (Mode.plain == Mode.atomic) with
     | error h=>exact .inr ⟨h,w,rfl⟩
     | ok r=>exact WFree.loadCells a w n (i+1) (acc.push r.1)
theorem zfZ{o:Oper}{t:TypeId}{x:Operand}(ho:o.op=.load t x):zck P o:=fun ρ w=>by
 have he:execOp ρ o=(do let v ← Instr.loadAt t (ρ x);Pure.pure (.value v)):=by unfold execOp;rw[ho]
 rw[he];have h:(∃ v,(Instr.loadAt t (ρ x)).run P w=.ok v w)\/(∃ h w',(Instr.loadAt t (ρ x)).run P w=.halt h w'):=by
  unfold Instr.loadAt;rw[Sem.run_bind];rcases WFree.sureAddr (P:=P) (ρ x) with ⟨a,ha⟩|hn
  . rw[ha w,Result.andThen_ok];unfold loadVar;rw[Sem.run_bind];rcases WFree.isAgg (P:=P) t with ⟨b,hb⟩|hn
    . rw[hb w,Result.andThen_ok];cases b with
      | false =>
        simp only[load,Sem.run,zt,if_false];cases w.cell? a with
        | some v=>exact .inl ⟨v,rfl⟩
        | none =>
          dsimp only
          cases w.farLoad P a (Mode.plain == Mode.atomic) with
          | error h=>exact .inr ⟨h,w,rfl⟩
          | ok r=>exact .inl ⟨r.1,rfl⟩
      | true =>
        simp only[if_true];rw[Sem.run_bind];rcases WFree.sizeOf (P:=P) t with ⟨n,hn⟩|hn
        . rw[hn w,Result.andThen_ok,Sem.run_bind];rcases WFree.loadCells (P:=P) a w n 0 #[] with ⟨v,hv⟩|⟨h,w',hv⟩
          . left;exact⟨.agg v,by unfold Go.loadCells;rw[hv];rfl⟩
          . right;exact⟨h,w',by unfold Go.loadCells;rw[hv];rfl⟩
        . obtain⟨h,w',e⟩:=hn w;exact .inr ⟨h,w',by rw[e];rfl⟩
    . obtain⟨h,w',e⟩:=hn w;exact .inr ⟨h,w',by rw[e];rfl⟩
  . obtain⟨h,w',e⟩:=hn w;exact .inr ⟨h,w',by rw[e];rfl⟩
 rw[Sem.run_bind];rcases h with ⟨v,hv⟩|⟨h,w',hv⟩
 . exact .inl ⟨v,by rw[hv];rfl⟩
 . exact .inr ⟨h,w',by rw[hv];rfl⟩
theorem zan(w:World)(ob:Obj)(k:Nat)(h:k < w.heap.size):(w.alloc ob).heap[k]?=w.heap[k]?:=by
 show (w.heap.push ob)[k]?=_;rw[QE,if_neg (by omega)]
theorem za1{w:World}{k:Nat}{o:Obj}(h:w.heap[k]?=some o):k < w.heap.size:=(ZB.1 h).1
theorem zfr{w:World}{at_:Addr}{u:TypeId}{k:Addr}{b:Bool}{r:Value×List Addr}(ob:Obj)(h:w.viewLoad P at_ u k b=.ok r):(w.alloc ob).viewLoad P at_ u k b=.ok r:=by
 have hs:(w.alloc ob).seen P at_ u k b=w.seen P at_ u k b:=by
  rcases ZX at_.block w.heap.size with hlt|hge
  . unfold World.seen;rw[zan w ob _ hlt]
  . exfalso;have hn:w.heap[at_.block]?=none:=X2 hge;have he:∀ r,w.seen P at_ u k b≠.ok r:=by
     intro r hr;unfold World.seen at hr;rw[hn] at hr;simp only[bind,Except.bind,throw,throwThe,MonadExceptOf.throw] at hr
     (repeat' split at hr) <;> cases hr
    unfold World.viewLoad at h;cases hsr:w.seen P at_ u k b with
    | error e=>rw[hsr] at h;cases h
    | ok r'=>exact he r' hsr
 unfold World.viewLoad at h ⊢;rw[hs];exact h
theorem zg2{w:World}{a:Addr}{b:Bool}{r:Value×List Addr}(ob:Obj)(h:w.farLoad P a b=.ok r):(w.alloc ob).farLoad P a b=.ok r:=by
 unfold World.farLoad at h ⊢;cases hh:w.heap[a.block]? with
 | none=>rw[hh] at h;cases h
 | some o =>
   rw[hh] at h;rw[zan w ob _ (za1 hh),hh];cases o <;> first|(cases h;done)|skip
   rename_i at_ u
   dsimp only at h ⊢
   cases hv:w.viewLoad P at_ u a b with
   | error e=>rw[hv] at h;cases h
   | ok r' =>
     rw[hv] at h;cases h;rw[zfr ob hv]
theorem zf0 {α : Type} {w : World} {a : Addr} {f : Value -> Sem α} {x : α} (ob : Obj) (hf : ∀ v, (f v).run P w = .ok x w -> (f v).run P (w.alloc ob) = .ok x (w.alloc ob))
    (h:(load a >>= f).run P w=.ok x w):(load a >>= f).run P (w.alloc ob)=.ok x (w.alloc ob):=by
 rw[Sem.run_bind] at h ⊢;simp only[load,Sem.run] at h ⊢;cases hc:w.cell? a with
 | some v =>
   have hb:(w.alloc ob).cell? a=some v:=by
    unfold World.cell? at hc ⊢;cases hh:w.heap[a.block]? with
    | none=>rw[hh] at hc;cases hc
    | some o=>rw[hh] at hc;rw[zan w ob _ (za1 hh),hh];exact hc
   rw[hc] at h;rw[hb];exact hf v h
 | none =>
   rw[hc] at h
   dsimp only at h
   cases hr:w.farLoad P a (Mode.plain == Mode.atomic) with
   | error e=>rw[hr] at h;cases h
   | ok r =>
     rw[hr] at h;have hn:(w.alloc ob).cell? a=none:=by
      unfold World.farLoad at hr;unfold World.cell? at hc ⊢;cases hh:w.heap[a.block]? with
      | none=>rw[hh] at hr;cases hr
      | some o=>rw[hh] at hc;rw[zan w ob _ (za1 hh),hh];exact hc
     rw[hn]
     dsimp only
     rw[zg2 ob hr];exact hf _ h
theorem qy {w : World} (ob : Obj) (a : Addr) : ∀ (n i : Nat) (acc r : Array Value), (loadCellsFrom a i n acc).run P w = .ok r w -> (loadCellsFrom a i n acc).run P (w.alloc ob) = .ok r (w.alloc ob)
 | 0,i,acc,r,h=>by
   have:acc=r:=by simpa[loadCellsFrom,Sem.run] using h
   subst this;rfl
 | n+1,i,acc,r,h=>zf0 ob (fun v hv=>qy ob a n (i+1) (acc.push v) r hv) h
theorem zim{o:Oper}{t:TypeId}{x:Operand}(ho:o.op=.load t x):zdY P o:=fun ρ w v ob h=>by
 have he:execOp ρ o=(do let v ← Instr.loadAt t (ρ x);Pure.pure (.value v)):=by unfold execOp;rw[ho]
 rw[he] at h ⊢;have key:∀ u,(Instr.loadAt t (ρ x)).run P w=.ok u w->(Instr.loadAt t (ρ x)).run P (w.alloc ob)=.ok u (w.alloc ob):=by
  intro u hu;unfold Instr.loadAt at hu ⊢;rw[Sem.run_bind] at hu ⊢;rcases WFree.sureAddr (P:=P) (ρ x) with ⟨a,ha⟩|hn
  . rw[ha w,Result.andThen_ok] at hu;rw[ha (w.alloc ob),Result.andThen_ok];unfold loadVar at hu ⊢;rw[Sem.run_bind] at hu ⊢;rcases WFree.isAgg (P:=P) t with ⟨b,hb⟩|hn
    . rw[hb w,Result.andThen_ok] at hu;rw[hb (w.alloc ob),Result.andThen_ok];cases b with
      | false =>
        simp only[zt,if_false] at hu ⊢;have e:(load a:Sem Value)=(load a >>= fun v=>Pure.pure v):=by simp[load,Bind.bind,Sem.bind];rfl
        rw[e] at hu ⊢;exact zf0 ob (fun v hv=>by simp[Sem.run] at hv ⊢;exact hv) hu
      | true =>
        simp only[if_true] at hu ⊢;rw[Sem.run_bind] at hu ⊢;rcases WFree.sizeOf (P:=P) t with ⟨n,hn⟩|hn
        . rw[hn w,Result.andThen_ok,Sem.run_bind] at hu;rw[hn (w.alloc ob),Result.andThen_ok,Sem.run_bind];unfold Go.loadCells at hu ⊢;rcases WFree.loadCells (P:=P) a w n 0 #[] with ⟨r,hr⟩|⟨h',w',hr⟩
          . rw[hr] at hu;rw[qy ob a n 0 #[] r hr];simp at hu ⊢;exact hu
          . rw[hr] at hu;cases hu
        . obtain⟨h',w',e⟩:=hn w;rw[e] at hu;cases hu
    . obtain⟨h',w',e⟩:=hn w;rw[e] at hu;cases hu
  . obtain⟨h',w',e⟩:=hn w;rw[e] at hu;cases hu
 rw[Sem.run_bind] at h ⊢;cases hr:(Instr.loadAt t (ρ x)).run P w with
 | halt h' w'=>rw[hr] at h;cases h
 | ok u w' =>
   rcases zfZ (P:=P) ho ρ w with ⟨v',hv'⟩|⟨h',w'',hv'⟩
   . rw[he,Sem.run_bind,hr] at hv';simp at hv';obtain⟨_,rfl⟩:=hv';rw[hr] at h;rw[key u hr];simp at h ⊢;exact h
   . rw[he,Sem.run_bind,hr] at hv';cases hv'
theorem zof{o:Oper}{t:TypeId}(ho:o.op=.alloc t):zmH P o:=fun ρ=>by
 have he:execOp ρ o=(do let v ← Instr.alloc t true (.tuple #[]);Pure.pure (.value v)):=by unfold execOp;rw[ho]
 rw[he];unfold Instr.alloc;rcases WFree.zeroValue (P:=P) t with ⟨z,hz⟩|hn
 . refine .inl ⟨fun n=>.pointer (some ⟨n,0,none⟩),.cells z.cells t,fun w=>?_⟩;rw[Sem.run_bind,Sem.run_bind,hz w,Result.andThen_ok];rfl
 . refine .inr fun w=>?_;obtain⟨h,w',e⟩:=hn w;exact⟨h,w',by rw[Sem.run_bind,Sem.run_bind,e];rfl⟩
theorem zs3{o:Oper}{t:TypeId}{x:Operand}(ho:o.op=.box t x):zmH P o:=fun ρ=>by
 have he:execOp ρ o=(do let v ← Instr.box t (ρ x);Pure.pure (.value v)):=by unfold execOp;rw[ho]
 rw[he];refine .inl ⟨fun n=>.pointer (some ⟨n,0,none⟩),.cells (ρ x).cells t,fun w=>?_⟩;rfl
def za2(v:Value):Prop:=∃ k n,v=.int k n
theorem WFree.min2{x y:Value}(hx:za2 x)(hy:za2 y):∃ z,za2 z/\Builtin.min2 x y=Pure.pure z:=by
 obtain⟨k,m,rfl⟩:=hx;obtain⟨k',n,rfl⟩:=hy;exact⟨_,⟨_,_,rfl⟩,rfl⟩
theorem WFree.max2{x y:Value}(hx:za2 x)(hy:za2 y):∃ z,za2 z/\Builtin.max2 x y=Pure.pure z:=by
 obtain⟨k,m,rfl⟩:=hx;obtain⟨k',n,rfl⟩:=hy;exact⟨_,⟨_,_,rfl⟩,rfl⟩
theorem WFree.fold2 {g : Value -> Value -> Sem Value} (hg : ∀ {x y}, za2 x -> za2 y -> ∃ z, za2 z /\ g x y = Pure.pure z) : ∀ (l : List Value) (x : Value), za2 x -> (∀ v ∈ l, za2 v) -> WFree P (l.foldlM g x)
 | [],x,_,_=>by rw[List.foldlM_nil];exact .pure _
 | y :: l,x,hx,hl=>by
   obtain⟨z,hz,e⟩:=hg hx (hl y (zG ..));rw[JF,e];exact WFree.fold2 hg l z hz (fun v hv=>hl v (zu _ hv))
def okX(x:Operand):Bool:=ql x || zk4 x
def YU(P:Program)(c:Call):Nat :=
 match c.callee with
 | .builtin .min|.builtin .max=>if c.args.toList.all okX && decide (0 < c.args.size) then 0 else 2
 | .builtin .len=>(match c.argTypes.toList,c.args.toList with
   | [t],[_]=>(match P.underlying t with|some (.slice _)=>0|_=>2)
   | _,_=>2)
 | _=>2
def cls(P:Program):Op->Nat
 | .move _|.assign _|.pick ..|.build ..|.extract ..|.indexAddr ..|.unOp ..=>0
 | .fieldAddr s _ k=>match P.underlying s with
   | some (.struct fs)=>(match fs[k]? with
     | some f=>(match P.info? f.type with
       | some i=>if i.size=0 then 2 else 0
       | none=>2)
     | none=>2)
   | _=>2
 | .binOp _ t x y _=>if zik P t && okX x && okX y then 0 else 2
 | .convert s d x=>if zik P s && zik P d && okX x then 0 else 2
 | .slice t ..=>match P.underlying t with|some (.slice _)=>0|_=>2
 | .call c=>YU P c
 | .load ..=>1
 | .alloc _|.box ..=>3
 | _=>2
theorem zg3{ρ:Operand->Value}{x:Operand}(hx:okX x=true)(h:ql x=true->∃ k n,ρ x=.int k n)(hρ:∀ v,ρ (.const v)=v):∃ k n,ρ x=.int k n:=by
 cases x with
 | const v =>
   rw[hρ];cases v <;> first|exact⟨_,_,rfl⟩|(simp[okX,ql,zk4] at hx)
 | tmp t=>exact h rfl
 | _=>simp[okX,ql,zk4] at hx
theorem WS{x:Operand}{l:List Operand}(h:x∈l)(ht:ql x=true):x∈l.filter ql:=Zj.2 ⟨h,ht⟩
theorem intT_spec{P:Program}{t:TypeId}(h:zik P t=true):∃ k,P.underlying t=some (.int k):=by
 unfold zik at h;split at h
 . exact⟨_,by assumption⟩
 . cases h
theorem cls_ok(P:Program):zmJ P (cls P):=by
 intro o;constructor
 . intro h;cases ho:o.op with
   | move x=>exact Jc (s:=fun ρ=>Pure.pure (ρ x)) (fun ρ=>by unfold execOp;rw[ho];rfl) (fun ρ _=>.pure _)
   | assign x=>exact Jc (s:=fun ρ=>Pure.pure (ρ x)) (fun ρ=>by unfold execOp;rw[ho];rfl) (fun ρ _=>.pure _)
   | pick c x y =>
     intro ρ _;have he:execOp ρ o=(do Pure.pure (.value (if ← asBool (ρ c) then ρ x else ρ y))):=by unfold execOp;rw[ho]
     rw[he];rcases WFree.asBool (P:=P) (ρ c) with ⟨b,hb⟩|hn
     . exact .inl ⟨_,fun w=>by rw[Sem.run_bind,hb w];rfl⟩
     . exact .inr fun w=>by obtain⟨h,w',e⟩:=hn w;exact⟨h,w',by rw[Sem.run_bind,e];rfl⟩
   | build t ps=>exact Jc (s:=fun ρ=>Instr.build t (ps.map fun(i,x)=>(i,ρ x))) (fun ρ=>by unfold execOp;rw[ho]) (fun ρ _=>.build _ _)
   | extract x i=>exact Jc (s:=fun ρ=>Instr.extract (ρ x) i) (fun ρ=>by unfold execOp;rw[ho]) (fun ρ _=>.extract _ _)
   | indexAddr t x i=>exact Jc (s:=fun ρ=>Instr.indexAt t (ρ x) (ρ i)) (fun ρ=>by unfold execOp;rw[ho]) (fun ρ _=>.indexAt _ _ _)
   | unOp op t x=>exact Jc (s:=fun ρ=>Op.unary op (ρ x)) (fun ρ=>by unfold execOp;rw[ho]) (fun ρ _=>.unary _ _)
   | fieldAddr st x k =>
     rw[ho] at h;simp only[cls] at h;split at h
     . rename_i fs hs;split at h
       . rename_i f hf;split at h
         . rename_i i hi;split at h
           . cases h
           . rename_i hz;exact Jc (s:=fun ρ=>Instr.fieldAt st (ρ x) k) (fun ρ=>by unfold execOp;rw[ho]) (fun ρ _=>.fieldAt hs hf hi hz _)
         . cases h
       . cases h
     . cases h
   | binOp op t x y yt =>
     rw[ho] at h;simp only[cls] at h;split at h
     . rename_i hc;simp only[zE] at hc;obtain⟨⟨ht,hx⟩,hy⟩:=hc;refine Jc (s:=fun ρ=>(do eqGuard op t x y (ρ x) (ρ y);Go.binOp op t (ρ x) (ρ y))) (fun ρ=>by unfold execOp;rw[ho]) (fun ρ hev=>?_);have has:asserted P o.op=[x,y].filter ql:=by rw[ho];simp[asserted,ht]
       obtain⟨k,m,e1⟩:=zg3 hx (fun hh=>hev.2 x (by rw[has];exact WS (by simp) hh)) hev.1;obtain⟨k',n,e2⟩:=zg3 hy (fun hh=>hev.2 y (by rw[has];exact WS (by simp) hh)) hev.1;rw[e1,e2];exact WFree.bind (.eqGuardInt _ _ _ _ _ _ _ _) fun _=>.intBin _ _ _ _ _ _
     . cases h
   | convert st d x =>
     rw[ho] at h;simp only[cls] at h;split at h
     . rename_i hc;simp only[zE] at hc;obtain⟨⟨hs,hd⟩,hx⟩:=hc;refine Jc (s:=fun ρ=>Go.convert st d (ρ x)) (fun ρ=>by unfold execOp;rw[ho]) (fun ρ hev=>?_);have has:asserted P o.op=[x].filter ql:=by rw[ho];simp[asserted,hs,hd]
       obtain⟨k,m,e1⟩:=zg3 hx (fun hh=>hev.2 x (by rw[has];exact WS (by simp) hh)) hev.1;rw[e1];obtain⟨ks,hus⟩:=intT_spec hs;obtain⟨kd,hud⟩:=intT_spec hd;have h1:∀ w,(Go.underlying st).run P w=.ok (.int ks) w:=fun w=>run_underlying hus w;have h2:∀ w,(Go.underlying d).run P w=.ok (.int kd) w:=fun w=>run_underlying hud w;unfold Go.convert;refine .inl ⟨.int kd (kd.wrap m),fun w=>?_⟩;rw[Sem.run_bind,h1 w,Result.andThen_ok,Sem.run_bind,h2 w,Result.andThen_ok];simp[Conv.intToInt]
     . cases h
   | slice t x lo hi mx =>
     rw[ho] at h;simp only[cls] at h;split at h
     . rename_i e he;exact Jc (s:=fun ρ=>Instr.sliceAt t (ρ x) (lo.map ρ) (hi.map ρ) (mx.map ρ)) (fun ρ=>by unfold execOp;rw[ho]) (fun ρ _=>.sliceAt he _ _ _ _)
     . cases h
   | call c =>
     rw[ho] at h;simp only[cls] at h;obtain⟨callee,args,argTypes⟩:=c;have two:∀ {bl:Builtin} {g:Value->Value->Sem Value} {fb:Array TypeId->TypeId->Array Value->Sem Value},callee=.builtin bl->(∀ {x y},za2 x->za2 y->∃ z,za2 z/\g x y=Pure.pure z) →
         (∀ ats t (as_:Array Value),fb ats t as_=match as_.toList with|[]=>fb ats t as_|x :: rest=>rest.foldlM g x) →
         (∀ ats t cs (as_:Array Value),builtin bl ats t cs as_=(do let v ← fb ats t as_;Pure.pure (.value v)))->asserted P o.op=args.toList.filter ql →
         (args.toList.all okX && decide (0 < args.size))=true->zcj P o:=by
      intro bl g fb hcal hg hfb hbl has hc;subst hcal;rw[zE,decide_eq_true_eq] at hc;refine Jc (s:=fun ρ=>fb argTypes o.type (args.map ρ)) (fun ρ=>?_) (fun ρ hev=>?_)
      . unfold execOp;rw[ho];show (resolve ρ _ _ >>= fun d=>invoke d.target d.args)=_;exact hbl _ _ _ _
      . have hint:∀ x∈args.toList,za2 (ρ x):=fun x hx=>zg3 (Zz.1 hc.1 x hx) (fun ht=>hev.2 x (by rw[has];exact WS hx ht)) hev.1;rw[hfb];have hl:(args.map ρ).toList=args.toList.map ρ:=by simp
        rw[hl];cases hal:args.toList with
        | nil => exfalso; have : args.size = 0 := by rw [<- Array.length_toList, hal]; rfl
                 omega
        | cons x rest =>
          rw[hal] at hint;exact WFree.fold2 hg _ _ (hint x (zG ..)) (fun v hv=>by
           obtain⟨y,hy,rfl⟩:=ZL.1 hv;exact hint y (zu _ hy))
     cases callee with
     | value f=>simp[YU] at h
     | invoke r m=>simp[YU] at h
     | builtin b =>
       cases b <;> first|(simp[YU] at h;done)|skip
       case min =>
        refine two (g:=Builtin.min2) (fb:=Builtin.min_) rfl (WFree.min2) (fun ats t as_=>by unfold Builtin.min_;cases as_.toList <;> rfl) (fun _ _ _ _=>rfl) (by rw[ho];rfl) ?_;simp only[YU] at h;split at h
        . assumption
        . cases h
       case max =>
        refine two (g:=Builtin.max2) (fb:=Builtin.max_) rfl (WFree.max2) (fun ats t as_=>by unfold Builtin.max_;cases as_.toList <;> rfl) (fun _ _ _ _=>rfl) (by rw[ho];rfl) ?_;simp only[YU] at h;split at h
        . assumption
        . cases h
       case len =>
        simp only[YU] at h;split at h
        . rename_i t x h1 h2;split at h
          . rename_i e he;intro ρ _;have ha:argTypes=#[t]:=by apply Array.ext';simpa using h1
            have hx:args=#[x]:=by apply Array.ext';simpa using h2
            subst ha;subst hx;unfold execOp;rw[ho];simp only[Sem.run_bind,resolve,invoke,builtin,Sem.run_pure,Result.andThen_ok];have hu:∀ w,(Go.underlying t).run P w=.ok (.slice e) w:=fun w=>run_underlying he w;cases hv:ρ x with
            | slice a n cp=>exact .inl ⟨goInt n,fun w=>by simp[Builtin.len_,hv,hu w]⟩
            | _=>exact .inr fun w=>⟨_,w,by simp[Builtin.len_,hv,hu w,stuck];rfl⟩
          . cases h
        . cases h
   | _=>rw[ho] at h;exact absurd h (by simp[cls])
 . constructor
   . intro h;cases ho:o.op with
     | load t x=>exact⟨zfZ ho,zim ho⟩
     | call c =>
       exfalso;rw[ho] at h;simp only[cls,YU] at h
       (repeat' split at h) <;> cases h
     | _ =>
       exfalso;rw[ho] at h;simp only[cls] at h <;> (repeat' split at h) <;> cases h
   . intro h;cases ho:o.op with
     | alloc t=>exact zof ho
     | box t x=>exact zs3 ho
     | call c =>
       exfalso;rw[ho] at h;simp only[cls,YU] at h
       (repeat' split at h) <;> cases h
     | _ =>
       exfalso;rw[ho] at h;simp only[cls] at h <;> (repeat' split at h) <;> cases h
end classes
end Go.TR
namespace Go.TR
def zf1:List Nat->Nat
 | []=>0
 | d :: l=>(1 <<< d) ||| zf1 l
theorem jM(d k:Nat):(1 <<< d).testBit k=(k == d):=by
 rw[Nat.one_shiftLeft,Nat.testBit_two_pow];exact Bool.eq_iff_iff.2 ⟨fun h=>by simp at h ⊢;omega,fun h=>by simp at h ⊢;omega⟩
theorem zao : ∀ (l : List Nat) (k : Nat), (zf1 l).testBit k = l.contains k
 | [],k=>by simp[zf1]
 | d :: l,k=>by
   rw[zf1,W9,jM,zao l k,List.contains_cons]
theorem zd0{a b:Nat}(h:((a &&& b) == 0)=true)(k:Nat)(ha:a.testBit k=true):b.testBit k=false:=by
 have h0:a &&& b=0:=by simpa using h
 have:(a &&& b).testBit k=false:=by rw[h0];simp
 rw[Nat.testBit_and,ha,Bool.true_and] at this;exact this
theorem zu7{a b:Nat}(h:((a &&& b) == 0)=false):∃ k,a.testBit k=true/\b.testBit k=true:=by
 have h0:a &&& b≠0:=by simpa using h
 obtain⟨k,hk⟩:=Nat.exists_testBit_of_ne_zero h0;rw[Nat.testBit_and,zE] at hk;exact⟨k,hk⟩
def zf2(o:Oper):Nat:=zf1 ((o.after.toList.filter (Region.binds .any)).map (·.on))
theorem zf3(o:Oper)(k:Nat):(zf2 o).testBit k=true ↔ ∃ e∈o.after,Region.binds .any e=true/\e.on=k:=by
 unfold zf2;rw[zao,List.contains_iff_mem,ZL];constructor
 . rintro ⟨e,he,rfl⟩;obtain⟨h1,h2⟩:=Zj.1 he;exact⟨e,by simpa using h1,h2,rfl⟩
 . rintro ⟨e,he,hb,rfl⟩;exact⟨e,Zj.2 ⟨by simpa using he,hb⟩,rfl⟩
def descM(p:Nat):List Oper->Nat->Nat->Nat
 | [],_,acc=>acc
 | o :: l,j,acc=>descM p l (j+1) (if ((zf2 o &&& (acc ||| (1 <<< p))) == 0)=true then acc else acc ||| (1 <<< j))
theorem descM_eq (p : Nat) : ∀ (l : List Oper) (j acc : Nat) (arr : Array Bool), arr.size = j -> (∀ k, acc.testBit k = arr.getD k false) -> ∀ k, (descM p l j acc).testBit k = (descs .any p l arr).getD k false
 | [],j,acc,arr,hs,h,k=>h k
 | o :: l,j,acc,arr,hs,h,k=>by
   unfold descM descs;refine descM_eq p l (j+1) _ _ (by simp[hs]) (fun k=>?_) k;have key:(o.after.any fun e=>Region.binds .any e && (e.on == p || arr.getD e.on false))=!((zf2 o &&& (acc ||| (1 <<< p))) == 0):=by
    cases hz:((zf2 o &&& (acc ||| (1 <<< p))) == 0) with
    | true =>
      rw[Jv,Array.any_eq_false];intro i hi hh;rw[zE,XU,beq_iff_eq] at hh;have hb:=(zf3 o o.after[i].on).2 ⟨o.after[i],Array.getElem_mem hi,hh.1,rfl⟩;have:=zd0 hz _ hb;rw[W9,jM,h,Bool.or_eq_false_iff] at this;rcases hh.2 with h1|h1
      . rw[h1] at this;simp at this
      . rw[h1] at this;simp at this
    | false =>
      rw[Bool.not_false,Array.any_eq_true'];obtain⟨d,h1,h2⟩:=zu7 hz;obtain⟨e,he,hb,rfl⟩:=(zf3 o d).1 h1;refine⟨e,he,?_⟩;rw[W9,jM,h,XU] at h2;rw[zE,XU];exact⟨hb,h2.symm⟩
   rw[key];cases hz:((zf2 o &&& (acc ||| (1 <<< p))) == 0) with
   | true =>
     rw[if_pos rfl,Jv,h];simp only[zY,QE];split
     . rename_i hk;subst hk;rw[X2 (zn _)];rfl
     . rfl
   | false =>
     rw[if_neg (by simp),Bool.not_false,W9,jM,h];simp only[zY,QE];split
     . rename_i hk;subst hk;simp[hs]
     . rename_i hk;have:(k == j)=false:=by rw[<- hs];simpa using hk
       rw[this,Bool.or_false]
theorem descM_bit(p:Nat)(l:List Oper)(k:Nat):(descM p l 0 0).testBit k=(descs .any p l #[]).getD k false:=descM_eq p l 0 0 #[] rfl (fun k=>by simp) k
def zg4(cl:Op->Nat)(ops:Array Oper)(o:Oper):Nat×Nat×Nat:=(match o.dst with|some d=>1 <<< d|none=>0,zf1 (o.looksAt ops),cl o.op)
def okC(x y:Nat):Bool:=x == 0 || y == 0 || (x == 1 && y == 1) || (x == 1 && y == 3)
def zdF (s : Nat × Nat × Nat) (dsc : Nat) : Nat -> List (Nat × Nat × Nat) -> Bool
 | _,[]=>true
 | j,t :: l=>((okC s.2.2 t.2.2 && ((s.1 &&& (t.2.1 ||| t.1)) == 0) && ((t.1 &&& s.2.1) == 0)) || dsc.testBit j) && zdF s dsc (j+1) l
def zdG (l : List Oper) : Nat -> List (Nat × Nat × Nat) -> Bool
 | _,[]=>true
 | i,s :: t=>zdF s (descM i l 0 0) (i+1) t && zdG l (i+1) t
def fastB(cl:Op->Nat)(ops:Array Oper):Bool:=Region.noSelect ops && zdG ops.toList 0 (ops.toList.map (zg4 cl ops))
theorem zpV{cl:Op->Nat}{ops:Array Oper}{x y:Oper}(h1:(((zg4 cl ops x).1 &&& ((zg4 cl ops y).2.1 ||| (zg4 cl ops y).1)) == 0)=true)(h2:(((zg4 cl ops y).1 &&& (zg4 cl ops x).2.1) == 0)=true):x.apart ops y=true:=by
 unfold zg4 at h1 h2;unfold Oper.apart;have key:∀ d,y.dst=some d->(x.looksAt ops).contains d=false:=fun d hd=>by
  rw[hd] at h2;have:=zd0 h2 d (by rw[jM];simp);rwa[zao] at this
 have key2:∀ d,x.dst=some d->(y.looksAt ops).contains d=false/\y.dst≠some d:=fun d hd=>by
  rw[hd] at h1;have:=zd0 h1 d (by rw[jM];simp);rw[W9,Bool.or_eq_false_iff,zao] at this;refine⟨this.1,fun hy=>?_⟩;rw[hy] at this;have:=this.2;rw[jM] at this;simp at this
 rw[zE];refine⟨?_,?_⟩
 . split
   . rename_i d hd;rw[zE,(key2 d hd).1];exact⟨rfl,bne_iff_ne.2 (key2 d hd).2⟩
   . rfl
 . split
   . rename_i d hd;rw[key d hd];rfl
   . rfl
theorem zbp {s : Nat × Nat × Nat} {dsc : Nat} : ∀ {l : List (Nat × Nat × Nat)} {j : Nat}, zdF s dsc j l = true -> ∀ (k : Nat) t, l[k]? = some t -> (okC s.2.2 t.2.2 && ((s.1 &&& (t.2.1 ||| t.1)) == 0) && ((t.1 &&& s.2.1) == 0)) = true \/ dsc.testBit (j + k) = true
 | [],j,h,k,t,hk=>by simp at hk
 | u :: l,j,h,k,t,hk=>by
   unfold zdF at h;rw[zE] at h;cases k with
   | zero =>
     simp at hk;subst hk;have h1:=h.1;rwa[XU] at h1
   | succ k =>
     rw[show j+(k+1)=j+1+k by omega];exact zbp h.2 k t (by simpa using hk)
theorem zbq {L : List Oper} : ∀ {l : List (Nat × Nat × Nat)} {i : Nat}, zdG L i l = true -> ∀ (a b : Nat) s t, l[a]? = some s -> l[b]? = some t -> a < b -> (okC s.2.2 t.2.2 && ((s.1 &&& (t.2.1 ||| t.1)) == 0) && ((t.1 &&& s.2.1) == 0)) = true \/ (descM (i + a) L 0 0).testBit (i + b) = true
 | [],i,h,a,b,s,t,ha,hb,hab=>by simp at ha
 | u :: l,i,h,a,b,s,t,ha,hb,hab=>by
   unfold zdG at h;rw[zE] at h;obtain⟨b,rfl⟩:∃ b',b=b'+1:=⟨b - 1,by omega⟩;cases a with
   | zero =>
     simp at ha hb;subst ha;have:=zbp h.1 b t (by simpa using hb);rwa[show i+1+b=i+(b+1) by omega] at this
   | succ a =>
     have:=zbq h.2 a b s t (by simpa using ha) (by simpa using hb) (by omega);rwa[show i+1+a=i+(a+1) by omega,show i+1+b=i+(b+1) by omega] at this
theorem fastB_ok{cl:Op->Nat}{ops:Array Oper}(h:fastB cl ops=true):textB cl ops=true:=by
 unfold fastB at h;rw[zE] at h;unfold textB;rw[h.1,Bool.true_and,Zz];rintro ⟨oi,i⟩ hi;have hi:ops.toList[i]?=some oi:=by simpa using XC.1 hi
 simp only;rw[Zz];rintro ⟨oj,j⟩ hj;have hj:ops.toList[j]?=some oj:=by simpa using XC.1 hj
 simp only;by_cases hij:i < j
 case neg=>simp[hij]
 have:=zbq h.2 i j (zg4 cl ops oi) (zg4 cl ops oj) (by rw[zF,hi];rfl) (by rw[zF,hj];rfl) hij;rw[zq,zq,descM_bit] at this;rcases this with h1|h1
 . rw[zE,zE] at h1;rw[zpV h1.1.2 h1.2];have:okC (cl oi.op) (cl oj.op)=true:=h1.1.1;unfold okC at this;simp only[Bool.true_and];rw[this,Bool.or_true]
 . rw[h1,Bool.or_true,Bool.true_or]
end Go.TR
