/- Wm Wn: what the law needs of these -/import Derived.Lib.SliceRun
import Derived.Lib.JoinLaws
import Derived.Lib.AppendZeros
import Derived.Lib.Overlaps
import Derived.Laws.Externs
import Derived.Laws.IdiomCopy
import Derived.Laws.NewBlocks
import Derived.Test.YtclhmdhdpejhhaaGreatJsv7
set_option linter.unusedVariables false
namespace Go.Proofs.Tryz
open Go.RowKit Go.Lib
set_option maxRecDepth 100000
set_option maxHeartbeats 800000 in
theorem ziH (w : World) (A : Option Addr) (cap : Nat) (ad : Addr) (xs : List Value) (hl : xs.length < L.lim) (hA : xs = [] \/ A = some ad) (hc : ∀ (j : Nat) u, xs[j]? = some u -> w.cell? (ad.add j) = some u) (h1 : ∀ u ∈ xs, u.oneCell' = true) :
    Calls prog 170 #[.slice A xs.length cap] w (L.NatPost w (.slice none 0 0) 21 xs.length xs):=by
 have HC:=Lib.hid hc;clear hc;have H1:=Lib.hid h1;clear h1;unfold L.lim at hl;have hfin:∀ v w',w'.ownsRow w.heap.size 21 1 v xs.length xs->Below w.heap.size w w'->L.NatPost w (.slice none 0 0) 21 xs.length xs (.returned v) w':=fun v w' ho hb =>
  ⟨v,rfl,TR.own_base ho (z2 _),⟨hb.os,hb.tape,hb.output,hb.size,fun k hk _=>hb.block k hk⟩,fun β hβ=>.inr (ho.lt β hβ).1⟩
 have HF:=Lib.hid hfin;clear hfin
 cases A with
 | none =>
   have hs:xs=[]:=by rcases hA with h|h <;> first|exact h|cases h
   subst hs;have hq:=fun wx=>Lib.run_eql_slice_nil (P:=prog) wx 27 21 none 0 cap 0 0 underlying27
   go_enter func170,ntmps170
   go_wp2
   go_ret
   exact HF.out _ _ (World.ownsRow_nil _ _ _ _) (Below.refl _ _)
 | some q =>
   have hq0:∀ (j:Nat) u,xs[j]?=some u->∃ ad,(some q:Option Addr)=some ad/\w.cell? (ad.add j)=some u:=fun j u hj=>by
    rcases hA with h|h
    . subst h;simp at hj
    . cases h;exact⟨_,rfl,HC.out j u hj⟩
   have HQ:=Lib.hid hq0;clear hq0 hA;have hq:=fun wx=>Lib.run_eql_slice_nil (P:=prog) wx 27 21 (some q) xs.length cap 0 0 underlying27
   go_enter func170,ntmps170
   go_wp2_with (first|(at_builtin;refine TR.wpList_append_rd (s:=.tmp 5) (x:=.tmp 6) rfl rfl (e:=21) (size:=1) (bytes:=4) (by kernel_rfl) (World.ownsRow_made w #[] 0 (zn _) (by simp) rfl) rfl rfl (by simp) (fun j u hj=>(HQ.out j u hj).imp fun ad h=>⟨h.1,((show Below w.heap.size w _ by repeat (first|exact Below.refl _ _|assumption|refine Below.drew ?_|refine Below.drewN ?_ _|refine Below.setCell ?_ (by first|(simp;done)|(simp;omega)|omega) _|refine Below.alloc ?_ (by first|(simp;done)|(simp;omega)|omega) _)).cell (TR.cell_lt h.2)).trans h.2⟩) (H1.out) (show Below w.heap.size w _ by repeat (first|exact Below.refl _ _|assumption|refine Below.drew ?_|refine Below.drewN ?_ _|refine Below.setCell ?_ (by first|(simp;done)|(simp;omega)|omega) _|refine Below.alloc ?_ (by first|(simp;done)|(simp;omega)|omega) _)) (zn _) (show Below w.heap.size w _ by repeat (first|exact Below.refl _ _|assumption|refine Below.drew ?_|refine Below.drewN ?_ _|refine Below.setCell ?_ (by first|(simp;done)|(simp;omega)|omega) _|refine Below.alloc ?_ (by first|(simp;done)|(simp;omega)|omega) _)) (zn _) (by simp only[maxLen];omega) (by omega) ?_;intro v1 w1 hown1 hg1 hb1 he1;obtain⟨hc1',hf1'⟩:=TR.bcell hb1;have HO1:=Lib.hid hown1;have HG1:=Lib.hid hg1;have HB1:=Lib.hid hb1;have HE1:=Lib.hid he1;clear hown1 hg1 hb1 he1)|(at_builtin;generalize hK:wpList prog=K at *))
   go_ret
   exact HF.out _ _ (by simpa using HO1.out) HB1.out
set_option maxHeartbeats 800000 in
theorem zlp (w : World) (A : Option Addr) (cap : Nat) (ad : Addr) (xs : List Value) (hl : xs.length < L.lim) (hA : xs = [] \/ A = some ad) (hc : ∀ (j : Nat) u, xs[j]? = some u -> w.cell? (ad.add j) = some u) (h1 : ∀ u ∈ xs, u.oneCell' = true) :
    Calls prog 99 #[.slice A xs.length cap] w (L.NatPost w (.slice none 0 0) 4 xs.length xs):=by
 have HC:=Lib.hid hc;clear hc;have H1:=Lib.hid h1;clear h1;unfold L.lim at hl;have hfin:∀ v w',w'.ownsRow w.heap.size 4 1 v xs.length xs->Below w.heap.size w w'->L.NatPost w (.slice none 0 0) 4 xs.length xs (.returned v) w':=fun v w' ho hb =>
  ⟨v,rfl,TR.own_base ho (z2 _),⟨hb.os,hb.tape,hb.output,hb.size,fun k hk _=>hb.block k hk⟩,fun β hβ=>.inr (ho.lt β hβ).1⟩
 have HF:=Lib.hid hfin;clear hfin
 cases A with
 | none =>
   have hs:xs=[]:=by rcases hA with h|h <;> first|exact h|cases h
   subst hs;have hq:=fun wx=>Lib.run_eql_slice_nil (P:=prog) wx 73 4 none 0 cap 0 0 underlying73
   go_enter func99,ntmps99
   go_wp2
   go_ret
   exact HF.out _ _ (World.ownsRow_nil _ _ _ _) (Below.refl _ _)
 | some q =>
   have hq0:∀ (j:Nat) u,xs[j]?=some u->∃ ad,(some q:Option Addr)=some ad/\w.cell? (ad.add j)=some u:=fun j u hj=>by
    rcases hA with h|h
    . subst h;simp at hj
    . cases h;exact⟨_,rfl,HC.out j u hj⟩
   have HQ:=Lib.hid hq0;clear hq0 hA;have hq:=fun wx=>Lib.run_eql_slice_nil (P:=prog) wx 73 4 (some q) xs.length cap 0 0 underlying73
   go_enter func99,ntmps99
   go_wp2_with (first|(at_builtin;refine TR.wpList_append_rd (s:=.tmp 5) (x:=.tmp 6) rfl rfl (e:=4) (size:=1) (bytes:=1) (by kernel_rfl) (World.ownsRow_made w #[] 0 (zn _) (by simp) rfl) rfl rfl (by simp) (fun j u hj=>(HQ.out j u hj).imp fun ad h=>⟨h.1,((show Below w.heap.size w _ by repeat (first|exact Below.refl _ _|assumption|refine Below.drew ?_|refine Below.drewN ?_ _|refine Below.setCell ?_ (by first|(simp;done)|(simp;omega)|omega) _|refine Below.alloc ?_ (by first|(simp;done)|(simp;omega)|omega) _)).cell (TR.cell_lt h.2)).trans h.2⟩) (H1.out) (show Below w.heap.size w _ by repeat (first|exact Below.refl _ _|assumption|refine Below.drew ?_|refine Below.drewN ?_ _|refine Below.setCell ?_ (by first|(simp;done)|(simp;omega)|omega) _|refine Below.alloc ?_ (by first|(simp;done)|(simp;omega)|omega) _)) (zn _) (show Below w.heap.size w _ by repeat (first|exact Below.refl _ _|assumption|refine Below.drew ?_|refine Below.drewN ?_ _|refine Below.setCell ?_ (by first|(simp;done)|(simp;omega)|omega) _|refine Below.alloc ?_ (by first|(simp;done)|(simp;omega)|omega) _)) (zn _) (by simp only[maxLen];omega) (by omega) ?_;intro v1 w1 hown1 hg1 hb1 he1;obtain⟨hc1',hf1'⟩:=TR.bcell hb1;have HO1:=Lib.hid hown1;have HG1:=Lib.hid hg1;have HB1:=Lib.hid hb1;have HE1:=Lib.hid he1;clear hown1 hg1 hb1 he1)|(at_builtin;generalize hK:wpList prog=K at *))
   go_ret
   exact HF.out _ _ (by simpa using HO1.out) HB1.out
set_option maxHeartbeats 800000 in
theorem ziI (w : World) (A : Option Addr) (cap : Nat) (ad : Addr) (xs : List Value) (hl : xs.length < L.lim) (hA : xs = [] \/ A = some ad) (hc : ∀ (j : Nat) u, xs[j]? = some u -> w.cell? (ad.add j) = some u) (h1 : ∀ u ∈ xs, u.oneCell' = true) :
    Calls prog 76 #[.slice A xs.length cap] w (L.NatPost w (.slice none 0 0) 2 xs.length xs):=by
 have HC:=Lib.hid hc;clear hc;have H1:=Lib.hid h1;clear h1;unfold L.lim at hl;have hfin:∀ v w',w'.ownsRow w.heap.size 2 1 v xs.length xs->Below w.heap.size w w'->L.NatPost w (.slice none 0 0) 2 xs.length xs (.returned v) w':=fun v w' ho hb =>
  ⟨v,rfl,TR.own_base ho (z2 _),⟨hb.os,hb.tape,hb.output,hb.size,fun k hk _=>hb.block k hk⟩,fun β hβ=>.inr (ho.lt β hβ).1⟩
 have HF:=Lib.hid hfin;clear hfin
 cases A with
 | none =>
   have hs:xs=[]:=by rcases hA with h|h <;> first|exact h|cases h
   subst hs;have hq:=fun wx=>Lib.run_eql_slice_nil (P:=prog) wx 54 2 none 0 cap 0 0 underlying54
   go_enter func76,ntmps76
   go_wp2
   go_ret
   exact HF.out _ _ (World.ownsRow_nil _ _ _ _) (Below.refl _ _)
 | some q =>
   have hq0:∀ (j:Nat) u,xs[j]?=some u->∃ ad,(some q:Option Addr)=some ad/\w.cell? (ad.add j)=some u:=fun j u hj=>by
    rcases hA with h|h
    . subst h;simp at hj
    . cases h;exact⟨_,rfl,HC.out j u hj⟩
   have HQ:=Lib.hid hq0;clear hq0 hA;have hq:=fun wx=>Lib.run_eql_slice_nil (P:=prog) wx 54 2 (some q) xs.length cap 0 0 underlying54
   go_enter func76,ntmps76
   go_wp2_with (first|(at_builtin;refine TR.wpList_append_rd (s:=.tmp 5) (x:=.tmp 6) rfl rfl (e:=2) (size:=1) (bytes:=8) (by kernel_rfl) (World.ownsRow_made w #[] 0 (zn _) (by simp) rfl) rfl rfl (by simp) (fun j u hj=>(HQ.out j u hj).imp fun ad h=>⟨h.1,((show Below w.heap.size w _ by repeat (first|exact Below.refl _ _|assumption|refine Below.drew ?_|refine Below.drewN ?_ _|refine Below.setCell ?_ (by first|(simp;done)|(simp;omega)|omega) _|refine Below.alloc ?_ (by first|(simp;done)|(simp;omega)|omega) _)).cell (TR.cell_lt h.2)).trans h.2⟩) (H1.out) (show Below w.heap.size w _ by repeat (first|exact Below.refl _ _|assumption|refine Below.drew ?_|refine Below.drewN ?_ _|refine Below.setCell ?_ (by first|(simp;done)|(simp;omega)|omega) _|refine Below.alloc ?_ (by first|(simp;done)|(simp;omega)|omega) _)) (zn _) (show Below w.heap.size w _ by repeat (first|exact Below.refl _ _|assumption|refine Below.drew ?_|refine Below.drewN ?_ _|refine Below.setCell ?_ (by first|(simp;done)|(simp;omega)|omega) _|refine Below.alloc ?_ (by first|(simp;done)|(simp;omega)|omega) _)) (zn _) (by simp only[maxLen];omega) (by omega) ?_;intro v1 w1 hown1 hg1 hb1 he1;obtain⟨hc1',hf1'⟩:=TR.bcell hb1;have HO1:=Lib.hid hown1;have HG1:=Lib.hid hg1;have HB1:=Lib.hid hb1;have HE1:=Lib.hid he1;clear hown1 hg1 hb1 he1)|(at_builtin;generalize hK:wpList prog=K at *))
   go_ret
   exact HF.out _ _ (by simpa using HO1.out) HB1.out
set_option maxHeartbeats 800000 in
theorem zlq (w : World) (A : Option Addr) (cap : Nat) (ad : Addr) (n : Nat) (xs : List Value) (hln : xs.length = n * 3) (hl : n < L.lim) (hA : n = 0 \/ A = some ad) (hc : ∀ (j : Nat) u, xs[j]? = some u -> w.cell? (ad.add j) = some u) (h1 : ∀ u ∈ xs, u.oneCell' = true) :
    Calls prog 78 #[.slice A n cap] w (L.NatPost3 w (.slice none 0 0) 87 n xs):=by
 have HC:=Lib.hid hc;clear hc;have H1:=Lib.hid h1;clear h1;unfold L.lim at hl;have hfin:∀ v w',w'.ownsRow w.heap.size 87 3 v n xs->Below w.heap.size w w'->L.NatPost3 w (.slice none 0 0) 87 n xs (.returned v) w':=fun v w' ho hb =>
  ⟨v,rfl,TR.own_base ho (z2 _),⟨hb.os,hb.tape,hb.output,hb.size,fun k hk _=>hb.block k hk⟩,fun β hβ=>.inr (ho.lt β hβ).1⟩
 have HF:=Lib.hid hfin;clear hfin
 cases A with
 | none =>
   have hs:n=0:=by rcases hA with h|h <;> first|exact h|cases h
   subst hs;have hs:xs=[]:=Zr (by omega);subst hs;have hq:=fun wx=>Lib.run_eql_slice_nil (P:=prog) wx 63 87 none 0 cap 0 0 underlying63
   go_enter func78,ntmps78
   go_wp2
   go_ret
   exact HF.out _ _ (World.ownsRow_nil _ _ _ _) (Below.refl _ _)
 | some q =>
   have hq0:∀ (j:Nat) u,xs[j]?=some u->∃ ad,(some q:Option Addr)=some ad/\w.cell? (ad.add j)=some u:=fun j u hj=>by
    rcases hA with h|h
    . subst h;have hs:xs=[]:=Zr (by omega);subst hs;simp at hj
    . cases h;exact⟨_,rfl,HC.out j u hj⟩
   have HQ:=Lib.hid hq0;clear hq0 hA;have hq:=fun wx=>Lib.run_eql_slice_nil (P:=prog) wx 63 87 (some q) n cap 0 0 underlying63
   go_enter func78,ntmps78
   go_wp2_with (first|(at_builtin;refine TR.wpList_append_rd (s:=.tmp 5) (x:=.tmp 6) rfl rfl (e:=87) (size:=3) (bytes:=24) (by kernel_rfl) (World.ownsRow_made w #[] 0 (zn _) (by simp) rfl) rfl rfl (by omega) (fun j u hj=>(HQ.out j u hj).imp fun ad h=>⟨h.1,((show Below w.heap.size w _ by repeat (first|exact Below.refl _ _|assumption|refine Below.drew ?_|refine Below.drewN ?_ _|refine Below.setCell ?_ (by first|(simp;done)|(simp;omega)|omega) _|refine Below.alloc ?_ (by first|(simp;done)|(simp;omega)|omega) _)).cell (TR.cell_lt h.2)).trans h.2⟩) (H1.out) (show Below w.heap.size w _ by repeat (first|exact Below.refl _ _|assumption|refine Below.drew ?_|refine Below.drewN ?_ _|refine Below.setCell ?_ (by first|(simp;done)|(simp;omega)|omega) _|refine Below.alloc ?_ (by first|(simp;done)|(simp;omega)|omega) _)) (zn _) (show Below w.heap.size w _ by repeat (first|exact Below.refl _ _|assumption|refine Below.drew ?_|refine Below.drewN ?_ _|refine Below.setCell ?_ (by first|(simp;done)|(simp;omega)|omega) _|refine Below.alloc ?_ (by first|(simp;done)|(simp;omega)|omega) _)) (zn _) (by simp only[maxLen];omega) (by omega) ?_;intro v1 w1 hown1 hg1 hb1 he1;obtain⟨hc1',hf1'⟩:=TR.bcell hb1;have HO1:=Lib.hid hown1;have HG1:=Lib.hid hg1;have HB1:=Lib.hid hb1;have HE1:=Lib.hid he1;clear hown1 hg1 hb1 he1)|(at_builtin;generalize hK:wpList prog=K at *))
   go_ret
   exact HF.out _ _ (by simpa using HO1.out) HB1.out
end Go.Proofs.Tryz
namespace Go.Proofs.Tryz
open Go.RowKit Go.Lib
set_option maxRecDepth 100000
theorem ztc:((List.range prog.funcs.size).all fun f=>match L.natF prog f with
    | none=>true
    | some (k,e)=>(k == 3 && (f == 78 && e == 87)) || k == 0 && ((f == 170 && e == 21) || (f == 99 && e == 4) || (f == 76 && e == 2)))=true:=by kernel_rfl
theorem zem{f k e:Nat}(h:L.natF prog f=some (k,e)):(k=3/\(f=78/\e=87))\/k=0/\((f=170/\e=21)\/(f=99/\e=4)\/(f=76/\e=2)):=by
 have hlt:f < prog.funcs.size:=by
  unfold L.natF at h;split at h
  . rename_i fn hf;exact(ZB.1 hf).1
  . cases h
 have:=Zz.1 ztc f (Zc.2 hlt);rw[h] at this;simp only[XU,zE,beq_iff_eq] at this;obtain⟨h0,h2,h3⟩|⟨h0,(⟨h2,h3⟩|⟨h2,h3⟩)|⟨h2,h3⟩⟩:=this
 . exact .inl ⟨h0,h2,h3⟩
 . exact .inr ⟨h0,.inl ⟨h2,h3⟩⟩
 . exact .inr ⟨h0,.inr (.inl ⟨h2,h3⟩)⟩
 . exact .inr ⟨h0,.inr (.inr ⟨h2,h3⟩)⟩
theorem zve:L.NatOk prog where
 fn f k e h:=by
  obtain⟨_,rfl,_⟩|⟨_,⟨rfl,_⟩|⟨rfl,_⟩|⟨rfl,_⟩⟩:=zem h
  . exact⟨_,func78,by kernel_rfl,by kernel_rfl⟩
  . exact⟨_,func170,by kernel_rfl,by kernel_rfl⟩
  . exact⟨_,func99,by kernel_rfl,by kernel_rfl⟩
  . exact⟨_,func76,by kernel_rfl,by kernel_rfl⟩
 clone f e h w A cap ad xs h1 h2 h3 h4:=by
  obtain⟨h0,_⟩|⟨_,⟨rfl,rfl⟩|⟨rfl,rfl⟩|⟨rfl,rfl⟩⟩:=zem h
  . cases h0
  . exact ziH w A cap ad xs h1 h2 h3 h4
  . exact zlp w A cap ad xs h1 h2 h3 h4
  . exact ziI w A cap ad xs h1 h2 h3 h4
 clone3 f e h w A cap ad n xs h0 h1 h2 h3 h4:=by
  obtain⟨_,rfl,rfl⟩|⟨h0,_⟩:=zem h
  . exact zlq w A cap ad n xs h0 h1 h2 h3 h4
  . cases h0
 delete f e h:=by
  obtain⟨h0,_⟩|⟨h0,_⟩:=zem h <;> cases h0
 insert f e h:=by
  obtain⟨h0,_⟩|⟨h0,_⟩:=zem h <;> cases h0
end Go.Proofs.Tryz
