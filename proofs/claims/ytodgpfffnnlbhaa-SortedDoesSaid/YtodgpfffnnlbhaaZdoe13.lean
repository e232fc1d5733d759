/- Lopen2 Ra Kw Kb Ka Lrow Kc Kt Ks Ku Kl Lso SortL SortM: what the law needs of these -/
import Derived.SizedLaws
import Derived.Test.YtodgpfffnnlbhaaZdoe12
set_option linter.unusedVariables false
namespace Go.L
open Go.ChangeShapes Go.WideShapes Go.Rp
structure IsRs {α : Type} (c : α -> List Value) (W : α -> Prop) (n : Nat) (w : World) (a : Option Addr) (len cap : Nat) (l : List α) : Prop where
  hlen : l.length = len
  hle : len <= cap
  hmax : cap <= maxLen
  wf : ∀ s ∈ l, W s
  rd : ∀ (k : Nat) s, l[k]? = some s -> ∃ ad, a = some ad /\ ∀ (j : Nat) u, (c s)[j]? = some u -> w.cell? (ad.add (k * n + j)) = some u
theorem IsRs.vr {α : Type} {v : α -> List V} {c : α -> List Value} {W : α -> Prop} {n : Nat} (he : Enc v c n) {w : World} {a : Option Addr} {len cap : Nat} {l : List α} (h : IsRs c W n w a len cap l) : VR (fun p => w.cell? p) (fun _ => none) (.sl n (l.map v) false) (.slice a len cap) := by
  have := he.vr (im := fun p => w.cell? p) (io := fun _ => none) (l := l) (A := a) (cap := cap) (fun k s hs => h.rd k s hs) (by rw [h.hlen]; exact h.hle) h.hmax
  rwa [h.hlen] at this
theorem IsRs.len {α : Type} {c : α -> List Value} {W : α -> Prop} {n : Nat} {w : World} {a : Option Addr} {len cap : Nat} {l : List α} (h : IsRs c W n w a len cap l) : l.length <= maxLen := by
  rw [h.hlen]; exact Nat.le_trans h.hle h.hmax
section
variable {H : Type} {enc : TypeId × Value -> H} {P : Program} {w : World} {held : Bool}
theorem rows_open {α : Type} {c : α -> List Value} {W : α -> Prop} {ks : List IntKind} (hof : ∀ cs, Fits ks cs -> ∃ s, cs = c s /\ W s) {t e : TypeId} (ht : P.underlying t = some (.slice e)) (hk : iks P 12 e = some ks) (hc : P.cellsOf e = ks.length) {fuel : Nat} {a : Option Addr} {len cap : Nat} {x : DataW H × List MemPlace}
    (h : DataW.trod enc P w 0 (fun _ => true) held fuel t [.slice a len cap] = some x) : ∃ l, IsRs c W ks.length w a len cap l := by
  rcases Deep.open_slice ht h with ⟨h1, _⟩ | ⟨ad, len', cap', m, n, D, Pl, h1, _, hle, hm, hmm, _, hx⟩
  · simp at h1
    obtain ⟨rfl, rfl, rfl⟩ := h1
    exact ⟨[], rfl, Nat.le_refl _, by unfold maxLen; omega, fun s hs => (by cases hs), fun k s hs => (by simp at hs)⟩
  · simp at h1
    obtain ⟨rfl, rfl, rfl⟩ := h1
    have key : ∀ i, i < len -> ∃ s : α, W s /\ ∀ (j : Nat) u, (c s)[j]? = some u -> w.cell? (ad.add (i * ks.length + j)) = some u := fun i hi => by
      obtain ⟨cs, hcs, htr⟩ := hx i (by rw [hmm]; simp; omega)
      obtain ⟨s, rfl, hw⟩ := hof _ (iks_open 12 e _ hk htr)
      refine ⟨s, hw, fun j u hu => ?_⟩
      rw [hc] at hcs
      obtain ⟨_, hlen, hget⟩ := World.cells?_some hcs
      have hj : j < ks.length := by have := (List.getElem?_eq_some_iff.1 hu).1; rw [hlen] at this; exact this
      have := hget j hj
      rw [hu] at this
      rw [<- this, Deep.add_add]
    obtain ⟨l, hl, hp⟩ := lists_of len key
    exact ⟨l, hl, hle, hm, fun s hs => by obtain ⟨i, hi⟩ := List.mem_iff_getElem?.1 hs; exact (hp i s hi).1, fun k s hs => ⟨ad, rfl, (hp k s hs).2⟩⟩
end
def ocs (o : O) : List Value := [.int .u8 o.k, .int .i32 o.v]
def OWf (o : O) : Prop := (Lit.int .u8 o.k).wf = true /\ (Lit.int .i32 o.v).wf = true
theorem encO : Enc O.w ocs 2 := Enc.ofInts (fun o : O => [(.u8, o.k), (.i32, o.v)]) (by decide) (fun _ => rfl)
theorem op_of {cs : List Value} (h : Fits [.u8, .i32] cs) : ∃ o : O, cs = ocs o /\ OWf o := by
  obtain ⟨a, r, rfl, w1, h⟩ := h.cons
  obtain ⟨b, r, rfl, w2, h⟩ := h.cons
  obtain rfl := h.empty
  exact ⟨⟨a, b⟩, rfl, w1, w2⟩
abbrev IsOps := IsRs ocs OWf 2
theorem ops_open {H : Type} {enc : TypeId × Value -> H} {P : Program} {w : World} {held : Bool} {t e : TypeId} (ht : P.underlying t = some (.slice e)) (hk : iks P 12 e = some [.u8, .i32]) (hc : P.cellsOf e = 2) {fuel : Nat} {a : Option Addr} {len cap : Nat} {x : DataW H × List MemPlace}
    (h : DataW.trod enc P w 0 (fun _ => true) held fuel t [.slice a len cap] = some x) : ∃ l, IsOps w a len cap l := rows_open (fun _ => op_of) ht hk hc h
theorem ops_wf {w : World} {a : Option Addr} {len cap : Nat} {l : List O} (h : IsOps w a len cap l) : (∀ x ∈ l, 0 <= x.k) /\ (∀ x ∈ l, -2147483648 <= x.v /\ x.v < 2147483648) := by
  refine ⟨fun x hx => ?_, fun x hx => ?_⟩
  · have h1 := (h.wf x hx).1
    simp [Lit.wf] at h1
    have e : IntKind.u8.min = 0 := rfl
    omega
  · have h1 := (h.wf x hx).2
    simp [Lit.wf] at h1
    have e : IntKind.i32.min = -2147483648 := rfl
    have e2 : IntKind.i32.max = 2147483647 := rfl
    omega
theorem slice_sized {H : Type} {enc : TypeId × Value -> H} {P : Program} {w : World} {base : Nat} {spare : Nat -> Bool} {held : Bool} {ts : List TypeId} {ds : List (DataW H)} (hsz : (DataW.weightsEach P ts ds).all (· <= reachBytes) = true) {j : Nat} {t e : TypeId} {d : DataW H} {pl : List MemPlace} {a : Option Addr} {len cap fuel : Nat}
    (ht : ts[j]? = some t) (hd : ds[j]? = some d) (hu : P.underlying t = some (.slice e)) (hb : 1 <= P.bytesOf e) (h : DataW.trod enc P w base spare held fuel t [.slice a len cap] = some (d, pl)) : len <= 140737488355328 := by
  rcases Deep.open_slice hu h with ⟨h1, _⟩ | ⟨ad, len', cap', m, n, D, Pl, h1, _, hle, hm, hmm, hx, _⟩
  · simp at h1; omega
  · simp at h1
    obtain ⟨rfl, rfl, rfl⟩ := h1
    cases hx
    have h2 := sized_slice hsz ht hd hu
    simp only [List.length_map, List.length_range, reachBytes] at h2
    have h3 : len * 1 <= (len + (m - len)) * P.bytesOf e := Nat.mul_le_mul (by omega) hb
    omega
end Go.L
set_option linter.unusedVariables false
namespace Go.Proofs.Try
open Go.L
set_option maxRecDepth 100000
noncomputable def rLess (n : Nat) (k : Int) (v : Int) (k2 : Int) (v2 : Int) (h : Heap) : Option (Res × Heap) :=
 (if (k == 1) then
 (if (k2 == 1) then
 some (Res.ret [(V.bool (decide (v <= v2)))], h)
 else
 (if (k == 1) then
 some (Res.ret [(V.bool true)], h)
 else
 some (Res.ret [(V.bool (k2 != 1))], h)))
 else
 (if (k == 1) then
 some (Res.ret [(V.bool true)], h)
 else
 some (Res.ret [(V.bool (k2 != 1))], h)))
theorem rLess_eq (n : Nat) (k : Int) (v : Int) (k2 : Int) (v2 : Int) (h : Heap) : call (n + 1) 69 [(V.agg [(V.int .u8 k), (V.int .i32 v)]), (V.agg [(V.int .u8 k2), (V.int .i32 v2)])] h = rLess n k v k2 v2 h := by kernel_rfl
noncomputable def rOrder_l7 (n : Nat) (l : V) (st1 : List V) (next3 : List V -> Heap -> Option (Res × Heap)) (st8 : List V) (hh9 : Heap) (next10 : List V -> Heap -> Option (Res × Heap)) : Option (Res × Heap) :=
 (bd (bop prog .gtr 3 (gv st8 2) (V.int .i64 0)) fun v11 =>
 (bv v11 fun b12 => if b12 then
 (bd (bop prog .sub 3 (gv st8 2) (V.int .i64 1)) fun v13 =>
 (bdS (nv v13) fun n14 =>
 (if (1 = 1 /\ n14 < ((lsl (gv st8 1))).length /\ (some 28 : Option Nat) ≠ some 5) then
 (bd ((lsl (gv st8 1)))[n14]? fun es15 =>
 (bd (es15)[0]? fun v16 =>
 (bdS (nv v16) fun n17 =>
 (bd (idxP 2 n17 l) fun p18 =>
 (bd3 (cellsP hh9 p18) fun cs20 m19 o21 => if (o21 + 2 <= m19 /\ 0 < 2) then
 (bdS (nv (gv st1 2)) fun n22 =>
 (bd (idxP 2 n22 l) fun p23 =>
 (bd3 (cellsP hh9 p23) fun cs25 m24 o26 => if (o26 + 2 <= m24 /\ 0 < 2) then
 (cl (call n 69 [(V.agg ((cs20).drop o21 |>.take 2)), (V.agg ((cs25).drop o26 |>.take 2))] hh9) (fun r27 h28 =>
 (one1 r27 fun v30 =>
 (bd (uop .not v30) fun v31 =>
 (bv v31 fun b32 => if b32 then
 (bd (bop prog .sub 3 (gv st8 2) (V.int .i64 1)) fun v33 =>
 (next10 [(V.sl 1 (lsl (gv st8 0)) false), (V.sl 1 (lsl (gv st8 1)) false), v33] h28))
 else
 (bd (lenP (V.sl 1 (lsl (gv st8 1)) false)) fun n34 =>
 (bdS (nv (gv st8 2)) fun n35 =>
 (bd (sliceP 1 0 n35 (none : Option Nat) true (V.sl 1 (lsl (gv st8 1)) false)) fun v36 =>
 (bdS (slcH h28 v36) fun p37 =>
 (if (43 = 43 /\ (p37.1 = 1 \/ (p37.2).isEmpty = true)) then
 (bd (app 3 1 (S.own 3 1 []) p37.2) fun l38 =>
 (bd (bslV prog 43 1 [(0, (gv st1 2))]) fun p39 =>
 (bd (app 3 1 (S.own 3 1 l38) p39.2) fun l40 =>
 (bd (lenP (V.sl 1 (lsl (gv st8 1)) false)) fun n41 =>
 (bdS (nv (gv st8 2)) fun n42 =>
 (bd (sliceP 1 n42 n41 (none : Option Nat) true (V.sl 1 (lsl (gv st8 1)) false)) fun v43 =>
 (bdS (slcH h28 v43) fun p44 =>
 (if (43 = 43 /\ (p44.1 = 1 \/ (p44.2).isEmpty = true)) then
 (bd (app 3 1 (S.own 3 1 l40) p44.2) fun l45 =>
 (bd (bop prog .add 3 (gv st1 2) (V.int .i64 1)) fun v46 =>
 (next3 [(V.sl 1 (lsl (gv st8 0)) false), (V.sl 1 l45 false), v46] h28))) else none)))))))) else none))))))))) (fun z29 h28 => none)) else none))) else none))))) else none)))
 else
 (bd (lenP (V.sl 1 (lsl (gv st8 1)) false)) fun n47 =>
 (bdS (nv (gv st8 2)) fun n48 =>
 (bd (sliceP 1 0 n48 (none : Option Nat) true (V.sl 1 (lsl (gv st8 1)) false)) fun v49 =>
 (bdS (slcH hh9 v49) fun p50 =>
 (if (43 = 43 /\ (p50.1 = 1 \/ (p50.2).isEmpty = true)) then
 (bd (app 3 1 (S.own 3 1 []) p50.2) fun l51 =>
 (bd (bslV prog 43 1 [(0, (gv st1 2))]) fun p52 =>
 (bd (app 3 1 (S.own 3 1 l51) p52.2) fun l53 =>
 (bd (lenP (V.sl 1 (lsl (gv st8 1)) false)) fun n54 =>
 (bdS (nv (gv st8 2)) fun n55 =>
 (bd (sliceP 1 n55 n54 (none : Option Nat) true (V.sl 1 (lsl (gv st8 1)) false)) fun v56 =>
 (bdS (slcH hh9 v56) fun p57 =>
 (if (43 = 43 /\ (p57.1 = 1 \/ (p57.2).isEmpty = true)) then
 (bd (app 3 1 (S.own 3 1 l53) p57.2) fun l58 =>
 (bd (bop prog .add 3 (gv st1 2) (V.int .i64 1)) fun v59 =>
 (next3 [(V.sl 1 (lsl (gv st8 0)) false), (V.sl 1 l58 false), v59] hh9))) else none)))))))) else none)))))))
noncomputable def rOrder_l0 (n : Nat) (l : V) (st1 : List V) (hh2 : Heap) (next3 : List V -> Heap -> Option (Res × Heap)) : Option (Res × Heap) :=
 (bd (slcH hh2 l) fun p4 =>
 (bd (bop prog .lss 3 (gv st1 2) (V.int .i64 ((p4.2).length : Int))) fun v5 =>
 (bv v5 fun b6 => if b6 then
 (loopx n (rOrder_l7 n l st1 next3) [(V.sl 1 (lsl (gv st1 0)) false), (V.sl 1 (lsl (gv st1 1)) false), (V.int .i64 (((lsl (gv st1 1))).length : Int))] hh2)
 else
 some (Res.ret [(V.sl 1 (lsl (gv st1 1)) false)], hh2))))
noncomputable def rOrder (n : Nat) (l : V) : Option (Res × Heap) :=
 (loopx n (rOrder_l0 n l) [(V.sl 1 [] false), (V.sl 1 [] false), (V.int .i64 0)] [])
theorem rOrder_eq (n : Nat) (l : V) (h : Heap) : call (n + 1) 49 [(V.int .u8 3), l] h = gcw [(V.int .u8 3), l] (rOrder n l) h := by kernel_rfl
end Go.Proofs.Try
set_option linter.unusedVariables false
namespace Go.Proofs.Try
open Go.L
set_option maxRecDepth 100000
noncomputable def rSame_l2 (n : Nat) (a : V) (b : V) (st3 : List V) (hh4 : Heap) (next5 : List V -> Heap -> Option (Res × Heap)) : Option (Res × Heap) :=
 (bd (slcH hh4 a) fun p6 =>
 (bd (bop prog .lss 3 (gv st3 1) (V.int .i64 ((p6.2).length : Int))) fun v7 =>
 (bv v7 fun b8 => if b8 then
 (bdS (nv (gv st3 1)) fun n9 =>
 (bd (idxP 1 n9 a) fun p10 =>
 (bd3 (cellsP hh4 p10) fun cs12 m11 o13 => if (o13 + 1 <= m11 /\ 0 < 1) then
 (bd (cs12)[o13]? fun v14 =>
 (bdS (nv (gv st3 1)) fun n15 =>
 (bd (idxP 1 n15 b) fun p16 =>
 (bd3 (cellsP hh4 p16) fun cs18 m17 o19 => if (o19 + 1 <= m17 /\ 0 < 1) then
 (bd (cs18)[o19]? fun v20 =>
 (bd (bop prog .neq 21 v14 v20) fun v21 =>
 (bv v21 fun b22 => if b22 then
 some (Res.ret [(V.bool false)], hh4)
 else
 (bd (bop prog .add 3 (gv st3 1) (V.int .i64 1)) fun v23 =>
 (next5 [(gv st3 0), v23] hh4))))) else none)))) else none)))
 else
 some (Res.ret [(V.bool true)], hh4))))
noncomputable def rSame (n : Nat) (a : V) (b : V) (h : Heap) : Option (Res × Heap) :=
 (bd (slcH h a) fun p0 =>
 (bd (slcH h b) fun p1 =>
 (if (((p0.2).length : Int) != ((p1.2).length : Int)) then
 some (Res.ret [(V.bool false)], h)
 else
 (loopx n (rSame_l2 n a b) [(V.bool false), (V.int .i64 0)] h))))
theorem rSame_eq (n : Nat) (a : V) (b : V) (h : Heap) : call (n + 1) 23 [a, b] h = rSame n a b h := by kernel_rfl
noncomputable def rTold_l2 (n : Nat) (a : V) (b : V) (st3 : List V) (hh4 : Heap) (next5 : List V -> Heap -> Option (Res × Heap)) : Option (Res × Heap) :=
 (bd (slcH hh4 a) fun p6 =>
 (bd (bop prog .lss 3 (gv st3 1) (V.int .i64 ((p6.2).length : Int))) fun v7 =>
 (bv v7 fun b8 => if b8 then
 (bdS (nv (gv st3 1)) fun n9 =>
 (bd (idxP 2 n9 a) fun p10 =>
 (bd3 (cellsP hh4 p10) fun cs12 m11 o13 => if (o13 + 2 <= m11 /\ 0 < 2) then
 (bdS (nv (gv st3 1)) fun n14 =>
 (bd (idxP 2 n14 b) fun p15 =>
 (bd3 (cellsP hh4 p15) fun cs17 m16 o18 => if (o18 + 2 <= m16 /\ 0 < 2) then
 (bd (bop prog .neq 34 (V.agg ((cs12).drop o13 |>.take 2)) (V.agg ((cs17).drop o18 |>.take 2))) fun v19 =>
 (bv v19 fun b20 => if b20 then
 some (Res.ret [(V.bool false)], hh4)
 else
 (bd (bop prog .add 3 (gv st3 1) (V.int .i64 1)) fun v21 =>
 (next5 [(gv st3 0), v21] hh4)))) else none))) else none)))
 else
 some (Res.ret [(V.bool true)], hh4))))
noncomputable def rTold (n : Nat) (a : V) (b : V) (h : Heap) : Option (Res × Heap) :=
 (bd (slcH h a) fun p0 =>
 (bd (slcH h b) fun p1 =>
 (if (((p0.2).length : Int) != ((p1.2).length : Int)) then
 some (Res.ret [(V.bool false)], h)
 else
 (loopx n (rTold_l2 n a b) [(V.bool false), (V.int .i64 0)] h))))
theorem rTold_eq (n : Nat) (a : V) (b : V) (h : Heap) : call (n + 1) 31 [a, b] h = rTold n a b h := by kernel_rfl
noncomputable def rInts_l2 (n : Nat) (a : V) (b : V) (st3 : List V) (hh4 : Heap) (next5 : List V -> Heap -> Option (Res × Heap)) : Option (Res × Heap) :=
 (bd (slcH hh4 a) fun p6 =>
 (bd (bop prog .lss 3 (gv st3 1) (V.int .i64 ((p6.2).length : Int))) fun v7 =>
 (bv v7 fun b8 => if b8 then
 (bdS (nv (gv st3 1)) fun n9 =>
 (bd (idxP 1 n9 a) fun p10 =>
 (bd3 (cellsP hh4 p10) fun cs12 m11 o13 => if (o13 + 1 <= m11 /\ 0 < 1) then
 (bd (cs12)[o13]? fun v14 =>
 (bdS (nv (gv st3 1)) fun n15 =>
 (bd (idxP 1 n15 b) fun p16 =>
 (bd3 (cellsP hh4 p16) fun cs18 m17 o19 => if (o19 + 1 <= m17 /\ 0 < 1) then
 (bd (cs18)[o19]? fun v20 =>
 (bd (bop prog .neq 3 v14 v20) fun v21 =>
 (bv v21 fun b22 => if b22 then
 some (Res.ret [(V.bool false)], hh4)
 else
 (bd (bop prog .add 3 (gv st3 1) (V.int .i64 1)) fun v23 =>
 (next5 [(gv st3 0), v23] hh4))))) else none)))) else none)))
 else
 some (Res.ret [(V.bool true)], hh4))))
noncomputable def rInts (n : Nat) (a : V) (b : V) (h : Heap) : Option (Res × Heap) :=
 (bd (slcH h a) fun p0 =>
 (bd (slcH h b) fun p1 =>
 (if (((p0.2).length : Int) != ((p1.2).length : Int)) then
 some (Res.ret [(V.bool false)], h)
 else
 (loopx n (rInts_l2 n a b) [(V.bool false), (V.int .i64 0)] h))))
theorem rInts_eq (n : Nat) (a : V) (b : V) (h : Heap) : call (n + 1) 32 [a, b] h = rInts n a b h := by kernel_rfl
noncomputable def rMost (n : Nat) (x0 : Int) (h : Heap) : Option (Res × Heap) :=
 some (Res.ret [(V.int .i64 (if 0 < (if 1000 < x0 then 1000 else x0) then (if 1000 < x0 then 1000 else x0) else 0))], h)
theorem rMost_eq (n : Nat) (x0 : Int) (h : Heap) : call (n + 1) 66 [(V.int .i64 x0)] h = rMost n x0 h := by kernel_rfl
end Go.Proofs.Try
set_option linter.unusedVariables false
namespace Go.Proofs.Try
open Go.L
set_option maxRecDepth 100000
noncomputable def putKey (n : Nat) (x0_0 : Int) (x0_1 : Int) : Option (Res × Heap) :=
 some (Res.ret [(V.int .i32 x0_1)], [])
theorem putKey_eq (n : Nat) (x0_0 : Int) (x0_1 : Int) (h : Heap) : call (n + 1) 61 [(V.agg [(V.int .u8 x0_0), (V.int .i32 x0_1)])] h = gcw [(V.agg [(V.int .u8 x0_0), (V.int .i32 x0_1)])] (putKey n x0_0 x0_1) h := by kernel_rfl
noncomputable def byCmp (n : Nat) (a : Int) (b : Int) (l : List (List V)) (lb : Bool) (h : Heap) : Option (Res × Heap) :=
 (bdS (nv (V.int .i64 a)) fun n0 =>
 (bd (idxP 2 n0 (V.sl 2 l lb)) fun p1 =>
 (clS (call n 61 [(V.agg (((esP p1)).drop 0 |>.take 2))] []) fun r2 =>
 (one1 r2 fun v5 =>
 (bdS (nv (V.int .i64 b)) fun n6 =>
 (bd (idxP 2 n6 (V.sl 2 l lb)) fun p7 =>
 (clS (call n 61 [(V.agg (((esP p7)).drop 0 |>.take 2))] []) fun r8 =>
 (one1 r8 fun v11 =>
 (clH (call n 82 [v5, v11] h) fun r12 h13 =>
 (one1 r12 fun v15 =>
 some (Res.ret [v15], h13)))))))))))
theorem byCmp_eq (n : Nat) (a : Int) (b : Int) (l : List (List V)) (lb : Bool) (h : Heap) : call (n + 1) 81 [(V.int .i64 a), (V.int .i64 b), (V.iptr 1 [(V.fn 61 [])] 0), (V.iptr 1 [(V.sl 2 l lb)] 0)] h = byCmp n a b l lb h := by kernel_rfl
noncomputable def srtBy (n : Nat) (l : List (List V)) (lb : Bool) (b : Nat) (hi : Nat) (h : Heap) : Option (Res × Heap) :=
 (rwT ((h)[b]?) fun el0 sl0 l0 => if ((el0 = 3 /\ 1 = 1 /\ sl0 = 1) /\ (0 = 0 /\ hi = l0.length)) then (clr (call n 80 (V.sl 1 l0 false :: [(V.fn 81 [(V.iptr 1 [(V.fn 61 [])] 0), (V.iptr 1 [(V.sl 2 l lb)] 0)])]) ((h).set b HB.dead)) fun sl1 l1 r2 h3 => if sl1 = 1 /\ l1.length = l0.length then
 some (Res.ret [(V.row b 1 0 hi)], ((h3).set b (HB.row 3 1 l1 true))) else none) else none)
theorem srtBy_eq (n : Nat) (l : List (List V)) (lb : Bool) (b : Nat) (hi : Nat) (h : Heap) : call (n + 1) 60 [(V.sl 2 l lb), (V.row b 1 0 hi), (V.fn 61 [])] h = srtBy n l lb b hi h := by kernel_rfl
noncomputable def parted_l0 (n : Nat) (l : List (List V)) (lb : Bool) (st1 : List V) (hh2 : Heap) (next3 : List V -> Heap -> Option (Res × Heap)) : Option (Res × Heap) :=
 (bd (bop prog .lss 3 (gv st1 2) (V.int .i64 ((l).length : Int))) fun v4 =>
 (bv v4 fun b5 => if b5 then
 (bdS (nv (gv st1 2)) fun n6 =>
 (bd (idxP 2 n6 (V.sl 2 l lb)) fun p7 =>
 (bd3 (cellsP hh2 p7) fun cs9 m8 o10 => if (o10 + 2 <= m8 /\ 0 < 2) then
 (if (((cs9).drop o10 |>.take 2)).length = 2 then
 (if ((((cs9).drop o10 |>.take 2)).length <= 2) then
 (bd ((setR [(V.int .u8 0), (V.int .i32 0)] 0 ((cs9).drop o10 |>.take 2)))[0]? fun v11 =>
 (bd (bop prog .eql 5 v11 (V.int .u8 1)) fun v12 =>
 (bv v12 fun b13 => if b13 then
 (bd (bslV prog 43 1 [(0, (gv st1 2))]) fun p14 =>
 (bd (app 3 1 (S.own 3 1 (lsl (gv st1 0))) p14.2) fun l15 =>
 (bd (bop prog .add 3 (gv st1 2) (V.int .i64 1)) fun v16 =>
 (next3 [(V.sl 1 l15 false), (V.sl 1 (lsl (gv st1 1)) false), v16] hh2))))
 else
 (bd (bslV prog 43 1 [(0, (gv st1 2))]) fun p17 =>
 (bd (app 3 1 (S.own 3 1 (lsl (gv st1 1))) p17.2) fun l18 =>
 (bd (bop prog .add 3 (gv st1 2) (V.int .i64 1)) fun v19 =>
 (next3 [(V.sl 1 (lsl (gv st1 0)) false), (V.sl 1 l18 false), v19] hh2))))))) else none) else none) else none)))
 else
 (cl (call n 60 [(V.sl 2 l lb), (V.row (hh2).length 1 0 ((lsl (gv st1 0))).length), (V.fn 61 [])] (hh2 ++ [(HB.row 3 1 (lsl (gv st1 0)) true)])) (fun r20 h21 =>
 (one1 r20 fun v23 =>
 some (Res.ret [v23, (V.row (h21).length 1 0 ((lsl (gv st1 1))).length)], (h21 ++ [(HB.row 3 1 (lsl (gv st1 1)) true)])))) (fun z22 h21 => some (Res.pan z22, h21)))))
noncomputable def parted (n : Nat) (l : List (List V)) (lb : Bool) (h : Heap) : Option (Res × Heap) :=
 (loopx n (parted_l0 n l lb) [(V.sl 1 [] false), (V.sl 1 [] false), (V.int .i64 0)] h)
theorem parted_eq (n : Nat) (l : List (List V)) (lb : Bool) (h : Heap) : call (n + 1) 34 [(V.sl 2 l lb)] h = parted n l lb h := by kernel_rfl
noncomputable def srtOrder (n : Nat) (l : List (List V)) (lb : Bool) (h : Heap) : Option (Res × Heap) :=
 (cl (call n 34 [(V.sl 2 l lb)] h) (fun r0 h1 =>
 (bd (r0)[0]? fun v3 =>
 (bd (r0)[1]? fun v4 =>
 (bdS (slcH h1 v4) fun p5 =>
 (if (43 = 43 /\ (p5.1 = 1 \/ (p5.2).isEmpty = true)) then
 (bd2 (appP 3 1 h1 p5.2 v3) fun v6 h7 =>
 some (Res.ret [v6], h7)) else none))))) (fun z2 h1 => some (Res.pan z2, h1)))
theorem srtOrder_eq (n : Nat) (l : List (List V)) (lb : Bool) (h : Heap) : call (n + 1) 33 [(V.sl 2 l lb)] h = srtOrder n l lb h := by kernel_rfl
noncomputable def srtRest_l1 (n : Nat) (s : Nat) (l : List (List V)) (lb : Bool) (o : V) (t : V) (p0 : Nat × List (List V)) (st2 : List V) (hh3 : Heap) (next4 : List V -> Heap -> Option (Res × Heap)) : Option (Res × Heap) :=
 (bd (bop prog .lss 3 (gv st2 1) (V.int .i64 ((p0.2).length : Int))) fun v5 =>
 (bv v5 fun b6 => if b6 then
 (bdS (nv (gv st2 1)) fun n7 =>
 (bd (idxP 1 n7 o) fun p8 =>
 (bd3 (cellsP hh3 p8) fun cs10 m9 o11 => if (o11 + 1 <= m9 /\ 0 < 1) then
 (bd (cs10)[o11]? fun v12 =>
 (bdS (nv v12) fun n13 =>
 (bd (idxP 2 n13 t) fun p14 =>
 (bd (addP 0 p14) fun p15 =>
 (bd2 (writeB hh3 [(V.int .u8 5)] p15) fun b16 x17 =>
 (bdS (nv v12) fun n18 =>
 (bd (idxP 2 n18 (V.sl 2 l lb)) fun p19 =>
 (bd (addP 0 p19) fun p20 =>
 (bd3 (cellsP ((hh3).set b16 x17) p20) fun cs22 m21 o23 => if (o23 + 1 <= m21 /\ 0 < 1) then
 (bd (cs22)[o23]? fun v24 =>
 (bd (bop prog .neq 5 v24 (V.int .u8 2)) fun v25 =>
 (bv v25 fun b26 => if b26 then
 (bd (bop prog .add 3 (gv st2 1) (V.int .i64 1)) fun v27 =>
 (next4 [(V.sl 2 (lsl (gv st2 0)) false), v27] ((hh3).set b16 x17)))
 else
 (bdS (nv v12) fun n28 =>
 (bd (idxP 2 n28 t) fun p29 =>
 (bd (addP 0 p29) fun p30 =>
 (bd2 (writeB ((hh3).set b16 x17) [(V.int .u8 4)] p30) fun b31 x32 =>
 (cl (call n 63 [(V.ptr s 0)] ((((hh3).set b16 x17)).set b31 x32)) (fun r33 h34 =>
 (bd (r33)[0]? fun v36 =>
 (bd (r33)[1]? fun v37 =>
 (bv v37 fun b38 => if b38 then
 (bd (bldV prog 34 [(0, (V.int .u8 2)), (1, v36)]) fun cs39 =>
 (bdS (nv v12) fun n40 =>
 (bd (idxP 2 n40 t) fun p41 =>
 (if (cs39).length = 2 then
 (bd2 (writeB h34 cs39 p41) fun b42 x43 =>
 (bd (bop prog .add 3 (gv st2 1) (V.int .i64 1)) fun v44 =>
 (next4 [(V.sl 2 (lsl (gv st2 0)) false), v44] ((h34).set b42 x43)))) else none))))
 else
 (bd (bop prog .add 3 (gv st2 1) (V.int .i64 1)) fun v45 =>
 (next4 [(V.sl 2 (lsl (gv st2 0)) false), v45] h34)))))) (fun z35 h34 => some (Res.pan z35, h34)))))))))) else none))))))))) else none)))
 else
 some (Res.ret [t], hh3)))
noncomputable def srtRest (n : Nat) (s : Nat) (l : List (List V)) (lb : Bool) (o : V) (t : V) (h : Heap) : Option (Res × Heap) :=
 (bd (slcH h o) fun p0 =>
 (loopx n (srtRest_l1 n s l lb o t p0) [(V.sl 2 [] false), (V.int .i64 0)] h))
theorem srtRest_eq (n : Nat) (s : Nat) (l : List (List V)) (lb : Bool) (o : V) (t : V) (h : Heap) : call (n + 1) 38 [(V.ptr s 0), (V.sl 2 l lb), o, t] h = srtRest n s l lb o t h := by kernel_rfl
noncomputable def srtApply_l61 (n : Nat) (s : Nat) (l : List (List V)) (lb : Bool) (v6 : V) (v59 : V) (p60 : Nat × List (List V)) (st62 : List V) (hh63 : Heap) (next64 : List V -> Heap -> Option (Res × Heap)) : Option (Res × Heap) :=
 (bd (bop prog .lss 3 (gv st62 3) (V.int .i64 ((p60.2).length : Int))) fun v65 =>
 (bv v65 fun b66 => if b66 then
 (bdS (nv (gv st62 3)) fun n67 =>
 (bd (idxP 1 n67 v59) fun p68 =>
 (bd3 (cellsP hh63 p68) fun cs70 m69 o71 => if (o71 + 1 <= m69 /\ 0 < 1) then
 (bd (cs70)[o71]? fun v72 =>
 (bdS (nv v72) fun n73 =>
 (if (2 = 2 /\ n73 < ((lsl (gv st62 1))).length /\ (some 73 : Option Nat) ≠ some 7) then
 (bd ((lsl (gv st62 1)))[n73]? fun es74 =>
 (bd (bop prog .add 3 (gv st62 3) (V.int .i64 1)) fun v75 =>
 (next64 [(V.sl 2 (lsl (gv st62 0)) false), (V.sl 2 (((lsl (gv st62 1))).set n73 (setR es74 0 [(V.int .u8 3)])) false), (V.bool false), v75] hh63))) else none))) else none)))
 else
 (cl (call n 38 [(V.ptr s 0), (V.sl 2 l lb), v6, (V.row (hh63).length 2 0 ((lsl (gv st62 1))).length)] (hh63 ++ [(HB.row 34 2 (lsl (gv st62 1)) true)])) (fun r76 h77 =>
 (one1 r76 fun v79 =>
 some (Res.ret [v79], h77))) (fun z78 h77 => some (Res.pan z78, h77)))))
noncomputable def srtApply_l23 (n : Nat) (s : Nat) (c : Nat) (l : List (List V)) (lb : Bool) (v5 : V) (v6 : V) (v18 : V) (v21 : V) (p22 : Nat × List (List V)) (st24 : List V) (hh25 : Heap) (next26 : List V -> Heap -> Option (Res × Heap)) : Option (Res × Heap) :=
 (bd (bop prog .lss 3 (gv st24 5) (V.int .i64 ((p22.2).length : Int))) fun v27 =>
 (bv v27 fun b28 => if b28 then
 (bdS (nv (gv st24 5)) fun n29 =>
 (bd (idxP 1 n29 v21) fun p30 =>
 (bd3 (cellsP hh25 p30) fun cs32 m31 o33 => if (o33 + 1 <= m31 /\ 0 < 1) then
 (bd (cs32)[o33]? fun v34 =>
 (bdS (nv v34) fun n35 =>
 (bd (idxP 2 n35 (V.sl 2 l lb)) fun p36 =>
 (bd (addP 1 p36) fun p37 =>
 (bd3 (cellsP hh25 p37) fun cs39 m38 o40 => if (o40 + 1 <= m38 /\ 0 < 1) then
 (bd (cs39)[o40]? fun v41 =>
 (bd (bslV prog 39 1 [(0, v41)]) fun p42 =>
 (bd (app 21 1 (S.own 21 1 (lsl (gv st24 2))) p42.2) fun l43 =>
 (cl (call n 19 [(V.ptr c 0)] hh25) (fun r44 h45 =>
 (one1 r44 fun v47 =>
 (bd (bslV prog 43 1 [(0, v47)]) fun p48 =>
 (bd (app 3 1 (S.own 3 1 (lsl (gv st24 3))) p48.2) fun l49 =>
 (bdS (nv v34) fun n50 =>
 (if (2 = 2 /\ n50 < ((lsl (gv st24 1))).length /\ (some 56 : Option Nat) ≠ some 7) then
 (bd ((lsl (gv st24 1)))[n50]? fun es51 =>
 (bd (bop prog .add 3 (gv st24 5) (V.int .i64 1)) fun v52 =>
 (next26 [(V.sl 2 (lsl (gv st24 0)) false), (V.sl 2 (((lsl (gv st24 1))).set n50 (setR es51 0 [(V.int .u8 1)])) false), (V.sl 1 l43 false), (V.sl 1 l49 false), (V.bool false), v52] h45))) else none)))))) (fun z46 h45 => some (Res.pan z46, h45)))))) else none))))) else none)))
 else
 (cl (call n 37 [(V.ptr s 0), (V.row (hh25).length 1 0 ((lsl (gv st24 2))).length), (V.row ((hh25 ++ [(HB.row 21 1 (lsl (gv st24 2)) true)])).length 1 0 ((lsl (gv st24 3))).length)] ((hh25 ++ [(HB.row 21 1 (lsl (gv st24 2)) true)]) ++ [(HB.row 3 1 (lsl (gv st24 3)) true)])) (fun r53 h54 =>
 (one1 r53 fun v56 =>
 (bd (lenP v5) fun n57 =>
 (bdS (nv v18) fun n58 =>
 (bd (sliceP 1 n58 n57 (none : Option Nat) true v5) fun v59 =>
 (bd (slcH h54 v59) fun p60 =>
 (loopx n (srtApply_l61 n s l lb v6 v59 p60) [(V.sl 2 (lsl (gv st24 0)) false), (V.sl 2 (lsl (gv st24 1)) false), (V.bool false), (V.int .i64 0)] h54))))))) (fun z55 h54 => some (Res.pan z55, h54)))))
noncomputable def srtApply (n : Nat) (s : Nat) (c : Nat) (l : List (List V)) (lb : Bool) (h : Heap) : Option (Res × Heap) :=
 (bdS (nv (V.int .i64 ((l).length : Int))) fun n0 =>
 (bdS (nv (V.int .i64 ((l).length : Int))) fun n1 =>
 (if (n0 = n1 /\ n0 < lim /\ 2 = 2) then
 (cl (call n 34 [(V.sl 2 l lb)] h) (fun r2 h3 =>
 (bd (r2)[0]? fun v5 =>
 (bd (r2)[1]? fun v6 =>
 (bd (slcH h3 v5) fun p7 =>
 (cl (call n 35 [(V.ptr s 0)] h3) (fun r8 h9 =>
 (one1 r8 fun v11 =>
 (cl (call n 36 [(V.ptr s 0)] h9) (fun r12 h13 =>
 (one1 r12 fun v15 =>
 (bd (bop prog .sub 3 v11 v15) fun v16 =>
 (bd (evBsL [(some (V.int .i64 ((p7.2).length : Int))), (valB h13 v16)]) fun a17 => bd (mm false a17) fun v18 =>
 (bd (lenP v5) fun n19 =>
 (bdS (nv v18) fun n20 =>
 (bd (sliceP 1 0 n20 (none : Option Nat) true v5) fun v21 =>
 (bd (slcH h13 v21) fun p22 =>
 (loopx n (srtApply_l23 n s c l lb v5 v6 v18 v21 p22) [(V.sl 2 [] false), (V.sl 2 (List.replicate n0 [(V.int .u8 0), (V.int .i32 0)]) false), (V.sl 1 [] false), (V.sl 1 [] false), (V.bool false), (V.int .i64 0)] h13))))))))) (fun z14 h13 => some (Res.pan z14, h13))))) (fun z10 h9 => some (Res.pan z10, h9))))))) (fun z4 h3 => some (Res.pan z4, h3))) else none)))
theorem srtApply_eq (n : Nat) (s : Nat) (c : Nat) (l : List (List V)) (lb : Bool) (h : Heap) : call (n + 1) 18 [(V.ptr s 0), (V.ptr c 0), (V.sl 2 l lb)] h = srtApply n s c l lb h := by kernel_rfl
noncomputable def srtPlain_l8 (n : Nat) (s : Nat) (c : Nat) (l : List (List V)) (lb : Bool) (v5 : V) (v6 : V) (p7 : Nat × List (List V)) (st9 : List V) (hh10 : Heap) (next11 : List V -> Heap -> Option (Res × Heap)) : Option (Res × Heap) :=
 (bd (bop prog .lss 3 (gv st9 3) (V.int .i64 ((p7.2).length : Int))) fun v12 =>
 (bv v12 fun b13 => if b13 then
 (bdS (nv (gv st9 3)) fun n14 =>
 (bd (idxP 1 n14 v5) fun p15 =>
 (bd3 (cellsP hh10 p15) fun cs17 m16 o18 => if (o18 + 1 <= m16 /\ 0 < 1) then
 (bd (cs17)[o18]? fun v19 =>
 (bdS (nv v19) fun n20 =>
 (if (2 = 2 /\ n20 < ((lsl (gv st9 1))).length /\ (some 28 : Option Nat) ≠ some 7) then
 (bd ((lsl (gv st9 1)))[n20]? fun es21 =>
 (cl (call n 36 [(V.ptr s 0)] hh10) (fun r22 h23 =>
 (one1 r22 fun v25 =>
 (cl (call n 35 [(V.ptr s 0)] h23) (fun r26 h27 =>
 (one1 r26 fun v29 =>
 (bd (bop prog .lss 3 v25 v29) fun v30 =>
 (bv v30 fun b31 => if b31 then
 (bdS (nv v19) fun n32 =>
 (bd (idxP 2 n32 (V.sl 2 l lb)) fun p33 =>
 (bd ((esP p33))[1]? fun v34 =>
 (clH (call n 19 [(V.ptr c 0)] h27) fun r35 h36 =>
 (one1 r35 fun v38 =>
 (clH (call n 22 [(V.ptr s 0), v34, v38] h36) fun r39 h40 =>
 (one1 r39 fun v42 =>
 (bdS (nv v19) fun n43 =>
 (if (2 = 2 /\ n43 < ((((lsl (gv st9 1))).set n20 (setR es21 0 [(V.int .u8 3)]))).length /\ (some 46 : Option Nat) ≠ some 7) then
 (bd ((((lsl (gv st9 1))).set n20 (setR es21 0 [(V.int .u8 3)])))[n43]? fun es44 =>
 (bd (bop prog .add 3 (gv st9 3) (V.int .i64 1)) fun v45 =>
 (next11 [(V.sl 2 (lsl (gv st9 0)) false), (V.sl 2 (((((lsl (gv st9 1))).set n20 (setR es21 0 [(V.int .u8 3)]))).set n43 (setR es44 0 [(V.int .u8 1)])) false), (V.bool false), v45] h40))) else none)))))))))
 else
 (bd (bop prog .add 3 (gv st9 3) (V.int .i64 1)) fun v46 =>
 (next11 [(V.sl 2 (lsl (gv st9 0)) false), (V.sl 2 (((lsl (gv st9 1))).set n20 (setR es21 0 [(V.int .u8 3)])) false), (V.bool false), v46] h27)))))) (fun z28 h27 => some (Res.pan z28, h27))))) (fun z24 h23 => some (Res.pan z24, h23)))) else none))) else none)))
 else
 (cl (call n 38 [(V.ptr s 0), (V.sl 2 l lb), v6, (V.row (hh10).length 2 0 ((lsl (gv st9 1))).length)] (hh10 ++ [(HB.row 34 2 (lsl (gv st9 1)) true)])) (fun r47 h48 =>
 (one1 r47 fun v50 =>
 some (Res.ret [v50], h48))) (fun z49 h48 => some (Res.pan z49, h48)))))
noncomputable def srtPlain (n : Nat) (s : Nat) (c : Nat) (l : List (List V)) (lb : Bool) (h : Heap) : Option (Res × Heap) :=
 (bdS (nv (V.int .i64 ((l).length : Int))) fun n0 =>
 (bdS (nv (V.int .i64 ((l).length : Int))) fun n1 =>
 (if (n0 = n1 /\ n0 < lim /\ 2 = 2) then
 (cl (call n 34 [(V.sl 2 l lb)] h) (fun r2 h3 =>
 (bd (r2)[0]? fun v5 =>
 (bd (r2)[1]? fun v6 =>
 (bd (slcH h3 v5) fun p7 =>
 (loopx n (srtPlain_l8 n s c l lb v5 v6 p7) [(V.sl 2 [] false), (V.sl 2 (List.replicate n0 [(V.int .u8 0), (V.int .i32 0)]) false), (V.bool false), (V.int .i64 0)] h3))))) (fun z4 h3 => some (Res.pan z4, h3))) else none)))
theorem srtPlain_eq (n : Nat) (s : Nat) (c : Nat) (l : List (List V)) (lb : Bool) (h : Heap) : call (n + 1) 47 [(V.ptr s 0), (V.ptr c 0), (V.sl 2 l lb)] h = srtPlain n s c l lb h := by kernel_rfl
end Go.Proofs.Try
set_option linter.unusedVariables false
namespace Go.Proofs.Try
open Go.L
set_option maxRecDepth 100000
noncomputable def coinNew (n : Nat) (h : Heap) : Option (Res × Heap) :=
 some (Res.ret [(V.ptr (h).length 0)], (h ++ [(HB.box 1 [(V.sl 0 [] true)])]))
theorem coinNew_eq (n : Nat) (h : Heap) : call (n + 1) 16 [] h = coinNew n h := by kernel_rfl
noncomputable def coinLeft (n : Nat) (c : Nat) (h : Heap) : Option (Res × Heap) :=
 (bd (bopH prog h .eql 28 (V.ptr c 0) (V.val (.pointer none))) fun v0 =>
 (bv v0 fun b1 => if b1 then
 some (Res.ret [(V.int .i64 0)], h)
 else
 (bd3 (cellsP h (V.ptr c 0)) fun cs3 m2 o4 => if (o4 + 1 <= m2 /\ 0 < 1) then
 (bd (cs3)[o4]? fun v5 =>
 (bd (slcH h v5) fun p6 =>
 some (Res.ret [(V.int .i64 ((p6.2).length : Int))], h))) else none)))
theorem coinLeft_eq (n : Nat) (c : Nat) (h : Heap) : call (n + 1) 20 [(V.ptr c 0)] h = coinLeft n c h := by kernel_rfl
noncomputable def coinToss (n : Nat) (c : Nat) (h : Heap) : Option (Res × Heap) :=
 (cl (call n 20 [(V.ptr c 0)] h) (fun r0 h1 =>
 (one1 r0 fun v3 =>
 (bd (bop prog .eql 3 v3 (V.int .i64 0)) fun v4 =>
 (bv v4 fun b5 => if b5 then
 some (Res.ret [(V.bool false)], h1)
 else
 (bd3 (cellsP h1 (V.ptr c 0)) fun cs7 m6 o8 => if (o8 + 1 <= m6 /\ 0 < 1) then
 (bd (cs7)[o8]? fun v9 =>
 (bd (idxP 1 0 v9) fun p10 =>
 (bd3 (cellsP h1 p10) fun cs12 m11 o13 => if (o13 + 1 <= m11 /\ 0 < 1) then
 (bd (cs12)[o13]? fun v14 =>
 (bd3 (cellsP h1 (V.ptr c 0)) fun cs16 m15 o17 => if (o17 + 1 <= m15 /\ 0 < 1) then
 (bd (cs16)[o17]? fun v18 =>
 (bd (lenP v18) fun n19 =>
 (bd (sliceP 1 1 n19 (none : Option Nat) true v18) fun v20 =>
 (if ((V.cells v20)).length = 1 then
 (bd2 (writeB h1 (V.cells v20) (V.ptr c 0)) fun b21 x22 =>
 some (Res.ret [v14], ((h1).set b21 x22))) else none)))) else none)) else none))) else none))))) (fun z2 h1 => some (Res.pan z2, h1)))
theorem coinToss_eq (n : Nat) (c : Nat) (h : Heap) : call (n + 1) 39 [(V.ptr c 0)] h = coinToss n c h := by kernel_rfl
noncomputable def coinHeight_l0 (n : Nat) (c : Nat) (st1 : List V) (hh2 : Heap) (next3 : List V -> Heap -> Option (Res × Heap)) : Option (Res × Heap) :=
 (bd (bop prog .eql 3 (gv st1 0) (V.int .i64 8)) fun v4 =>
 (bv v4 fun b5 => if b5 then
 some (Res.ret [(gv st1 0)], hh2)
 else
 (cl (call n 39 [(V.ptr c 0)] hh2) (fun r6 h7 =>
 (one1 r6 fun v9 =>
 (bd (uop .not v9) fun v10 =>
 (bv v10 fun b11 => if b11 then
 some (Res.ret [(gv st1 0)], h7)
 else
 (bd (bop prog .add 3 (gv st1 0) (V.int .i64 1)) fun v12 =>
 (next3 [v12] h7)))))) (fun z8 h7 => some (Res.pan z8, h7)))))
noncomputable def coinHeight (n : Nat) (c : Nat) (h : Heap) : Option (Res × Heap) :=
 (loopx n (coinHeight_l0 n c) [(V.int .i64 1)] h)
theorem coinHeight_eq (n : Nat) (c : Nat) (h : Heap) : call (n + 1) 19 [(V.ptr c 0)] h = coinHeight n c h := by kernel_rfl
noncomputable def coinFeed_l15 (n : Nat) (c : Nat) (st4 : List V) (next6 : List V -> Heap -> Option (Res × Heap)) (v14 : V) (st16 : List V) (hh17 : Heap) (next18 : List V -> Heap -> Option (Res × Heap)) : Option (Res × Heap) :=
 (bd (bop prog .lss 3 (gv st16 0) (V.int .i64 8)) fun v19 =>
 (bv v19 fun b20 => if b20 then
 (bd3 (cellsP hh17 (V.ptr c 0)) fun cs22 m21 o23 => if (o23 + 1 <= m21 /\ 0 < 1) then
 (bd (cs22)[o23]? fun v24 =>
 (bd (slcH hh17 v24) fun p25 =>
 (if (((p25.2).length : Int) == 20000) then
 some (Res.ret [], hh17)
 else
 (bd3 (cellsP hh17 (V.ptr c 0)) fun cs27 m26 o28 => if (o28 + 1 <= m26 /\ 0 < 1) then
 (bd (cs27)[o28]? fun v29 =>
 (bd (bop prog .shr 5 v14 (gv st16 0)) fun v30 =>
 (bd (bop prog .and 5 v30 (V.int .u8 1)) fun v31 =>
 (bd (bop prog .eql 5 v31 (V.int .u8 1)) fun v32 =>
 (bd (bslV prog 74 1 [(0, v32)]) fun p33 =>
 (bd2 (appP 4 1 hh17 p33.2 v29) fun v34 h35 =>
 (if ((V.cells v34)).length = 1 then
 (bd2 (writeB h35 (V.cells v34) (V.ptr c 0)) fun b36 x37 =>
 (bd (bop prog .add 3 (gv st16 0) (V.int .i64 1)) fun v38 =>
 (next18 [v38] ((h35).set b36 x37)))) else none))))))) else none)))) else none)
 else
 (bd (bop prog .add 3 (gv st4 0) (V.int .i64 1)) fun v39 =>
 (next6 [v39] hh17))))
noncomputable def coinFeed_l3 (n : Nat) (c : Nat) (l : V) (p2 : Nat × List (List V)) (st4 : List V) (hh5 : Heap) (next6 : List V -> Heap -> Option (Res × Heap)) : Option (Res × Heap) :=
 (bd (bop prog .lss 3 (gv st4 0) (V.int .i64 ((p2.2).length : Int))) fun v7 =>
 (bv v7 fun b8 => if b8 then
 (bdS (nv (gv st4 0)) fun n9 =>
 (bd (idxP 1 n9 l) fun p10 =>
 (bd3 (cellsP hh5 p10) fun cs12 m11 o13 => if (o13 + 1 <= m11 /\ 0 < 1) then
 (bd (cs12)[o13]? fun v14 =>
 (loopx n (coinFeed_l15 n c st4 next6 v14) [(V.int .i64 0)] hh5)) else none)))
 else
 some (Res.ret [], hh5)))
noncomputable def coinFeed (n : Nat) (c : Nat) (l : V) (h : Heap) : Option (Res × Heap) :=
 (bd (bopH prog h .eql 28 (V.ptr c 0) (V.val (.pointer none))) fun v0 =>
 (bv v0 fun b1 => if b1 then
 some (Res.ret [], h)
 else
 (bd (slcH h l) fun p2 =>
 (loopx n (coinFeed_l3 n c l p2) [(V.int .i64 0)] h))))
theorem coinFeed_eq (n : Nat) (c : Nat) (l : V) (h : Heap) : call (n + 1) 17 [(V.ptr c 0), l] h = coinFeed n c l h := by kernel_rfl
noncomputable def skipNew (n : Nat) (x0 : Int) (h : Heap) : Option (Res × Heap) :=
 some (Res.ret [(V.ptr (h).length 0)], (h ++ [(HB.box 12 [(V.int .i32 0), (V.int .i64 0), (V.val (.pointer none)), (V.val (.pointer none)), (V.val (.pointer none)), (V.val (.pointer none)), (V.val (.pointer none)), (V.val (.pointer none)), (V.val (.pointer none)), (V.val (.pointer none)), (V.int .i64 0), (V.int .i64 (if 0 < (if 1000 < x0 then 1000 else x0) then (if 1000 < x0 then 1000 else x0) else 0))])]))
theorem skipNew_eq (n : Nat) (x0 : Int) (h : Heap) : call (n + 1) 15 [(V.int .i64 x0)] h = skipNew n x0 h := by kernel_rfl
noncomputable def skipMost (n : Nat) (s : Nat) (h : Heap) : Option (Res × Heap) :=
 (bd (bopH prog h .eql 26 (V.ptr s 0) (V.val (.pointer none))) fun v0 =>
 (bv v0 fun b1 => if b1 then
 some (Res.ret [(V.int .i64 0)], h)
 else
 (bd3 (cellsP h (V.ptr s 11)) fun cs3 m2 o4 => if (o4 + 1 <= m2 /\ 0 < 1) then
 (bd (cs3)[o4]? fun v5 =>
 some (Res.ret [v5], h)) else none)))
theorem skipMost_eq (n : Nat) (s : Nat) (h : Heap) : call (n + 1) 35 [(V.ptr s 0)] h = skipMost n s h := by kernel_rfl
noncomputable def skipLen (n : Nat) (s : Nat) (h : Heap) : Option (Res × Heap) :=
 (bd (bopH prog h .eql 26 (V.ptr s 0) (V.val (.pointer none))) fun v0 =>
 (bv v0 fun b1 => if b1 then
 some (Res.ret [(V.int .i64 0)], h)
 else
 (bd3 (cellsP h (V.ptr s 10)) fun cs3 m2 o4 => if (o4 + 1 <= m2 /\ 0 < 1) then
 (bd (cs3)[o4]? fun v5 =>
 some (Res.ret [v5], h)) else none)))
theorem skipLen_eq (n : Nat) (s : Nat) (h : Heap) : call (n + 1) 36 [(V.ptr s 0)] h = skipLen n s h := by kernel_rfl
noncomputable def skipBegin_l0 (n : Nat) (s : Nat) (st1 : List V) (hh2 : Heap) (next3 : List V -> Heap -> Option (Res × Heap)) : Option (Res × Heap) :=
 (bd (bop prog .lss 3 (gv st1 2) (V.int .i64 8)) fun v4 =>
 (bv v4 fun b5 => if b5 then
 (bd (nv (gv st1 2)) fun n6 =>
 (if (n6 < 8) then
 (if (0 = 0 /\ (n6 * 1) + 1 <= 8) then
 (bd (bop prog .add 3 (gv st1 2) (V.int .i64 1)) fun v7 =>
 (next3 [(V.agg (lcs (gv st1 0))), (V.agg (setR (lcs (gv st1 1)) (n6 * 1) [(V.ptr s 0)])), v7] hh2)) else none) else none))
 else
 (if ((((lcs (gv st1 1))).drop 0 |>.take 8)).length = 8 then
 (if (((((lcs (gv st1 1))).drop 0 |>.take 8)).length <= 8) then
 some (Res.ret [(V.agg (((setR (lcs (gv st1 0)) 0 (((lcs (gv st1 1))).drop 0 |>.take 8))).drop 0 |>.take 8))], hh2) else none) else none)))
noncomputable def skipBegin (n : Nat) (s : Nat) (h : Heap) : Option (Res × Heap) :=
 (loopx n (skipBegin_l0 n s) [(V.agg [(V.val (.pointer none)), (V.val (.pointer none)), (V.val (.pointer none)), (V.val (.pointer none)), (V.val (.pointer none)), (V.val (.pointer none)), (V.val (.pointer none)), (V.val (.pointer none))]), (V.agg [(V.val (.pointer none)), (V.val (.pointer none)), (V.val (.pointer none)), (V.val (.pointer none)), (V.val (.pointer none)), (V.val (.pointer none)), (V.val (.pointer none)), (V.val (.pointer none))]), (V.int .i64 0)] h)
theorem skipBegin_eq (n : Nat) (s : Nat) (h : Heap) : call (n + 1) 41 [(V.ptr s 0)] h = skipBegin n s h := by kernel_rfl
noncomputable def further (n : Nat) (t : Nat) (o : Nat) (h : Heap) : Option (Res × Heap) :=
 (bd (bopH prog h .eql 68 (V.ptr t 0) (V.ptr o 0)) fun v0 =>
 (bv v0 fun b1 => if b1 then
 some (Res.ret [(V.bool false)], h)
 else
 (bd3 (cellsP h (V.ptr t 1)) fun cs3 m2 o4 => if (o4 + 1 <= m2 /\ 0 < 1) then
 (bd (cs3)[o4]? fun v5 =>
 (bd (bop prog .eql 3 v5 (V.int .i64 0)) fun v6 =>
 (bv v6 fun b7 => if b7 then
 some (Res.ret [(V.bool false)], h)
 else
 (bd3 (cellsP h (V.ptr o 1)) fun cs9 m8 o10 => if (o10 + 1 <= m8 /\ 0 < 1) then
 (bd (cs9)[o10]? fun v11 =>
 (bd (bop prog .eql 3 v11 (V.int .i64 0)) fun v12 =>
 (bv v12 fun b13 => if b13 then
 some (Res.ret [(V.bool true)], h)
 else
 (bd3 (cellsP h (V.ptr t 0)) fun cs15 m14 o16 => if (o16 + 1 <= m14 /\ 0 < 1) then
 (bd (cs15)[o16]? fun v17 =>
 (bd3 (cellsP h (V.ptr o 0)) fun cs19 m18 o20 => if (o20 + 1 <= m18 /\ 0 < 1) then
 (bd (cs19)[o20]? fun v21 =>
 (bd (bop prog .geq 21 v17 v21) fun v22 =>
 some (Res.ret [v22], h))) else none)) else none)))) else none)))) else none)))
theorem further_eq (n : Nat) (t : Nat) (o : Nat) (h : Heap) : call (n + 1) 65 [(V.ptr t 0), (V.ptr o 0)] h = further n t o h := by kernel_rfl
noncomputable def tall (n : Nat) (x0 : Int) (x1 : Int) (h : Heap) : Option (Res × Heap) :=
 some (Res.ret [(V.ptr (h).length 0)], (h ++ [(HB.box 10 [(V.int .i32 x0), (V.int .i64 (if 1 < (if 8 < x1 then 8 else x1) then (if 8 < x1 then 8 else x1) else 1)), (V.val (.pointer none)), (V.val (.pointer none)), (V.val (.pointer none)), (V.val (.pointer none)), (V.val (.pointer none)), (V.val (.pointer none)), (V.val (.pointer none)), (V.val (.pointer none))])]))
theorem tall_eq (n : Nat) (x0 : Int) (x1 : Int) (h : Heap) : call (n + 1) 44 [(V.int .i32 x0), (V.int .i64 x1)] h = tall n x0 x1 h := by kernel_rfl
noncomputable def pathOn_l18 (n : Nat) (v : Int) (st1 : List V) (next3 : List V -> Heap -> Option (Res × Heap)) (st19 : List V) (hh20 : Heap) (next21 : List V -> Heap -> Option (Res × Heap)) : Option (Res × Heap) :=
 (bd (bopH prog hh20 .neq 68 (gv st19 3) (V.val (.pointer none))) fun v22 =>
 (bv v22 fun b23 => if b23 then
 (bd (addP 0 (gv st19 3)) fun p24 =>
 (bd (addP 0 p24) fun p25 =>
 (bd3 (cellsP hh20 p25) fun cs27 m26 o28 => if (o28 + 1 <= m26 /\ 0 < 1) then
 (bd (cs27)[o28]? fun v29 =>
 (bd (bop prog .leq 21 v29 (V.int .i32 v)) fun v30 =>
 (bv v30 fun b31 => if b31 then
 (bd (addP 0 (gv st19 3)) fun p32 =>
 (bd (addP 2 p32) fun p33 =>
 (bd (nv (gv st1 3)) fun n34 =>
 (if (n34 < 8) then
 (bd (addP (n34 * 1) p33) fun p35 =>
 (bd3 (cellsP hh20 p35) fun cs37 m36 o38 => if (o38 + 1 <= m36 /\ 0 < 1) then
 (bd (cs37)[o38]? fun v39 =>
 (next21 [(V.agg (lcs (gv st19 0))), (V.agg (lcs (gv st19 1))), (gv st19 3), v39] hh20)) else none)) else none))))
 else
 (bd (nv (gv st1 3)) fun n40 =>
 (if (n40 < 8) then
 (if ((V.cells (gv st19 2))).length = 1 then
 (if (0 = 0 /\ (n40 * 1) + ((V.cells (gv st19 2))).length <= 8) then
 (bd (bop prog .sub 3 (gv st1 3) (V.int .i64 1)) fun v41 =>
 (next3 [(V.agg (setR (lcs (gv st19 0)) (n40 * 1) (V.cells (gv st19 2)))), (V.agg (lcs (gv st19 1))), (gv st19 2), v41] hh20)) else none) else none) else none))))) else none)))
 else
 (bd (nv (gv st1 3)) fun n42 =>
 (if (n42 < 8) then
 (if ((V.cells (gv st19 2))).length = 1 then
 (if (0 = 0 /\ (n42 * 1) + ((V.cells (gv st19 2))).length <= 8) then
 (bd (bop prog .sub 3 (gv st1 3) (V.int .i64 1)) fun v43 =>
 (next3 [(V.agg (setR (lcs (gv st19 0)) (n42 * 1) (V.cells (gv st19 2)))), (V.agg (lcs (gv st19 1))), (gv st19 2), v43] hh20)) else none) else none) else none))))
noncomputable def pathOn_l61 (n : Nat) (v : Int) (st1 : List V) (next3 : List V -> Heap -> Option (Res × Heap)) (st62 : List V) (hh63 : Heap) (next64 : List V -> Heap -> Option (Res × Heap)) : Option (Res × Heap) :=
 (bd (bopH prog hh63 .neq 68 (gv st62 3) (V.val (.pointer none))) fun v65 =>
 (bv v65 fun b66 => if b66 then
 (bd (addP 0 (gv st62 3)) fun p67 =>
 (bd (addP 0 p67) fun p68 =>
 (bd3 (cellsP hh63 p68) fun cs70 m69 o71 => if (o71 + 1 <= m69 /\ 0 < 1) then
 (bd (cs70)[o71]? fun v72 =>
 (bd (bop prog .leq 21 v72 (V.int .i32 v)) fun v73 =>
 (bv v73 fun b74 => if b74 then
 (bd (addP 0 (gv st62 3)) fun p75 =>
 (bd (addP 2 p75) fun p76 =>
 (bd (nv (gv st1 3)) fun n77 =>
 (if (n77 < 8) then
 (bd (addP (n77 * 1) p76) fun p78 =>
 (bd3 (cellsP hh63 p78) fun cs80 m79 o81 => if (o81 + 1 <= m79 /\ 0 < 1) then
 (bd (cs80)[o81]? fun v82 =>
 (next64 [(V.agg (lcs (gv st62 0))), (V.agg (lcs (gv st62 1))), (gv st62 3), v82] hh63)) else none)) else none))))
 else
 (bd (nv (gv st1 3)) fun n83 =>
 (if (n83 < 8) then
 (if ((V.cells (gv st62 2))).length = 1 then
 (if (0 = 0 /\ (n83 * 1) + ((V.cells (gv st62 2))).length <= 8) then
 (bd (bop prog .sub 3 (gv st1 3) (V.int .i64 1)) fun v84 =>
 (next3 [(V.agg (setR (lcs (gv st62 0)) (n83 * 1) (V.cells (gv st62 2)))), (V.agg (lcs (gv st62 1))), (gv st62 2), v84] hh63)) else none) else none) else none))))) else none)))
 else
 (bd (nv (gv st1 3)) fun n85 =>
 (if (n85 < 8) then
 (if ((V.cells (gv st62 2))).length = 1 then
 (if (0 = 0 /\ (n85 * 1) + ((V.cells (gv st62 2))).length <= 8) then
 (bd (bop prog .sub 3 (gv st1 3) (V.int .i64 1)) fun v86 =>
 (next3 [(V.agg (setR (lcs (gv st62 0)) (n85 * 1) (V.cells (gv st62 2)))), (V.agg (lcs (gv st62 1))), (gv st62 2), v86] hh63)) else none) else none) else none))))
noncomputable def pathOn_l95 (n : Nat) (v : Int) (st1 : List V) (next3 : List V -> Heap -> Option (Res × Heap)) (st96 : List V) (hh97 : Heap) (next98 : List V -> Heap -> Option (Res × Heap)) : Option (Res × Heap) :=
 (bd (bopH prog hh97 .neq 68 (gv st96 3) (V.val (.pointer none))) fun v99 =>
 (bv v99 fun b100 => if b100 then
 (bd (addP 0 (gv st96 3)) fun p101 =>
 (bd (addP 0 p101) fun p102 =>
 (bd3 (cellsP hh97 p102) fun cs104 m103 o105 => if (o105 + 1 <= m103 /\ 0 < 1) then
 (bd (cs104)[o105]? fun v106 =>
 (bd (bop prog .leq 21 v106 (V.int .i32 v)) fun v107 =>
 (bv v107 fun b108 => if b108 then
 (bd (addP 0 (gv st96 3)) fun p109 =>
 (bd (addP 2 p109) fun p110 =>
 (bd (nv (gv st1 3)) fun n111 =>
 (if (n111 < 8) then
 (bd (addP (n111 * 1) p110) fun p112 =>
 (bd3 (cellsP hh97 p112) fun cs114 m113 o115 => if (o115 + 1 <= m113 /\ 0 < 1) then
 (bd (cs114)[o115]? fun v116 =>
 (next98 [(V.agg (lcs (gv st96 0))), (V.agg (lcs (gv st96 1))), (gv st96 3), v116] hh97)) else none)) else none))))
 else
 (bd (nv (gv st1 3)) fun n117 =>
 (if (n117 < 8) then
 (if ((V.cells (gv st96 2))).length = 1 then
 (if (0 = 0 /\ (n117 * 1) + ((V.cells (gv st96 2))).length <= 8) then
 (bd (bop prog .sub 3 (gv st1 3) (V.int .i64 1)) fun v118 =>
 (next3 [(V.agg (setR (lcs (gv st96 0)) (n117 * 1) (V.cells (gv st96 2)))), (V.agg (lcs (gv st96 1))), (gv st96 2), v118] hh97)) else none) else none) else none))))) else none)))
 else
 (bd (nv (gv st1 3)) fun n119 =>
 (if (n119 < 8) then
 (if ((V.cells (gv st96 2))).length = 1 then
 (if (0 = 0 /\ (n119 * 1) + ((V.cells (gv st96 2))).length <= 8) then
 (bd (bop prog .sub 3 (gv st1 3) (V.int .i64 1)) fun v120 =>
 (next3 [(V.agg (setR (lcs (gv st96 0)) (n119 * 1) (V.cells (gv st96 2)))), (V.agg (lcs (gv st96 1))), (gv st96 2), v120] hh97)) else none) else none) else none))))
noncomputable def pathOn_l0 (n : Nat) (v : Int) (st1 : List V) (hh2 : Heap) (next3 : List V -> Heap -> Option (Res × Heap)) : Option (Res × Heap) :=
 (bd (bop prog .geq 3 (gv st1 3) (V.int .i64 0)) fun v4 =>
 (bv v4 fun b5 => if b5 then
 (bd (bopH prog hh2 .eql 68 (gv st1 2) (V.val (.pointer none))) fun v6 =>
 (bv v6 fun b7 => if b7 then
 (bd (nv (gv st1 3)) fun n8 =>
 (if (n8 < 8) then
 (if ((n8 * 1) + 1 <= 8 /\ 0 < 1) then
 (bd ((lcs (gv st1 0)))[(n8 * 1)]? fun v9 =>
 (bd (addP 0 v9) fun p10 =>
 (bd (addP 2 p10) fun p11 =>
 (bd (nv (gv st1 3)) fun n12 =>
 (if (n12 < 8) then
 (bd (addP (n12 * 1) p11) fun p13 =>
 (bd3 (cellsP hh2 p13) fun cs15 m14 o16 => if (o16 + 1 <= m14 /\ 0 < 1) then
 (bd (cs15)[o16]? fun v17 =>
 (loopx n (pathOn_l18 n v st1 next3) [(V.agg (lcs (gv st1 0))), (V.agg (lcs (gv st1 1))), v9, v17] hh2)) else none)) else none))))) else none) else none))
 else
 (bd (nv (gv st1 3)) fun n44 =>
 (if (n44 < 8) then
 (if ((n44 * 1) + 1 <= 8 /\ 0 < 1) then
 (bd ((lcs (gv st1 0)))[(n44 * 1)]? fun v45 =>
 (cl (call n 65 [v45, (gv st1 2)] hh2) (fun r46 h47 =>
 (one1 r46 fun v49 =>
 (bv v49 fun b50 => if b50 then
 (bd (nv (gv st1 3)) fun n51 =>
 (if (n51 < 8) then
 (if ((n51 * 1) + 1 <= 8 /\ 0 < 1) then
 (bd ((lcs (gv st1 0)))[(n51 * 1)]? fun v52 =>
 (bd (addP 0 v52) fun p53 =>
 (bd (addP 2 p53) fun p54 =>
 (bd (nv (gv st1 3)) fun n55 =>
 (if (n55 < 8) then
 (bd (addP (n55 * 1) p54) fun p56 =>
 (bd3 (cellsP h47 p56) fun cs58 m57 o59 => if (o59 + 1 <= m57 /\ 0 < 1) then
 (bd (cs58)[o59]? fun v60 =>
 (loopx n (pathOn_l61 n v st1 next3) [(V.agg (lcs (gv st1 0))), (V.agg (lcs (gv st1 1))), v52, v60] h47)) else none)) else none))))) else none) else none))
 else
 (bd (addP 0 (gv st1 2)) fun p87 =>
 (bd (addP 2 p87) fun p88 =>
 (bd (nv (gv st1 3)) fun n89 =>
 (if (n89 < 8) then
 (bd (addP (n89 * 1) p88) fun p90 =>
 (bd3 (cellsP h47 p90) fun cs92 m91 o93 => if (o93 + 1 <= m91 /\ 0 < 1) then
 (bd (cs92)[o93]? fun v94 =>
 (loopx n (pathOn_l95 n v st1 next3) [(V.agg (lcs (gv st1 0))), (V.agg (lcs (gv st1 1))), (gv st1 2), v94] h47)) else none)) else none))))))) (fun z48 h47 => some (Res.pan z48, h47)))) else none) else none))))
 else
 (if ((((lcs (gv st1 0))).drop 0 |>.take 8)).length = 8 then
 (if (((((lcs (gv st1 0))).drop 0 |>.take 8)).length <= 8) then
 some (Res.ret [(V.agg (((setR (lcs (gv st1 1)) 0 (((lcs (gv st1 0))).drop 0 |>.take 8))).drop 0 |>.take 8))], hh2) else none) else none)))
noncomputable def pathOn (n : Nat) (p : List V) (v : Int) (h : Heap) : Option (Res × Heap) :=
 (if (p).length = 8 then
 (loopx n (pathOn_l0 n v) [(V.agg p), (V.agg [(V.val (.pointer none)), (V.val (.pointer none)), (V.val (.pointer none)), (V.val (.pointer none)), (V.val (.pointer none)), (V.val (.pointer none)), (V.val (.pointer none)), (V.val (.pointer none))]), (V.val (.pointer none)), (V.int .i64 7)] h) else none)
theorem pathOn_eq (n : Nat) (p : List V) (v : Int) (h : Heap) : call (n + 1) 42 [(V.agg p), (V.int .i32 v)] h = pathOn n p v h := by kernel_rfl
noncomputable def pathPut_l4 (n : Nat) (t : Nat) (v3 : V) (st5 : List V) (hh6 : Heap) (next7 : List V -> Heap -> Option (Res × Heap)) : Option (Res × Heap) :=
 (bd (bop prog .lss 3 (gv st5 2) v3) fun v8 =>
 (bv v8 fun b9 => if b9 then
 (bd (nv (gv st5 2)) fun n10 =>
 (if (n10 < 8) then
 (if ((n10 * 1) + 1 <= 8 /\ 0 < 1) then
 (bd ((lcs (gv st5 0)))[(n10 * 1)]? fun v11 =>
 (bd (addP 0 v11) fun p12 =>
 (bd (addP 2 p12) fun p13 =>
 (bd (nv (gv st5 2)) fun n14 =>
 (if (n14 < 8) then
 (bd (addP (n14 * 1) p13) fun p15 =>
 (bd3 (cellsP hh6 p15) fun cs17 m16 o18 => if (o18 + 1 <= m16 /\ 0 < 1) then
 (bd (cs17)[o18]? fun v19 =>
 (bd (nv (gv st5 2)) fun n20 =>
 (if (n20 < 8) then
 (if ((V.cells v19)).length = 1 then
 (bd2 (writeB hh6 (V.cells v19) (V.ptr t (2 + (n20 * 1)))) fun b21 x22 =>
 (bd (nv (gv st5 2)) fun n23 =>
 (if (n23 < 8) then
 (if ((n23 * 1) + 1 <= 8 /\ 0 < 1) then
 (bd ((lcs (gv st5 0)))[(n23 * 1)]? fun v24 =>
 (bd (addP 0 v24) fun p25 =>
 (bd (addP 2 p25) fun p26 =>
 (bd (nv (gv st5 2)) fun n27 =>
 (if (n27 < 8) then
 (bd (addP (n27 * 1) p26) fun p28 =>
 (bd2 (writeB ((hh6).set b21 x22) [(V.ptr t 0)] p28) fun b29 x30 =>
 (bd (nv (gv st5 2)) fun n31 =>
 (if (n31 < 8) then
 (if (0 = 0 /\ (n31 * 1) + 1 <= 8) then
 (bd (bop prog .add 3 (gv st5 2) (V.int .i64 1)) fun v32 =>
 (next7 [(V.agg (setR (lcs (gv st5 0)) (n31 * 1) [(V.ptr t 0)])), (V.agg (lcs (gv st5 1))), v32] ((((hh6).set b21 x22)).set b29 x30))) else none) else none)))) else none))))) else none) else none))) else none) else none))) else none)) else none))))) else none) else none))
 else
 (if ((((lcs (gv st5 0))).drop 0 |>.take 8)).length = 8 then
 (if (((((lcs (gv st5 0))).drop 0 |>.take 8)).length <= 8) then
 some (Res.ret [(V.agg (((setR (lcs (gv st5 1)) 0 (((lcs (gv st5 0))).drop 0 |>.take 8))).drop 0 |>.take 8))], hh6) else none) else none)))
noncomputable def pathPut (n : Nat) (p : List V) (t : Nat) (h : Heap) : Option (Res × Heap) :=
 (if (p).length = 8 then
 (bd3 (cellsP h (V.ptr t 1)) fun cs1 m0 o2 => if (o2 + 1 <= m0 /\ 0 < 1) then
 (bd (cs1)[o2]? fun v3 =>
 (loopx n (pathPut_l4 n t v3) [(V.agg p), (V.agg [(V.val (.pointer none)), (V.val (.pointer none)), (V.val (.pointer none)), (V.val (.pointer none)), (V.val (.pointer none)), (V.val (.pointer none)), (V.val (.pointer none)), (V.val (.pointer none))]), (V.int .i64 0)] h)) else none) else none)
theorem pathPut_eq (n : Nat) (p : List V) (t : Nat) (h : Heap) : call (n + 1) 43 [(V.agg p), (V.ptr t 0)] h = pathPut n p t h := by kernel_rfl
noncomputable def skipInsert (n : Nat) (s : Nat) (v : Int) (k : Int) (h : Heap) : Option (Res × Heap) :=
 (bd (bopH prog h .eql 26 (V.ptr s 0) (V.val (.pointer none))) fun v0 =>
 (bv v0 fun b1 => if b1 then
 some (Res.ret [(V.bool false)], h)
 else
 (bd3 (cellsP h (V.ptr s 10)) fun cs3 m2 o4 => if (o4 + 1 <= m2 /\ 0 < 1) then
 (bd (cs3)[o4]? fun v5 =>
 (bd3 (cellsP h (V.ptr s 11)) fun cs7 m6 o8 => if (o8 + 1 <= m6 /\ 0 < 1) then
 (bd (cs7)[o8]? fun v9 =>
 (bd (bop prog .geq 3 v5 v9) fun v10 =>
 (bv v10 fun b11 => if b11 then
 some (Res.ret [(V.bool false)], h)
 else
 (cl (call n 41 [(V.ptr s 0)] h) (fun r12 h13 =>
 (one1 r12 fun v15 =>
 (cl (call n 42 [v15, (V.int .i32 v)] h13) (fun r16 h17 =>
 (one1 r16 fun v19 =>
 (cl (call n 44 [(V.int .i32 v), (V.int .i64 k)] h17) (fun r20 h21 =>
 (one1 r20 fun v23 =>
 (cl (call n 43 [v19, v23] h21) (fun r24 h25 =>
 (one1 r24 fun v27 =>
 (bd3 (cellsP h25 (V.ptr s 10)) fun cs29 m28 o30 => if (o30 + 1 <= m28 /\ 0 < 1) then
 (bd (cs29)[o30]? fun v31 =>
 (bd (bop prog .add 3 v31 (V.int .i64 1)) fun v32 =>
 (if ((V.cells v32)).length = 1 then
 (bd2 (writeB h25 (V.cells v32) (V.ptr s 10)) fun b33 x34 =>
 some (Res.ret [(V.bool true)], ((h25).set b33 x34))) else none))) else none))) (fun z26 h25 => some (Res.pan z26, h25))))) (fun z22 h21 => some (Res.pan z22, h21))))) (fun z18 h17 => some (Res.pan z18, h17))))) (fun z14 h13 => some (Res.pan z14, h13)))))) else none)) else none)))
theorem skipInsert_eq (n : Nat) (s : Nat) (v : Int) (k : Int) (h : Heap) : call (n + 1) 22 [(V.ptr s 0), (V.int .i32 v), (V.int .i64 k)] h = skipInsert n s v k h := by kernel_rfl
noncomputable def skipBatch_l16 (n : Nat) (s : Nat) (l : V) (m : V) (p15 : Nat × List (List V)) (st17 : List V) (hh18 : Heap) (next19 : List V -> Heap -> Option (Res × Heap)) : Option (Res × Heap) :=
 (bd (bop prog .lss 3 (gv st17 4) (V.int .i64 ((p15.2).length : Int))) fun v20 =>
 (bv v20 fun b21 => if b21 then
 (bdS (nv (gv st17 4)) fun n22 =>
 (bd (idxP 1 n22 l) fun p23 =>
 (bd3 (cellsP hh18 p23) fun cs25 m24 o26 => if (o26 + 1 <= m24 /\ 0 < 1) then
 (bd (cs25)[o26]? fun v27 =>
 (bd3 (cellsP hh18 (V.ptr s 10)) fun cs29 m28 o30 => if (o30 + 1 <= m28 /\ 0 < 1) then
 (bd (cs29)[o30]? fun v31 =>
 (bd3 (cellsP hh18 (V.ptr s 11)) fun cs33 m32 o34 => if (o34 + 1 <= m32 /\ 0 < 1) then
 (bd (cs33)[o34]? fun v35 =>
 (bd (bop prog .geq 3 v31 v35) fun v36 =>
 (bv v36 fun b37 => if b37 then
 some (Res.ret [(V.sl 1 (lsl (gv st17 1)) false)], hh18)
 else
 (bd (slcH hh18 m) fun p38 =>
 (bd (bop prog .lss 3 (gv st17 4) (V.int .i64 ((p38.2).length : Int))) fun v39 =>
 (bv v39 fun b40 => if b40 then
 (bdS (nv (gv st17 4)) fun n41 =>
 (bd (idxP 1 n41 m) fun p42 =>
 (bd3 (cellsP hh18 p42) fun cs44 m43 o45 => if (o45 + 1 <= m43 /\ 0 < 1) then
 (bd (cs44)[o45]? fun v46 =>
 (cl (call n 42 [(V.agg (((lcs (gv st17 2))).drop 0 |>.take 8)), v27] hh18) (fun r47 h48 =>
 (one1 r47 fun v50 =>
 (cl (call n 44 [v27, v46] h48) (fun r51 h52 =>
 (one1 r51 fun v54 =>
 (cl (call n 43 [v50, v54] h52) (fun r55 h56 =>
 (one1 r55 fun v58 =>
 (if ((V.cells v58)).length = 8 then
 (if (((V.cells v58)).length <= 8) then
 (bd3 (cellsP h56 (V.ptr s 10)) fun cs60 m59 o61 => if (o61 + 1 <= m59 /\ 0 < 1) then
 (bd (cs60)[o61]? fun v62 =>
 (bd (bop prog .add 3 v62 (V.int .i64 1)) fun v63 =>
 (if ((V.cells v63)).length = 1 then
 (bd2 (writeB h56 (V.cells v63) (V.ptr s 10)) fun b64 x65 =>
 (bdS (nv (gv st17 4)) fun n66 =>
 (if (1 = 1 /\ n66 < ((lsl (gv st17 1))).length /\ (some 65 : Option Nat) ≠ some 7) then
 (bd ((lsl (gv st17 1)))[n66]? fun es67 =>
 (bd (bop prog .add 3 (gv st17 4) (V.int .i64 1)) fun v68 =>
 (next19 [(V.sl 1 (lsl (gv st17 0)) false), (V.sl 1 (((lsl (gv st17 1))).set n66 (setR es67 0 [(V.bool true)])) false), (V.agg (setR (lcs (gv st17 2)) 0 (V.cells v58))), (V.bool false), v68] ((h56).set b64 x65)))) else none))) else none))) else none) else none) else none))) (fun z57 h56 => some (Res.pan z57, h56))))) (fun z53 h52 => some (Res.pan z53, h52))))) (fun z49 h48 => some (Res.pan z49, h48)))) else none)))
 else
 (cl (call n 42 [(V.agg (((lcs (gv st17 2))).drop 0 |>.take 8)), v27] hh18) (fun r69 h70 =>
 (one1 r69 fun v72 =>
 (cl (call n 44 [v27, (V.int .i64 1)] h70) (fun r73 h74 =>
 (one1 r73 fun v76 =>
 (cl (call n 43 [v72, v76] h74) (fun r77 h78 =>
 (one1 r77 fun v80 =>
 (if ((V.cells v80)).length = 8 then
 (if (((V.cells v80)).length <= 8) then
 (bd3 (cellsP h78 (V.ptr s 10)) fun cs82 m81 o83 => if (o83 + 1 <= m81 /\ 0 < 1) then
 (bd (cs82)[o83]? fun v84 =>
 (bd (bop prog .add 3 v84 (V.int .i64 1)) fun v85 =>
 (if ((V.cells v85)).length = 1 then
 (bd2 (writeB h78 (V.cells v85) (V.ptr s 10)) fun b86 x87 =>
 (bdS (nv (gv st17 4)) fun n88 =>
 (if (1 = 1 /\ n88 < ((lsl (gv st17 1))).length /\ (some 65 : Option Nat) ≠ some 7) then
 (bd ((lsl (gv st17 1)))[n88]? fun es89 =>
 (bd (bop prog .add 3 (gv st17 4) (V.int .i64 1)) fun v90 =>
 (next19 [(V.sl 1 (lsl (gv st17 0)) false), (V.sl 1 (((lsl (gv st17 1))).set n88 (setR es89 0 [(V.bool true)])) false), (V.agg (setR (lcs (gv st17 2)) 0 (V.cells v80))), (V.bool false), v90] ((h78).set b86 x87)))) else none))) else none))) else none) else none) else none))) (fun z79 h78 => some (Res.pan z79, h78))))) (fun z75 h74 => some (Res.pan z75, h74))))) (fun z71 h70 => some (Res.pan z71, h70))))))))) else none)) else none)) else none)))
 else
 some (Res.ret [(V.sl 1 (lsl (gv st17 1)) false)], hh18)))
noncomputable def skipBatch (n : Nat) (s : Nat) (l : V) (m : V) (h : Heap) : Option (Res × Heap) :=
 (bd (slcH h l) fun p0 =>
 (bdS (nv (V.int .i64 ((p0.2).length : Int))) fun n1 =>
 (bdS (nv (V.int .i64 ((p0.2).length : Int))) fun n2 =>
 (if (n1 = n2 /\ n1 < lim /\ 1 = 1) then
 (bd (bopH prog h .eql 26 (V.ptr s 0) (V.val (.pointer none))) fun v3 =>
 (bv v3 fun b4 => if b4 then
 some (Res.ret [(V.sl 1 (List.replicate n1 [(V.bool false)]) false)], h)
 else
 (cl (call n 62 [l] h) (fun r5 h6 =>
 (one1 r5 fun v8 =>
 (bd (uop .not v8) fun v9 =>
 (bv v9 fun b10 => if b10 then
 some (Res.ret [(V.sl 1 (List.replicate n1 [(V.bool false)]) false)], h6)
 else
 (cl (call n 41 [(V.ptr s 0)] h6) (fun r11 h12 =>
 (one1 r11 fun v14 =>
 (if ((V.cells v14)).length = 8 then
 (if (((V.cells v14)).length <= 8) then
 (bd (slcH h12 l) fun p15 =>
 (loopx n (skipBatch_l16 n s l m p15) [(V.sl 1 [] false), (V.sl 1 (List.replicate n1 [(V.bool false)]) false), (V.agg (setR [(V.val (.pointer none)), (V.val (.pointer none)), (V.val (.pointer none)), (V.val (.pointer none)), (V.val (.pointer none)), (V.val (.pointer none)), (V.val (.pointer none)), (V.val (.pointer none))] 0 (V.cells v14))), (V.bool false), (V.int .i64 0)] h12)) else none) else none))) (fun z13 h12 => some (Res.pan z13, h12))))))) (fun z7 h6 => some (Res.pan z7, h6))))) else none))))
theorem skipBatch_eq (n : Nat) (s : Nat) (l : V) (m : V) (h : Heap) : call (n + 1) 37 [(V.ptr s 0), l, m] h = skipBatch n s l m h := by kernel_rfl
noncomputable def skipMin_l16 (n : Nat) (s : Nat) (v9 : V) (v15 : V) (st17 : List V) (hh18 : Heap) (next19 : List V -> Heap -> Option (Res × Heap)) : Option (Res × Heap) :=
 (bd (bop prog .lss 3 (gv st17 0) v15) fun v20 =>
 (bv v20 fun b21 => if b21 then
 (bd (addP 0 v9) fun p22 =>
 (bd (addP 2 p22) fun p23 =>
 (bd (nv (gv st17 0)) fun n24 =>
 (if (n24 < 8) then
 (bd (addP (n24 * 1) p23) fun p25 =>
 (bd3 (cellsP hh18 p25) fun cs27 m26 o28 => if (o28 + 1 <= m26 /\ 0 < 1) then
 (bd (cs27)[o28]? fun v29 =>
 (bd (nv (gv st17 0)) fun n30 =>
 (if (n30 < 8) then
 (if ((V.cells v29)).length = 1 then
 (bd2 (writeB hh18 (V.cells v29) (V.ptr s (2 + (n30 * 1)))) fun b31 x32 =>
 (bd (bop prog .add 3 (gv st17 0) (V.int .i64 1)) fun v33 =>
 (next19 [v33] ((hh18).set b31 x32)))) else none) else none))) else none)) else none))))
 else
 (bd3 (cellsP hh18 (V.ptr s 10)) fun cs35 m34 o36 => if (o36 + 1 <= m34 /\ 0 < 1) then
 (bd (cs35)[o36]? fun v37 =>
 (bd (bop prog .sub 3 v37 (V.int .i64 1)) fun v38 =>
 (if ((V.cells v38)).length = 1 then
 (bd2 (writeB hh18 (V.cells v38) (V.ptr s 10)) fun b39 x40 =>
 (bd (addP 0 v9) fun p41 =>
 (bd (addP 0 p41) fun p42 =>
 (bd3 (cellsP ((hh18).set b39 x40) p42) fun cs44 m43 o45 => if (o45 + 1 <= m43 /\ 0 < 1) then
 (bd (cs44)[o45]? fun v46 =>
 some (Res.ret [v46, (V.bool true)], ((hh18).set b39 x40))) else none)))) else none))) else none)))
noncomputable def skipMin (n : Nat) (s : Nat) (h : Heap) : Option (Res × Heap) :=
 (cl (call n 36 [(V.ptr s 0)] h) (fun r0 h1 =>
 (one1 r0 fun v3 =>
 (bd (bop prog .eql 3 v3 (V.int .i64 0)) fun v4 =>
 (bv v4 fun b5 => if b5 then
 some (Res.ret [(V.int .i32 0), (V.bool false)], h1)
 else
 (bd3 (cellsP h1 (V.ptr s 2)) fun cs7 m6 o8 => if (o8 + 1 <= m6 /\ 0 < 1) then
 (bd (cs7)[o8]? fun v9 =>
 (bd (addP 0 v9) fun p10 =>
 (bd (addP 1 p10) fun p11 =>
 (bd3 (cellsP h1 p11) fun cs13 m12 o14 => if (o14 + 1 <= m12 /\ 0 < 1) then
 (bd (cs13)[o14]? fun v15 =>
 (loopx n (skipMin_l16 n s v9 v15) [(V.int .i64 0)] h1)) else none)))) else none))))) (fun z2 h1 => some (Res.pan z2, h1)))
theorem skipMin_eq (n : Nat) (s : Nat) (h : Heap) : call (n + 1) 63 [(V.ptr s 0)] h = skipMin n s h := by kernel_rfl
noncomputable def skipLv (n : Nat) (s : Nat) (k : Int) (h : Heap) : Option (Res × Heap) :=
 some (Res.ret [(V.fn 84 [(V.ptr (h).length 0), (V.ptr ((h ++ [(HB.box 1 [(V.ptr s 0)])])).length 0)])], ((h ++ [(HB.box 1 [(V.ptr s 0)])]) ++ [(HB.box 1 [(V.int .i64 k)])]))
theorem skipLv_eq (n : Nat) (s : Nat) (k : Int) (h : Heap) : call (n + 1) 64 [(V.ptr s 0), (V.int .i64 k)] h = skipLv n s k h := by kernel_rfl
noncomputable def skipLvI_l18 (n : Nat) (b : Nat) (k : Nat) (st19 : List V) (hh20 : Heap) (next21 : List V -> Heap -> Option (Res × Heap)) : Option (Res × Heap) :=
 (bd (bopH prog hh20 .neq 68 (gv st19 0) (V.val (.pointer none))) fun v22 =>
 (bv v22 fun b23 => if b23 then
 (bd2 (rnd n b [(gv st19 0)] hh20) fun t24 h25 =>
 (if t24 then
 (bd3 (cellsP h25 (V.ptr k 0)) fun cs27 m26 o28 => if (o28 + 1 <= m26 /\ 0 < 1) then
 (bd (cs27)[o28]? fun v29 =>
 (bd (bop prog .sub 3 v29 (V.int .i64 1)) fun v30 =>
 (bd (addP 0 (gv st19 0)) fun p31 =>
 (bd (addP 2 p31) fun p32 =>
 (bd (nv v30) fun n33 =>
 (if (n33 < 8) then
 (bd (addP (n33 * 1) p32) fun p34 =>
 (bd3 (cellsP h25 p34) fun cs36 m35 o37 => if (o37 + 1 <= m35 /\ 0 < 1) then
 (bd (cs36)[o37]? fun v38 =>
 (next21 [v38] h25)) else none)) else none)))))) else none)
 else
 some (Res.ret [], h25)))
 else
 some (Res.ret [], hh20)))
noncomputable def skipLvI (n : Nat) (b : Nat) (s : Nat) (k : Nat) (h : Heap) : Option (Res × Heap) :=
 (bd3 (cellsP h (V.ptr s 0)) fun cs1 m0 o2 => if (o2 + 1 <= m0 /\ 0 < 1) then
 (bd (cs1)[o2]? fun v3 =>
 (bd3 (cellsP h (V.ptr k 0)) fun cs5 m4 o6 => if (o6 + 1 <= m4 /\ 0 < 1) then
 (bd (cs5)[o6]? fun v7 =>
 (bd (bop prog .sub 3 v7 (V.int .i64 1)) fun v8 =>
 (bd (addP 0 v3) fun p9 =>
 (bd (addP 0 p9) fun p10 =>
 (bd (addP 2 p10) fun p11 =>
 (bd (nv v8) fun n12 =>
 (if (n12 < 8) then
 (bd (addP (n12 * 1) p11) fun p13 =>
 (bd3 (cellsP h p13) fun cs15 m14 o16 => if (o16 + 1 <= m14 /\ 0 < 1) then
 (bd (cs15)[o16]? fun v17 =>
 (loopx n (skipLvI_l18 n b k) [v17] h)) else none)) else none))))))) else none)) else none)
theorem skipLvI_eq (n : Nat) (b : Nat) (s : Nat) (k : Nat) (h : Heap) : call (n + 1) 84 [(V.yld b), (V.ptr s 0), (V.ptr k 0)] h = skipLvI n b s k h := by kernel_rfl
noncomputable def skipLevel_r (n : Nat) (x5 : Nat) (b : Nat) (z20 : V) (h : Heap) : Option (Bool × Heap) :=
 (lpR ((h)[b]?) fun cD cV cF cP cA cB =>
 (bd3 (cellsP ((h).set b (HB.loop cD cV cF cP cA cB .busy)) (V.ptr x5 0)) fun cs15 m14 o16 => if (o16 + 1 <= m14 /\ 0 < 1) then
 (bd (cs15)[o16]? fun v17 =>
 (bd (addP 0 z20) fun p18 =>
 (bd (addP 0 p18) fun p19 =>
 (bd3 (cellsP ((h).set b (HB.loop cD cV cF cP cA cB .busy)) p19) fun cs21 m20 o22 => if (o22 + 1 <= m20 /\ 0 < 1) then
 (bd (cs21)[o22]? fun v23 =>
 (bd (bslV prog 39 1 [(0, v23)]) fun p24 =>
 (bd2 (appP 21 1 ((h).set b (HB.loop cD cV cF cP cA cB .busy)) p24.2 v17) fun v25 h26 =>
 (if ((V.cells v25)).length = 1 then
 (bd2 (writeB h26 (V.cells v25) (V.ptr x5 0)) fun b27 x28 =>
 (lpB ((((h26).set b27 x28))[b]?) fun eD eV eF eP eA eB => some (true, (((h26).set b27 x28)).set b (HB.loop eD eV eF eP eA eB .ready)))) else none)))) else none)))) else none))
theorem skipLevel_r_eq (n : Nat) (y0 : Option V) (y1 : Option V) (y4 : Option V) (x5 : Nat) (y7 : Option V) (y8 : Option V) (y9 : Option V) (y10 : Option V) (y11 : Option V) (y12 : Option V) (y13 : Option V) (y14 : Option V) (y15 : Option V) (y16 : Option V) (y17 : Option V) (y18 : Option V) (y19 : Option V) (b : Nat) (z20 : V) (h : Heap) : roundE prog (call n) keepS pureS n (L.textDraws prog) true [y0, y1, none, none, y4, some (V.ptr x5 0), none, y7, y8, y9, y10, y11, y12, y13, y14, y15, y16, y17, y18, y19, none, none, none, none, none, none, none, none, none] [20] (rfAs (bodyF f40)) (rfBd (bodyF f40)) b [z20] h = skipLevel_r n x5 b z20 h := by kernel_rfl
noncomputable def skipLevel (n : Nat) (s : Nat) (k : Int) (h : Heap) : Option (Res × Heap) :=
 (bd (bopH prog h .eql 26 (V.ptr s 0) (V.val (.pointer none))) fun v0 =>
 (bv v0 fun b1 => if b1 then
 some (Res.ret [(V.row (h).length 1 0 0)], (h ++ [(HB.row 21 1 [] true)]))
 else
 (if (decide (k < 1)) then
 some (Res.ret [(V.row (h).length 1 0 0)], (h ++ [(HB.row 21 1 [] true)]))
 else
 (if (decide (k > 8)) then
 some (Res.ret [(V.row (h).length 1 0 0)], (h ++ [(HB.row 21 1 [] true)]))
 else
 (cl (call n 64 [(V.ptr s 0), (V.int .i64 k)] h) (fun r2 h3 =>
 (one1 r2 fun v5 =>
 (fnK v5 fun f6 c7 => if ((mutF prog f6).isNone && (noDfC (rfAs (bodyF f40)) && noDfC (rfBd (bodyF f40)))) = true then
 (clN (call n f6 ((V.yld ((((h3 ++ [(HB.box 1 [(V.sl 0 [] true)])]) ++ [(HB.row 21 1 [] true)])).length + 1)) :: c7) (((h3 ++ [(HB.box 1 [(V.sl 0 [] true)])]) ++ [(HB.row 21 1 [] true)]) ++ [HB.defb, HB.loop (((h3 ++ [(HB.box 1 [(V.sl 0 [] true)])]) ++ [(HB.row 21 1 [] true)])).length true [some (V.ptr s 0), some (V.int .i64 k), none, none, some (V.row ((h3 ++ [(HB.box 1 [(V.sl 0 [] true)])])).length 1 0 0), some (V.ptr (h3).length 0), none, some (V.ptr s 0), some v0, some (V.bool false), some (V.int .i64 k), some (V.bool (decide (k < 1))), some (V.bool (decide (k < 1))), some (V.bool false), some (V.int .i64 k), some (V.bool (decide (k > 8))), some (V.bool false), some (V.ptr s 0), some (V.int .i64 k), some v5, none, none, none, none, none, none, none, none, none] [20] (rfAs (bodyF f40)) (rfBd (bodyF f40)) .ready])) fun h9 => lpE ((h9)[((((h3 ++ [(HB.box 1 [(V.sl 0 [] true)])]) ++ [(HB.row 21 1 [] true)])).length + 1)]?) (
 (bd3 (cellsP ((h9).set ((((h3 ++ [(HB.box 1 [(V.sl 0 [] true)])]) ++ [(HB.row 21 1 [] true)])).length + 1) HB.dead) (V.ptr (h3).length 0)) fun cs11 m10 o12 => if (o12 + 1 <= m10 /\ 0 < 1) then
 (bd (cs11)[o12]? fun v13 =>
 (dfB ((((h9).set ((((h3 ++ [(HB.box 1 [(V.sl 0 [] true)])]) ++ [(HB.row 21 1 [] true)])).length + 1) HB.dead))[(((h3 ++ [(HB.box 1 [(V.sl 0 [] true)])]) ++ [(HB.row 21 1 [] true)])).length]?) (
 some (Res.ret [v13], ((((h9).set ((((h3 ++ [(HB.box 1 [(V.sl 0 [] true)])]) ++ [(HB.row 21 1 [] true)])).length + 1) HB.dead)).set (((h3 ++ [(HB.box 1 [(V.sl 0 [] true)])]) ++ [(HB.row 21 1 [] true)])).length HB.dead))))) else none)) (
 (dfB ((((h9).set ((((h3 ++ [(HB.box 1 [(V.sl 0 [] true)])]) ++ [(HB.row 21 1 [] true)])).length + 1) HB.dead))[(((h3 ++ [(HB.box 1 [(V.sl 0 [] true)])]) ++ [(HB.row 21 1 [] true)])).length]?) (
 some (Res.ret [(V.row ((h3 ++ [(HB.box 1 [(V.sl 0 [] true)])])).length 1 0 0)], ((((h9).set ((((h3 ++ [(HB.box 1 [(V.sl 0 [] true)])]) ++ [(HB.row 21 1 [] true)])).length + 1) HB.dead)).set (((h3 ++ [(HB.box 1 [(V.sl 0 [] true)])]) ++ [(HB.row 21 1 [] true)])).length HB.dead)))))) else none))) (fun z4 h3 => some (Res.pan z4, h3)))))))
theorem skipLevel_eq (n : Nat) (s : Nat) (k : Int) (h : Heap) : call (n + 1) 40 [(V.ptr s 0), (V.int .i64 k)] h = skipLevel n s k h := by kernel_rfl
noncomputable def isSorted_l1 (n : Nat) (l : V) (st2 : List V) (hh3 : Heap) (next4 : List V -> Heap -> Option (Res × Heap)) : Option (Res × Heap) :=
 (bd (bop prog .gtr 3 (gv st2 1) (V.int .i64 0)) fun v5 =>
 (bv v5 fun b6 => if b6 then
 (bdS (nv (gv st2 1)) fun n7 =>
 (bd (idxP 1 n7 l) fun p8 =>
 (bd3 (cellsP hh3 p8) fun cs10 m9 o11 => if (o11 + 1 <= m9 /\ 0 < 1) then
 (bd (cs10)[o11]? fun v12 =>
 (bd (bop prog .sub 3 (gv st2 1) (V.int .i64 1)) fun v13 =>
 (bdS (nv v13) fun n14 =>
 (bd (idxP 1 n14 l) fun p15 =>
 (bd3 (cellsP hh3 p15) fun cs17 m16 o18 => if (o18 + 1 <= m16 /\ 0 < 1) then
 (bd (cs17)[o18]? fun v19 =>
 (cl (call n 83 [v12, v19] hh3) (fun r20 h21 =>
 (one1 r20 fun v23 =>
 (bv v23 fun b24 => if b24 then
 some (Res.ret [(V.bool false)], h21)
 else
 (bd (bop prog .sub 3 (gv st2 1) (V.int .i64 1)) fun v25 =>
 (next4 [(gv st2 0), v25] h21))))) (fun z22 h21 => none))) else none))))) else none)))
 else
 some (Res.ret [(V.bool true)], hh3)))
noncomputable def isSorted (n : Nat) (l : V) (h : Heap) : Option (Res × Heap) :=
 (bd (slcH h l) fun p0 =>
 (loopx n (isSorted_l1 n l) [(V.bool false), (V.int .i64 (IntKind.i64.wrap (((p0.2).length : Int) - 1)))] h))
theorem isSorted_eq (n : Nat) (l : V) (h : Heap) : call (n + 1) 62 [l] h = isSorted n l h := by kernel_rfl
noncomputable def isNaN (n : Nat) (x0 : Int) (h : Heap) : Option (Res × Heap) :=
 some (Res.ret [(V.bool (x0 != x0))], h)
theorem isNaN_eq (n : Nat) (x0 : Int) (h : Heap) : call (n + 1) 89 [(V.int .i32 x0)] h = isNaN n x0 h := by kernel_rfl
noncomputable def cmpLess (n : Nat) (x0 : Int) (x1 : Int) (h : Heap) : Option (Res × Heap) :=
 (cl (call n 89 [(V.int .i32 x0)] h) (fun r0 h1 =>
 (one1 r0 fun v3 =>
 (bv v3 fun b4 => if b4 then
 (cl (call n 89 [(V.int .i32 x1)] h1) (fun r5 h6 =>
 (one1 r5 fun v8 =>
 (bd (uop .not v8) fun v9 =>
 (bv v9 fun b10 => if b10 then
 some (Res.ret [(V.bool true)], h6)
 else
 some (Res.ret [(V.bool (decide (x0 < x1)))], h6))))) (fun z7 h6 => some (Res.pan z7, h6)))
 else
 some (Res.ret [(V.bool (decide (x0 < x1)))], h1)))) (fun z2 h1 => some (Res.pan z2, h1)))
theorem cmpLess_eq (n : Nat) (x0 : Int) (x1 : Int) (h : Heap) : call (n + 1) 83 [(V.int .i32 x0), (V.int .i32 x1)] h = cmpLess n x0 x1 h := by kernel_rfl
noncomputable def cmpCompare (n : Nat) (x0 : Int) (x1 : Int) (h : Heap) : Option (Res × Heap) :=
 (cl (call n 89 [(V.int .i32 x0)] h) (fun r0 h1 =>
 (one1 r0 fun v3 =>
 (cl (call n 89 [(V.int .i32 x1)] h1) (fun r4 h5 =>
 (one1 r4 fun v7 =>
 (bv v3 fun b8 => if b8 then
 (bv v7 fun b9 => if b9 then
 some (Res.ret [(V.int .i64 0)], h5)
 else
 some (Res.ret [(V.int .i64 (-1))], h5))
 else
 (bv v7 fun b10 => if b10 then
 some (Res.ret [(V.int .i64 1)], h5)
 else
 (if (decide (x0 < x1)) then
 some (Res.ret [(V.int .i64 (-1))], h5)
 else
 (if (decide (x0 > x1)) then
 some (Res.ret [(V.int .i64 1)], h5)
 else
 some (Res.ret [(V.int .i64 0)], h5))))))) (fun z6 h5 => some (Res.pan z6, h5))))) (fun z2 h1 => some (Res.pan z2, h1)))
theorem cmpCompare_eq (n : Nat) (x0 : Int) (x1 : Int) (h : Heap) : call (n + 1) 82 [(V.int .i32 x0), (V.int .i32 x1)] h = cmpCompare n x0 x1 h := by kernel_rfl
end Go.Proofs.Try
set_option linter.unusedVariables false
set_option linter.unusedSimpArgs false
namespace Go.L
theorem rowOf_at {h : Heap} {b e sz lo hi : Nat} {l : List (List V)} {z : Bool} (hb : h[b]? = some (.row e sz l z)) (h1 : lo <= hi) (h2 : hi <= l.length) : rowOf h b sz lo hi = some ((l.take hi).drop lo) := by
  simp only [rowOf, hb]
  rw [if_pos ⟨trivial, h1, h2⟩]
theorem rowOf_all {h : Heap} {b e sz : Nat} {l : List (List V)} {z : Bool} (hb : h[b]? = some (.row e sz l z)) : rowOf h b sz 0 l.length = some l := by
  rw [rowOf_at hb (Nat.zero_le _) (Nat.le_refl _), List.take_length, List.drop_zero]
theorem slcH_row {h : Heap} {b e sz lo hi : Nat} {l : List (List V)} {z : Bool} (hb : h[b]? = some (.row e sz l z)) (h1 : lo <= hi) (h2 : hi <= l.length) : slcH h (.row b sz lo hi) = some (sz, (l.take hi).drop lo) := by
  simp only [slcH, rowOf_at hb h1 h2, Option.map_some]
theorem slcH_all {h : Heap} {b e sz : Nat} {l : List (List V)} {z : Bool} (hb : h[b]? = some (.row e sz l z)) : slcH h (.row b sz 0 l.length) = some (sz, l) := by
  simp only [slcH, rowOf_all hb, Option.map_some]
theorem lenP_row (b sz lo hi : Nat) : lenP (.row b sz lo hi) = some (hi - lo) := rfl
theorem sliceP_row {r sz u v a b : Nat} (h1 : a <= b) (h2 : b <= v - u) (ok : Bool) : sliceP sz a b none ok (.row r sz u v) = some (.row r sz (u + a) (u + b)) := by
  simp only [sliceP]
  rw [if_pos ⟨⟨h1, h2, trivial⟩, trivial⟩]
theorem idxP_row {b sz lo hi n : Nat} (h : n < hi - lo) : idxP sz n (.row b sz lo hi) = some (.rptr b sz (lo + n) 0) := by
  simp only [idxP]
  rw [if_pos ⟨trivial, h⟩]
theorem cellsP_rptr {h : Heap} {b e sz i c : Nat} {l : List (List V)} {z : Bool} {es : List V} (hb : h[b]? = some (.row e sz l z)) (h0 : 0 < sz) (hi : l[i]? = some es) : cellsP h (.rptr b sz i c) = some (es, sz, c) := by
  simp only [cellsP, hb]
  rw [if_pos ⟨trivial, h0⟩]
  simp only [hi]
theorem addP_rptr (k b sz i c : Nat) : addP k (.rptr b sz i c) = some (.rptr b sz i (c + k)) := rfl
theorem writeB_rptr {h : Heap} {b e sz i c : Nat} {l : List (List V)} {z : Bool} {es vs : List V} (hb : h[b]? = some (.row e sz l z)) (h0 : 0 < sz) (hc : c + vs.length <= sz) (hi : l[i]? = some es) : writeB h vs (.rptr b sz i c) = some (b, .row e sz (l.set i (setR es c vs)) z) := by
  simp only [writeB, hb]
  rw [if_pos ⟨trivial, h0, hc⟩]
  simp only [hi]
end Go.L
set_option linter.unusedVariables false
set_option linter.unusedSimpArgs false
namespace Go.L
theorem writeB_box {h : Heap} {b n o : Nat} {cs vs : List V} (hb : h[b]? = some (.box n cs)) (ho : o + vs.length <= n) : writeB h vs (.ptr b o) = some (b, .box n (setR cs o vs)) := by
  simp only [writeB, hb]
  rw [if_pos ho]
theorem get_part {α : Type} {l : List α} {lo hi i : Nat} (h : lo + i < hi) : ((l.take hi).drop lo)[i]? = l[lo + i]? := by
  rw [List.getElem?_drop, List.getElem?_take, if_pos h]
theorem set_at {h : Heap} {b : Nat} (hb : b < h.length) (x : HB) : (h.set b x)[b]? = some x := List.getElem?_set_self hb
theorem lt_of_at {h : Heap} {b : Nat} {x : HB} (hb : h[b]? = some x) : b < h.length := (List.getElem?_eq_some_iff.1 hb).1
end Go.L
namespace Go.Sk
open Go.L
def hgt : Nat -> List Bool -> Nat × List Bool
  | n, [] => (n, [])
  | n, b :: r => if n = 8 then (n, b :: r) else if b then hgt (n + 1) r else (n, r)
def boolV (x : Bool) : List V := [.bool x]
theorem hgt_pos : ∀ (l : List Bool) (n : Nat), 1 <= n -> n <= 8 -> 1 <= (hgt n l).1 /\ (hgt n l).1 <= 8
  | [], n, h1, h2 => ⟨h1, h2⟩
  | b :: r, n, h1, h2 => by
    simp only [hgt]
    split
    · exact ⟨h1, h2⟩
    · split
      · exact hgt_pos r (n + 1) (by omega) (by omega)
      · exact ⟨h1, h2⟩
end Go.Sk
namespace Go.Proofs.Try
open Go.L Go.Rp Go.Sk
set_option maxRecDepth 100000
def BitsAt (h : Heap) (c : Nat) (cb : Option Nat) (bits : List Bool) : Prop := match cb with
  | none => bits = [] /\ h[c]? = some (.box 1 [.sl 0 [] true])
  | some b => b ≠ c /\ ∃ lo l z, h[c]? = some (.box 1 [.row b 1 lo (lo + bits.length)]) /\ h[b]? = some (.row 4 1 l z) /\ lo + bits.length <= l.length /\ (l.take (lo + bits.length)).drop lo = bits.map boolV
theorem BitsAt.keep {h h' : Heap} {c : Nat} {cb : Option Nat} {bits : List Bool} (hb : BitsAt h c cb bits) (hc : h'[c]? = h[c]?) (hk : ∀ b, cb = some b -> h'[b]? = h[b]?) : BitsAt h' c cb bits := by
  cases cb with
  | none => exact ⟨hb.1, hc.trans hb.2⟩
  | some b =>
    obtain ⟨h1, lo, l, z, h2, h3, h4⟩ := hb
    exact ⟨h1, lo, l, z, hc.trans h2, (hk b rfl).trans h3, h4⟩
theorem bop_coin_nil (h : Heap) (c : Nat) : bopH prog h .eql 28 (V.ptr c 0) (V.val (.pointer none)) = some (.bool false) := by kernel_rfl
theorem left_call (n : Nat) {h : Heap} {c : Nat} {cb : Option Nat} {bits : List Bool} (hb : BitsAt h c cb bits) : call (n + 1) 20 [.ptr c 0] h = some (.ret [.int .i64 (bits.length : Int)], h) := by
  refine (coinLeft_eq n c h).trans ?_
  unfold coinLeft
  rw [bop_coin_nil, bd_some, bv_bool, if_neg (by decide)]
  cases cb with
  | none =>
    obtain ⟨rfl, hc⟩ := hb
    rw [cellsP_box hc, bd3_some, if_pos (by decide)]
    rfl
  | some b =>
    obtain ⟨h1, lo, l, z, h2, h3, h4, h5⟩ := hb
    rw [cellsP_box h2, bd3_some, if_pos (by decide)]
    simp only [List.getElem?_cons_zero, bd_some]
    rw [slcH_row h3 (by omega) h4, bd_some, h5]
    simp
theorem toss_call (n : Nat) {h : Heap} {c : Nat} {cb : Option Nat} {bits : List Bool} (hb : BitsAt h c cb bits) :
    ∃ h', call (n + 2) 39 [.ptr c 0] h = some (.ret [.bool (bits.headD false)], h') /\ BitsAt h' c cb bits.tail /\ h'.length = h.length /\ ∀ i, i ≠ c -> h'[i]? = h[i]? := by
  rw [show n + 2 = (n + 1) + 1 from rfl, coinToss_eq]
  unfold coinToss
  rw [left_call n hb, cl_ret, one1_one, bop_i64_eql, bd_some, bv_bool]
  cases bits with
  | nil =>
    rw [if_pos (by rfl)]
    exact ⟨h, rfl, hb, rfl, fun _ _ => rfl⟩
  | cons x r =>
    rw [if_neg (by simp; omega)]
    cases cb with
    | none => exact absurd hb.1 (by simp)
    | some b =>
      obtain ⟨h1, lo, l, z, h2, h3, h4, h5⟩ := hb
      have hx : l[lo]? = some [.bool x] := by
        have := get_part (l := l) (lo := lo) (hi := lo + (x :: r).length) (i := 0) (by simp)
        rw [h5] at this
        simpa [boolV] using this.symm
      have hr : (l.take (lo + 1 + r.length)).drop (lo + 1) = r.map boolV := by
        have : ((l.take (lo + (x :: r).length)).drop lo).drop 1 = r.map boolV := by rw [h5]; rfl
        rw [List.drop_drop] at this
        rw [show lo + 1 + r.length = lo + (x :: r).length by simp; omega]
        exact this
      have hs : sliceP 1 1 (x :: r).length none true (.row b 1 lo (lo + (x :: r).length)) = some (.row b 1 (lo + 1) (lo + 1 + r.length)) := by
        rw [sliceP_row (by simp) (by omega)]
        congr 2
        simp; omega
      have hcl := lt_of_at h2
      rw [cellsP_box h2, bd3_some, if_pos (by decide)]
      simp only [List.getElem?_cons_zero, bd_some]
      rw [idxP_row (by simp), bd_some, Nat.add_zero, cellsP_rptr h3 (by decide) hx, bd3_some, if_pos (by decide)]
      simp only [List.getElem?_cons_zero, bd_some]
      rw [bd3_some, if_pos (by decide)]
      simp only [List.getElem?_cons_zero, bd_some]
      rw [lenP_row, bd_some, Nat.add_sub_cancel_left, hs, bd_some]
      simp only [V.cells, List.length_cons, List.length_nil, Nat.zero_add, if_true]
      rw [writeB_box h2 (by simp), bd2_some]
      refine ⟨_, rfl, ⟨h1, lo + 1, l, z, ?_, ?_, ?_, hr⟩, by rw [List.length_set], fun i hi => List.getElem?_set_ne (Ne.symm hi)⟩
      · rw [set_at hcl]; rfl
      · rw [List.getElem?_set_ne (Ne.symm h1)]; exact h3
      · simp at h4 ⊢; omega
theorem height_loop (n : Nat) {c : Nat} {cb : Option Nat} : ∀ (bits : List Bool) (k N : Nat) (h : Heap), BitsAt h c cb bits -> 1 <= k -> k <= 8 -> 8 < N + k →
    ∃ h', loopx N (coinHeight_l0 (n + 2) c) [.int .i64 (k : Int)] h = some (.ret [.int .i64 ((hgt k bits).1 : Int)], h') /\ BitsAt h' c cb (hgt k bits).2 /\ h'.length = h.length /\ ∀ i, i ≠ c -> h'[i]? = h[i]? := by
  intro bits
  induction bits with
  | nil =>
    intro k N h hb h1 h2 hN
    obtain ⟨N, rfl⟩ : ∃ N', N = N' + 1 := ⟨N - 1, by omega⟩
    rw [loopx_succ]
    unfold coinHeight_l0
    simp only [gv, List.getD_cons_zero, bop_i64_eql, bd_some, bv_bool]
    by_cases h8 : k = 8
    · subst h8
      exact ⟨h, rfl, hb, rfl, fun _ _ => rfl⟩
    · rw [if_neg (by simp; omega)]
      obtain ⟨h', e, b1, b2, b3⟩ := toss_call n hb
      rw [e, cl_ret, one1_one]
      exact ⟨h', rfl, b1, b2, b3⟩
  | cons x r ih =>
    intro k N h hb h1 h2 hN
    obtain ⟨N, rfl⟩ : ∃ N', N = N' + 1 := ⟨N - 1, by omega⟩
    rw [loopx_succ]
    unfold coinHeight_l0
    simp only [gv, List.getD_cons_zero, bop_i64_eql, bd_some, bv_bool]
    by_cases h8 : k = 8
    · subst h8
      exact ⟨h, rfl, by simpa [hgt] using hb, rfl, fun _ _ => rfl⟩
    · rw [if_neg (by simp; omega)]
      obtain ⟨h', e, b1, b2, b3⟩ := toss_call n hb
      rw [e, cl_ret, one1_one]
      simp only [hgt, if_neg h8]
      cases x with
      | false => exact ⟨h', rfl, b1, b2, b3⟩
      | true =>
        simp only [List.headD_cons, uop_not, Bool.not_true, bd_some, bv_bool, Bool.false_eq_true, if_false, bop_i64_add, if_true]
        rw [step64 (show k < lim by unfold lim; omega)]
        obtain ⟨h'', e', d1, d2, d3⟩ := ih (k + 1) N h' b1 (by omega) (by omega) (by omega)
        exact ⟨h'', e', d1, d2.trans b2, fun i hi => (d3 i hi).trans (b3 i hi)⟩
theorem height_call (n : Nat) {h : Heap} {c : Nat} {cb : Option Nat} {bits : List Bool} (hb : BitsAt h c cb bits) (hn : 8 <= n) :
    ∃ h', call (n + 3) 19 [.ptr c 0] h = some (.ret [.int .i64 ((hgt 1 bits).1 : Int)], h') /\ BitsAt h' c cb (hgt 1 bits).2 /\ h'.length = h.length /\ ∀ i, i ≠ c -> h'[i]? = h[i]? := by
  rw [show n + 3 = (n + 2) + 1 from rfl, coinHeight_eq]
  unfold coinHeight
  exact height_loop n bits 1 (n + 2) h hb (Nat.le_refl _) (by omega) (by omega)
def bitAt (y : Int) (i : Nat) : Bool := decide (y.toNat / 2 ^ i % 2 = 1)
def bitsOf (y : Int) : List Bool := (List.range 8).map (bitAt y)
theorem bop_u8_shr (a : Int) (i : Nat) (hi : i <= 8) : bop prog .shr 5 (.int .u8 a) (.int .i64 (i : Int)) = some (.int .u8 (a.fdiv (2 ^ i))) := by
  have e : bop prog .shr 5 (.int .u8 a) (.int .i64 (i : Int)) = bopS .shr .u8 a (i : Int) := by kernel_rfl
  rw [e]
  unfold bopS
  rw [if_neg (by omega)]
  simp only [Int.toNat_natCast]
  rw [Nat.min_eq_left (by exact hi)]
theorem bop_u8_and (a : Int) : bop prog .and 5 (.int .u8 a) (.int .u8 1) = some (.int .u8 (IntKind.u8.wrap (BitVec.ofInt 8 a &&& BitVec.ofInt 8 1).toNat)) := by kernel_rfl
theorem and1 : ∀ m : Fin 256, IntKind.u8.wrap ((BitVec.ofInt 8 (m.val : Int) &&& BitVec.ofInt 8 1).toNat : Int) = ((m.val % 2 : Nat) : Int) := by decide +kernel
theorem bop_u8_eql1 (a : Int) : bop prog .eql 5 (.int .u8 a) (.int .u8 1) = some (.bool (a == 1)) := by kernel_rfl
theorem bit_word {y : Int} (h0 : 0 <= y) (h1 : y < 256) (i : Nat) : (IntKind.u8.wrap (BitVec.ofInt 8 (y.fdiv (2 ^ i)) &&& BitVec.ofInt 8 1).toNat == (1 : Int)) = bitAt y i := by
  obtain ⟨m, rfl⟩ : ∃ m : Nat, y = (m : Int) := ⟨y.toNat, (Int.toNat_of_nonneg h0).symm⟩
  have hp : ((2 : Int) ^ i) = ((2 ^ i : Nat) : Int) := by simp
  have hf : (m : Int).fdiv (2 ^ i) = ((m / 2 ^ i : Nat) : Int) := by rw [hp, Int.fdiv_eq_ediv_of_nonneg _ (Int.natCast_nonneg _)]; rfl
  have hlt : m / 2 ^ i < 256 := Nat.lt_of_le_of_lt (Nat.div_le_self _ _) (by omega)
  have := and1 ⟨m / 2 ^ i, hlt⟩
  simp only at this
  rw [hf, this]
  unfold bitAt
  rw [Int.toNat_natCast]
  by_cases h : m / 2 ^ i % 2 = 1
  · simp [h]
  · have h' : m / 2 ^ i % 2 = 0 := by omega
    simp [h']
theorem bsl_bool (b : Bool) : bslV prog 74 1 [(0, .bool b)] = some (1, [[.bool b]]) := by kernel_rfl
structure Fed (h h' : Heap) (c : Nat) (cb cb' : Option Nat) : Prop where
  len : h.length <= h'.length
  old : ∀ i, i < h.length -> i ≠ c -> cb ≠ some i -> h'[i]? = h[i]?
  own : ∀ b, cb' = some b -> cb = some b \/ h.length <= b
theorem Fed.refl (h : Heap) (c : Nat) (cb : Option Nat) : Fed h h c cb cb := ⟨Nat.le_refl _, fun _ _ _ _ => rfl, fun _ h => .inl h⟩
theorem Fed.trans {h h' h'' : Heap} {c : Nat} {cb cb' cb'' : Option Nat} (a : Fed h h' c cb cb') (b : Fed h' h'' c cb' cb'') : Fed h h'' c cb cb'' :=
  ⟨Nat.le_trans a.len b.len, fun i h1 h2 h3 => (b.old i (by have := a.len; omega) h2 fun e => by rcases a.own i e with h | h; exact h3 h; omega).trans (a.old i h1 h2 h3), fun x hx => by
    rcases b.own x hx with h | h
    · exact a.own x h
    · exact .inr (by have := a.len; omega)⟩
theorem feed_bit (n : Nat) {h : Heap} {c : Nat} {cb : Option Nat} {bits : List Bool} (hb : BitsAt h c cb bits) (st4 : List V) (next6 next18 : List V -> Heap -> Option (Res × Heap)) {y : Int} (y0 : 0 <= y) (y1 : y < 256) (i : Nat) (hi : i < 8) (hl : bits.length < 20000) :
    ∃ h' cb', coinFeed_l15 n c st4 next6 (.int .u8 y) [.int .i64 (i : Int)] h next18 = next18 [.int .i64 ((i + 1 : Nat) : Int)] h' /\ BitsAt h' c cb' (bits ++ [bitAt y i]) /\ Fed h h' c cb cb' := by
  have hlt : decide ((i : Int) < 8) = true := by simp; omega
  have w1 := bop_u8_shr y i (by omega)
  have w2 := bit_word y0 y1 i
  have hne : (((bits.length : Nat) : Int) == 20000) = false := by simp; omega
  unfold coinFeed_l15
  simp only [gv, List.getD_cons_zero, bop_i64_lss, bd_some, bv_bool, hlt, if_true]
  cases cb with
  | none =>
    obtain ⟨rfl, hc⟩ := hb
    have hcl := lt_of_at hc
    rw [cellsP_box hc, bd3_some, if_pos (by decide)]
    simp only [List.getElem?_cons_zero, bd_some]
    rw [slcH_sl, bd_some, if_neg (by decide), bd3_some, if_pos (by decide)]
    simp only [List.getElem?_cons_zero, bd_some]
    rw [w1, bd_some, bop_u8_and, bd_some, bop_u8_eql1, bd_some, w2, bsl_bool, bd_some]
    have happ : appP 4 1 h [[.bool (bitAt y i)]] (.sl 0 [] true) = some (.row h.length 1 0 1, h ++ [.row 4 1 [[.bool (bitAt y i)]] true]) := rfl
    simp only [happ, bd2_some, V.cells, List.length_cons, List.length_nil, Nat.zero_add, if_true]
    have hc' : (h ++ [HB.row 4 1 [[.bool (bitAt y i)]] true])[c]? = some (.box 1 [.sl 0 [] true]) := by rw [List.getElem?_append_left hcl]; exact hc
    rw [writeB_box hc' (by simp), bd2_some, bop_i64_add, bd_some, step64 (show i < lim by unfold lim; omega)]
    refine ⟨_, some h.length, rfl, ⟨by omega, 0, [[.bool (bitAt y i)]], true, ?_, ?_, ?_, ?_⟩, ⟨by simp, fun j h1 h2 h3 => ?_, fun b hb => .inr (by cases hb; exact Nat.le_refl _)⟩⟩
    · rw [set_at (by simp; omega)]; rfl
    · rw [List.getElem?_set_ne (by omega)]; exact List.getElem?_concat_length
    · simp
    · simp [boolV]
    · rw [List.getElem?_set_ne (by omega), List.getElem?_append_left h1]
  | some b =>
    obtain ⟨h1, lo, l, z, h2, h3, h4, h5⟩ := hb
    have hcl := lt_of_at h2
    have hbl := lt_of_at h3
    rw [cellsP_box h2, bd3_some, if_pos (by decide)]
    simp only [List.getElem?_cons_zero, bd_some]
    rw [slcH_row h3 (by omega) h4, bd_some, h5]
    simp only [List.length_map, hne, Bool.false_eq_true, if_false]
    rw [bd3_some, if_pos (by decide)]
    simp only [List.getElem?_cons_zero, bd_some]
    rw [w1, bd_some, bop_u8_and, bd_some, bop_u8_eql1, bd_some, w2, bsl_bool, bd_some]
    have happ : appP 4 1 h [[.bool (bitAt y i)]] (.row b 1 lo (lo + bits.length)) = some (.row h.length 1 0 (bits.length + 1), h.set b .dead ++ [.row 4 1 (bits.map boolV ++ [[.bool (bitAt y i)]]) (z && lo == 0)]) := by
      simp only [appP, h3]
      rw [if_pos (by refine ⟨⟨?_, ?_, ?_⟩, ⟨by omega, h4⟩, by simp [lim]; omega⟩ <;> first | trivial | rfl), h5, Nat.add_sub_cancel_left]
      rfl
    simp only [happ, bd2_some, V.cells, List.length_cons, List.length_nil, Nat.zero_add, if_true]
    have hc' : (h.set b .dead ++ [HB.row 4 1 (bits.map boolV ++ [[.bool (bitAt y i)]]) (z && lo == 0)])[c]? = some (.box 1 [.row b 1 lo (lo + bits.length)]) := by
      rw [List.getElem?_append_left (by rw [List.length_set]; exact hcl), List.getElem?_set_ne h1]; exact h2
    rw [writeB_box hc' (by simp), bd2_some, bop_i64_add, bd_some, step64 (show i < lim by unfold lim; omega)]
    refine ⟨_, some h.length, rfl, ⟨by omega, 0, (bits.map boolV ++ [[.bool (bitAt y i)]]), (z && (lo == 0)), ?_, ?_, ?_, ?_⟩, ⟨by simp, fun j h1 h2 h3 => ?_, fun b hb => .inr (by cases hb; exact Nat.le_refl _)⟩⟩
    · rw [set_at (by simp; omega)]; simp [setR]
    · rw [List.getElem?_set_ne (by omega)]
      have : h.length = (h.set b .dead).length := by rw [List.length_set]
      rw [this]; exact List.getElem?_concat_length
    · simp
    · simp [boolV, List.take_of_length_le]
    · rw [List.getElem?_set_ne (by omega), List.getElem?_append_left (by rw [List.length_set]; exact h1), List.getElem?_set_ne (fun e => h3 (by rw [e]))]
theorem feed_byte (n : Nat) {c : Nat} (st4 : List V) (next6 : List V -> Heap -> Option (Res × Heap)) {y : Int} (y0 : 0 <= y) (y1 : y < 256) : ∀ (d i N : Nat) (h : Heap) (cb : Option Nat) (bits : List Bool), BitsAt h c cb bits -> i + d = 8 -> d < N -> bits.length + d <= 20000 →
    ∃ h' cb', loopx N (coinFeed_l15 n c st4 next6 (.int .u8 y)) [.int .i64 (i : Int)] h = next6 [.int .i64 (IntKind.i64.wrap ((match gv st4 0 with | .int _ k => k | _ => 0) + 1))] h' /\ BitsAt h' c cb' (bits ++ ((List.range 8).drop i).map (bitAt y)) /\ Fed h h' c cb cb' \/ (∀ k, gv st4 0 ≠ .int .i64 k) := by
  intro d
  induction d with
  | zero =>
    intro i N h cb bits hb h1 h2 h3
    obtain ⟨N, rfl⟩ : ∃ N', N = N' + 1 := ⟨N - 1, by omega⟩
    obtain rfl : i = 8 := by omega
    rcases Classical.em (∃ k, gv st4 0 = .int .i64 k) with ⟨k, hk⟩ | hk
    · refine ⟨h, cb, .inl ⟨?_, by rw [show (List.range 8).drop 8 = [] from rfl]; simpa using hb, .refl _ _ _⟩⟩
      rw [loopx_succ]
      unfold coinFeed_l15
      have hg : gv [V.int .i64 ((8 : Nat) : Int)] 0 = .int .i64 8 := rfl
      rw [hg, bop_i64_lss, bd_some, bv_bool, if_neg (by decide), hk, bop_i64_add, bd_some]
    · exact ⟨h, cb, .inr fun k e => hk ⟨k, e⟩⟩
  | succ d ih =>
    intro i N h cb bits hb h1 h2 h3
    obtain ⟨N, rfl⟩ : ∃ N', N = N' + 1 := ⟨N - 1, by omega⟩
    obtain ⟨h', cb', e, b1, b2⟩ := feed_bit n hb st4 next6 (loopx N (coinFeed_l15 n c st4 next6 (.int .u8 y))) y0 y1 i (by omega) (by omega)
    obtain ⟨h'', cb'', e' | e'⟩ := ih (i + 1) N h' cb' (bits ++ [bitAt y i]) b1 (by omega) (by omega) (by rw [List.length_append, List.length_cons, List.length_nil]; omega)
    · obtain ⟨e', d1, d2⟩ := e'
      refine ⟨h'', cb'', .inl ⟨?_, ?_, b2.trans d2⟩⟩
      · rw [loopx_succ, e]; exact e'
      · have hd : (List.range 8).drop i = i :: (List.range 8).drop (i + 1) := by
          rw [List.drop_eq_getElem_cons (by simp; omega)]; simp
        rw [hd, List.map_cons]
        rwa [List.append_assoc] at d1
    · exact ⟨h'', cb'', .inr e'⟩
theorem feed_loop (n : Nat) {c : Nat} (bs : List Int) (bb : Bool) (hs : small bs = true) (hn : 8 < n) (hlim : bs.length < lim) : ∀ (d k N : Nat) (h : Heap) (cb : Option Nat) (bits : List Bool), BitsAt h c cb bits -> k + d = bs.length -> d < N -> bits.length + 8 * d <= 20000 →
    ∃ h' cb', loopx N (coinFeed_l3 n c (.sl 1 (bs.map (intV .u8)) bb) (1, bs.map (intV .u8))) [.int .i64 (k : Int)] h = some (.ret [], h') /\ BitsAt h' c cb' (bits ++ (bs.drop k).flatMap bitsOf) /\ Fed h h' c cb cb' := by
  intro d
  induction d with
  | zero =>
    intro k N h cb bits hb h1 h2 h3
    obtain ⟨N, rfl⟩ : ∃ N', N = N' + 1 := ⟨N - 1, by omega⟩
    refine ⟨h, cb, ?_, by rw [List.drop_of_length_le (by omega)]; simpa using hb, .refl _ _ _⟩
    rw [loopx_succ]
    unfold coinFeed_l3
    simp only [gv, List.getD_cons_zero, List.length_map, bop_i64_lss, bd_some, bv_bool]
    rw [if_neg (by simp; omega)]
  | succ d ih =>
    intro k N h cb bits hb h1 h2 h3
    obtain ⟨N, rfl⟩ : ∃ N', N = N' + 1 := ⟨N - 1, by omega⟩
    obtain ⟨y, hy⟩ : ∃ y, bs[k]? = some y := ⟨_, List.getElem?_eq_getElem (by omega)⟩
    have hyv : (bs.map (intV .u8))[k]? = some [.int .u8 y] := by rw [get_ints, hy]; rfl
    have hyb : 0 <= y /\ y < 256 := by
      unfold small at hs
      have := List.all_eq_true.1 hs y (List.mem_of_getElem? hy)
      simp at this
      omega
    have hlt : decide ((k : Int) < (bs.length : Int)) = true := by simp; omega
    obtain ⟨h', cb', e | e⟩ := feed_byte n (c := c) [.int .i64 (k : Int)] (loopx N (coinFeed_l3 n c (.sl 1 (bs.map (intV .u8)) bb) (1, bs.map (intV .u8)))) hyb.1 hyb.2 8 0 n h cb bits hb (by omega) hn (by omega)
    · obtain ⟨e, b1, b2⟩ := e
      obtain ⟨h'', cb'', e', d1, d2⟩ := ih (k + 1) N h' cb' _ b1 (by omega) (by omega) (by simp; omega)
      refine ⟨h'', cb'', ?_, ?_, b2.trans d2⟩
      · have key : ∀ next, coinFeed_l3 n c (.sl 1 (bs.map (intV .u8)) bb) (1, bs.map (intV .u8)) [.int .i64 (k : Int)] h next = loopx n (coinFeed_l15 n c [.int .i64 (k : Int)] next (.int .u8 y)) [.int .i64 ((0 : Nat) : Int)] h := by
          intro next
          unfold coinFeed_l3
          simp only [gv, List.getD_cons_zero, List.length_map, bop_i64_lss, bd_some, bv_bool, hlt, if_true, nv_nat, bdS_some, idxP_sl hyv, cellsP_iptr, bd3_some, Nat.zero_add, Nat.le_refl, Nat.reduceLT, and_self, List.getElem?_cons_zero]
          rfl
        rw [loopx_succ, key]
        refine e.trans ?_
        simp only [gv, List.getD_cons_zero]
        rw [step64 (show k < lim by omega)]
        exact e'
      · have hd : bs.drop k = y :: bs.drop (k + 1) := by
          rw [List.drop_eq_getElem_cons (by omega)]
          rw [List.getElem?_eq_getElem (by omega)] at hy
          rw [Option.some.inj hy]
        rw [hd, List.flatMap_cons]
        rw [List.append_assoc] at d1
        exact d1
    · exact absurd rfl (e (k : Int))
theorem feed_call (n : Nat) {h : Heap} {c : Nat} {cb : Option Nat} {bits : List Bool} (hb : BitsAt h c cb bits) (bs : List Int) (bb : Bool) (hs : small bs = true) (hl : bits.length + 8 * bs.length <= 20000) (hn : bs.length + 8 < n) :
    ∃ h' cb', call (n + 1) 17 [.ptr c 0, .sl 1 (bs.map (intV .u8)) bb] h = some (.ret [], h') /\ BitsAt h' c cb' (bits ++ bs.flatMap bitsOf) /\ Fed h h' c cb cb' := by
  obtain ⟨h', cb', e, b1, b2⟩ := feed_loop n bs bb hs (by omega) (by unfold lim; omega) bs.length 0 n h cb bits hb (by omega) (by omega) hl
  refine ⟨h', cb', (coinFeed_eq n c _ h).trans ?_, b1, b2⟩
  unfold coinFeed
  rw [bop_coin_nil, bd_some, bv_bool, if_neg (by decide), slcH_sl, bd_some]
  exact e
theorem coin_new_call (n : Nat) (h : Heap) : call (n + 1) 16 [] h = some (.ret [.ptr h.length 0], h ++ [.box 1 [.sl 0 [] true]]) := coinNew_eq n h
end Go.Proofs.Try
set_option linter.unusedVariables false
set_option linter.unusedSimpArgs false
namespace Go.Sk
open Go.L
structure Tw where
  b : Nat
  v : Int
  ht : Nat
def nilP : V := .val (.pointer none)
def fst? (k : Nat) (ts : List Tw) : Option Tw := ts.find? fun t => decide (k < t.ht)
def nx (k : Nat) (ts : List Tw) : V := match fst? k ts with | some t => .ptr t.b 0 | none => nilP
def posB (s : Nat) (ts : List Tw) : Nat -> Nat
  | 0 => s
  | i + 1 => (ts.getD i ⟨0, 0, 0⟩).b
def OnLev (ts : List Tw) (k : Nat) : Nat -> Prop
  | 0 => True
  | i + 1 => ∃ t, ts[i]? = some t /\ k < t.ht
def lastP (ts : List Tw) (k : Nat) : Nat -> Nat
  | 0 => 0
  | j + 1 => if k < (ts.getD j ⟨0, 0, 0⟩).ht then j + 1 else lastP ts k j
theorem lastP_le (ts : List Tw) (k : Nat) : ∀ j, lastP ts k j <= j
  | 0 => Nat.le_refl _
  | j + 1 => by
    simp only [lastP]
    split
    · exact Nat.le_refl _
    · exact Nat.le_succ_of_le (lastP_le ts k j)
theorem getD_some {ts : List Tw} {i : Nat} {t : Tw} (h : ts[i]? = some t) : ts.getD i ⟨0, 0, 0⟩ = t := by rw [List.getD_eq_getElem?_getD, h]; rfl
theorem lastP_on (ts : List Tw) (k : Nat) : ∀ j, j <= ts.length -> OnLev ts k (lastP ts k j)
  | 0, _ => trivial
  | j + 1, h => by
    simp only [lastP]
    obtain ⟨t, ht⟩ : ∃ t, ts[j]? = some t := ⟨_, List.getElem?_eq_getElem (by omega)⟩
    rw [getD_some ht]
    split
    · rename_i hk; exact ⟨t, ht, hk⟩
    · exact lastP_on ts k j (by omega)
theorem lastP_none (ts : List Tw) (k : Nat) : ∀ j i t, lastP ts k j <= i -> i < j -> ts[i]? = some t -> ¬ k < t.ht
  | 0, i, t, h1, h2, _ => by omega
  | j + 1, i, t, h1, h2, ht => by
    simp only [lastP] at h1
    split at h1
    · omega
    · rename_i hk
      rcases Nat.lt_or_ge i j with h3 | h3
      · exact lastP_none ts k j i t h1 h3 ht
      · obtain rfl : i = j := by omega
        rw [getD_some ht] at hk; exact hk
theorem lastP_of {ts : List Tw} {k i : Nat} (hon : OnLev ts k i) : ∀ j, i <= j -> j <= ts.length -> (∀ m t, i <= m -> m < j -> ts[m]? = some t -> ¬ k < t.ht) -> lastP ts k j = i
  | 0, h, _, _ => by simp only [lastP]; omega
  | j + 1, h, hl, hn => by
    obtain ⟨t, ht⟩ : ∃ t, ts[j]? = some t := ⟨_, List.getElem?_eq_getElem (by omega)⟩
    simp only [lastP, getD_some ht]
    rcases Nat.lt_or_ge j i with h3 | h3
    · obtain rfl : i = j + 1 := by omega
      obtain ⟨t', ht', hk⟩ := hon
      rw [ht] at ht'; cases ht'
      rw [if_pos hk]
    · rw [if_neg (hn j t h3 (by omega) ht)]
      exact lastP_of hon j h3 (by omega) fun m t h1 h2 => hn m t h1 (by omega)
theorem fst_drop {k : Nat} {ts : List Tw} : ∀ (i : Nat), (fst? k (ts.drop i) = none /\ ∀ m t, i <= m -> ts[m]? = some t -> ¬ k < t.ht) \/ ∃ m t, i <= m /\ ts[m]? = some t /\ k < t.ht /\ fst? k (ts.drop i) = some t /\ ∀ m' t', i <= m' -> m' < m -> ts[m']? = some t' -> ¬ k < t'.ht := by
  intro i
  obtain ⟨d, hd⟩ : ∃ d, d + i = ts.length \/ (d = 0 /\ ts.length <= i) := ⟨ts.length - i, by omega⟩
  induction d generalizing i with
  | zero =>
    left
    have hi : ts.length <= i := by omega
    refine ⟨by rw [List.drop_of_length_le hi]; rfl, fun m t h1 h2 => ?_⟩
    have := (List.getElem?_eq_some_iff.1 h2).1
    omega
  | succ d ih =>
    have hi : i < ts.length := by omega
    obtain ⟨t, ht⟩ : ∃ t, ts[i]? = some t := ⟨_, List.getElem?_eq_getElem hi⟩
    have hdr : ts.drop i = t :: ts.drop (i + 1) := by rw [List.drop_eq_getElem_cons hi]; congr 1; rw [List.getElem?_eq_getElem hi] at ht; exact Option.some.inj ht
    by_cases hk : k < t.ht
    · right
      exact ⟨i, t, Nat.le_refl _, ht, hk, by rw [hdr]; simp [fst?, hk], fun m' t' h1 h2 => by omega⟩
    · rcases ih (i + 1) (by omega) with ⟨h1, h2⟩ | ⟨m, t', h1, h2, h3, h4, h5⟩
      · left
        refine ⟨by rw [hdr]; simpa [fst?, hk] using h1, fun m t' h3 h4 => ?_⟩
        rcases Nat.lt_or_ge i m with h | h
        · exact h2 m t' h h4
        · obtain rfl : m = i := by omega
          rw [ht] at h4; cases h4; exact hk
      · right
        refine ⟨m, t', by omega, h2, h3, by rw [hdr]; simpa [fst?, hk] using h4, fun m' t'' h6 h7 h8 => ?_⟩
        rcases Nat.lt_or_ge i m' with h | h
        · exact h5 m' t'' h h7 h8
        · obtain rfl : m' = i := by omega
          rw [ht] at h8; cases h8; exact hk
abbrev Nx := Nat -> Nat -> V
structure Linked (s : Nat) (ts : List Tw) (N : Nx) : Prop where
  hd : ∀ k, k < 8 -> N s k = nx k ts
  tw : ∀ (i : Nat) t k, ts[i]? = some t -> k < 8 -> N t.b k = if k < t.ht then nx k (ts.drop (i + 1)) else nilP
theorem Linked.at_ {s : Nat} {ts : List Tw} {N : Nx} (h : Linked s ts N) {k i : Nat} (hk : k < 8) (hi : OnLev ts k i) : N (posB s ts i) k = nx k (ts.drop i) := by
  cases i with
  | zero => exact h.hd k hk
  | succ i =>
    obtain ⟨t, ht, hkt⟩ := hi
    have := h.tw i t k ht hk
    rw [if_pos hkt] at this
    simp only [posB, getD_some ht]
    exact this
def updN (N : Nx) (b k : Nat) (x : V) : Nx := fun b' k' => if b' = b /\ k' = k then x else N b' k'
def upTo (ts : List Tw) (v : Int) : Nat := (ts.takeWhile fun t => decide (t.v <= v)).length
def Rise (ts : List Tw) : Prop := ts.Pairwise fun a b => a.v <= b.v
theorem upTo_le (ts : List Tw) (v : Int) : upTo ts v <= ts.length := (List.takeWhile_prefix _).length_le
theorem upTo_iff {ts : List Tw} (hr : Rise ts) (v : Int) {i : Nat} {t : Tw} (ht : ts[i]? = some t) : i < upTo ts v ↔ t.v <= v := by
  unfold upTo
  induction ts generalizing i with
  | nil => simp at ht
  | cons a ts ih =>
    have hr' := List.pairwise_cons.1 hr
    rw [List.takeWhile_cons]
    cases i with
    | zero =>
      obtain rfl : a = t := by simpa using ht
      by_cases h : a.v <= v
      · simp [h]
      · simp [h]
    | succ i =>
      have hm := hr'.1 t (List.mem_of_getElem? ht)
      by_cases h : a.v <= v
      · simp only [h, decide_true, if_true, List.length_cons, Nat.succ_lt_succ_iff]
        exact ih hr'.2 ht
      · simp only [h, decide_false, Bool.false_eq_true, if_false, List.length_nil, Nat.not_lt_zero, false_iff]
        omega
def ins (ts : List Tw) (j : Nat) (u : Tw) : List Tw := ts.take j ++ u :: ts.drop j
theorem ins_lt {ts : List Tw} {j : Nat} {u : Tw} (hj : j <= ts.length) {i : Nat} (h : i < j) : (ins ts j u)[i]? = ts[i]? := by
  unfold ins
  rw [List.getElem?_append_left (by rw [List.length_take]; omega), List.getElem?_take, if_pos h]
theorem ins_at {ts : List Tw} {j : Nat} {u : Tw} (hj : j <= ts.length) : (ins ts j u)[j]? = some u := by
  unfold ins
  rw [List.getElem?_append_right (by rw [List.length_take]; omega), List.length_take, Nat.min_eq_left hj, Nat.sub_self]
  rfl
theorem ins_gt {ts : List Tw} {j : Nat} {u : Tw} (hj : j <= ts.length) {i : Nat} (h : j <= i) : (ins ts j u)[i + 1]? = ts[i]? := by
  unfold ins
  rw [List.getElem?_append_right (by rw [List.length_take]; omega), List.length_take, Nat.min_eq_left hj, show i + 1 - j = (i - j) + 1 by omega, List.getElem?_cons_succ, List.getElem?_drop]
  congr 1
  omega
theorem ins_len {ts : List Tw} {j : Nat} {u : Tw} (hj : j <= ts.length) : (ins ts j u).length = ts.length + 1 := by
  unfold ins
  rw [List.length_append, List.length_take, List.length_cons, List.length_drop]
  omega
theorem ins_drop {ts : List Tw} {j : Nat} {u : Tw} (hj : j <= ts.length) {i : Nat} (h : i <= j) : (ins ts j u).drop i = (ts.take j).drop i ++ u :: ts.drop j := by
  unfold ins
  rw [List.drop_append_of_le_length (by rw [List.length_take]; omega)]
theorem ins_drop_gt {ts : List Tw} {j : Nat} {u : Tw} (hj : j <= ts.length) {i : Nat} (h : j <= i) : (ins ts j u).drop (i + 1) = ts.drop i := by
  apply List.ext_getElem?
  intro m
  rw [List.getElem?_drop, List.getElem?_drop, show i + 1 + m = (i + m) + 1 by omega, ins_gt hj (by omega)]
theorem drop_part {ts : List Tw} {i j : Nat} (h : i <= j) (hj : j <= ts.length) : ts.drop i = (ts.take j).drop i ++ ts.drop j := by
  have : ts = ts.take j ++ ts.drop j := (List.take_append_drop j ts).symm
  conv => lhs; rw [this]
  rw [List.drop_append_of_le_length (by rw [List.length_take]; omega)]
theorem fst_none_part {ts : List Tw} {k i j : Nat} (h : fst? k ((ts.take j).drop i) = none) (m : Nat) (t : Tw) (h1 : i <= m) (h2 : m < j) (ht : ts[m]? = some t) : ¬ k < t.ht := by
  unfold fst? at h
  rw [List.find?_eq_none] at h
  have hm : t ∈ (ts.take j).drop i := by
    refine List.mem_of_getElem? (i := m - i) ?_
    rw [List.getElem?_drop, List.getElem?_take, show i + (m - i) = m by omega, if_pos h2]
    exact ht
  simpa using h t hm
theorem fst_some_part {ts : List Tw} {k i j : Nat} {t : Tw} (h : fst? k ((ts.take j).drop i) = some t) : ∃ m, i <= m /\ m < j /\ ts[m]? = some t /\ k < t.ht := by
  unfold fst? at h
  have h1 := List.find?_some h
  have h2 := List.mem_of_find?_eq_some h
  obtain ⟨m, hm⟩ := List.mem_iff_getElem?.1 h2
  rw [List.getElem?_drop, List.getElem?_take] at hm
  split at hm
  · exact ⟨i + m, by omega, by assumption, hm, by simpa using h1⟩
  · cases hm
theorem nx_ins {ts : List Tw} {k i j : Nat} {u : Tw} (hj : j <= ts.length) (hi : i <= j) (hon : OnLev ts k i) :
    nx k ((ins ts j u).drop i) = if k < u.ht /\ lastP ts k j = i then .ptr u.b 0 else nx k (ts.drop i) := by
  rw [ins_drop hj hi]
  unfold nx
  rw [drop_part hi hj]
  cases hA : fst? k ((ts.take j).drop i) with
  | some t =>
    obtain ⟨m, h1, h2, h3, h4⟩ := fst_some_part hA
    have hne : lastP ts k j ≠ i := fun e => lastP_none ts k j m t (by omega) h2 h3 h4
    rw [if_neg (fun h => hne h.2)]
    unfold fst? at hA ⊢
    rw [List.find?_append, List.find?_append, hA]
    rfl
  | none =>
    have hl : lastP ts k j = i := lastP_of hon j hi hj fun m t h1 h2 h3 => fst_none_part hA m t h1 h2 h3
    unfold fst? at hA ⊢
    rw [List.find?_append, List.find?_append, hA, List.find?_cons]
    by_cases hk : k < u.ht
    · simp [hk, hl]
    · simp [hk]
theorem posB_inj {s : Nat} {ts : List Tw} (hnd : (ts.map Tw.b).Nodup) (hs : s ∉ ts.map Tw.b) {p q : Nat} (hp : p <= ts.length) (hq : q <= ts.length) (h : posB s ts p = posB s ts q) : p = q := by
  have hb : ∀ i, i < ts.length -> (ts.map Tw.b)[i]? = some (ts.getD i ⟨0, 0, 0⟩).b := fun i hi => by
    rw [List.getElem?_map, List.getD_eq_getElem?_getD, List.getElem?_eq_getElem hi]; rfl
  have hne : ∀ i, i < ts.length -> s ≠ (ts.getD i ⟨0, 0, 0⟩).b := fun i hi e => hs (e ▸ List.mem_of_getElem? (hb i hi))
  cases p with
  | zero =>
    cases q with
    | zero => rfl
    | succ q => exact absurd h (hne q (by omega))
  | succ p =>
    cases q with
    | zero => exact absurd h.symm (hne p (by omega))
    | succ q =>
      have h1 := hb p (by omega)
      have h2 := hb q (by omega)
      simp only [posB] at h
      rw [h] at h1
      congr 1
      exact (List.getElem?_inj (by rw [List.length_map]; omega) hnd).1 (h1.trans h2.symm)
theorem posB_ins {s : Nat} {ts : List Tw} {j : Nat} {u : Tw} (hj : j <= ts.length) {p : Nat} (hp : p <= j) : posB s (ins ts j u) p = posB s ts p := by
  cases p with
  | zero => rfl
  | succ p => simp only [posB]; rw [List.getD_eq_getElem?_getD, List.getD_eq_getElem?_getD, ins_lt hj (by omega)]
theorem lastP_ins {ts : List Tw} {k j : Nat} {u : Tw} (hj : j <= ts.length) : ∀ i, i <= j -> lastP (ins ts j u) k i = lastP ts k i
  | 0, _ => rfl
  | i + 1, h => by
    simp only [lastP]
    rw [lastP_ins hj i (by omega), List.getD_eq_getElem?_getD, List.getD_eq_getElem?_getD, ins_lt hj (by omega)]
theorem lastP_ins_at {ts : List Tw} {k j : Nat} {u : Tw} (hj : j <= ts.length) : lastP (ins ts j u) k (j + 1) = if k < u.ht then j + 1 else lastP ts k j := by
  simp only [lastP]
  rw [lastP_ins hj j (Nat.le_refl _), getD_some (ins_at hj)]
theorem Linked.ins {s : Nat} {ts : List Tw} {N N' : Nx} (h : Linked s ts N) (hnd : (ts.map Tw.b).Nodup) (hs : s ∉ ts.map Tw.b) {u : Tw} (hus : u.b ≠ s) (hut : u.b ∉ ts.map Tw.b) {j : Nat} (hj : j <= ts.length)
    (h1 : ∀ k, k < 8 -> N' u.b k = if k < u.ht then nx k (ts.drop j) else nilP)
    (h2 : ∀ k, k < 8 -> k < u.ht -> N' (posB s ts (lastP ts k j)) k = .ptr u.b 0)
    (h3 : ∀ b k, k < 8 -> b ≠ u.b -> (k < u.ht -> b ≠ posB s ts (lastP ts k j)) -> N' b k = N b k) : Linked s (Go.Sk.ins ts j u) N' := by
  have key : ∀ i k, k < 8 -> i <= j -> OnLev ts k i -> N' (posB s ts i) k = nx k ((Go.Sk.ins ts j u).drop i) := fun i k hk hi hon => by
    rw [nx_ins hj hi hon]
    by_cases hc : k < u.ht /\ lastP ts k j = i
    · rw [if_pos hc, <- hc.2]; exact h2 k hk hc.1
    · rw [if_neg hc, <- h.at_ hk hon]
      refine h3 _ _ hk (fun e => ?_) fun hku e => ?_
      · cases i with
        | zero => exact hus e.symm
        | succ i =>
          obtain ⟨t, ht, _⟩ := hon
          simp only [posB, getD_some ht] at e
          exact hut (e ▸ List.mem_map_of_mem (List.mem_of_getElem? ht))
      · exact hc ⟨hku, (posB_inj hnd hs (by omega) (by have := lastP_le ts k j; omega) e).symm⟩
  refine ⟨fun k hk => ?_, fun i t k ht hk => ?_⟩
  · have := key 0 k hk (Nat.zero_le _) trivial
    rwa [List.drop_zero] at this
  · rcases Nat.lt_trichotomy i j with hij | hij | hij
    · rw [ins_lt hj hij] at ht
      by_cases hkt : k < t.ht
      · rw [if_pos hkt]
        have := key (i + 1) k hk (by omega) ⟨t, ht, hkt⟩
        simpa only [posB, getD_some ht] using this
      · rw [if_neg hkt]
        have hN := h.tw i t k ht hk
        rw [if_neg hkt] at hN
        rw [<- hN]
        refine h3 _ _ hk (fun e => hut (e ▸ List.mem_map_of_mem (List.mem_of_getElem? ht))) fun hku e => ?_
        have hp : t.b = posB s ts (i + 1) := by simp only [posB, getD_some ht]
        have hon := lastP_on ts k j hj
        have := posB_inj hnd hs (by omega) (by have := lastP_le ts k j; omega) (hp.symm.trans e)
        rw [<- this] at hon
        obtain ⟨t', ht', hk'⟩ := hon
        rw [ht] at ht'; cases ht'
        exact hkt hk'
    · subst hij
      rw [ins_at hj] at ht
      cases ht
      rw [ins_drop_gt hj (Nat.le_refl _)]
      exact h1 k hk
    · obtain ⟨i, rfl⟩ : ∃ i', i = i' + 1 := ⟨i - 1, by omega⟩
      rw [ins_gt hj (by omega)] at ht
      rw [ins_drop_gt hj (by omega)]
      rw [<- h.tw i t k ht hk]
      have hil := (List.getElem?_eq_some_iff.1 ht).1
      refine h3 _ _ hk (fun e => hut (e ▸ List.mem_map_of_mem (List.mem_of_getElem? ht))) fun hku e => ?_
      have hp : t.b = posB s ts (i + 1) := by simp only [posB, getD_some ht]
      have := posB_inj hnd hs (by omega) (by have := lastP_le ts k j; omega) (hp.symm.trans e)
      have := lastP_le ts k j
      omega
theorem Rise.ins {ts : List Tw} (hr : Rise ts) (u : Tw) : Rise (Go.Sk.ins ts (upTo ts u.v) u) := by
  unfold Rise Go.Sk.ins
  have hle : ∀ t ∈ ts.take (upTo ts u.v), t.v <= u.v := fun t ht => by
    obtain ⟨i, hi⟩ := List.mem_iff_getElem?.1 ht
    rw [List.getElem?_take] at hi
    split at hi
    · rename_i h; exact (upTo_iff hr u.v hi).1 h
    · cases hi
  have hge : ∀ t ∈ ts.drop (upTo ts u.v), u.v <= t.v := fun t ht => by
    obtain ⟨i, hi⟩ := List.mem_iff_getElem?.1 ht
    rw [List.getElem?_drop] at hi
    have := (upTo_iff hr u.v hi)
    omega
  rw [List.pairwise_append]
  refine ⟨hr.sublist (List.take_sublist _ _), List.pairwise_cons.2 ⟨hge, hr.sublist (List.drop_sublist _ _)⟩, fun a ha b hb => ?_⟩
  have h1 := hle a ha
  rcases List.mem_cons.1 hb with rfl | hb
  · exact h1
  · have := hge b hb; omega
theorem Linked.tail {s : Nat} {t : Tw} {ts : List Tw} {N N' : Nx} (h : Linked s (t :: ts) N) (hnd : ((t :: ts).map Tw.b).Nodup) (hs : s ∉ (t :: ts).map Tw.b)
    (h1 : ∀ k, k < 8 -> N' s k = if k < t.ht then N t.b k else N s k) (h2 : ∀ b k, k < 8 -> b ≠ s -> N' b k = N b k) : Linked s ts N' := by
  refine ⟨fun k hk => ?_, fun i u k hu hk => ?_⟩
  · rw [h1 k hk]
    have a := h.tw 0 t k rfl hk
    have b := h.hd k hk
    by_cases hkt : k < t.ht
    · rw [if_pos hkt, a, if_pos hkt]; rfl
    · rw [if_neg hkt, b]
      unfold nx fst?
      rw [List.find?_cons]
      simp [hkt]
  · have a := h.tw (i + 1) u k (by simpa using hu) hk
    rw [h2 _ _ hk]
    · simpa using a
    · rintro rfl
      exact hs (List.mem_map_of_mem (List.mem_cons_of_mem _ (List.mem_of_getElem? hu)))
end Go.Sk
set_option linter.unusedVariables false
set_option linter.unusedSimpArgs false
namespace Go.Sk
open Go.L
def nexts (f : Nat -> V) : List V := (List.range 8).map f
theorem nexts_len (f : Nat -> V) : (nexts f).length = 8 := by simp [nexts]
theorem nexts_get (f : Nat -> V) {k : Nat} (h : k < 8) : (nexts f)[k]? = some (f k) := by
  unfold nexts
  rw [List.getElem?_map, List.getElem?_range h]; rfl
theorem nexts_set (f : Nat -> V) {k : Nat} (h : k < 8) (x : V) : (nexts f).set k x = nexts (fun j => if j = k then x else f j) := by
  apply List.ext_getElem?
  intro j
  rw [List.getElem?_set]
  by_cases hj : j < 8
  · rw [nexts_get _ hj, nexts_get _ hj]
    by_cases e : k = j
    · rw [if_pos e, if_pos (by rw [nexts_len]; omega), if_pos e.symm]
    · rw [if_neg e, if_neg (Ne.symm e)]
  · rw [List.getElem?_eq_none (by rw [nexts_len]; omega), List.getElem?_eq_none (by rw [nexts_len]; omega), if_neg (by omega)]
structure Nd where
  b : Nat
  v : Int
  ht : Int
  post : List V
def Nd.cells (x : Nd) (N : Nx) : List V := [.int .i32 x.v, .int .i64 x.ht] ++ (nexts (N x.b) ++ x.post)
def NodeAt (h : Heap) (N : Nx) (x : Nd) : Prop := h[x.b]? = some (.box (10 + x.post.length) (x.cells N))
theorem Nd.get0 (x : Nd) (N : Nx) : (x.cells N)[0]? = some (.int .i32 x.v) := rfl
theorem Nd.get1 (x : Nd) (N : Nx) : (x.cells N)[1]? = some (.int .i64 x.ht) := rfl
theorem Nd.get (x : Nd) (N : Nx) {k : Nat} (h : k < 8) : (x.cells N)[2 + k]? = some (N x.b k) := by
  unfold Nd.cells
  rw [List.getElem?_append_right (by simp), show 2 + k - [V.int .i32 x.v, .int .i64 x.ht].length = k by simp, List.getElem?_append_left (by rw [nexts_len]; exact h), nexts_get _ h]
theorem Nd.set (x : Nd) (N : Nx) {k : Nat} (h : k < 8) (y : V) : setR (x.cells N) (2 + k) [y] = x.cells (updN N x.b k y) := by
  show (x.cells N).set (2 + k) y = _
  unfold Nd.cells
  rw [List.set_append_right _ _ (by simp), show 2 + k - [V.int .i32 x.v, .int .i64 x.ht].length = k by simp, List.set_append_left _ _ (by rw [nexts_len]; exact h), nexts_set _ h]
  congr 3
  funext j
  unfold updN
  by_cases e : j = k
  · rw [if_pos e, if_pos ⟨rfl, e⟩]
  · rw [if_neg e, if_neg (fun hh => e hh.2)]
structure Rep (h : Heap) (ns : List Nd) (N : Nx) : Prop where
  at_ : ∀ x ∈ ns, NodeAt h N x
  nd : (ns.map Nd.b).Nodup
  one : ∀ x ∈ ns, ∀ k, V.cells (N x.b k) = [N x.b k]
theorem Rep.inj {h : Heap} {ns : List Nd} {N : Nx} (r : Rep h ns N) {x y : Nd} (hx : x ∈ ns) (hy : y ∈ ns) (e : x.b = y.b) : x = y := by
  obtain ⟨i, hi⟩ := List.mem_iff_getElem?.1 hx
  obtain ⟨j, hj⟩ := List.mem_iff_getElem?.1 hy
  have h1 : (ns.map Nd.b)[i]? = some x.b := by rw [List.getElem?_map, hi]; rfl
  have h2 : (ns.map Nd.b)[j]? = some y.b := by rw [List.getElem?_map, hj]; rfl
  have := (List.getElem?_inj (List.getElem?_eq_some_iff.1 h1).1 r.nd).1 (h1.trans (by rw [e, h2]))
  subst this
  rw [hi] at hj
  exact Option.some.inj hj
theorem Rep.read {h : Heap} {ns : List Nd} {N : Nx} (r : Rep h ns N) {x : Nd} (hx : x ∈ ns) (o : Nat) : cellsP h (.ptr x.b o) = some (x.cells N, 10 + x.post.length, o) := cellsP_box (r.at_ x hx) o
theorem Rep.write {h : Heap} {ns : List Nd} {N : Nx} (r : Rep h ns N) {x : Nd} (hx : x ∈ ns) {k : Nat} (hk : k < 8) (y : V) (hy : V.cells y = [y]) :
    writeB h [y] (.ptr x.b (2 + k)) = some (x.b, .box (10 + x.post.length) (x.cells (updN N x.b k y))) /\ Rep (h.set x.b (.box (10 + x.post.length) (x.cells (updN N x.b k y)))) ns (updN N x.b k y) := by
  have hb := r.at_ x hx
  refine ⟨?_, ⟨fun z hz => ?_, r.nd, fun z hz j => ?_⟩⟩
  · rw [writeB_box hb (by simp; omega), x.set N hk]
  · by_cases e : z.b = x.b
    · have := r.inj hz hx e
      subst this
      exact set_at (lt_of_at hb) _
    · unfold NodeAt
      rw [List.getElem?_set_ne (Ne.symm e)]
      have := r.at_ z hz
      unfold NodeAt at this
      rw [this]
      have e2 : updN N x.b k y z.b = N z.b := by
        funext j
        unfold updN
        rw [if_neg (fun hh => e hh.1)]
      unfold Nd.cells
      rw [e2]
  · unfold updN
    split
    · exact hy
    · exact r.one z hz j
theorem Rep.keep {h h' : Heap} {ns : List Nd} {N : Nx} (r : Rep h ns N) (hk : ∀ x ∈ ns, h'[x.b]? = h[x.b]?) : Rep h' ns N := ⟨fun x hx => (hk x hx).trans (r.at_ x hx), r.nd, r.one⟩
def pathV (P : Nat -> Nat) : List V := (List.range 8).map fun k => .ptr (P k) 0
theorem pathV_len (P : Nat -> Nat) : (pathV P).length = 8 := by simp [pathV]
theorem pathV_get (P : Nat -> Nat) {k : Nat} (h : k < 8) : (pathV P)[k]? = some (.ptr (P k) 0) := by
  unfold pathV
  rw [List.getElem?_map, List.getElem?_range h]; rfl
theorem pathV_set (P : Nat -> Nat) {k : Nat} (h : k < 8) (b : Nat) : (pathV P).set k (.ptr b 0) = pathV (fun j => if j = k then b else P j) := by
  have e : ∀ Q : Nat -> Nat, pathV Q = nexts (fun j => .ptr (Q j) 0) := fun Q => rfl
  rw [e, e, nexts_set _ h]
  congr 1
  funext j
  split <;> rfl
def ndT (t : Tw) : Nd := ⟨t.b, t.v, t.ht, []⟩
def ndH (s : Nat) (many most : Int) : Nd := ⟨s, 0, 0, [.int .i64 many, .int .i64 most]⟩
def putN (N : Nx) (u : Nat) (P : Nat -> Nat) : Nat -> Nx
  | 0 => N
  | k + 1 => updN (updN (putN N u P k) u k (putN N u P k (P k) k)) (P k) k (.ptr u 0)
theorem putN_ge (N : Nx) (u : Nat) (P : Nat -> Nat) : ∀ K b k, K <= k -> putN N u P K b k = N b k
  | 0, b, k, h => rfl
  | K + 1, b, k, h => by
    simp only [putN, updN]
    rw [if_neg (by omega), if_neg (by omega)]
    exact putN_ge N u P K b k (by omega)
theorem putN_lt (N : Nx) (u : Nat) (P : Nat -> Nat) (hu : ∀ k, P k ≠ u) : ∀ K k, k < K -> putN N u P K u k = N (P k) k /\ putN N u P K (P k) k = .ptr u 0 /\ ∀ b, b ≠ u -> b ≠ P k -> putN N u P K b k = N b k
  | 0, k, h => by omega
  | K + 1, k, h => by
    rcases Nat.lt_or_ge k K with hk | hk
    · obtain ⟨a1, a2, a3⟩ := putN_lt N u P hu K k hk
      have hne : ∀ b, putN N u P (K + 1) b k = putN N u P K b k := fun b => by
        simp only [putN, updN]
        rw [if_neg (by omega), if_neg (by omega)]
      exact ⟨by rw [hne, a1], by rw [hne, a2], fun b h1 h2 => by rw [hne, a3 b h1 h2]⟩
    · obtain rfl : k = K := by omega
      refine ⟨?_, ?_, fun b h1 h2 => ?_⟩
      · simp only [putN, updN]
        rw [if_neg (fun e => hu k e.1.symm), if_pos (by simp), putN_ge _ _ _ _ _ _ (Nat.le_refl _)]
      · simp only [putN, updN]
        rw [if_pos (by simp)]
      · simp only [putN, updN]
        rw [if_neg (fun e => h2 e.1), if_neg (fun e => h1 e.1), putN_ge _ _ _ _ _ _ (Nat.le_refl _)]
end Go.Sk
namespace Go.Proofs.Try
open Go.L Go.Rp Go.Sk
set_option maxRecDepth 100000
theorem bop_tw_ptr (h : Heap) (b : Nat) : bopH prog h .neq 68 (V.ptr b 0) (V.val (.pointer none)) = some (.bool true) := by kernel_rfl
theorem bop_tw_nil (h : Heap) : bopH prog h .neq 68 (V.val (.pointer none)) (V.val (.pointer none)) = some (.bool false) := by kernel_rfl
theorem bop_tw_ptr' (h : Heap) (b : Nat) : bopH prog h .eql 68 (V.ptr b 0) (V.val (.pointer none)) = some (.bool false) := by kernel_rfl
theorem bop_tw_nil' (h : Heap) : bopH prog h .eql 68 (V.val (.pointer none)) (V.val (.pointer none)) = some (.bool true) := by kernel_rfl
theorem bop_sk_nil (h : Heap) (b : Nat) : bopH prog h .eql 26 (V.ptr b 0) (V.val (.pointer none)) = some (.bool false) := by kernel_rfl
theorem bop_tw_eql {h : Heap} {t o n m : Nat} {cs ds : List V} (ht : h[t]? = some (.box n cs)) (ho : h[o]? = some (.box m ds)) : bopH prog h .eql 68 (V.ptr t 0) (V.ptr o 0) = some (.bool (t == o && 0 == 0)) := by
  have e : bopH prog h .eql 68 (V.ptr t 0) (V.ptr o 0) = (match h[t]?, h[o]? with | some (.box ..), some (.box ..) => some (.bool (neg .eql (t == o && 0 == 0))) | _, _ => none) := by kernel_rfl
  rw [e, ht, ho]
  rfl
theorem further_call (n : Nat) {h : Heap} {ns : List Nd} {N : Nx} (r : Rep h ns N) {x y : Nd} (hx : x ∈ ns) (hy : y ∈ ns) : ∃ b, call (n + 1) 65 [.ptr x.b 0, .ptr y.b 0] h = some (.ret [.bool b], h) := by
  rw [further_eq]
  unfold further
  rw [bop_tw_eql (r.at_ x hx) (r.at_ y hy), bd_some, bv_bool]
  split
  · exact ⟨_, rfl⟩
  · rw [r.read hx, bd3_some, if_pos (by omega), x.get1, bd_some, bop_i64_eql, bd_some, bv_bool]
    split
    · exact ⟨_, rfl⟩
    · rw [r.read hy, bd3_some, if_pos (by omega), y.get1, bd_some, bop_i64_eql, bd_some, bv_bool]
      split
      · exact ⟨_, rfl⟩
      · rw [r.read hx, bd3_some, if_pos (by omega), x.get0, bd_some, r.read hy, bd3_some, if_pos (by omega), y.get0, bd_some, bop_i32_geq, bd_some]
        exact ⟨_, rfl⟩
theorem tall_call (n : Nat) (h : Heap) (v k : Int) : call (n + 1) 44 [.int .i32 v, .int .i64 k] h = some (.ret [.ptr h.length 0], h ++ [.box 10 ([.int .i32 v, .int .i64 (max 1 (min k 8))] ++ nexts (fun _ => nilP))]) := by
  rw [tall_eq]
  unfold tall
  have e : (if (1 : Int) < (if 8 < k then 8 else k) then (if 8 < k then 8 else k) else 1) = max 1 (min k 8) := by
    by_cases h1 : 8 < k
    · simp only [if_pos h1]; omega
    · simp only [if_neg h1]; split <;> omega
  rw [e]
  rfl
theorem nv_int (k : IntKind) (a : Nat) : nv (V.int k (a : Int)) = some a := nv_nat _ _
theorem addP_ptr (k b o : Nat) : addP k (.ptr b o) = some (.ptr b (o + k)) := rfl
theorem lcs_agg (l : List V) : lcs (V.agg l) = l := rfl
theorem setR_one (cs : List V) (o : Nat) (y : V) : setR cs o [y] = cs.set o y := rfl
theorem begin_loop (n : Nat) (s : Nat) (h : Heap) (r0 : List V) (hr : r0.length = 8) : ∀ (d k M : Nat) (cs : List V), k + d = 8 -> d < M -> cs.length = 8 -> (∀ j, j < k -> cs[j]? = some (.ptr s 0)) →
    loopx M (skipBegin_l0 n s) [.agg r0, .agg cs, .int .i64 (k : Int)] h = some (.ret [.agg (pathV (fun _ => s))], h) := by
  intro d
  induction d with
  | zero =>
    intro k M cs h1 h2 h3 h4
    obtain ⟨M, rfl⟩ : ∃ M', M = M' + 1 := ⟨M - 1, by omega⟩
    obtain rfl : k = 8 := by omega
    have hcs : cs = pathV (fun _ => s) := by
      apply List.ext_getElem?
      intro j
      by_cases hj : j < 8
      · rw [h4 j hj, pathV_get _ hj]
      · rw [List.getElem?_eq_none (by omega), List.getElem?_eq_none (by rw [pathV_len]; omega)]
    subst hcs
    rw [loopx_succ]
    unfold skipBegin_l0
    have hl : ((pathV (fun _ => s)).drop 0 |>.take 8) = pathV (fun _ => s) := by rw [List.drop_zero, List.take_of_length_le (by rw [pathV_len]; exact Nat.le_refl _)]
    simp only [gv, List.getD_cons_zero, List.getD_cons_succ, bop_i64_lss, bd_some, bv_bool, lcs_agg, hl, pathV_len]
    rw [if_neg (by decide), if_pos (by first | trivial | rfl), if_pos (by omega)]
    have : setR r0 0 (pathV (fun _ => s)) = pathV (fun _ => s) := by
      rw [setR_eq (by rw [pathV_len]; omega), List.take_zero, List.nil_append, pathV_len, List.drop_of_length_le (by omega), List.append_nil]
    rw [this, hl]
  | succ d ih =>
    intro k M cs h1 h2 h3 h4
    obtain ⟨M, rfl⟩ : ∃ M', M = M' + 1 := ⟨M - 1, by omega⟩
    have hlt : decide ((k : Int) < 8) = true := by simp; omega
    have key : ∀ next, skipBegin_l0 n s [.agg r0, .agg cs, .int .i64 (k : Int)] h next = next [.agg r0, .agg (cs.set k (.ptr s 0)), .int .i64 ((k + 1 : Nat) : Int)] h := by
      intro next
      unfold skipBegin_l0
      simp only [gv, List.getD_cons_zero, List.getD_cons_succ, bop_i64_lss, bd_some, bv_bool, lcs_agg, hlt, if_true, nv_int]
      rw [if_pos (by omega), if_pos (by first | exact ⟨trivial, by omega⟩ | omega), bop_i64_add, bd_some, step64 (show k < lim by unfold lim; omega), Nat.mul_one, setR_one]
    rw [loopx_succ, key]
    refine ih (k + 1) M _ (by omega) (by omega) (by rw [List.length_set]; exact h3) fun j hj => ?_
    rw [List.getElem?_set]
    split
    · rename_i e; rw [if_pos (by omega)]
    · exact h4 j (by omega)
theorem begin_call (n : Nat) (h : Heap) (s : Nat) (hn : 8 < n) : call (n + 1) 41 [.ptr s 0] h = some (.ret [.agg (pathV (fun _ => s))], h) := by
  rw [skipBegin_eq]
  unfold skipBegin
  exact begin_loop n s h _ rfl 8 0 n _ (by omega) hn rfl (fun j h => by omega)
theorem put_loop (n : Nat) {ns : List Nd} (u : Nd) (hu : u ∈ ns) (P : Nat -> Nat) (hP : ∀ k, k < 8 -> ∃ x ∈ ns, x.b = P k) (hne : ∀ k, P k ≠ u.b) (N : Nx) (T : Nat) (hT : T <= 8) (r0 : List V) (hr : r0.length = 8) : ∀ (d k M : Nat) (h : Heap), k + d = T -> d < M -> Rep h ns (putN N u.b P k) →
    ∃ h', loopx M (pathPut_l4 n u.b (.int .i64 (T : Int))) [.agg (pathV (fun j => if j < k then u.b else P j)), .agg r0, .int .i64 (k : Int)] h = some (.ret [.agg (pathV (fun j => if j < T then u.b else P j))], h') /\ Rep h' ns (putN N u.b P T) /\ h'.length = h.length /\ ∀ i, (∀ x ∈ ns, x.b ≠ i) -> h'[i]? = h[i]? := by
  intro d
  induction d with
  | zero =>
    intro k M h h1 h2 hr'
    obtain ⟨M, rfl⟩ : ∃ M', M = M' + 1 := ⟨M - 1, by omega⟩
    obtain rfl : k = T := by omega
    refine ⟨h, ?_, hr', rfl, fun _ _ => rfl⟩
    rw [loopx_succ]
    unfold pathPut_l4
    have hlt : decide ((k : Int) < (k : Int)) = false := by simp
    have hl : ∀ Q, ((pathV Q).drop 0 |>.take 8) = pathV Q := fun Q => by rw [List.drop_zero, List.take_of_length_le (by rw [pathV_len]; exact Nat.le_refl _)]
    simp only [gv, List.getD_cons_zero, List.getD_cons_succ, bop_i64_lss, bd_some, bv_bool, lcs_agg, hlt, Bool.false_eq_true, if_false, hl, pathV_len]
    rw [if_pos (by first | trivial | rfl), if_pos (by omega)]
    have : ∀ Q, setR r0 0 (pathV Q) = pathV Q := fun Q => by
      rw [setR_eq (by rw [pathV_len]; omega), List.take_zero, List.nil_append, pathV_len, List.drop_of_length_le (by omega), List.append_nil]
    rw [this, hl]
  | succ d ih =>
    intro k M h h1 h2 hr'
    obtain ⟨M, rfl⟩ : ∃ M', M = M' + 1 := ⟨M - 1, by omega⟩
    have hk : k < 8 := by omega
    obtain ⟨x, hx, hxb⟩ := hP k hk
    have hlt : decide ((k : Int) < (T : Int)) = true := by simp; omega
    have hone := hr'.one x hx k
    rw [hxb] at hone
    obtain ⟨w1, r1⟩ := hr'.write hu hk (putN N u.b P k (P k) k) hone
    obtain ⟨w2, r2⟩ := r1.write hx hk (.ptr u.b 0) rfl
    rw [hxb] at w2 r2
    have hg : (pathV (fun j => if j < k then u.b else P j))[k]? = some (.ptr (P k) 0) := by rw [pathV_get _ hk, if_neg (by omega)]
    have hrd : cellsP h (.ptr (P k) (2 + k)) = some (x.cells (putN N u.b P k), 10 + x.post.length, 2 + k) := by rw [<- hxb]; exact hr'.read hx _
    have hgx : (x.cells (putN N u.b P k))[2 + k]? = some (putN N u.b P k (P k) k) := by rw [x.get _ hk, hxb]
    obtain ⟨h', e, b1, b2, b3⟩ := ih (k + 1) M _ (by omega) (by omega) r2
    have hset : (pathV (fun j => if j < k then u.b else P j)).set k (.ptr u.b 0) = pathV (fun j => if j < k + 1 then u.b else P j) := by
      rw [pathV_set _ hk]
      congr 1
      funext j
      by_cases e1 : j = k
      · rw [if_pos e1, if_pos (by omega)]
      · rw [if_neg e1]
        by_cases e2 : j < k
        · rw [if_pos e2, if_pos (by omega)]
        · rw [if_neg e2, if_neg (by omega)]
    refine ⟨h', ?_, b1, by rw [b2, List.length_set, List.length_set], fun i hi => ?_⟩
    · rw [loopx_succ]
      have key : ∀ next, pathPut_l4 n u.b (.int .i64 (T : Int)) [.agg (pathV (fun j => if j < k then u.b else P j)), .agg r0, .int .i64 (k : Int)] h next = next [.agg (pathV (fun j => if j < k + 1 then u.b else P j)), .agg r0, .int .i64 ((k + 1 : Nat) : Int)] ((h.set u.b (.box (10 + u.post.length) (u.cells (updN (putN N u.b P k) u.b k (putN N u.b P k (P k) k))))).set (P k) (.box (10 + x.post.length) (x.cells (updN (updN (putN N u.b P k) u.b k (putN N u.b P k (P k) k)) (P k) k (.ptr u.b 0))))) := by
        intro next
        unfold pathPut_l4
        simp only [gv, List.getD_cons_zero, List.getD_cons_succ, bop_i64_lss, bd_some, bv_bool, lcs_agg, hlt, if_true, nv_int, addP_ptr, Nat.mul_one, Nat.zero_add, hg, hrd, bd3_some, hgx, hone, List.length_cons, List.length_nil, w1, w2, bd2_some, setR_one, hset, bop_i64_add, step64 (show k < lim by unfold lim; omega)]
        rw [if_pos hk, if_pos (by omega), if_pos hk, if_pos (by omega), if_pos hk, if_pos hk, if_pos (by omega), if_pos hk, if_pos hk, if_pos (by first | exact ⟨trivial, by omega⟩ | omega)]
      rw [key]
      exact e
    · rw [b3 i hi, List.getElem?_set_ne (by rw [<- hxb]; exact hi x hx), List.getElem?_set_ne (hi u hu)]
theorem put_call (n : Nat) {h : Heap} {ns : List Nd} {N : Nx} (r : Rep h ns N) (u : Nd) (hu : u ∈ ns) {T : Nat} (hut : u.ht = (T : Int)) (hT : T <= 8) (P : Nat -> Nat) (hP : ∀ k, k < 8 -> ∃ x ∈ ns, x.b = P k) (hne : ∀ k, P k ≠ u.b) (hn : 8 < n) :
    ∃ h', call (n + 1) 43 [.agg (pathV P), .ptr u.b 0] h = some (.ret [.agg (pathV (fun j => if j < T then u.b else P j))], h') /\ Rep h' ns (putN N u.b P T) /\ h'.length = h.length /\ ∀ i, (∀ x ∈ ns, x.b ≠ i) -> h'[i]? = h[i]? := by
  obtain ⟨h', e, b1, b2, b3⟩ := put_loop n u hu P hP hne N T hT [V.val (.pointer none), V.val (.pointer none), V.val (.pointer none), V.val (.pointer none), V.val (.pointer none), V.val (.pointer none), V.val (.pointer none), V.val (.pointer none)] rfl T 0 n h (by omega) (by omega) r
  refine ⟨h', ?_, b1, b2, b3⟩
  rw [pathPut_eq]
  unfold pathPut
  rw [if_pos (by first | rfl | exact pathV_len P), r.read hu, bd3_some, if_pos (by omega), u.get1, bd_some, hut]
  have e0 : (fun j => if j < 0 then u.b else P j) = P := by funext j; rw [if_neg (by omega)]
  rw [e0] at e
  exact e
def nds (s : Nat) (many most : Int) (ts : List Tw) : List Nd := ndH s many most :: ts.map ndT
structure SkAt (h : Heap) (s : Nat) (ts : List Tw) (most : Int) (N : Nx) : Prop where
  rep : Rep h (nds s (ts.length : Int) most ts) N
  lk : Linked s ts N
  up : Rise ts
  ht : ∀ t ∈ ts, 1 <= t.ht /\ t.ht <= 8
theorem nds_bs (s : Nat) (many most : Int) (ts : List Tw) : (nds s many most ts).map Nd.b = s :: ts.map Tw.b := by
  unfold nds
  rw [List.map_cons, List.map_map]
  rfl
theorem node_pos {s : Nat} {many most : Int} {ts : List Tw} {i : Nat} (hi : i <= ts.length) : ∃ x ∈ nds s many most ts, x.b = posB s ts i := by
  cases i with
  | zero => exact ⟨_, List.mem_cons_self .., rfl⟩
  | succ i =>
    obtain ⟨t, ht⟩ : ∃ t, ts[i]? = some t := ⟨_, List.getElem?_eq_getElem (by omega)⟩
    exact ⟨ndT t, List.mem_cons_of_mem _ (List.mem_map_of_mem (List.mem_of_getElem? ht)), by simp only [posB, getD_some ht]; rfl⟩
theorem onlev_down {ts : List Tw} {k k' i : Nat} (h : k' <= k) (ho : OnLev ts k i) : OnLev ts k' i := by
  cases i with
  | zero => trivial
  | succ i => obtain ⟨t, ht, hk⟩ := ho; exact ⟨t, ht, by omega⟩
theorem on_same1 : @pathOn_l61 = @pathOn_l18 := rfl
theorem on_same2 : @pathOn_l95 = @pathOn_l18 := rfl
theorem on_walk (n : Nat) {h : Heap} {s : Nat} {ts : List Tw} {many most : Int} {N : Nx} (r : Rep h (nds s many most ts) N) (lk : Linked s ts N) (up : Rise ts) (v : Int) {k : Nat} (hk : k < 8) (cs r0 : List V) (hcs : cs.length = 8) (last : V) (next3 : List V -> Heap -> Option (Res × Heap)) (sv0 sv1 : V) : ∀ (d i M : Nat), i + d = ts.length + 1 -> d < M + 1 -> i <= upTo ts v -> OnLev ts k i -> 0 < M →
    loopx M (pathOn_l18 n v [sv0, sv1, last, .int .i64 (k : Int)] next3) [.agg cs, .agg r0, .ptr (posB s ts i) 0, nx k (ts.drop i)] h = next3 [.agg (cs.set k (.ptr (posB s ts (lastP ts k (upTo ts v))) 0)), .agg r0, .ptr (posB s ts (lastP ts k (upTo ts v))) 0, .int .i64 (IntKind.i64.wrap ((k : Int) - 1))] h := by
  intro d
  induction d using Nat.strongRecOn with
  | _ d ih =>
  intro i M h1 h2 h3 h4 hM
  obtain ⟨M, rfl⟩ : ∃ M', M = M' + 1 := ⟨M - 1, by omega⟩
  have hul := upTo_le ts v
  have hend : (∀ m t, i <= m -> m < upTo ts v -> ts[m]? = some t -> ¬ k < t.ht) -> lastP ts k (upTo ts v) = i := fun hn => lastP_of h4 _ h3 hul hn
  rw [loopx_succ]
  rcases fst_drop (k := k) (ts := ts) i with ⟨f1, f2⟩ | ⟨m, t, f1, f2, f3, f4, f5⟩
  · have hl := hend fun m t a1 a2 a3 => f2 m t a1 a3
    have hnx : nx k (ts.drop i) = V.val (.pointer none) := by unfold nx; rw [f1]; rfl
    rw [hl, hnx]
    have key : ∀ next21, pathOn_l18 n v [sv0, sv1, last, .int .i64 (k : Int)] next3 [.agg cs, .agg r0, .ptr (posB s ts i) 0, .val (.pointer none)] h next21 = next3 [.agg (cs.set k (.ptr (posB s ts i) 0)), .agg r0, .ptr (posB s ts i) 0, .int .i64 (IntKind.i64.wrap ((k : Int) - 1))] h := by
      intro next21
      unfold pathOn_l18
      simp only [gv, List.getD_cons_zero, List.getD_cons_succ, bop_tw_nil, bd_some, bv_bool, Bool.false_eq_true, if_false, nv_int, lcs_agg, V.cells, List.length_cons, List.length_nil, Nat.mul_one, setR_one, bop_i64_sub]
      rw [if_pos hk, if_pos (by first | trivial | rfl), if_pos (by first | exact ⟨trivial, by omega⟩ | omega)]
    rw [key]
  · have hnx : nx k (ts.drop i) = V.ptr t.b 0 := by unfold nx; rw [f4]
    have hmem : ndT t ∈ nds s many most ts := List.mem_cons_of_mem _ (List.mem_map_of_mem (List.mem_of_getElem? f2))
    have hrd := r.read hmem
    have hrd0 : ∀ o, cellsP h (.ptr t.b o) = some ((ndT t).cells N, 10, o) := fun o => hrd o
    have hml := (List.getElem?_eq_some_iff.1 f2).1
    rw [hnx]
    by_cases hv : t.v <= v
    · have hmu : m < upTo ts v := (upTo_iff up v f2).2 hv
      have hgx : ((ndT t).cells N)[2 + k]? = some (nx k (ts.drop (m + 1))) := by
        rw [(ndT t).get _ hk]
        have := lk.tw m t k f2 hk
        rw [if_pos f3] at this
        rw [<- this]; rfl
      have hp : posB s ts (m + 1) = t.b := by simp only [posB, getD_some f2]
      have IH := ih (ts.length + 1 - (m + 1)) (by omega) (m + 1) M (by omega) (by omega) (by omega) ⟨t, f2, f3⟩ (by omega)
      rw [hp] at IH
      have key : ∀ next21, pathOn_l18 n v [sv0, sv1, last, .int .i64 (k : Int)] next3 [.agg cs, .agg r0, .ptr (posB s ts i) 0, .ptr t.b 0] h next21 = next21 [.agg cs, .agg r0, .ptr t.b 0, nx k (ts.drop (m + 1))] h := by
        intro next21
        unfold pathOn_l18
        simp only [gv, List.getD_cons_zero, List.getD_cons_succ, bop_tw_ptr, bd_some, bv_bool, if_true, addP_ptr, Nat.zero_add, Nat.add_zero, Nat.mul_one, hrd0, bd3_some, Nd.get0, bop_i32_leq, nv_int, hgx, lcs_agg]
        rw [if_pos (by omega), if_pos (by exact decide_eq_true hv), if_pos hk, if_pos (by omega)]
      rw [key]
      exact IH
    · have hmu : ¬ m < upTo ts v := fun h => hv ((upTo_iff up v f2).1 h)
      have hl := hend fun m' t' a1 a2 a3 => f5 m' t' a1 (by omega) a3
      rw [hl]
      have key : ∀ next21, pathOn_l18 n v [sv0, sv1, last, .int .i64 (k : Int)] next3 [.agg cs, .agg r0, .ptr (posB s ts i) 0, .ptr t.b 0] h next21 = next3 [.agg (cs.set k (.ptr (posB s ts i) 0)), .agg r0, .ptr (posB s ts i) 0, .int .i64 (IntKind.i64.wrap ((k : Int) - 1))] h := by
        intro next21
        unfold pathOn_l18
        simp only [gv, List.getD_cons_zero, List.getD_cons_succ, bop_tw_ptr, bd_some, bv_bool, if_true, addP_ptr, Nat.zero_add, Nat.add_zero, Nat.mul_one, hrd0, bd3_some, Nd.get0, bop_i32_leq, nv_int, lcs_agg, V.cells, List.length_cons, List.length_nil, setR_one, bop_i64_sub]
        rw [if_pos (by omega), if_neg (by exact fun e => hv (of_decide_eq_true e)), if_pos hk, if_pos (by first | exact ⟨trivial, by omega⟩ | omega)]
      rw [key]
theorem path_full (Q : Nat -> Nat) (r0 : List V) (hr : r0.length = 8) : (((setR r0 0 ((pathV Q).drop 0 |>.take 8))).drop 0 |>.take 8) = pathV Q := by
  have hl : ((pathV Q).drop 0 |>.take 8) = pathV Q := by rw [List.drop_zero, List.take_of_length_le (by rw [pathV_len]; exact Nat.le_refl _)]
  have : setR r0 0 (pathV Q) = pathV Q := by
    rw [setR_eq (by rw [pathV_len]; omega), List.take_zero, List.nil_append, pathV_len, List.drop_of_length_le (by omega), List.append_nil]
  rw [hl, this, hl]
theorem path_take (Q : Nat -> Nat) : ((pathV Q).drop 0 |>.take 8) = pathV Q := by rw [List.drop_zero, List.take_of_length_le (by rw [pathV_len]; exact Nat.le_refl _)]
theorem on_loop (n : Nat) {h : Heap} {s : Nat} {ts : List Tw} {many most : Int} {N : Nx} (r : Rep h (nds s many most ts) N) (lk : Linked s ts N) (up : Rise ts) (v : Int) (Q : Nat -> Nat) (hQ : ∀ k, k < 8 -> Q k <= upTo ts v /\ OnLev ts k (Q k)) (r0 : List V) (hr : r0.length = 8) (hn : ts.length < n) : ∀ (c M : Nat) (last : V), c <= 8 -> c < M →
    ((last = .val (.pointer none) /\ c = 8) \/ ∃ i, last = .ptr (posB s ts i) 0 /\ i <= upTo ts v /\ OnLev ts c i) →
    loopx M (pathOn_l0 (n + 1) v) [.agg (pathV (fun k => if c <= k then posB s ts (lastP ts k (upTo ts v)) else posB s ts (Q k))), .agg r0, last, .int .i64 ((c : Int) - 1)] h = some (.ret [.agg (pathV (fun k => posB s ts (lastP ts k (upTo ts v))))], h) := by
  intro c
  induction c with
  | zero =>
    intro M last h1 h2 h3
    obtain ⟨M, rfl⟩ : ∃ M', M = M' + 1 := ⟨M - 1, by omega⟩
    rw [loopx_succ]
    unfold pathOn_l0
    have hlt : decide ((((0 : Nat) : Int) - 1) ≥ 0) = false := by decide
    have e : (fun k => if 0 <= k then posB s ts (lastP ts k (upTo ts v)) else posB s ts (Q k)) = fun k => posB s ts (lastP ts k (upTo ts v)) := by funext k; rw [if_pos (Nat.zero_le _)]
    simp only [gv, List.getD_cons_zero, List.getD_cons_succ, bop_i64_geq, bd_some, bv_bool, hlt, Bool.false_eq_true, if_false, lcs_agg, e, path_full _ r0 hr]
    simp only [path_take, pathV_len]
    rw [if_pos (by first | trivial | rfl), if_pos (by omega)]
  | succ k ih =>
    intro M last h1 h2 h3
    obtain ⟨M, rfl⟩ : ∃ M', M = M' + 1 := ⟨M - 1, by omega⟩
    have hk : k < 8 := by omega
    have hul := upTo_le ts v
    have hge : decide ((((k + 1 : Nat) : Int) - 1) ≥ 0) = true := by simp
    have hki : (((k + 1 : Nat) : Int) - 1) = (k : Int) := by omega
    have hwr : IntKind.i64.wrap ((k : Int) - 1) = (k : Int) - 1 := by rw [w64] <;> omega
    obtain ⟨q1, q2⟩ := hQ k hk
    have hpk : (pathV (fun j => if k + 1 <= j then posB s ts (lastP ts j (upTo ts v)) else posB s ts (Q j)))[k]? = some (.ptr (posB s ts (Q k)) 0) := by rw [pathV_get _ hk, if_neg (by omega)]
    have hstep : (pathV (fun j => if k + 1 <= j then posB s ts (lastP ts j (upTo ts v)) else posB s ts (Q j))).set k (.ptr (posB s ts (lastP ts k (upTo ts v))) 0) = pathV (fun j => if k <= j then posB s ts (lastP ts j (upTo ts v)) else posB s ts (Q j)) := by
      rw [pathV_set _ hk]
      congr 1
      funext j
      by_cases e1 : j = k
      · rw [if_pos e1, if_pos (by omega), e1]
      · rw [if_neg e1]
        by_cases e2 : k + 1 <= j
        · rw [if_pos e2, if_pos (by omega)]
        · rw [if_neg e2, if_neg (by omega)]
    have hon : OnLev ts k (lastP ts k (upTo ts v)) := lastP_on ts k _ hul
    have IH := ih M (.ptr (posB s ts (lastP ts k (upTo ts v))) 0) (by omega) (by omega) (.inr ⟨_, rfl, lastP_le ts k _, hon⟩)
    have walk : ∀ i, i <= upTo ts v -> OnLev ts k i -> ∀ lst, loopx (n + 1) (pathOn_l18 (n + 1) v [.agg (pathV (fun j => if k + 1 <= j then posB s ts (lastP ts j (upTo ts v)) else posB s ts (Q j))), .agg r0, lst, .int .i64 (k : Int)] (loopx M (pathOn_l0 (n + 1) v))) [.agg (pathV (fun j => if k + 1 <= j then posB s ts (lastP ts j (upTo ts v)) else posB s ts (Q j))), .agg r0, .ptr (posB s ts i) 0, nx k (ts.drop i)] h = some (.ret [.agg (pathV (fun k => posB s ts (lastP ts k (upTo ts v))))], h) := fun i hi hi2 lst => by
      rw [on_walk (n + 1) r lk up v hk _ r0 (pathV_len _) lst _ _ _ (ts.length + 1 - i) i (n + 1) (by omega) (by omega) hi hi2 (by omega), hstep, hwr]
      exact IH
    have rdQ : ∀ i, i <= upTo ts v -> OnLev ts k i -> ∃ cs m, cellsP h (.ptr (posB s ts i) (2 + k)) = some (cs, m, 2 + k) /\ 2 + k + 1 <= m /\ cs[2 + k]? = some (nx k (ts.drop i)) := fun i hi hi2 => by
      obtain ⟨x, hx, hxb⟩ := node_pos (s := s) (many := many) (most := most) (ts := ts) (i := i) (by omega)
      refine ⟨x.cells N, 10 + x.post.length, by rw [<- hxb]; exact r.read hx _, by omega, ?_⟩
      rw [x.get _ hk, hxb, lk.at_ hk hi2]
    obtain ⟨cs, m, c1, c2, c3⟩ := rdQ (Q k) q1 q2
    rw [loopx_succ, hki]
    rcases h3 with ⟨rfl, h8⟩ | ⟨i, rfl, i1, i2⟩
    · have key : ∀ next, pathOn_l0 (n + 1) v [.agg (pathV (fun j => if k + 1 <= j then posB s ts (lastP ts j (upTo ts v)) else posB s ts (Q j))), .agg r0, .val (.pointer none), .int .i64 (k : Int)] h next = loopx (n + 1) (pathOn_l18 (n + 1) v [.agg (pathV (fun j => if k + 1 <= j then posB s ts (lastP ts j (upTo ts v)) else posB s ts (Q j))), .agg r0, .val (.pointer none), .int .i64 (k : Int)] next) [.agg (pathV (fun j => if k + 1 <= j then posB s ts (lastP ts j (upTo ts v)) else posB s ts (Q j))), .agg r0, .ptr (posB s ts (Q k)) 0, nx k (ts.drop (Q k))] h := by
        intro next
        unfold pathOn_l0
        simp only [gv, List.getD_cons_zero, List.getD_cons_succ, bop_i64_geq, bd_some, bv_bool]
        rw [if_pos (decide_eq_true (Int.natCast_nonneg k)), bop_tw_nil', bd_some, bv_bool, if_pos rfl]
        simp only [nv_int, bd_some, lcs_agg, Nat.mul_one, hpk, addP_ptr, Nat.zero_add, Nat.add_zero, c1, bd3_some, c3]
        rw [if_pos hk, if_pos (by omega), if_pos hk, if_pos (by omega)]
      rw [key]
      exact walk (Q k) q1 q2 _
    · have i2' := onlev_down (k' := k) (by omega) i2
      obtain ⟨ds, m', d1, d2, d3⟩ := rdQ i i1 i2'
      obtain ⟨x, hx, hxb⟩ := node_pos (s := s) (many := many) (most := most) (ts := ts) (i := Q k) (by omega)
      obtain ⟨y, hy, hyb⟩ := node_pos (s := s) (many := many) (most := most) (ts := ts) (i := i) (by omega)
      obtain ⟨b, hb⟩ := further_call n r hx hy
      rw [hxb, hyb] at hb
      have key : ∀ next, pathOn_l0 (n + 1) v [.agg (pathV (fun j => if k + 1 <= j then posB s ts (lastP ts j (upTo ts v)) else posB s ts (Q j))), .agg r0, .ptr (posB s ts i) 0, .int .i64 (k : Int)] h next = loopx (n + 1) (pathOn_l18 (n + 1) v [.agg (pathV (fun j => if k + 1 <= j then posB s ts (lastP ts j (upTo ts v)) else posB s ts (Q j))), .agg r0, .ptr (posB s ts i) 0, .int .i64 (k : Int)] next) [.agg (pathV (fun j => if k + 1 <= j then posB s ts (lastP ts j (upTo ts v)) else posB s ts (Q j))), .agg r0, .ptr (posB s ts (if b then Q k else i)) 0, nx k (ts.drop (if b then Q k else i))] h := by
        intro next
        unfold pathOn_l0
        simp only [gv, List.getD_cons_zero, List.getD_cons_succ, bop_i64_geq, bd_some, bv_bool]
        rw [if_pos (decide_eq_true (Int.natCast_nonneg k)), bop_tw_ptr', bd_some, bv_bool, if_neg (by decide)]
        simp only [nv_int, bd_some, lcs_agg, Nat.mul_one, hpk]
        rw [if_pos hk, if_pos (by omega), hb, cl_ret, one1_one, bv_bool]
        cases b with
        | true =>
          rw [if_pos rfl]
          simp only [nv_int, bd_some, lcs_agg, Nat.mul_one, hpk, addP_ptr, Nat.zero_add, Nat.add_zero, c1, bd3_some, c3, if_true, on_same1]
          rw [if_pos hk, if_pos (by omega), if_pos hk, if_pos (by omega)]
        | false =>
          rw [if_neg (by decide)]
          simp only [nv_int, bd_some, lcs_agg, Nat.mul_one, addP_ptr, Nat.zero_add, Nat.add_zero, d1, bd3_some, d3, Bool.false_eq_true, if_false, on_same2]
          rw [if_pos hk, if_pos (by omega)]
      rw [key]
      cases b with
      | true => exact walk (Q k) q1 q2 _
      | false => exact walk i i1 i2' _
theorem on_call (n : Nat) {h : Heap} {s : Nat} {ts : List Tw} {many most : Int} {N : Nx} (r : Rep h (nds s many most ts) N) (lk : Linked s ts N) (up : Rise ts) (v : Int) (Q : Nat -> Nat) (hQ : ∀ k, k < 8 -> Q k <= upTo ts v /\ OnLev ts k (Q k)) (hn : ts.length + 8 < n) :
    call (n + 2) 42 [.agg (pathV (fun k => posB s ts (Q k))), .int .i32 v] h = some (.ret [.agg (pathV (fun k => posB s ts (lastP ts k (upTo ts v))))], h) := by
  rw [show n + 2 = (n + 1) + 1 from rfl, pathOn_eq]
  unfold pathOn
  rw [if_pos (pathV_len _)]
  have e := on_loop n r lk up v Q hQ [V.val (.pointer none), V.val (.pointer none), V.val (.pointer none), V.val (.pointer none), V.val (.pointer none), V.val (.pointer none), V.val (.pointer none), V.val (.pointer none)] rfl (by omega) 8 (n + 1) (.val (.pointer none)) (by omega) (by omega) (.inl ⟨rfl, rfl⟩)
  have e0 : pathV (fun k => if 8 <= k then posB s ts (lastP ts k (upTo ts v)) else posB s ts (Q k)) = pathV (fun k => posB s ts (Q k)) := by
    unfold pathV
    apply List.map_congr_left
    intro k hk
    have := List.mem_range.1 hk
    simp only
    rw [if_neg (by omega)]
  rw [e0] at e
  exact e
end Go.Proofs.Try
set_option linter.unusedVariables false
set_option linter.unusedSimpArgs false
namespace Go.Sk
open Go.L
theorem nx_last {ts : List Tw} {k j : Nat} (hj : j <= ts.length) : nx k (ts.drop (lastP ts k j)) = nx k (ts.drop j) := by
  have hl := lastP_le ts k j
  unfold nx
  rw [drop_part hl hj]
  have : fst? k ((ts.take j).drop (lastP ts k j)) = none := by
    cases h : fst? k ((ts.take j).drop (lastP ts k j)) with
    | none => rfl
    | some t =>
      obtain ⟨m, h1, h2, h3, h4⟩ := fst_some_part h
      exact absurd h4 (lastP_none ts k j m t h1 h2 h3)
  unfold fst? at this ⊢
  rw [List.find?_append, this]
  rfl
theorem ins_perm (ts : List Tw) (j : Nat) (u : Tw) : (ins ts j u).Perm (u :: ts) := by
  unfold ins
  refine List.perm_middle.trans ?_
  rw [List.take_append_drop]
theorem mem_ins {ts : List Tw} {j : Nat} {u t : Tw} : t ∈ ins ts j u ↔ t = u \/ t ∈ ts := by rw [(ins_perm ts j u).mem_iff, List.mem_cons]
def newN (N : Nx) (b : Nat) : Nx := fun b' k => if b' = b then nilP else N b' k
end Go.Sk
namespace Go.Proofs.Try
open Go.L Go.Rp Go.Sk
set_option maxRecDepth 100000
def skB (s : Nat) (ts : List Tw) : List Nat := s :: ts.map Tw.b
theorem SkAt.nd {h : Heap} {s : Nat} {ts : List Tw} {most : Int} {N : Nx} (S : SkAt h s ts most N) : (skB s ts).Nodup := by
  have := S.rep.nd
  rwa [nds_bs] at this
theorem SkAt.lt {h : Heap} {s : Nat} {ts : List Tw} {most : Int} {N : Nx} (S : SkAt h s ts most N) : ∀ b ∈ skB s ts, b < h.length := fun b hb => by
  unfold skB at hb
  rw [<- nds_bs s (ts.length : Int) most] at hb
  obtain ⟨x, hx, rfl⟩ := List.mem_map.1 hb
  exact lt_of_at (S.rep.at_ x hx)
theorem SkAt.keep {h h' : Heap} {s : Nat} {ts : List Tw} {most : Int} {N : Nx} (S : SkAt h s ts most N) (hk : ∀ b ∈ skB s ts, h'[b]? = h[b]?) : SkAt h' s ts most N :=
  ⟨S.rep.keep fun x hx => hk _ (by unfold skB; rw [<- nds_bs s (ts.length : Int) most]; exact List.mem_map_of_mem hx), S.lk, S.up, S.ht⟩
theorem nexts_nil {N : Nx} {b : Nat} (h : ∀ k, N b k = nilP) : nexts (N b) = nexts (fun _ => nilP) := by
  congr 1; funext k; exact h k
theorem put_step (n : Nat) {h : Heap} {s : Nat} {ts : List Tw} {most : Int} {N : Nx} (S : SkAt h s ts most N) (v kk : Int) (Q : Nat -> Nat) (hQ : ∀ k, k < 8 -> Q k <= upTo ts v /\ OnLev ts k (Q k)) (hn : ts.length + 8 < n) (hlim : ts.length < lim) :
    ∃ (u : Tw) (h1 h2 : Heap) (N' : Nx) (cs : List V) (B : HB), u.b = h.length /\ u.v = v /\ (u.ht : Int) = max 1 (min kk 8) ∧
      call (n + 2) 42 [.agg (pathV (fun k => posB s ts (Q k))), .int .i32 v] h = some (.ret [.agg (pathV (fun k => posB s ts (lastP ts k (upTo ts v))))], h) ∧
      call (n + 2) 44 [.int .i32 v, .int .i64 kk] h = some (.ret [.ptr u.b 0], h1) ∧
      call (n + 2) 43 [.agg (pathV (fun k => posB s ts (lastP ts k (upTo ts v)))), .ptr u.b 0] h1 = some (.ret [.agg (pathV (fun k => posB s (ins ts (upTo ts v) u) (lastP (ins ts (upTo ts v) u) k (upTo ts v + 1))))], h2) ∧
      cellsP h2 (.ptr s 10) = some (cs, 12, 10) /\ cs[10]? = some (.int .i64 (ts.length : Int)) /\ writeB h2 [.int .i64 ((ts.length + 1 : Nat) : Int)] (.ptr s 10) = some (s, B) ∧
      SkAt (h2.set s B) s (ins ts (upTo ts v) u) most N' /\ (h2.set s B).length = h.length + 1 /\ ∀ i, i < h.length -> i ∉ skB s ts -> (h2.set s B)[i]? = h[i]? := by
  obtain ⟨T, hT⟩ : ∃ T : Nat, (T : Int) = max 1 (min kk 8) := ⟨(max 1 (min kk 8)).toNat, Int.toNat_of_nonneg (by omega)⟩
  have hT1 : 1 <= T /\ T <= 8 := by omega
  have hul := upTo_le ts v
  have hlt := S.lt
  have hnd := S.nd
  have hon := on_call n S.rep S.lk S.up v Q hQ hn
  have htall := tall_call (n + 1) h v kk
  obtain ⟨P, hPe⟩ : ∃ P : Nat -> Nat, P = fun k => posB s ts (lastP ts k (upTo ts v)) := ⟨_, rfl⟩
  rw [<- hPe] at hon
  obtain ⟨u, hu⟩ : ∃ u : Tw, u = ⟨h.length, v, T⟩ := ⟨_, rfl⟩
  have hub : u.b = h.length := by rw [hu]
  have huT : u.ht = T := by rw [hu]
  have huv : u.v = v := by rw [hu]
  have hfresh : ∀ b ∈ skB s ts, b ≠ h.length := fun b hb e => by have := hlt b hb; omega
  have hPin : ∀ k, P k ∈ skB s ts := fun k => by
    rw [hPe]
    obtain ⟨x, hx, hxb⟩ := node_pos (s := s) (many := (ts.length : Int)) (most := most) (ts := ts) (i := lastP ts k (upTo ts v)) (by have := lastP_le ts k (upTo ts v); omega)
    simp only
    rw [<- hxb]
    unfold skB
    rw [<- nds_bs s (ts.length : Int) most]
    exact List.mem_map_of_mem hx
  obtain ⟨h1, hh1⟩ : ∃ h1 : Heap, h1 = h ++ [.box 10 ([.int .i32 v, .int .i64 (max 1 (min kk 8))] ++ nexts (fun _ => nilP))] := ⟨_, rfl⟩
  rw [<- hh1] at htall
  have hN1 : ∀ b ∈ skB s ts, newN N h.length b = N b := fun b hb => by funext k; unfold newN; rw [if_neg (hfresh b hb)]
  have r1 : Rep h1 (ndT u :: nds s (ts.length : Int) most ts) (newN N h.length) := by
    refine ⟨fun x hx => ?_, ?_, fun x hx k => ?_⟩
    · rcases List.mem_cons.1 hx with rfl | hx
      · show h1[u.b]? = some (.box (10 + 0) ([.int .i32 u.v, .int .i64 (u.ht : Int)] ++ (nexts (newN N h.length u.b) ++ [])))
        rw [hub, hh1, List.getElem?_concat_length, huv, huT, hT, List.append_nil, nexts_nil (N := newN N h.length) (b := h.length) (fun k => by unfold newN; rw [if_pos rfl])]
      · have hb : x.b ∈ skB s ts := by unfold skB; rw [<- nds_bs s (ts.length : Int) most]; exact List.mem_map_of_mem hx
        have := S.rep.at_ x hx
        unfold NodeAt at this ⊢
        rw [hh1, List.getElem?_append_left (hlt _ hb), this]
        unfold Nd.cells
        rw [hN1 _ hb]
    · rw [List.map_cons, nds_bs]
      refine List.nodup_cons.2 ⟨fun hm => hfresh _ hm hub, hnd⟩
    · rcases List.mem_cons.1 hx with rfl | hx
      · have e : newN N h.length (ndT u).b k = nilP := if_pos hub
        rw [e]; rfl
      · have hb : x.b ∈ skB s ts := by unfold skB; rw [<- nds_bs s (ts.length : Int) most]; exact List.mem_map_of_mem hx
        rw [hN1 _ hb]
        exact S.rep.one x hx k
  have hPne : ∀ k, P k ≠ u.b := fun k e => hfresh _ (hPin k) (e.trans hub)
  obtain ⟨h2, e3, r2, l2, f2⟩ := put_call (n + 1) r1 (ndT u) (List.mem_cons_self ..) (T := T) (by show ((u.ht : Nat) : Int) = _; rw [huT]) hT1.2 P (fun k hk => by
      have := hPin k
      unfold skB at this
      rw [<- nds_bs s (ts.length : Int) most] at this
      obtain ⟨x, hx, hxb⟩ := List.mem_map.1 this
      exact ⟨x, List.mem_cons_of_mem _ hx, hxb⟩) hPne (by omega)
  have hlk : Linked s (ins ts (upTo ts v) u) (putN (newN N h.length) u.b P T) := by
    have hnd' := List.nodup_cons.1 hnd
    refine S.lk.ins hnd'.2 hnd'.1 (fun e => hfresh s (List.mem_cons_self ..) (e.symm.trans hub)) (fun hm => hfresh _ (List.mem_cons_of_mem _ hm) hub) hul (fun k hk => ?_) (fun k hk hku => ?_) (fun b k hk hb1 hb2 => ?_)
    · rw [huT]
      by_cases hkT : k < T
      · rw [if_pos hkT, (putN_lt (newN N h.length) u.b P hPne T k hkT).1, hN1 _ (hPin k), hPe]
        simp only
        rw [S.lk.at_ hk (lastP_on ts k _ hul), nx_last hul]
      · rw [if_neg hkT, putN_ge _ _ _ _ _ _ (by omega), hub]
        unfold newN; rw [if_pos rfl]
    · rw [huT] at hku
      have := (putN_lt (newN N h.length) u.b P hPne T k hku).2.1
      rw [hPe] at this
      rw [hPe]
      exact this
    · have hbN : newN N h.length b k = N b k := by unfold newN; rw [if_neg (by rw [<- hub]; exact hb1)]
      by_cases hkT : k < T
      · rw [(putN_lt (newN N h.length) u.b P hPne T k hkT).2.2 b hb1 (by rw [hPe]; exact hb2 (by rw [huT]; exact hkT)), hbN]
      · rw [putN_ge _ _ _ _ _ _ (by omega), hbN]
  have hpath : pathV (fun j => if j < T then (ndT u).b else P j) = pathV (fun k => posB s (ins ts (upTo ts v) u) (lastP (ins ts (upTo ts v) u) k (upTo ts v + 1))) := by
    congr 1
    funext k
    rw [lastP_ins_at hul, huT]
    by_cases hkT : k < T
    · rw [if_pos hkT, if_pos hkT]
      simp only [posB, getD_some (ins_at hul)]
      rfl
    · rw [if_neg hkT, if_neg hkT, posB_ins hul (lastP_le _ _ _), hPe]
  rw [hpath] at e3
  have hhd := r2.at_ (ndH s (ts.length : Int) most) (List.mem_cons_of_mem _ (List.mem_cons_self ..))
  have hcell := r2.read (x := ndH s (ts.length : Int) most) (List.mem_cons_of_mem _ (List.mem_cons_self ..)) 10
  have hc10 : ∀ (many : Int) (M : Nx), ((ndH s many most).cells M)[10]? = some (.int .i64 many) := fun many M => by
    unfold Nd.cells
    rw [List.getElem?_append_right (by simp), List.getElem?_append_right (by rw [nexts_len]; simp)]
    simp [nexts_len, ndH]
  have hset : ∀ (a b : Int) (M : Nx), setR ((ndH s a most).cells M) 10 [.int .i64 b] = (ndH s b most).cells M := fun a b M => by
    show (List.set _ _ _) = _
    unfold Nd.cells
    rw [List.set_append_right _ _ (by simp), List.set_append_right _ _ (by rw [nexts_len]; simp)]
    congr 1
    try simp [nexts_len, ndH]
  have hsl := lt_of_at hhd
  have hw : writeB h2 [.int .i64 ((ts.length + 1 : Nat) : Int)] (.ptr s 10) = some (s, .box 12 ((ndH s ((ts.length + 1 : Nat) : Int) most).cells (putN (newN N h.length) u.b P T))) := by
    have h0 : h2[s]? = some (.box 12 ((ndH s (ts.length : Int) most).cells (putN (newN N h.length) u.b P T))) := hhd
    rw [writeB_box h0 (by simp), hset]
  refine ⟨u, h1, h2, _, _, _, hub, huv, by rw [huT]; exact hT, hPe ▸ hon, by rw [hub]; exact htall, hPe ▸ e3, hcell, hc10 _ _, hw, ⟨⟨fun x hx => ?_, ?_, fun x hx k => ?_⟩, hlk, ?_, fun t ht => ?_⟩, ?_, fun i hi hib => ?_⟩
  · rcases List.mem_cons.1 hx with rfl | hx
    · rw [ins_len hul]
      exact set_at hsl _
    · obtain ⟨t, ht, rfl⟩ := List.mem_map.1 hx
      have hm : ndT t ∈ ndT u :: nds s (ts.length : Int) most ts := by
        rcases mem_ins.1 ht with rfl | ht
        · exact List.mem_cons_self ..
        · exact List.mem_cons_of_mem _ (List.mem_cons_of_mem _ (List.mem_map_of_mem ht))
      have hne : t.b ≠ s := by
        rcases mem_ins.1 ht with rfl | ht
        · intro e; exact hfresh s (List.mem_cons_self ..) (e.symm.trans hub)
        · intro e; exact (List.nodup_cons.1 hnd).1 (e ▸ List.mem_map_of_mem ht)
      unfold NodeAt
      rw [List.getElem?_set_ne (show s ≠ (ndT t).b from Ne.symm hne)]
      exact r2.at_ _ hm
  · rw [nds_bs]
    have hp : ((ins ts (upTo ts v) u).map Tw.b).Perm ((u :: ts).map Tw.b) := (ins_perm ts _ u).map _
    have hnd' := List.nodup_cons.1 hnd
    refine List.nodup_cons.2 ⟨fun hm => ?_, hp.nodup_iff.2 ?_⟩
    · rcases List.mem_cons.1 (hp.mem_iff.1 hm) with e | hm
      · exact hfresh s (List.mem_cons_self ..) (e.trans hub)
      · exact hnd'.1 hm
    · rw [List.map_cons]
      exact List.nodup_cons.2 ⟨fun hm => hfresh _ (List.mem_cons_of_mem _ hm) hub, hnd'.2⟩
  · rcases List.mem_cons.1 hx with rfl | hx
    · exact r2.one (ndH s (ts.length : Int) most) (List.mem_cons_of_mem _ (List.mem_cons_self ..)) k
    · obtain ⟨t, ht, rfl⟩ := List.mem_map.1 hx
      rcases mem_ins.1 ht with rfl | ht
      · exact r2.one _ (List.mem_cons_self ..) k
      · exact r2.one _ (List.mem_cons_of_mem _ (List.mem_cons_of_mem _ (List.mem_map_of_mem ht))) k
  · have := S.up.ins u
    rwa [huv] at this
  · rcases mem_ins.1 ht with rfl | ht
    · rw [huT]; exact hT1
    · exact S.ht t ht
  · rw [List.length_set, l2, hh1, List.length_append]; rfl
  · have his : i ≠ s := fun e => hib (e ▸ List.mem_cons_self ..)
    rw [List.getElem?_set_ne (Ne.symm his), f2 i fun x hx e => ?_, hh1, List.getElem?_append_left hi]
    rcases List.mem_cons.1 hx with rfl | hx
    · have : (ndT u).b = h.length := hub
      omega
    · refine hib ?_
      unfold skB
      rw [<- nds_bs s (ts.length : Int) most, <- e]
      exact List.mem_map_of_mem hx
theorem hd_cell10 (s : Nat) (many most : Int) (M : Nx) : ((ndH s many most).cells M)[10]? = some (.int .i64 many) := by
  unfold Nd.cells
  rw [List.getElem?_append_right (by simp), List.getElem?_append_right (by rw [nexts_len]; simp)]
  simp [nexts_len, ndH]
theorem hd_cell11 (s : Nat) (many most : Int) (M : Nx) : ((ndH s many most).cells M)[11]? = some (.int .i64 most) := by
  unfold Nd.cells
  rw [List.getElem?_append_right (by simp), List.getElem?_append_right (by rw [nexts_len]; simp)]
  simp [nexts_len, ndH]
theorem hd_set10 (s : Nat) (a b most : Int) (M : Nx) : setR ((ndH s a most).cells M) 10 [.int .i64 b] = (ndH s b most).cells M := by
  show (List.set _ _ _) = _
  unfold Nd.cells
  rw [List.set_append_right _ _ (by simp), List.set_append_right _ _ (by rw [nexts_len]; simp)]
  congr 1
  try simp [nexts_len, ndH]
theorem SkAt.head {h : Heap} {s : Nat} {ts : List Tw} {most : Int} {N : Nx} (S : SkAt h s ts most N) (o : Nat) : cellsP h (.ptr s o) = some ((ndH s (ts.length : Int) most).cells N, 12, o) := S.rep.read (x := ndH s (ts.length : Int) most) (List.mem_cons_self ..) o
theorem SkAt.hb {h : Heap} {s : Nat} {ts : List Tw} {most : Int} {N : Nx} (S : SkAt h s ts most N) : h[s]? = some (.box 12 ((ndH s (ts.length : Int) most).cells N)) := S.rep.at_ _ (List.mem_cons_self ..)
theorem most_call (n : Nat) {h : Heap} {s : Nat} {ts : List Tw} {most : Int} {N : Nx} (S : SkAt h s ts most N) : call (n + 1) 35 [.ptr s 0] h = some (.ret [.int .i64 most], h) := by
  refine (skipMost_eq n s h).trans ?_
  unfold skipMost
  rw [bop_sk_nil, bd_some, bv_bool, if_neg (by decide), S.head, bd3_some, if_pos (by decide), hd_cell11, bd_some]
theorem len_call (n : Nat) {h : Heap} {s : Nat} {ts : List Tw} {most : Int} {N : Nx} (S : SkAt h s ts most N) : call (n + 1) 36 [.ptr s 0] h = some (.ret [.int .i64 (ts.length : Int)], h) := by
  refine (skipLen_eq n s h).trans ?_
  unfold skipLen
  rw [bop_sk_nil, bd_some, bv_bool, if_neg (by decide), S.head, bd3_some, if_pos (by decide), hd_cell10, bd_some]
structure Put (h h' : Heap) (s : Nat) (ts ts' : List Tw) (most : Int) (v kk : Int) : Prop where
  sk : ∃ N, SkAt h' s ts' most N
  ins : ∃ u : Tw, u.b = h.length /\ u.v = v /\ (u.ht : Int) = max 1 (min kk 8) /\ ts' = Go.Sk.ins ts (upTo ts v) u
  len : h'.length = h.length + 1
  old : ∀ i, i < h.length -> i ∉ skB s ts -> h'[i]? = h[i]?
theorem cells_int (k : IntKind) (a : Int) : V.cells (.int k a) = [.int k a] := rfl
theorem insert_call (n : Nat) {h : Heap} {s : Nat} {ts : List Tw} {most : Int} {N : Nx} (S : SkAt h s ts most N) (v kk : Int) (hn : ts.length + 8 < n) (hlim : ts.length < lim) (hm : (ts.length : Int) < most) :
    ∃ h' ts', call (n + 3) 22 [.ptr s 0, .int .i32 v, .int .i64 kk] h = some (.ret [.bool true], h') /\ Put h h' s ts ts' most v kk := by
  obtain ⟨u, h1, h2, N', cs, B, a1, a2, a3, e1, e2, e3, c1, c2, w, S', l', f'⟩ := put_step n S v kk (fun _ => 0) (fun k _ => ⟨Nat.zero_le _, trivial⟩) hn hlim
  refine ⟨h2.set s B, _, ?_, ⟨⟨N', S'⟩, ⟨u, a1, a2, a3, rfl⟩, l', f'⟩⟩
  refine (skipInsert_eq (n + 2) s v kk h).trans ?_
  unfold skipInsert
  have hb := begin_call (n + 1) h s (by omega)
  have hb' : call (n + 2) 41 [.ptr s 0] h = some (.ret [.agg (pathV (fun _ => posB s ts 0))], h) := hb
  rw [bop_sk_nil, bd_some, bv_bool, if_neg (by decide), S.head, bd3_some, if_pos (by decide), hd_cell10, bd_some, S.head, bd3_some, if_pos (by decide), hd_cell11, bd_some, bop_i64_geq, bd_some, bv_bool]
  rw [if_neg (by intro e; have := of_decide_eq_true e; omega), hb', cl_ret, one1_one, e1, cl_ret, one1_one, e2, cl_ret, one1_one, e3, cl_ret, one1_one, c1, bd3_some, if_pos (by decide), c2, bd_some, bop_i64_add, bd_some, step64 hlim, cells_int, if_pos (by rfl), w, bd2_some]
def minN (N : Nx) (s b : Nat) : Nat -> Nx
  | 0 => N
  | k + 1 => updN (minN N s b k) s k (minN N s b k b k)
theorem minN_val (N : Nx) {s b : Nat} (hsb : s ≠ b) : ∀ K, (∀ b' k, b' ≠ s -> minN N s b K b' k = N b' k) /\ ∀ k, minN N s b K s k = if k < K then N b k else N s k
  | 0 => ⟨fun _ _ _ => rfl, fun k => by rw [if_neg (by omega)]; rfl⟩
  | K + 1 => by
    obtain ⟨h1, h2⟩ := minN_val N hsb K
    refine ⟨fun b' k hb => ?_, fun k => ?_⟩
    · simp only [minN, updN]
      rw [if_neg (fun e => hb e.1)]
      exact h1 b' k hb
    · simp only [minN, updN]
      by_cases e : k = K
      · rw [if_pos (by first | exact ⟨rfl, e⟩ | exact ⟨trivial, e⟩), h1 b K (Ne.symm hsb), if_pos (by omega), e]
      · rw [if_neg (fun h => e h.2), h2 k]
        by_cases h3 : k < K
        · rw [if_pos h3, if_pos (by omega)]
        · rw [if_neg h3, if_neg (by omega)]
structure Took (h h' : Heap) (s : Nat) (ts : List Tw) (most : Int) : Prop where
  sk : ∃ N, SkAt h' s ts most N
  len : h'.length = h.length
  old : ∀ i, i ≠ s -> h'[i]? = h[i]?
theorem min_loop (n : Nat) {ns : List Nd} {N : Nx} {x t : Nd} (hx : x ∈ ns) (ht : t ∈ ns) (hne : x.b ≠ t.b) (T : Nat) (hT : T <= 8) : ∀ (d k M : Nat) (h : Heap), k + d = T -> d < M -> Rep h ns (minN N x.b t.b k) →
    ∃ h' M', loopx M (skipMin_l16 n x.b (.ptr t.b 0) (.int .i64 (T : Int))) [.int .i64 (k : Int)] h = skipMin_l16 n x.b (.ptr t.b 0) (.int .i64 (T : Int)) [.int .i64 (T : Int)] h' (loopx M' (skipMin_l16 n x.b (.ptr t.b 0) (.int .i64 (T : Int)))) /\ Rep h' ns (minN N x.b t.b T) /\ h'.length = h.length /\ ∀ i, i ≠ x.b -> h'[i]? = h[i]? := by
  intro d
  induction d with
  | zero =>
    intro k M h h1 h2 r
    obtain ⟨M, rfl⟩ : ∃ M', M = M' + 1 := ⟨M - 1, by omega⟩
    obtain rfl : k = T := by omega
    exact ⟨h, M, loopx_succ .., r, rfl, fun _ _ => rfl⟩
  | succ d ih =>
    intro k M h h1 h2 r
    obtain ⟨M, rfl⟩ : ∃ M', M = M' + 1 := ⟨M - 1, by omega⟩
    have hk : k < 8 := by omega
    have hlt : decide ((k : Int) < (T : Int)) = true := by simp; omega
    have hone := r.one t ht k
    obtain ⟨w, r'⟩ := r.write hx hk (minN N x.b t.b k t.b k) hone
    have hrd := r.read ht (2 + k)
    have hg := t.get (minN N x.b t.b k) hk
    have key : ∀ next, skipMin_l16 n x.b (.ptr t.b 0) (.int .i64 (T : Int)) [.int .i64 (k : Int)] h next = next [.int .i64 ((k + 1 : Nat) : Int)] (h.set x.b (.box (10 + x.post.length) (x.cells (updN (minN N x.b t.b k) x.b k (minN N x.b t.b k t.b k))))) := by
      intro next
      unfold skipMin_l16
      simp only [gv, List.getD_cons_zero, bop_i64_lss, bd_some, bv_bool, hlt, if_true, nv_int, addP_ptr, Nat.mul_one, Nat.zero_add, hrd, bd3_some, hg, hone, List.length_cons, List.length_nil, w, bd2_some, bop_i64_add, step64 (show k < lim by unfold lim; omega)]
      rw [if_pos hk, if_pos (by omega), if_pos hk]
    obtain ⟨h', M', e, b1, b2, b3⟩ := ih (k + 1) M _ (by omega) (by omega) r'
    exact ⟨h', M', by rw [loopx_succ, key]; exact e, b1, by rw [b2, List.length_set], fun i hi => by rw [b3 i hi, List.getElem?_set_ne (Ne.symm hi)]⟩
theorem min_call (n : Nat) {h : Heap} {s : Nat} {t : Tw} {ts : List Tw} {most : Int} {N : Nx} (S : SkAt h s (t :: ts) most N) (hn : 8 < n) (hlim : ts.length + 1 < lim) :
    ∃ h', call (n + 2) 63 [.ptr s 0] h = some (.ret [.int .i32 t.v, .bool true], h') /\ Took h h' s ts most := by
  have hmem : ndT t ∈ nds s ((t :: ts).length : Int) most (t :: ts) := List.mem_cons_of_mem _ (List.mem_map_of_mem (List.mem_cons_self ..))
  have hmh : ndH s ((t :: ts).length : Int) most ∈ nds s ((t :: ts).length : Int) most (t :: ts) := List.mem_cons_self ..
  have hht := S.ht t (List.mem_cons_self ..)
  have hnd := S.nd
  have hne : s ≠ t.b := fun e => (List.nodup_cons.1 hnd).1 (e ▸ List.mem_cons_self ..)
  have hnx : N s 0 = .ptr t.b 0 := by
    have := S.lk.hd 0 (by omega)
    rw [this]
    unfold nx fst?
    rw [List.find?_cons, decide_eq_true (by omega)]
  have h2 : ((ndH s ((t :: ts).length : Int) most).cells N)[2]? = some (.ptr t.b 0) := by
    have := (ndH s ((t :: ts).length : Int) most).get N (k := 0) (by omega)
    rw [Nat.add_zero] at this
    rw [this]
    exact congrArg some hnx
  have hT1 : ∀ o, cellsP h (.ptr t.b o) = some ((ndT t).cells N, 10, o) := fun o => S.rep.read hmem o
  have hend : ∀ h' next, Rep h' (nds s ((t :: ts).length : Int) most (t :: ts)) (minN N s t.b t.ht) -> h'.length = h.length -> (∀ i, i ≠ s -> h'[i]? = h[i]?) →
      skipMin_l16 (n + 1) s (.ptr t.b 0) (.int .i64 (t.ht : Int)) [.int .i64 (t.ht : Int)] h' next = some (.ret [.int .i32 t.v, .bool true], h'.set s (.box 12 ((ndH s (ts.length : Int) most).cells (minN N s t.b t.ht)))) := fun h' next r hl hf => by
    unfold skipMin_l16
    have hlt : decide ((t.ht : Int) < (t.ht : Int)) = false := by simp
    have hrd : cellsP h' (.ptr s 10) = some ((ndH s ((t :: ts).length : Int) most).cells (minN N s t.b t.ht), 12, 10) := r.read hmh 10
    have hb : h'[s]? = some (.box 12 ((ndH s ((t :: ts).length : Int) most).cells (minN N s t.b t.ht))) := r.at_ _ hmh
    have hsub : IntKind.i64.wrap (((ts.length + 1 : Nat) : Int) - 1) = (ts.length : Int) := by unfold lim at hlim; rw [w64] <;> omega
    have hw : writeB h' [.int .i64 (ts.length : Int)] (.ptr s 10) = some (s, .box 12 ((ndH s (ts.length : Int) most).cells (minN N s t.b t.ht))) := by rw [writeB_box hb (by simp), hd_set10]
    have hrt : cellsP (h'.set s (.box 12 ((ndH s (ts.length : Int) most).cells (minN N s t.b t.ht)))) (.ptr t.b 0) = some ((ndT t).cells (minN N s t.b t.ht), 10, 0) := by
      refine cellsP_box ?_ 0
      rw [List.getElem?_set_ne hne]
      exact r.at_ _ hmem
    simp only [gv, List.getD_cons_zero, bop_i64_lss, bd_some, bv_bool, hlt, Bool.false_eq_true, if_false, hrd, bd3_some, hd_cell10, bop_i64_sub, hsub, cells_int, List.length_cons, List.length_nil, hw, bd2_some, addP_ptr, Nat.zero_add, hrt, Nd.get0]
    rw [if_pos (by omega), if_pos (by first | trivial | rfl), if_pos (by omega)]
    rfl
  obtain ⟨h', M', e, b1, b2, b3⟩ := min_loop (n + 1) hmh hmem hne t.ht hht.2 t.ht 0 (n + 1) h (by omega) (by omega) S.rep
  have e2 := hend h' (loopx M' (skipMin_l16 (n + 1) s (.ptr t.b 0) (.int .i64 (t.ht : Int)))) b1 b2 b3
  have hbs := b1.at_ _ hmh
  have hsl := lt_of_at hbs
  refine ⟨h'.set s (.box 12 ((ndH s (ts.length : Int) most).cells (minN N s t.b t.ht))), ?_, ⟨⟨minN N s t.b t.ht, ⟨⟨fun x hx => ?_, ?_, fun x hx k => ?_⟩, ?_, (List.pairwise_cons.1 S.up).2, fun u hu => S.ht u (List.mem_cons_of_mem _ hu)⟩⟩, by rw [List.length_set, b2], fun i hi => by rw [List.getElem?_set_ne (Ne.symm hi), b3 i hi]⟩⟩
  · refine (skipMin_eq (n + 1) s h).trans ?_
    unfold skipMin
    rw [len_call n S, cl_ret, one1_one, bop_i64_eql, bd_some, bv_bool, if_neg (by simp; omega), S.head, bd3_some, if_pos (by decide), h2, bd_some, addP_ptr, bd_some, Nat.zero_add, addP_ptr, bd_some, Nat.zero_add, hT1, bd3_some, if_pos (by decide), Nd.get1, bd_some]
    exact e.trans e2
  · rcases List.mem_cons.1 hx with rfl | hx
    · exact set_at hsl _
    · obtain ⟨u, hu, rfl⟩ := List.mem_map.1 hx
      have hne' : u.b ≠ s := fun e => (List.nodup_cons.1 hnd).1 (e ▸ List.mem_map_of_mem (List.mem_cons_of_mem _ hu))
      unfold NodeAt
      rw [List.getElem?_set_ne (show s ≠ (ndT u).b from Ne.symm hne')]
      exact b1.at_ _ (List.mem_cons_of_mem _ (List.mem_map_of_mem (List.mem_cons_of_mem _ hu)))
  · rw [nds_bs]
    have h1 := List.nodup_cons.1 hnd
    rw [List.map_cons] at h1
    exact List.nodup_cons.2 ⟨fun hm => h1.1 (List.mem_cons_of_mem _ hm), (List.nodup_cons.1 h1.2).2⟩
  · rcases List.mem_cons.1 hx with rfl | hx
    · exact b1.one (ndH s ((t :: ts).length : Int) most) hmh k
    · obtain ⟨u, hu, rfl⟩ := List.mem_map.1 hx
      exact b1.one _ (List.mem_cons_of_mem _ (List.mem_map_of_mem (List.mem_cons_of_mem _ hu))) k
  · have h1 := List.nodup_cons.1 hnd
    obtain ⟨m1, m2⟩ := minN_val N hne t.ht
    exact S.lk.tail h1.2 h1.1 (fun k _ => m2 k) (fun b k _ hb => m1 b k hb)
theorem min_none (n : Nat) {h : Heap} {s : Nat} {most : Int} {N : Nx} (S : SkAt h s [] most N) : call (n + 2) 63 [.ptr s 0] h = some (.ret [.int .i32 0, .bool false], h) := by
  refine (skipMin_eq (n + 1) s h).trans ?_
  unfold skipMin
  rw [len_call n S, cl_ret, one1_one, bop_i64_eql, bd_some, bv_bool, if_pos (by rfl)]
theorem new_call (n : Nat) (h : Heap) (m : Int) : ∃ N, call (n + 1) 15 [.int .i64 m] h = some (.ret [.ptr h.length 0], h ++ [.box 12 ((ndH h.length 0 (max 0 (min m 1000))).cells (fun _ _ => nilP))]) /\ SkAt (h ++ [.box 12 ((ndH h.length 0 (max 0 (min m 1000))).cells (fun _ _ => nilP))]) h.length [] (max 0 (min m 1000)) N := by
  refine ⟨fun _ _ => nilP, ?_, ⟨⟨fun x hx => ?_, by simp [nds], fun x hx k => rfl⟩, ⟨fun k hk => rfl, fun i t k ht => by simp at ht⟩, by simp [Rise], by simp⟩⟩
  · refine (skipNew_eq n m h).trans ?_
    unfold skipNew
    have e : (if (0 : Int) < (if 1000 < m then 1000 else m) then (if 1000 < m then 1000 else m) else 0) = max 0 (min m 1000) := by
      by_cases h1 : 1000 < m
      · simp only [if_pos h1]; omega
      · simp only [if_neg h1]; split <;> omega
    rw [e]
    rfl
  · rcases List.mem_cons.1 hx with rfl | hx
    · exact List.getElem?_concat_length
    · simp at hx
theorem nan_call (n : Nat) (a : Int) (h : Heap) : call (n + 1) 89 [.int .i32 a] h = some (.ret [.bool false], h) := by
  refine (isNaN_eq n a h).trans ?_
  unfold isNaN
  simp
theorem less_call (n : Nat) (a b : Int) (h : Heap) : call (n + 2) 83 [.int .i32 a, .int .i32 b] h = some (.ret [.bool (decide (a < b))], h) := by
  refine (cmpLess_eq (n + 1) a b h).trans ?_
  unfold cmpLess
  rw [nan_call, cl_ret, one1_one, bv_bool, if_neg (by decide)]
def cmpV (a b : Int) : Int := if a < b then -1 else if a > b then 1 else 0
theorem compare_call (n : Nat) (a b : Int) (h : Heap) : call (n + 2) 82 [.int .i32 a, .int .i32 b] h = some (.ret [.int .i64 (cmpV a b)], h) := by
  refine (cmpCompare_eq (n + 1) a b h).trans ?_
  unfold cmpCompare cmpV
  rw [nan_call, cl_ret, one1_one, nan_call, cl_ret, one1_one, bv_bool, if_neg (by decide), bv_bool, if_neg (by decide)]
  by_cases h1 : a < b
  · rw [if_pos (by simpa using h1), if_pos h1]
  · rw [if_neg (by simpa using h1), if_neg h1]
    by_cases h2 : a > b
    · rw [if_pos (by simpa using h2), if_pos h2]
    · rw [if_neg (by simpa using h2), if_neg h2]
def RowI (h : Heap) (b : Nat) (k : IntKind) (e : Nat) (l : List Int) : Prop := ∃ z, h[b]? = some (.row e 1 (l.map (intV k)) z)
theorem RowI.keep {h h' : Heap} {b : Nat} {k : IntKind} {e : Nat} {l : List Int} (r : RowI h b k e l) (hk : h'[b]? = h[b]?) : RowI h' b k e l := by obtain ⟨z, hz⟩ := r; exact ⟨z, hk.trans hz⟩
theorem RowI.slc {h : Heap} {b : Nat} {k : IntKind} {e : Nat} {l : List Int} (r : RowI h b k e l) : slcH h (.row b 1 0 l.length) = some (1, l.map (intV k)) := by
  obtain ⟨z, hz⟩ := r
  have := slcH_all hz
  rwa [List.length_map] at this
theorem RowI.get {h : Heap} {b : Nat} {k : IntKind} {e : Nat} {l : List Int} (r : RowI h b k e l) {i : Nat} {x : Int} (hx : l[i]? = some x) : idxP 1 i (.row b 1 0 l.length) = some (.rptr b 1 i 0) /\ cellsP h (.rptr b 1 i 0) = some ([.int k x], 1, 0) := by
  obtain ⟨z, hz⟩ := r
  have hi := (List.getElem?_eq_some_iff.1 hx).1
  refine ⟨by simpa using idxP_row (b := b) (sz := 1) (lo := 0) (hi := l.length) (n := i) (by omega), cellsP_rptr hz (by decide) ?_⟩
  rw [List.getElem?_map, hx]
  rfl
theorem sorted_loop (n : Nat) {h : Heap} {b : Nat} {e : Nat} {l : List Int} (r : RowI h b .i32 e l) (hs : l.Pairwise (· <= ·)) (hl : l.length < lim) : ∀ (i M : Nat), i < l.length -> i < M -> ∀ v0, loopx M (isSorted_l1 (n + 2) (.row b 1 0 l.length)) [v0, .int .i64 (i : Int)] h = some (.ret [.bool true], h) := by
  intro i
  induction i with
  | zero =>
    intro M h1 h2 v0
    obtain ⟨M, rfl⟩ : ∃ M', M = M' + 1 := ⟨M - 1, by omega⟩
    rw [loopx_succ]
    unfold isSorted_l1
    simp only [gv, List.getD_cons_zero, List.getD_cons_succ, bop_i64_gtr, bd_some, bv_bool]
    rw [if_neg (by decide)]
  | succ i ih =>
    intro M h1 h2 v0
    obtain ⟨M, rfl⟩ : ∃ M', M = M' + 1 := ⟨M - 1, by omega⟩
    obtain ⟨x, hx⟩ : ∃ x, l[i + 1]? = some x := ⟨_, List.getElem?_eq_getElem h1⟩
    obtain ⟨y, hy⟩ : ∃ y, l[i]? = some y := ⟨_, List.getElem?_eq_getElem (by omega)⟩
    have hyx : y <= x := by
      have := List.pairwise_iff_getElem.1 hs i (i + 1) (by omega) h1 (by omega)
      rw [List.getElem?_eq_getElem h1] at hx
      rw [List.getElem?_eq_getElem (by omega)] at hy
      rw [<- Option.some.inj hx, <- Option.some.inj hy]
      exact this
    obtain ⟨g1, g2⟩ := r.get hx
    obtain ⟨g3, g4⟩ := r.get hy
    have hw : IntKind.i64.wrap (((i + 1 : Nat) : Int) - 1) = (i : Int) := by unfold lim at hl; rw [w64] <;> omega
    have hgt : decide (((i + 1 : Nat) : Int) > 0) = true := by simp
    have key : ∀ next, isSorted_l1 (n + 2) (.row b 1 0 l.length) [v0, .int .i64 ((i + 1 : Nat) : Int)] h next = next [v0, .int .i64 (i : Int)] h := by
      intro next
      unfold isSorted_l1
      simp only [gv, List.getD_cons_zero, List.getD_cons_succ, bop_i64_gtr, bd_some, bv_bool, hgt, if_true, nv_nat, bdS_some, g1, g2, bd3_some, bop_i64_sub, hw, g3, g4, Nat.zero_add, Nat.le_refl, Nat.reduceLT, and_self, List.getElem?_cons_zero]
      rw [less_call, cl_ret, one1_one, bv_bool, if_neg (by intro e; have := of_decide_eq_true e; omega)]
    rw [loopx_succ, key]
    exact ih M (by omega) (by omega) v0
theorem sorted_call (n : Nat) {h : Heap} {b : Nat} {e : Nat} {l : List Int} (r : RowI h b .i32 e l) (hs : l.Pairwise (· <= ·)) (hl : l.length < lim) (hn : l.length < n) : call (n + 3) 62 [.row b 1 0 l.length] h = some (.ret [.bool true], h) := by
  refine (isSorted_eq (n + 2) _ h).trans ?_
  unfold isSorted
  rw [r.slc, bd_some]
  simp only [List.length_map]
  rcases Nat.eq_zero_or_pos l.length with h0 | h0
  · rw [h0]
    show loopx ((n + 1) + 1) _ _ _ = _
    rw [loopx_succ]
    unfold isSorted_l1
    simp only [gv, List.getD_cons_zero, List.getD_cons_succ]
    have : IntKind.i64.wrap (((0 : Nat) : Int) - 1) = -1 := by decide
    rw [this, bop_i64_gtr, bd_some, bv_bool, if_neg (by decide)]
  · have hw : IntKind.i64.wrap ((l.length : Int) - 1) = ((l.length - 1 : Nat) : Int) := by unfold lim at hl; rw [w64] <;> omega
    rw [hw]
    exact sorted_loop n r hs hl _ (n + 2) (by omega) (by omega) _
def itT (ts : List Tw) : List (Int × Nat) := ts.map fun t => (t.v, t.ht)
def insI (l : List (Int × Nat)) (v : Int) (T : Nat) : List (Int × Nat) := l.takeWhile (fun p => decide (p.1 <= v)) ++ (v, T) :: l.dropWhile (fun p => decide (p.1 <= v))
theorem take_takeWhile {α : Type} (p : α -> Bool) : ∀ l : List α, l.take (l.takeWhile p).length = l.takeWhile p /\ l.drop (l.takeWhile p).length = l.dropWhile p
  | [] => ⟨rfl, rfl⟩
  | a :: l => by
    rw [List.takeWhile_cons, List.dropWhile_cons]
    cases p a with
    | true =>
      obtain ⟨h1, h2⟩ := take_takeWhile p l
      exact ⟨by simp [h1], by simpa using h2⟩
    | false => simp
theorem itT_ins (ts : List Tw) (u : Tw) : itT (ins ts (upTo ts u.v) u) = insI (itT ts) u.v u.ht := by
  unfold itT ins insI upTo
  obtain ⟨h1, h2⟩ := take_takeWhile (fun t : Tw => decide (t.v <= u.v)) ts
  rw [h1, h2, List.map_append, List.map_cons, List.takeWhile_map, List.dropWhile_map]
  rfl
def hOf (k : Int) : Nat := (max 1 (min k 8)).toNat
structure Grew (h h' : Heap) (s : Nat) (ts ts' : List Tw) (most : Int) : Prop where
  sk : ∃ N, SkAt h' s ts' most N
  len : h.length <= h'.length
  old : ∀ i, i < h.length -> i ∉ skB s ts -> h'[i]? = h[i]?
  new : ∀ b ∈ skB s ts', b ∈ skB s ts \/ h.length <= b
theorem Grew.refl {h : Heap} {s : Nat} {ts : List Tw} {most : Int} (S : ∃ N, SkAt h s ts most N) : Grew h h s ts ts most := ⟨S, Nat.le_refl _, fun _ _ _ => rfl, fun _ h => .inl h⟩
theorem Grew.trans {h h' h'' : Heap} {s : Nat} {ts ts' ts'' : List Tw} {most : Int} (a : Grew h h' s ts ts' most) (b : Grew h' h'' s ts' ts'' most) : Grew h h'' s ts ts'' most :=
  ⟨b.sk, Nat.le_trans a.len b.len, fun i h1 h2 => (b.old i (by have := a.len; omega) fun hm => by rcases a.new i hm with h | h; exact h2 h; omega).trans (a.old i h1 h2), fun x hx => by
    rcases b.new x hx with h | h
    · exact a.new x h
    · exact .inr (by have := a.len; omega)⟩
theorem Put.grew {h h' : Heap} {s : Nat} {ts ts' : List Tw} {most v kk : Int} (p : Put h h' s ts ts' most v kk) : Grew h h' s ts ts' most := by
  obtain ⟨u, u1, u2, u3, u4⟩ := p.ins
  refine ⟨p.sk, by rw [p.len]; omega, p.old, fun b hb => ?_⟩
  rw [u4] at hb
  rcases List.mem_cons.1 hb with rfl | hb
  · exact .inl (List.mem_cons_self ..)
  · obtain ⟨t, ht, rfl⟩ := List.mem_map.1 hb
    rcases mem_ins.1 ht with rfl | ht
    · exact .inr (by rw [u1]; exact Nat.le_refl _)
    · exact .inl (List.mem_cons_of_mem _ (List.mem_map_of_mem ht))
theorem Put.items {h h' : Heap} {s : Nat} {ts ts' : List Tw} {most v kk : Int} (p : Put h h' s ts ts' most v kk) : itT ts' = insI (itT ts) v (hOf kk) := by
  obtain ⟨u, u1, u2, u3, u4⟩ := p.ins
  have : u.ht = hOf kk := by unfold hOf; omega
  rw [u4, <- u2, itT_ins, this]
theorem Took.grew {h h' : Heap} {s : Nat} {t : Tw} {ts : List Tw} {most : Int} (p : Took h h' s ts most) : Grew h h' s (t :: ts) ts most :=
  ⟨p.sk, Nat.le_of_eq p.len.symm, fun i _ h2 => p.old i fun e => h2 (e ▸ List.mem_cons_self ..), fun b hb => .inl (by
    rcases List.mem_cons.1 hb with rfl | hb
    · exact List.mem_cons_self ..
    · exact List.mem_cons_of_mem _ (List.mem_cons_of_mem _ hb))⟩
def insAll (l : List (Int × Nat)) : List (Int × Int) -> List (Int × Nat)
  | [] => l
  | p :: r => insAll (insI l p.1 (hOf p.2)) r
theorem batch_loop (n : Nat) {s : Nat} {most : Int} (bl bm : Nat) (vs hs : List Int) (hlen : hs.length = vs.length) (hup : vs.Pairwise (· <= ·)) (hv : vs.length < lim) : ∀ (d k M : Nat) (h : Heap) (ts : List Tw) (told : List (List V)) (Q : Nat -> Nat) (v0 v3 : V), k + d = vs.length -> d < M -> (∃ N, SkAt h s ts most N) -> RowI h bl .i32 21 vs -> RowI h bm .i64 3 hs -> bl ∉ skB s ts -> bm ∉ skB s ts →
    told.length = vs.length -> (ts.length : Int) + d <= most -> ts.length + d < lim -> ts.length + d + 9 < n -> (∀ k' x, k' < 8 -> vs[k]? = some x -> Q k' <= upTo ts x /\ OnLev ts k' (Q k')) →
    ∃ h' ts' told', loopx M (skipBatch_l16 (n + 2) s (.row bl 1 0 vs.length) (.row bm 1 0 hs.length) (1, vs.map (intV .i32))) [v0, .sl 1 told false, .agg (pathV (fun k' => posB s ts (Q k'))), v3, .int .i64 (k : Int)] h = some (.ret [.sl 1 told' false], h') /\ Grew h h' s ts ts' most /\ itT ts' = insAll (itT ts) ((vs.zip hs).drop k) := by
  intro d
  induction d with
  | zero =>
    intro k M h ts told Q v0 v3 h1 h2 S rl rm nl nm ht hm hlm hn hQ
    obtain ⟨M, rfl⟩ : ∃ M', M = M' + 1 := ⟨M - 1, by omega⟩
    obtain rfl : k = vs.length := by omega
    refine ⟨h, ts, told, ?_, .refl S, ?_⟩
    · rw [loopx_succ]
      unfold skipBatch_l16
      simp only [gv, List.getD_cons_zero, List.getD_cons_succ, List.length_map, bop_i64_lss, bd_some, bv_bool]
      rw [if_neg (by simp)]
      rfl
    · rw [List.drop_of_length_le (by rw [List.length_zip]; omega)]; rfl
  | succ d ih =>
    intro k M h ts told Q v0 v3 h1 h2 S rl rm nl nm ht hm hlm hn hQ
    obtain ⟨M, rfl⟩ : ∃ M', M = M' + 1 := ⟨M - 1, by omega⟩
    obtain ⟨N, S⟩ := S
    obtain ⟨x, hx⟩ : ∃ x, vs[k]? = some x := ⟨_, List.getElem?_eq_getElem (by omega)⟩
    obtain ⟨y, hy⟩ : ∃ y, hs[k]? = some y := ⟨_, List.getElem?_eq_getElem (by omega)⟩
    obtain ⟨u, q1, q2, N', cs, B, a1, a2, a3, e1, e2, e3, c1, c2, w, S', l', f'⟩ := put_step n S x y Q (fun k' hk => hQ k' x hk hx) (by omega) (by omega)
    obtain ⟨g1, g2⟩ := rl.get hx
    obtain ⟨g3, g4⟩ := rm.get hy
    have hlt : decide ((k : Int) < (vs.length : Int)) = true := by simp; omega
    have hlt2 : decide ((k : Int) < (hs.length : Int)) = true := by simp; omega
    have hge : decide ((ts.length : Int) ≥ most) = false := by simp; omega
    obtain ⟨es, hes⟩ : ∃ es, told[k]? = some es := ⟨_, List.getElem?_eq_getElem (by omega)⟩
    have hP : Put h (q2.set s B) s ts (ins ts (upTo ts x) u) most x y := ⟨⟨N', S'⟩, ⟨u, a1, a2, a3, rfl⟩, l', f'⟩
    have hbl := lt_of_at rl.choose_spec
    have hbm := lt_of_at rm.choose_spec
    have hnew : ∀ b, b < h.length -> b ∉ skB s ts -> b ∉ skB s (ins ts (upTo ts x) u) := fun b hb hn hm => by rcases hP.grew.new b hm with h' | h'; exact hn h'; omega
    have hil := ins_len (ts := ts) (u := u) (upTo_le ts x)
    have hpt : ∀ R, ((pathV R).drop 0 |>.take 8) = pathV R := path_take
    obtain ⟨h', ts', told', e, G, I⟩ := ih (k + 1) M (q2.set s B) (ins ts (upTo ts x) u) (told.set k (setR es 0 [.bool true])) (fun k' => lastP (ins ts (upTo ts x) u) k' (upTo ts x + 1)) (.sl 1 (lsl v0) false) (.bool false) (by omega) (by omega) ⟨N', S'⟩ (rl.keep (f' _ hbl nl)) (rm.keep (f' _ hbm nm)) (hnew _ hbl nl) (hnew _ hbm nm) (by rw [List.length_set]; exact ht) (by rw [hil]; omega) (by rw [hil]; omega) (by rw [hil]; omega) (fun k' x' hk' hx' => by
      have hle : x <= x' := by
        have hk1 := (List.getElem?_eq_some_iff.1 hx').1
        have := List.pairwise_iff_getElem.1 hup k (k + 1) (by omega) hk1 (by omega)
        rw [List.getElem?_eq_getElem (by omega)] at hx
        rw [List.getElem?_eq_getElem hk1] at hx'
        rw [<- Option.some.inj hx, <- Option.some.inj hx']
        exact this
      have hj : upTo ts x + 1 <= upTo (ins ts (upTo ts x) u) x' := (upTo_iff S'.up x' (ins_at (upTo_le ts x))).2 (by rw [a2]; exact hle)
      refine ⟨Nat.le_trans (lastP_le _ _ _) hj, lastP_on _ _ _ (by rw [hil]; have := upTo_le ts x; omega)⟩)
    refine ⟨h', ts', told', ?_, hP.grew.trans G, ?_⟩
    · rw [loopx_succ]
      have key : ∀ next, skipBatch_l16 (n + 2) s (.row bl 1 0 vs.length) (.row bm 1 0 hs.length) (1, vs.map (intV .i32)) [v0, .sl 1 told false, .agg (pathV (fun k' => posB s ts (Q k'))), v3, .int .i64 (k : Int)] h next = next [.sl 1 (lsl v0) false, .sl 1 (told.set k (setR es 0 [.bool true])) false, .agg (pathV (fun k' => posB s (ins ts (upTo ts x) u) (lastP (ins ts (upTo ts x) u) k' (upTo ts x + 1)))), .bool false, .int .i64 ((k + 1 : Nat) : Int)] (q2.set s B) := by
        intro next
        unfold skipBatch_l16
        simp only [gv, List.getD_cons_zero, List.getD_cons_succ, List.length_map, bop_i64_lss, bd_some, bv_bool, hlt, hlt2, if_true, nv_nat, bdS_some, g1, g2, bd3_some, Nat.zero_add, Nat.le_refl, Nat.reduceLT, and_self, List.getElem?_cons_zero, S.head, hd_cell10, hd_cell11, Nat.reduceAdd, Nat.reduceLeDiff, bop_i64_geq, hge, Bool.false_eq_true, if_false, rm.slc, g3, g4, lcs_agg, hpt]
        rw [e1, cl_ret, one1_one, e2, cl_ret, one1_one, e3, cl_ret, one1_one]
        have hpl : (V.cells (.agg (pathV (fun k' => posB s (ins ts (upTo ts x) u) (lastP (ins ts (upTo ts x) u) k' (upTo ts x + 1)))))) = pathV (fun k' => posB s (ins ts (upTo ts x) u) (lastP (ins ts (upTo ts x) u) k' (upTo ts x + 1))) := rfl
        have hpr : ∀ R T, setR (pathV R) 0 (pathV T) = pathV T := fun R T => by
          rw [setR_eq (by rw [pathV_len, pathV_len]; omega), List.take_zero, List.nil_append, pathV_len, List.drop_of_length_le (by rw [pathV_len]; omega), List.append_nil]
        simp only [hpl, pathV_len, hpr]
        rw [if_pos (by first | trivial | rfl), if_pos (by omega), c1, bd3_some, if_pos (by decide), c2, bd_some, bop_i64_add, bd_some, step64 (show ts.length < lim by omega), cells_int, if_pos (by rfl), w, bd2_some]
        rw [if_pos (by exact ⟨trivial, by show k < told.length; omega, by decide⟩), show lsl (V.sl 1 told false) = told from rfl, hes, bd_some, bop_i64_add, bd_some, step64 (show k < lim by omega)]
      rw [key]
      exact e
    · rw [I, hP.items]
      have hz : (vs.zip hs).drop k = (x, y) :: (vs.zip hs).drop (k + 1) := by
        rw [List.drop_eq_getElem_cons (by rw [List.length_zip]; omega)]
        congr 1
        rw [List.getElem_zip]
        rw [List.getElem?_eq_getElem (by omega)] at hx
        rw [List.getElem?_eq_getElem (by omega)] at hy
        rw [Option.some.inj hx, Option.some.inj hy]
      rw [hz]
      rfl
theorem batch_call (n : Nat) {h : Heap} {s : Nat} {ts : List Tw} {most : Int} (S : ∃ N, SkAt h s ts most N) (bl bm : Nat) (vs hs : List Int) (hlen : hs.length = vs.length) (hup : vs.Pairwise (· <= ·)) (rl : RowI h bl .i32 21 vs) (rm : RowI h bm .i64 3 hs) (nl : bl ∉ skB s ts) (nm : bm ∉ skB s ts)
    (hm : (ts.length : Int) + vs.length <= most) (hlm : ts.length + vs.length < lim) (hn : ts.length + vs.length + 9 < n) :
    ∃ h' ts' told', call (n + 3) 37 [.ptr s 0, .row bl 1 0 vs.length, .row bm 1 0 hs.length] h = some (.ret [.sl 1 told' false], h') /\ Grew h h' s ts ts' most /\ itT ts' = insAll (itT ts) (vs.zip hs) := by
  obtain ⟨h', ts', told', e, G, I⟩ := batch_loop n (s := s) (most := most) bl bm vs hs hlen hup (by omega) vs.length 0 (n + 2) h ts (List.replicate vs.length [V.bool false]) (fun _ => 0) (.sl 1 [] false) (.bool false) (by omega) (by omega) S rl rm nl nm (by simp) hm (by omega) (by omega) (fun _ _ _ _ => ⟨Nat.zero_le _, trivial⟩)
  refine ⟨h', ts', told', ?_, G, by rw [I, List.drop_zero]⟩
  refine (skipBatch_eq (n + 2) s _ _ h).trans ?_
  unfold skipBatch
  have hb : call (n + 2) 41 [.ptr s 0] h = some (.ret [.agg (pathV (fun _ => s))], h) := begin_call (n + 1) h s (by omega)
  have hso : call (n + 2) 62 [.row bl 1 0 vs.length] h = some (.ret [.bool true], h) := by
    obtain ⟨m, rfl⟩ : ∃ m, n = m + 1 := ⟨n - 1, by omega⟩
    exact sorted_call m rl hup (by omega) (by omega)
  have fN : nv (V.int .i64 (vs.length : Int)) = some vs.length := nv_nat _ _
  rw [rl.slc, bd_some]
  simp only [List.length_map]
  rw [fN, bdS_some, bdS_some, if_pos (by first | exact ⟨rfl, by omega, rfl⟩ | exact ⟨trivial, by omega, trivial⟩ | exact ⟨rfl, by omega, trivial⟩), bop_sk_nil, bd_some, bv_bool, if_neg (by decide), hso, cl_ret, one1_one, uop_not, bd_some, bv_bool, if_neg (by decide), hb, cl_ret, one1_one]
  have hpl : V.cells (.agg (pathV (fun _ => s))) = pathV (fun _ => s) := rfl
  rw [hpl, if_pos (pathV_len _), if_pos (by rw [pathV_len]; omega), rl.slc, bd_some]
  have hpr : setR [V.val (.pointer none), V.val (.pointer none), V.val (.pointer none), V.val (.pointer none), V.val (.pointer none), V.val (.pointer none), V.val (.pointer none), V.val (.pointer none)] 0 (pathV (fun _ => s)) = pathV (fun _ => s) := by
    rw [setR_eq (by rw [pathV_len]; decide), List.take_zero, List.nil_append, pathV_len]; rfl
  rw [hpr]
  exact e
end Go.Proofs.Try
set_option linter.unusedVariables false
set_option linter.unusedSimpArgs false
namespace Go.Sk
open Go.L
def lvV (k : Nat) (ts : List Tw) : List Int := (ts.filter fun t => decide (k < t.ht)).map Tw.v
theorem lvV_step {k : Nat} {ts : List Tw} {i m : Nat} {t : Tw} (h1 : i <= m) (h2 : ts[m]? = some t) (h3 : k < t.ht) (h5 : ∀ m' t', i <= m' -> m' < m -> ts[m']? = some t' -> ¬ k < t'.ht) : lvV k (ts.drop i) = t.v :: lvV k (ts.drop (m + 1)) := by
  obtain ⟨d, rfl⟩ : ∃ d, m = i + d := ⟨m - i, by omega⟩
  induction d generalizing i with
  | zero =>
    have hi := (List.getElem?_eq_some_iff.1 h2).1
    rw [Nat.add_zero] at h2 hi
    rw [List.drop_eq_getElem_cons hi]
    rw [List.getElem?_eq_getElem hi] at h2
    rw [Option.some.inj h2]
    simp [lvV, h3]
  | succ d ih =>
    have hm := (List.getElem?_eq_some_iff.1 h2).1
    have hi : i < ts.length := by omega
    have hn := h5 i ts[i] (Nat.le_refl _) (by omega) (List.getElem?_eq_getElem hi)
    have hst : lvV k (ts.drop i) = lvV k (ts.drop (i + 1)) := by
      unfold lvV
      rw [List.drop_eq_getElem_cons hi, List.filter_cons, if_neg (by simpa using hn)]
    have := ih (i := i + 1) (by omega) (by rw [show i + 1 + d = i + (d + 1) by omega]; exact h2) (fun m' t' a b c => h5 m' t' (by omega) (by omega) c)
    rw [show i + 1 + d + 1 = i + (d + 1) + 1 by omega] at this
    rw [hst, this]
theorem lvV_none {k : Nat} {ts : List Tw} {i : Nat} (h : ∀ m t, i <= m -> ts[m]? = some t -> ¬ k < t.ht) : lvV k (ts.drop i) = [] := by
  unfold lvV
  rw [List.map_eq_nil_iff, List.filter_eq_nil_iff]
  intro t ht
  obtain ⟨m, hm⟩ := List.mem_iff_getElem?.1 ht
  rw [List.getElem?_drop] at hm
  simpa using h (i + m) t (by omega) hm
end Go.Sk
namespace Go.Proofs.Try
open Go.L Go.Rp Go.Sk
set_option maxRecDepth 100000
def OutAt (h : Heap) (c : Nat) (ob : Option Nat) (l : List Int) : Prop := match ob with
  | none => l = [] /\ h[c]? = some (.box 1 [.sl 0 [] true])
  | some b => b ≠ c /\ ∃ z, h[c]? = some (.box 1 [.row b 1 0 l.length]) /\ h[b]? = some (.row 21 1 (l.map (intV .i32)) z)
def SlI (h : Heap) (lo : Nat) (r : V) (l : List Int) : Prop := (r = .sl 0 [] true /\ l = []) \/ ∃ b z, lo <= b /\ r = .row b 1 0 l.length /\ h[b]? = some (.row 21 1 (l.map (intV .i32)) z)
theorem lv_nodf : noDfC (rfAs (bodyF f40)) = true /\ noDfC (rfBd (bodyF f40)) = true := ⟨by kernel_rfl, by kernel_rfl⟩
theorem lv_cond : ((mutF prog 84).isNone && (noDfC (rfAs (bodyF f40)) && noDfC (rfBd (bodyF f40)))) = true := by kernel_rfl
def lvFr (y0 y1 y4 : Option V) (x5 : Nat) (y7 y8 y9 y10 y11 y12 y13 y14 y15 y16 y17 y18 y19 : Option V) : List (Option V) := [y0, y1, none, none, y4, some (V.ptr x5 0), none, y7, y8, y9, y10, y11, y12, y13, y14, y15, y16, y17, y18, y19, none, none, none, none, none, none, none, none, none]
noncomputable def lvLoop (D : Nat) (fr : List (Option V)) (st : LSt) : HB := .loop D true fr [20] (rfAs (bodyF f40)) (rfBd (bodyF f40)) st
theorem rnd_at_v (n : Nat) {h : Heap} {b D : Nat} {vc : Bool} {fr : List (Option V)} {ps : List Nat} {ca cb : Code} (hb : h[b]? = some (.loop D vc fr ps ca cb .ready)) (ys : List V) (hl : ys.length = ps.length) (h1 : noDfC ca = true) (h2 : noDfC cb = true) : rnd n b ys h = roundE prog (call n) keepS pureS n (L.textDraws prog) vc fr ps ca cb b ys h := by
  unfold rnd L.roundX
  rw [hb]
  simp only [lpR]
  rw [if_pos ⟨hl, h1, h2⟩]
section
variable {y0 y1 y4 y7 y8 y9 y10 y11 y12 y13 y14 y15 y16 y17 y18 y19 : Option V}
theorem lv_round (n : Nat) {h : Heap} {b D x5 : Nat} (hb : h[b]? = some (lvLoop D (lvFr y0 y1 y4 x5 y7 y8 y9 y10 y11 y12 y13 y14 y15 y16 y17 y18 y19) .ready)) (z : V) : rnd n b [z] h = skipLevel_r n x5 b z h :=
  (rnd_at_v n hb [z] rfl lv_nodf.1 lv_nodf.2).trans (skipLevel_r_eq n y0 y1 y4 x5 y7 y8 y9 y10 y11 y12 y13 y14 y15 y16 y17 y18 y19 b z h)
structure LvAt (h hh : Heap) (k : Int) (s : Nat) (l : List Int) (fr : List (Option V)) : Prop where
  len : h.length + 6 <= hh.length
  old : ∀ i, i < h.length -> hh[i]? = h[i]?
  p0 : hh[h.length]? = some (.box 1 [.ptr s 0])
  p1 : hh[h.length + 1]? = some (.box 1 [.int .i64 k])
  out : ∃ ob, OutAt hh (h.length + 2) ob l /\ ∀ b, ob = some b -> h.length + 6 <= b
  df : hh[h.length + 4]? = some .defb
  lp : hh[h.length + 5]? = some (lvLoop (h.length + 4) fr .ready)
theorem bsl_i32 (x : Int) : bslV prog 39 1 [(0, .int .i32 x)] = some (1, [[.int .i32 x]]) := by kernel_rfl
theorem lv_step (n : Nat) {h hh : Heap} {k : Int} {s : Nat} {l : List Int} (L : LvAt h hh k s l (lvFr y0 y1 y4 (h.length + 2) y7 y8 y9 y10 y11 y12 y13 y14 y15 y16 y17 y18 y19)) {x : Nd} {N : Nx} (hx : NodeAt h N x) (hl : l.length + 1 < lim) :
    ∃ hh', rnd n (h.length + 5) [.ptr x.b 0] hh = some (true, hh') /\ LvAt h hh' k s (l ++ [x.v]) (lvFr y0 y1 y4 (h.length + 2) y7 y8 y9 y10 y11 y12 y13 y14 y15 y16 y17 y18 y19) := by
  rw [lv_round n L.lp]
  have hlen := L.len
  have hxb : x.b < h.length := lt_of_at hx
  unfold skipLevel_r
  rw [L.lp]
  simp only [lvLoop, lpR]
  generalize hbusy : HB.loop (h.length + 4) true (lvFr y0 y1 y4 (h.length + 2) y7 y8 y9 y10 y11 y12 y13 y14 y15 y16 y17 y18 y19) [20] (rfAs (bodyF f40)) (rfBd (bodyF f40)) .busy = B
  obtain ⟨G, hG⟩ : ∃ G, G = hh.set (h.length + 5) B := ⟨_, rfl⟩
  rw [<- hG]
  have hGl : G.length = hh.length := by rw [hG, List.length_set]
  have hGo : ∀ i, i ≠ h.length + 5 -> G[i]? = hh[i]? := fun i hi => by rw [hG, List.getElem?_set_ne (Ne.symm hi)]
  have hGb : G[h.length + 5]? = some B := by rw [hG]; exact set_at (by omega) _
  have hGx : cellsP G (.ptr x.b 0) = some (x.cells N, 10 + x.post.length, 0) := by
    refine cellsP_box ?_ 0
    rw [hGo _ (by omega), L.old _ hxb]
    exact hx
  obtain ⟨ob, O, hob⟩ := L.out
  have fin : ∀ (G2 : Heap) (v : V) (b' : Nat) (z : Bool), G2.length = G.length + 1 -> b' = G.length -> v = .row b' 1 0 (l.length + 1) -> G2[b']? = some (.row 21 1 ((l ++ [x.v]).map (intV .i32)) z) -> (∀ i, i < h.length + 6 -> G2[i]? = G[i]?) →
      ∃ hh', lpB (((G2.set (h.length + 2) (.box 1 [v]))[h.length + 5]?)) (fun eD eV eF eP eA eB => some (true, (G2.set (h.length + 2) (.box 1 [v])).set (h.length + 5) (HB.loop eD eV eF eP eA eB .ready))) = some (true, hh') /\ LvAt h hh' k s (l ++ [x.v]) (lvFr y0 y1 y4 (h.length + 2) y7 y8 y9 y10 y11 y12 y13 y14 y15 y16 y17 y18 y19) := fun G2 v b' z e1 e2 e3 e4 e5 => by
    have hb5 : (G2.set (h.length + 2) (.box 1 [v]))[h.length + 5]? = some B := by rw [List.getElem?_set_ne (by omega), e5 _ (by omega)]; exact hGb
    rw [hb5, <- hbusy]
    simp only [lpB]
    have hoth : ∀ i, i ≠ h.length + 5 -> i ≠ h.length + 2 -> ((G2.set (h.length + 2) (.box 1 [v])).set (h.length + 5) (HB.loop (h.length + 4) true (lvFr y0 y1 y4 (h.length + 2) y7 y8 y9 y10 y11 y12 y13 y14 y15 y16 y17 y18 y19) [20] (rfAs (bodyF f40)) (rfBd (bodyF f40)) .ready))[i]? = G2[i]? := fun i h1 h2 => by
      rw [List.getElem?_set_ne (Ne.symm h1), List.getElem?_set_ne (Ne.symm h2)]
    refine ⟨_, rfl, ⟨by rw [List.length_set, List.length_set]; omega, fun i hi => ?_, ?_, ?_, ⟨some b', ⟨by omega, z, ?_, ?_⟩, fun b hb => by cases hb; omega⟩, ?_, ?_⟩⟩
    · rw [hoth i (by omega) (by omega), e5 i (by omega), hGo i (by omega), L.old i hi]
    · rw [hoth _ (by omega) (by omega), e5 _ (by omega), hGo _ (by omega), L.p0]
    · rw [hoth _ (by omega) (by omega), e5 _ (by omega), hGo _ (by omega), L.p1]
    · rw [List.getElem?_set_ne (by omega), set_at (by omega), e3, List.length_append]; rfl
    · rw [hoth _ (by omega) (by omega)]; exact e4
    · rw [hoth _ (by omega) (by omega), e5 _ (by omega), hGo _ (by omega), L.df]
    · exact set_at (by rw [List.length_set]; omega) _
  have hx0 : (x.cells N)[0]? = some (.int .i32 x.v) := x.get0 N
  cases ob with
  | none =>
    obtain ⟨rfl, hc⟩ := O
    have hc' : G[h.length + 2]? = some (.box 1 [.sl 0 [] true]) := by rw [hGo _ (by omega)]; exact hc
    have happ : appP 21 1 G [[.int .i32 x.v]] (.sl 0 [] true) = some (.row G.length 1 0 1, G ++ [.row 21 1 [[.int .i32 x.v]] true]) := rfl
    have hw : writeB (G ++ [.row 21 1 [[.int .i32 x.v]] true]) [.row G.length 1 0 1] (.ptr (h.length + 2) 0) = some (h.length + 2, .box 1 [.row G.length 1 0 1]) := by
      rw [writeB_box (n := 1) (cs := [.sl 0 [] true]) (by rw [List.getElem?_append_left (by omega)]; exact hc') (by simp)]; rfl
    rw [cellsP_box hc', bd3_some, if_pos (by decide)]
    simp only [List.getElem?_cons_zero, bd_some]
    rw [addP_ptr, bd_some, Nat.add_zero, addP_ptr, bd_some, Nat.add_zero, hGx, bd3_some, if_pos (by omega), hx0, bd_some, bsl_i32, bd_some, happ, bd2_some]
    simp only [V.cells, List.length_cons, List.length_nil, Nat.zero_add, if_true]
    rw [hw, bd2_some]
    exact fin _ _ G.length true (by simp) rfl rfl (by rw [List.getElem?_concat_length]; rfl) (fun i hi => by rw [List.getElem?_append_left (by omega)])
  | some b0 =>
    obtain ⟨o1, z, hc, hr⟩ := O
    have hb0 := hob b0 rfl
    have hc' : G[h.length + 2]? = some (.box 1 [.row b0 1 0 l.length]) := by rw [hGo _ (by omega)]; exact hc
    have hr' : G[b0]? = some (.row 21 1 (l.map (intV .i32)) z) := by rw [hGo _ (by omega)]; exact hr
    have hb0l := lt_of_at hr'
    have happ : appP 21 1 G [[.int .i32 x.v]] (.row b0 1 0 l.length) = some (.row G.length 1 0 (l.length + 1), G.set b0 .dead ++ [.row 21 1 (l.map (intV .i32) ++ [[.int .i32 x.v]]) (z && 0 == 0)]) := by
      simp only [appP, hr']
      rw [if_pos (by refine ⟨⟨?_, ?_, ?_⟩, ⟨Nat.zero_le _, by simp⟩, by simp; omega⟩ <;> first | trivial | rfl), List.drop_zero, List.take_of_length_le (by simp)]
      simp
    have hw : writeB (G.set b0 .dead ++ [.row 21 1 (l.map (intV .i32) ++ [[.int .i32 x.v]]) (z && 0 == 0)]) [.row G.length 1 0 (l.length + 1)] (.ptr (h.length + 2) 0) = some (h.length + 2, .box 1 [.row G.length 1 0 (l.length + 1)]) := by
      rw [writeB_box (n := 1) (cs := [.row b0 1 0 l.length]) (by rw [List.getElem?_append_left (by rw [List.length_set]; omega), List.getElem?_set_ne (by omega)]; exact hc') (by simp)]; rfl
    rw [cellsP_box hc', bd3_some, if_pos (by decide)]
    simp only [List.getElem?_cons_zero, bd_some]
    rw [addP_ptr, bd_some, Nat.add_zero, addP_ptr, bd_some, Nat.add_zero, hGx, bd3_some, if_pos (by omega), hx0, bd_some, bsl_i32, bd_some, happ, bd2_some]
    simp only [V.cells, List.length_cons, List.length_nil, Nat.zero_add, if_true]
    rw [hw, bd2_some]
    refine fin _ _ G.length (z && 0 == 0) (by simp) rfl rfl ?_ (fun i hi => by rw [List.getElem?_append_left (by rw [List.length_set]; omega), List.getElem?_set_ne (by omega)])
    have : G.length = (G.set b0 .dead).length := by rw [List.length_set]
    rw [this, List.getElem?_concat_length, List.map_append]
    rfl
theorem lv_loop (n : Nat) {h : Heap} {s : Nat} {ts : List Tw} {most : Int} {N : Nx} (S : SkAt h s ts most N) {k : Nat} (hk : k < 8) (hlim : ts.length < lim) : ∀ (d i M : Nat) (hh : Heap) (l : List Int), i + d = ts.length + 1 -> d < M + 1 -> 0 < M -> l.length <= i -> LvAt h hh ((k + 1 : Nat) : Int) s l (lvFr y0 y1 y4 (h.length + 2) y7 y8 y9 y10 y11 y12 y13 y14 y15 y16 y17 y18 y19) →
    ∃ hh', loopx M (skipLvI_l18 n (h.length + 5) (h.length + 1)) [nx k (ts.drop i)] hh = some (.ret [], hh') /\ LvAt h hh' ((k + 1 : Nat) : Int) s (l ++ lvV k (ts.drop i)) (lvFr y0 y1 y4 (h.length + 2) y7 y8 y9 y10 y11 y12 y13 y14 y15 y16 y17 y18 y19) := by
  intro d
  induction d using Nat.strongRecOn with
  | _ d ih =>
  intro i M hh l h1 h2 hM hli L
  obtain ⟨M, rfl⟩ : ∃ M', M = M' + 1 := ⟨M - 1, by omega⟩
  rcases fst_drop (k := k) (ts := ts) i with ⟨f1, f2⟩ | ⟨m, t, f1, f2, f3, f4, f5⟩
  · have hnx : nx k (ts.drop i) = V.val (.pointer none) := by unfold nx; rw [f1]; rfl
    refine ⟨hh, ?_, by rw [lvV_none f2, List.append_nil]; exact L⟩
    rw [loopx_succ, hnx]
    unfold skipLvI_l18
    simp only [gv, List.getD_cons_zero, bop_tw_nil, bd_some, bv_bool]
    rw [if_neg (by decide)]
  · have hnx : nx k (ts.drop i) = V.ptr t.b 0 := by unfold nx; rw [f4]
    have hmem : ndT t ∈ nds s (ts.length : Int) most ts := List.mem_cons_of_mem _ (List.mem_map_of_mem (List.mem_of_getElem? f2))
    have hml := (List.getElem?_eq_some_iff.1 f2).1
    obtain ⟨hh1, r1, L1⟩ := lv_step n L (x := ndT t) (S.rep.at_ _ hmem) (by omega)
    obtain ⟨hh2, e, L2⟩ := ih (ts.length + 1 - (m + 1)) (by omega) (m + 1) M hh1 (l ++ [t.v]) (by omega) (by omega) (by omega) (by simp; omega) L1
    refine ⟨hh2, ?_, ?_⟩
    · have htb : t.b < h.length := lt_of_at (S.rep.at_ _ hmem)
      have hrd : cellsP hh1 (.ptr t.b (2 + k)) = some ((ndT t).cells N, 10, 2 + k) := by
        refine cellsP_box ?_ _
        rw [L1.old _ htb]
        exact S.rep.at_ _ hmem
      have hgx : ((ndT t).cells N)[2 + k]? = some (nx k (ts.drop (m + 1))) := by
        rw [(ndT t).get _ hk]
        have := S.lk.tw m t k f2 hk
        rw [if_pos f3] at this
        rw [<- this]; rfl
      have hw : IntKind.i64.wrap (((k + 1 : Nat) : Int) - 1) = (k : Int) := by rw [w64] <;> omega
      have r1' : rnd n (h.length + 5) [.ptr t.b 0] hh = some (true, hh1) := r1
      have key : ∀ next, skipLvI_l18 n (h.length + 5) (h.length + 1) [.ptr t.b 0] hh next = next [nx k (ts.drop (m + 1))] hh1 := by
        intro next
        unfold skipLvI_l18
        simp only [gv, List.getD_cons_zero, bop_tw_ptr, bd_some, bv_bool, if_true, r1', bd2_some]
        rw [cellsP_box L1.p1, bd3_some, if_pos (by decide)]
        simp only [List.getElem?_cons_zero, bd_some, bop_i64_sub, hw, addP_ptr, Nat.zero_add, nv_int, Nat.mul_one, hrd, bd3_some, hgx]
        rw [if_pos hk, if_pos (by omega)]
      rw [loopx_succ, hnx, key]
      exact e
    · rw [lvV_step f1 f2 f3 f5, show l ++ t.v :: lvV k (ts.drop (m + 1)) = (l ++ [t.v]) ++ lvV k (ts.drop (m + 1)) by simp]
      exact L2
end
theorem level_call (n : Nat) {h : Heap} {s : Nat} {ts : List Tw} {most : Int} {N : Nx} (S : SkAt h s ts most N) {k : Nat} (hk : k < 8) (hlim : ts.length < lim) (hn : ts.length + 2 < n) :
    ∃ h' r, call (n + 2) 40 [.ptr s 0, .int .i64 ((k + 1 : Nat) : Int)] h = some (.ret [r], h') /\ SlI h' h.length r (lvV k ts) /\ h.length <= h'.length /\ ∀ i, i < h.length -> h'[i]? = h[i]? := by
  have he := skipLevel_eq (n + 1) s ((k + 1 : Nat) : Int) h
  have hlv : call (n + 1) 64 [.ptr s 0, .int .i64 ((k + 1 : Nat) : Int)] h = some (.ret [.fn 84 [.ptr h.length 0, .ptr (h.length + 1) 0]], h ++ [.box 1 [.ptr s 0], .box 1 [.int .i64 ((k + 1 : Nat) : Int)]]) := by
    refine (skipLv_eq n s _ h).trans ?_
    unfold skipLv
    simp
  have h1 : decide (((k + 1 : Nat) : Int) < 1) = false := by simp; omega
  have h8 : decide (((k + 1 : Nat) : Int) > 8) = false := by simp; omega
  rw [he]
  unfold skipLevel
  rw [bop_sk_nil, bd_some, bv_bool, if_neg (by decide), if_neg (by rw [h1]; decide), if_neg (by rw [h8]; decide), hlv, cl_ret, one1_one]
  simp only [fnK_fn]
  rw [if_pos lv_cond]
  simp only [List.length_append, List.length_cons, List.length_nil, List.append_assoc, List.cons_append, List.nil_append, Nat.add_assoc, Nat.zero_add, Nat.reduceAdd]
  have hS : ∀ (T : List HB) i, (h ++ T)[h.length + i]? = T[i]? := fun T i => by rw [List.getElem?_append_right (by omega), Nat.add_sub_cancel_left]
  obtain ⟨HS, hHS⟩ : ∃ HS : Heap, HS = h ++ [HB.box 1 [V.ptr s 0], HB.box 1 [V.int IntKind.i64 ((k + 1 : Nat) : Int)], HB.box 1 [V.sl 0 [] true], HB.row 21 1 [] true, HB.defb, lvLoop (h.length + 4) (lvFr (some (V.ptr s 0)) (some (V.int IntKind.i64 ((k + 1 : Nat) : Int))) (some (V.row (h.length + 3) 1 0 0)) (h.length + 2) (some (V.ptr s 0)) (some (V.bool false)) (some (V.bool false)) (some (V.int IntKind.i64 ((k + 1 : Nat) : Int))) (some (V.bool (decide (((k + 1 : Nat) : Int) < 1)))) (some (V.bool (decide (((k + 1 : Nat) : Int) < 1)))) (some (V.bool false)) (some (V.int IntKind.i64 ((k + 1 : Nat) : Int))) (some (V.bool (decide (((k + 1 : Nat) : Int) > 8)))) (some (V.bool false)) (some (V.ptr s 0)) (some (V.int IntKind.i64 ((k + 1 : Nat) : Int))) (some (V.fn 84 [V.ptr h.length 0, V.ptr (h.length + 1) 0]))) .ready] := ⟨_, rfl⟩
  have hS0 : ∀ (T : List HB), (h ++ T)[h.length]? = T[0]? := fun T => hS T 0
  have L0 : LvAt h HS ((k + 1 : Nat) : Int) s [] _ := ⟨by rw [hHS]; simp, fun i hi => by rw [hHS, List.getElem?_append_left hi], by rw [hHS, hS0]; rfl, by rw [hHS, hS]; rfl, ⟨none, ⟨rfl, by rw [hHS, hS]; rfl⟩, fun b hb => by cases hb⟩, by rw [hHS, hS]; rfl, by rw [hHS, hS]; rfl⟩
  obtain ⟨hh', e, L⟩ := lv_loop n S hk hlim (ts.length + 1) 0 n HS [] (by omega) (by omega) (by omega) (by simp) L0
  rw [List.drop_zero, List.nil_append] at L
  have hit : call (n + 1) 84 [.yld (h.length + 5), .ptr h.length 0, .ptr (h.length + 1) 0] HS = some (.ret [], hh') := by
    refine (skipLvI_eq n _ _ _ HS).trans ?_
    unfold skipLvI
    have hw : IntKind.i64.wrap (((k + 1 : Nat) : Int) - 1) = (k : Int) := by rw [w64] <;> omega
    have hsl : s < h.length := lt_of_at S.hb
    have hrd : cellsP HS (.ptr s (2 + k)) = some ((ndH s (ts.length : Int) most).cells N, 12, 2 + k) := by
      refine cellsP_box ?_ _
      rw [L0.old _ hsl]
      exact S.hb
    have hg : ((ndH s (ts.length : Int) most).cells N)[2 + k]? = some (nx k (ts.drop 0)) := by
      rw [(ndH s (ts.length : Int) most).get _ hk]
      exact congrArg some (S.lk.hd k hk)
    rw [cellsP_box L0.p0, bd3_some, if_pos (by decide)]
    simp only [List.getElem?_cons_zero, bd_some]
    rw [cellsP_box L0.p1, bd3_some, if_pos (by decide)]
    simp only [List.getElem?_cons_zero, bd_some, bop_i64_sub, hw, addP_ptr, Nat.zero_add, Nat.add_zero, nv_int, Nat.mul_one, hrd, bd3_some, hg]
    rw [if_pos hk, if_pos (by omega)]
    exact e
  have hhl := L.len
  have hHS' := hHS
  simp only [lvLoop, lvFr] at hHS'
  rw [<- hHS', hit]
  simp only [clN]
  have hlp := L.lp
  rw [hlp]
  simp only [lvLoop, lpE]
  obtain ⟨ob, O, hob⟩ := L.out
  have hdf : (hh'.set (h.length + 5) HB.dead)[h.length + 4]? = some .defb := by rw [List.getElem?_set_ne (by omega)]; exact L.df
  have hrest : ∀ i, i ≠ h.length + 5 -> i ≠ h.length + 4 -> ((hh'.set (h.length + 5) HB.dead).set (h.length + 4) HB.dead)[i]? = hh'[i]? := fun i a b => by rw [List.getElem?_set_ne (Ne.symm b), List.getElem?_set_ne (Ne.symm a)]
  have hout : ∀ v, hh'[h.length + 2]? = some (.box 1 [v]) -> cellsP (hh'.set (h.length + 5) HB.dead) (.ptr (h.length + 2) 0) = some ([v], 1, 0) := fun v hv => cellsP_box (by rw [List.getElem?_set_ne (by omega)]; exact hv) 0
  cases ob with
  | none =>
    obtain ⟨hnil, hc⟩ := O
    rw [hout _ hc, bd3_some, if_pos (by decide)]
    simp only [List.getElem?_cons_zero, bd_some]
    rw [hdf]
    simp only [dfB]
    exact ⟨_, _, rfl, .inl ⟨rfl, hnil⟩, by rw [List.length_set, List.length_set]; omega, fun i hi => by rw [hrest i (by omega) (by omega), L.old i hi]⟩
  | some b =>
    obtain ⟨o1, z, hc, hr⟩ := O
    have hb := hob b rfl
    rw [hout _ hc, bd3_some, if_pos (by decide)]
    simp only [List.getElem?_cons_zero, bd_some]
    rw [hdf]
    simp only [dfB]
    exact ⟨_, _, rfl, .inr ⟨b, z, by omega, rfl, by rw [hrest b (by omega) (by omega)]; exact hr⟩, by rw [List.length_set, List.length_set]; omega, fun i hi => by rw [hrest i (by omega) (by omega), L.old i hi]⟩
end Go.Proofs.Try
set_option linter.unusedVariables false
namespace Go.Proofs.Try
open Go.L
set_option maxRecDepth 100000
noncomputable def lSwap_l0 (n : Nat) (a : Int) (b : Int) (k : Int) (st1 : List V) (hh2 : Heap) (next3 : List V -> Heap -> Option (Res × Heap)) : Option (Res × Heap) :=
 (bd (bop prog .lss 3 (gv st1 1) (V.int .i64 k)) fun v4 =>
 (bv v4 fun b5 => if b5 then
 (bd (bop prog .add 3 (V.int .i64 a) (gv st1 1)) fun v6 =>
 (bd (bop prog .add 3 (V.int .i64 b) (gv st1 1)) fun v7 =>
 (bd (bop prog .add 3 (V.int .i64 b) (gv st1 1)) fun v8 =>
 (bdS (nv v8) fun n9 =>
 (if (1 = 1 /\ n9 < ((lsl (gv st1 0))).length /\ (some 28 : Option Nat) ≠ some 0) then
 (bd ((lsl (gv st1 0)))[n9]? fun es10 =>
 (bd (es10)[0]? fun v11 =>
 (bd (bop prog .add 3 (V.int .i64 a) (gv st1 1)) fun v12 =>
 (bdS (nv v12) fun n13 =>
 (if (1 = 1 /\ n13 < ((lsl (gv st1 0))).length /\ (some 34 : Option Nat) ≠ some 0) then
 (bd ((lsl (gv st1 0)))[n13]? fun es14 =>
 (bd (es14)[0]? fun v15 =>
 (bdS (nv v6) fun n16 =>
 (if (1 = 1 /\ n16 < ((lsl (gv st1 0))).length /\ (some 36 : Option Nat) ≠ some 0) then
 (if ((V.cells v11)).length = 1 then
 (if (1 = 1 /\ 0 < 1 /\ 0 + ((V.cells v11)).length <= 1) then
 (bd ((lsl (gv st1 0)))[n16]? fun es17 =>
 (bdS (nv v7) fun n18 =>
 (if (1 = 1 /\ n18 < ((((lsl (gv st1 0))).set n16 (setR es17 0 (V.cells v11)))).length /\ (some 37 : Option Nat) ≠ some 0) then
 (if ((V.cells v15)).length = 1 then
 (if (1 = 1 /\ 0 < 1 /\ 0 + ((V.cells v15)).length <= 1) then
 (bd ((((lsl (gv st1 0))).set n16 (setR es17 0 (V.cells v11))))[n18]? fun es19 =>
 (bd (bop prog .add 3 (gv st1 1) (V.int .i64 1)) fun v20 =>
 (next3 [(V.sl 1 (((((lsl (gv st1 0))).set n16 (setR es17 0 (V.cells v11)))).set n18 (setR es19 0 (V.cells v15))) false), v20] hh2))) else none) else none) else none))) else none) else none) else none)))) else none))))) else none)))))
 else
 some (Res.ret (V.sl 1 (lsl (gv st1 0)) false :: []), hh2)))
noncomputable def lSwap (n : Nat) (l : List (List V)) (a : Int) (b : Int) (k : Int) (c : V) (h : Heap) : Option (Res × Heap) :=
 (loopx n (lSwap_l0 n a b k) [(V.sl 1 l false), (V.int .i64 0)] h)
theorem lSwap_eq (n : Nat) (l : List (List V)) (a : Int) (b : Int) (k : Int) (c : V) (h : Heap) : call (n + 1) 105 [(V.sl 1 l false), (V.int .i64 a), (V.int .i64 b), (V.int .i64 k), c] h = lSwap n l a b k c h := by kernel_rfl
noncomputable def lRot_l0 (n : Nat) (m : Int) (c : V) (st1 : List V) (hh2 : Heap) (next3 : List V -> Heap -> Option (Res × Heap)) : Option (Res × Heap) :=
 (bd (bop prog .neq 3 (gv st1 1) (gv st1 2)) fun v4 =>
 (bv v4 fun b5 => if b5 then
 (bd (bop prog .gtr 3 (gv st1 1) (gv st1 2)) fun v6 =>
 (bv v6 fun b7 => if b7 then
 (bd (bop prog .sub 3 (V.int .i64 m) (gv st1 1)) fun v8 =>
 (clm (call n 105 (V.sl 1 (lsl (gv st1 0)) false :: [v8, (V.int .i64 m), (gv st1 2), c]) hh2) 1 fun l9 r10 h11 =>
 (bd (bop prog .sub 3 (gv st1 1) (gv st1 2)) fun v12 =>
 (next3 [(V.sl 1 l9 false), v12, (gv st1 2)] h11))))
 else
 (bd (bop prog .sub 3 (V.int .i64 m) (gv st1 1)) fun v13 =>
 (bd (bop prog .add 3 (V.int .i64 m) (gv st1 2)) fun v14 =>
 (bd (bop prog .sub 3 v14 (gv st1 1)) fun v15 =>
 (clm (call n 105 (V.sl 1 (lsl (gv st1 0)) false :: [v13, v15, (gv st1 1), c]) hh2) 1 fun l16 r17 h18 =>
 (bd (bop prog .sub 3 (gv st1 2) (gv st1 1)) fun v19 =>
 (next3 [(V.sl 1 l16 false), (gv st1 1), v19] h18))))))))
 else
 (bd (bop prog .sub 3 (V.int .i64 m) (gv st1 1)) fun v20 =>
 (clm (call n 105 (V.sl 1 (lsl (gv st1 0)) false :: [v20, (V.int .i64 m), (gv st1 1), c]) hh2) 1 fun l21 r22 h23 =>
 some (Res.ret (V.sl 1 l21 false :: []), h23)))))
noncomputable def lRot (n : Nat) (l : List (List V)) (a : Int) (m : Int) (b : Int) (c : V) (h : Heap) : Option (Res × Heap) :=
 (loopx n (lRot_l0 n m c) [(V.sl 1 l false), (V.int .i64 (IntKind.i64.wrap (m - a))), (V.int .i64 (IntKind.i64.wrap (b - m)))] h)
theorem lRot_eq (n : Nat) (l : List (List V)) (a : Int) (m : Int) (b : Int) (c : V) (h : Heap) : call (n + 1) 101 [(V.sl 1 l false), (V.int .i64 a), (V.int .i64 m), (V.int .i64 b), c] h = lRot n l a m b c h := by kernel_rfl
noncomputable def lSym_l30 (n : Nat) (st1 : List V) (st31 : List V) (hh32 : Heap) (next33 : List V -> Heap -> Option (Res × Heap)) : Option (Res × Heap) :=
 (bd (bop prog .sub 3 (gv st1 1) (V.int .i64 1)) fun v34 =>
 (bd (bop prog .lss 3 (gv st31 1) v34) fun v35 =>
 (bv v35 fun b36 => if b36 then
 (bd (bop prog .add 3 (gv st31 1) (V.int .i64 1)) fun v37 =>
 (bd (bop prog .add 3 (gv st31 1) (V.int .i64 1)) fun v38 =>
 (bdS (nv v38) fun n39 =>
 (if (1 = 1 /\ n39 < ((lsl (gv st31 0))).length /\ (some 69 : Option Nat) ≠ some 0) then
 (bd ((lsl (gv st31 0)))[n39]? fun es40 =>
 (bd (es40)[0]? fun v41 =>
 (bdS (nv (gv st31 1)) fun n42 =>
 (if (1 = 1 /\ n42 < ((lsl (gv st31 0))).length /\ (some 73 : Option Nat) ≠ some 0) then
 (bd ((lsl (gv st31 0)))[n42]? fun es43 =>
 (bd (es43)[0]? fun v44 =>
 (bdS (nv (gv st31 1)) fun n45 =>
 (if (1 = 1 /\ n45 < ((lsl (gv st31 0))).length /\ (some 75 : Option Nat) ≠ some 0) then
 (if ((V.cells v41)).length = 1 then
 (if (1 = 1 /\ 0 < 1 /\ 0 + ((V.cells v41)).length <= 1) then
 (bd ((lsl (gv st31 0)))[n45]? fun es46 =>
 (bdS (nv v37) fun n47 =>
 (if (1 = 1 /\ n47 < ((((lsl (gv st31 0))).set n45 (setR es46 0 (V.cells v41)))).length /\ (some 76 : Option Nat) ≠ some 0) then
 (if ((V.cells v44)).length = 1 then
 (if (1 = 1 /\ 0 < 1 /\ 0 + ((V.cells v44)).length <= 1) then
 (bd ((((lsl (gv st31 0))).set n45 (setR es46 0 (V.cells v41))))[n47]? fun es48 =>
 (bd (bop prog .add 3 (gv st31 1) (V.int .i64 1)) fun v49 =>
 (next33 [(V.sl 1 (((((lsl (gv st31 0))).set n45 (setR es46 0 (V.cells v41)))).set n47 (setR es48 0 (V.cells v44))) false), v49] hh32))) else none) else none) else none))) else none) else none) else none)))) else none)))) else none))))
 else
 some (Res.ret (V.sl 1 (lsl (gv st31 0)) false :: []), hh32))))
noncomputable def lSym_l0 (n : Nat) (a : Int) (c : V) (st1 : List V) (hh2 : Heap) (next3 : List V -> Heap -> Option (Res × Heap)) : Option (Res × Heap) :=
 (bd (bop prog .lss 3 (gv st1 1) (gv st1 2)) fun v4 =>
 (bv v4 fun b5 => if b5 then
 (bd (bop prog .add 3 (gv st1 1) (gv st1 2)) fun v6 =>
 (bd (cvt prog 3 124 v6) fun v7 =>
 (bd (bop prog .shr 124 v7 (V.int .u64 1)) fun v8 =>
 (bd (cvt prog 124 3 v8) fun v9 =>
 (bdS (nv v9) fun n10 =>
 (if (1 = 1 /\ n10 < ((lsl (gv st1 0))).length /\ (some 43 : Option Nat) ≠ some 0) then
 (bd ((lsl (gv st1 0)))[n10]? fun es11 =>
 (bd (es11)[0]? fun v12 =>
 (bdS (nv (V.int .i64 a)) fun n13 =>
 (if (1 = 1 /\ n13 < ((lsl (gv st1 0))).length /\ (some 47 : Option Nat) ≠ some 0) then
 (bd ((lsl (gv st1 0)))[n13]? fun es14 =>
 (bd (es14)[0]? fun v15 =>
 (fnK c fun f16 c17 => if (okV prog 3 f16 = true) then (if keepS f16 then
 (cl (call n f16 ([v12, v15] ++ c17) hh2) (fun r18 h19 =>
 (one1 r18 fun v21 =>
 (bd (bop prog .lss 3 v21 (V.int .i64 0)) fun v22 =>
 (bv v22 fun b23 => if b23 then
 (bd (bop prog .add 3 v9 (V.int .i64 1)) fun v24 =>
 (next3 [(V.sl 1 (lsl (gv st1 0)) false), v24, (gv st1 2)] h19))
 else
 (next3 [(V.sl 1 (lsl (gv st1 0)) false), (gv st1 1), v9] h19))))) (fun z20 h19 => none))
 else if pureS f16 then
 (bd (evBsL [(valB hh2 v12), (valB hh2 v15)]) fun a25 => cl (call n f16 (a25 ++ c17) hh2) (fun r18 h19 => if V.simple.simpleL r18 then
 (one1 r18 fun v26 =>
 (bd (bop prog .lss 3 v26 (V.int .i64 0)) fun v27 =>
 (bv v27 fun b28 => if b28 then
 (bd (bop prog .add 3 v9 (V.int .i64 1)) fun v29 =>
 (next3 [(V.sl 1 (lsl (gv st1 0)) false), v29, (gv st1 2)] h19))
 else
 (next3 [(V.sl 1 (lsl (gv st1 0)) false), (gv st1 1), v9] h19)))) else none) (fun z20 h19 => if z20.simple then none else none))
 else none) else none))) else none)))) else none))))))
 else
 (loopx n (lSym_l30 n st1) [(V.sl 1 (lsl (gv st1 0)) false), (V.int .i64 a)] hh2)))
noncomputable def lSym_l82 (n : Nat) (st51 : List V) (st83 : List V) (hh84 : Heap) (next85 : List V -> Heap -> Option (Res × Heap)) : Option (Res × Heap) :=
 (bd (bop prog .gtr 3 (gv st83 1) (gv st51 1)) fun v86 =>
 (bv v86 fun b87 => if b87 then
 (bd (bop prog .sub 3 (gv st83 1) (V.int .i64 1)) fun v88 =>
 (bd (bop prog .sub 3 (gv st83 1) (V.int .i64 1)) fun v89 =>
 (bdS (nv v89) fun n90 =>
 (if (1 = 1 /\ n90 < ((lsl (gv st83 0))).length /\ (some 121 : Option Nat) ≠ some 0) then
 (bd ((lsl (gv st83 0)))[n90]? fun es91 =>
 (bd (es91)[0]? fun v92 =>
 (bdS (nv (gv st83 1)) fun n93 =>
 (if (1 = 1 /\ n93 < ((lsl (gv st83 0))).length /\ (some 125 : Option Nat) ≠ some 0) then
 (bd ((lsl (gv st83 0)))[n93]? fun es94 =>
 (bd (es94)[0]? fun v95 =>
 (bdS (nv (gv st83 1)) fun n96 =>
 (if (1 = 1 /\ n96 < ((lsl (gv st83 0))).length /\ (some 127 : Option Nat) ≠ some 0) then
 (if ((V.cells v92)).length = 1 then
 (if (1 = 1 /\ 0 < 1 /\ 0 + ((V.cells v92)).length <= 1) then
 (bd ((lsl (gv st83 0)))[n96]? fun es97 =>
 (bdS (nv v88) fun n98 =>
 (if (1 = 1 /\ n98 < ((((lsl (gv st83 0))).set n96 (setR es97 0 (V.cells v92)))).length /\ (some 128 : Option Nat) ≠ some 0) then
 (if ((V.cells v95)).length = 1 then
 (if (1 = 1 /\ 0 < 1 /\ 0 + ((V.cells v95)).length <= 1) then
 (bd ((((lsl (gv st83 0))).set n96 (setR es97 0 (V.cells v92))))[n98]? fun es99 =>
 (bd (bop prog .sub 3 (gv st83 1) (V.int .i64 1)) fun v100 =>
 (next85 [(V.sl 1 (((((lsl (gv st83 0))).set n96 (setR es97 0 (V.cells v92)))).set n98 (setR es99 0 (V.cells v95))) false), v100] hh84))) else none) else none) else none))) else none) else none) else none)))) else none)))) else none))))
 else
 some (Res.ret (V.sl 1 (lsl (gv st83 0)) false :: []), hh84)))
noncomputable def lSym_l50 (n : Nat) (m : Int) (c : V) (st51 : List V) (hh52 : Heap) (next53 : List V -> Heap -> Option (Res × Heap)) : Option (Res × Heap) :=
 (bd (bop prog .lss 3 (gv st51 1) (gv st51 2)) fun v54 =>
 (bv v54 fun b55 => if b55 then
 (bd (bop prog .add 3 (gv st51 1) (gv st51 2)) fun v56 =>
 (bd (cvt prog 3 124 v56) fun v57 =>
 (bd (bop prog .shr 124 v57 (V.int .u64 1)) fun v58 =>
 (bd (cvt prog 124 3 v58) fun v59 =>
 (bdS (nv (V.int .i64 m)) fun n60 =>
 (if (1 = 1 /\ n60 < ((lsl (gv st51 0))).length /\ (some 95 : Option Nat) ≠ some 0) then
 (bd ((lsl (gv st51 0)))[n60]? fun es61 =>
 (bd (es61)[0]? fun v62 =>
 (bdS (nv v59) fun n63 =>
 (if (1 = 1 /\ n63 < ((lsl (gv st51 0))).length /\ (some 99 : Option Nat) ≠ some 0) then
 (bd ((lsl (gv st51 0)))[n63]? fun es64 =>
 (bd (es64)[0]? fun v65 =>
 (fnK c fun f66 c67 => if (okV prog 3 f66 = true) then (if keepS f66 then
 (cl (call n f66 ([v62, v65] ++ c67) hh52) (fun r68 h69 =>
 (one1 r68 fun v71 =>
 (bd (bop prog .lss 3 v71 (V.int .i64 0)) fun v72 =>
 (bd (uop .not v72) fun v73 =>
 (bv v73 fun b74 => if b74 then
 (bd (bop prog .add 3 v59 (V.int .i64 1)) fun v75 =>
 (next53 [(V.sl 1 (lsl (gv st51 0)) false), v75, (gv st51 2)] h69))
 else
 (next53 [(V.sl 1 (lsl (gv st51 0)) false), (gv st51 1), v59] h69)))))) (fun z70 h69 => none))
 else if pureS f66 then
 (bd (evBsL [(valB hh52 v62), (valB hh52 v65)]) fun a76 => cl (call n f66 (a76 ++ c67) hh52) (fun r68 h69 => if V.simple.simpleL r68 then
 (one1 r68 fun v77 =>
 (bd (bop prog .lss 3 v77 (V.int .i64 0)) fun v78 =>
 (bd (uop .not v78) fun v79 =>
 (bv v79 fun b80 => if b80 then
 (bd (bop prog .add 3 v59 (V.int .i64 1)) fun v81 =>
 (next53 [(V.sl 1 (lsl (gv st51 0)) false), v81, (gv st51 2)] h69))
 else
 (next53 [(V.sl 1 (lsl (gv st51 0)) false), (gv st51 1), v59] h69))))) else none) (fun z70 h69 => if z70.simple then none else none))
 else none) else none))) else none)))) else none))))))
 else
 (loopx n (lSym_l82 n st51) [(V.sl 1 (lsl (gv st51 0)) false), (V.int .i64 m)] hh52)))
noncomputable def lSym_l108 (n : Nat) (a : Int) (m : Int) (b : Int) (c : V) (v102 : V) (v103 : V) (v107 : V) (st109 : List V) (hh110 : Heap) (next111 : List V -> Heap -> Option (Res × Heap)) : Option (Res × Heap) :=
 (bd (bop prog .lss 3 (gv st109 1) (gv st109 2)) fun v112 =>
 (bv v112 fun b113 => if b113 then
 (bd (bop prog .add 3 (gv st109 1) (gv st109 2)) fun v114 =>
 (bd (cvt prog 3 124 v114) fun v115 =>
 (bd (bop prog .shr 124 v115 (V.int .u64 1)) fun v116 =>
 (bd (cvt prog 124 3 v116) fun v117 =>
 (bd (bop prog .sub 3 v107 v117) fun v118 =>
 (bdS (nv v118) fun n119 =>
 (if (1 = 1 /\ n119 < ((lsl (gv st109 0))).length /\ (some 163 : Option Nat) ≠ some 0) then
 (bd ((lsl (gv st109 0)))[n119]? fun es120 =>
 (bd (es120)[0]? fun v121 =>
 (bdS (nv v117) fun n122 =>
 (if (1 = 1 /\ n122 < ((lsl (gv st109 0))).length /\ (some 167 : Option Nat) ≠ some 0) then
 (bd ((lsl (gv st109 0)))[n122]? fun es123 =>
 (bd (es123)[0]? fun v124 =>
 (fnK c fun f125 c126 => if (okV prog 3 f125 = true) then (if keepS f125 then
 (cl (call n f125 ([v121, v124] ++ c126) hh110) (fun r127 h128 =>
 (one1 r127 fun v130 =>
 (bd (bop prog .lss 3 v130 (V.int .i64 0)) fun v131 =>
 (bd (uop .not v131) fun v132 =>
 (bv v132 fun b133 => if b133 then
 (bd (bop prog .add 3 v117 (V.int .i64 1)) fun v134 =>
 (next111 [(V.sl 1 (lsl (gv st109 0)) false), v134, (gv st109 2)] h128))
 else
 (next111 [(V.sl 1 (lsl (gv st109 0)) false), (gv st109 1), v117] h128)))))) (fun z129 h128 => none))
 else if pureS f125 then
 (bd (evBsL [(valB hh110 v121), (valB hh110 v124)]) fun a135 => cl (call n f125 (a135 ++ c126) hh110) (fun r127 h128 => if V.simple.simpleL r127 then
 (one1 r127 fun v136 =>
 (bd (bop prog .lss 3 v136 (V.int .i64 0)) fun v137 =>
 (bd (uop .not v137) fun v138 =>
 (bv v138 fun b139 => if b139 then
 (bd (bop prog .add 3 v117 (V.int .i64 1)) fun v140 =>
 (next111 [(V.sl 1 (lsl (gv st109 0)) false), v140, (gv st109 2)] h128))
 else
 (next111 [(V.sl 1 (lsl (gv st109 0)) false), (gv st109 1), v117] h128))))) else none) (fun z129 h128 => if z129.simple then none else none))
 else none) else none))) else none)))) else none)))))))
 else
 (bd (bop prog .sub 3 v103 (gv st109 1)) fun v141 =>
 (bd (bop prog .lss 3 (gv st109 1) (V.int .i64 m)) fun v142 =>
 (bv v142 fun b143 => if b143 then
 (bd (bop prog .lss 3 (V.int .i64 m) v141) fun v144 =>
 (bv v144 fun b145 => if b145 then
 (clm (call n 101 (V.sl 1 (lsl (gv st109 0)) false :: [(gv st109 1), (V.int .i64 m), v141, c]) hh110) 1 fun l146 r147 h148 =>
 (bd (bop prog .lss 3 (V.int .i64 a) (gv st109 1)) fun v149 =>
 (bv v149 fun b150 => if b150 then
 (bd (bop prog .lss 3 (gv st109 1) v102) fun v151 =>
 (bv v151 fun b152 => if b152 then
 (clm (call n 94 (V.sl 1 l146 false :: [(V.int .i64 a), (gv st109 1), v102, c]) h148) 1 fun l153 r154 h155 =>
 (bd (bop prog .lss 3 v102 v141) fun v156 =>
 (bv v156 fun b157 => if b157 then
 (bd (bop prog .lss 3 v141 (V.int .i64 b)) fun v158 =>
 (bv v158 fun b159 => if b159 then
 (clm (call n 94 (V.sl 1 l153 false :: [v102, v141, (V.int .i64 b), c]) h155) 1 fun l160 r161 h162 =>
 some (Res.ret (V.sl 1 l160 false :: []), h162))
 else
 some (Res.ret (V.sl 1 l153 false :: []), h155)))
 else
 some (Res.ret (V.sl 1 l153 false :: []), h155))))
 else
 (bd (bop prog .lss 3 v102 v141) fun v163 =>
 (bv v163 fun b164 => if b164 then
 (bd (bop prog .lss 3 v141 (V.int .i64 b)) fun v165 =>
 (bv v165 fun b166 => if b166 then
 (clm (call n 94 (V.sl 1 l146 false :: [v102, v141, (V.int .i64 b), c]) h148) 1 fun l167 r168 h169 =>
 some (Res.ret (V.sl 1 l167 false :: []), h169))
 else
 some (Res.ret (V.sl 1 l146 false :: []), h148)))
 else
 some (Res.ret (V.sl 1 l146 false :: []), h148)))))
 else
 (bd (bop prog .lss 3 v102 v141) fun v170 =>
 (bv v170 fun b171 => if b171 then
 (bd (bop prog .lss 3 v141 (V.int .i64 b)) fun v172 =>
 (bv v172 fun b173 => if b173 then
 (clm (call n 94 (V.sl 1 l146 false :: [v102, v141, (V.int .i64 b), c]) h148) 1 fun l174 r175 h176 =>
 some (Res.ret (V.sl 1 l174 false :: []), h176))
 else
 some (Res.ret (V.sl 1 l146 false :: []), h148)))
 else
 some (Res.ret (V.sl 1 l146 false :: []), h148))))))
 else
 (bd (bop prog .lss 3 (V.int .i64 a) (gv st109 1)) fun v177 =>
 (bv v177 fun b178 => if b178 then
 (bd (bop prog .lss 3 (gv st109 1) v102) fun v179 =>
 (bv v179 fun b180 => if b180 then
 (clm (call n 94 (V.sl 1 (lsl (gv st109 0)) false :: [(V.int .i64 a), (gv st109 1), v102, c]) hh110) 1 fun l181 r182 h183 =>
 (bd (bop prog .lss 3 v102 v141) fun v184 =>
 (bv v184 fun b185 => if b185 then
 (bd (bop prog .lss 3 v141 (V.int .i64 b)) fun v186 =>
 (bv v186 fun b187 => if b187 then
 (clm (call n 94 (V.sl 1 l181 false :: [v102, v141, (V.int .i64 b), c]) h183) 1 fun l188 r189 h190 =>
 some (Res.ret (V.sl 1 l188 false :: []), h190))
 else
 some (Res.ret (V.sl 1 l181 false :: []), h183)))
 else
 some (Res.ret (V.sl 1 l181 false :: []), h183))))
 else
 (bd (bop prog .lss 3 v102 v141) fun v191 =>
 (bv v191 fun b192 => if b192 then
 (bd (bop prog .lss 3 v141 (V.int .i64 b)) fun v193 =>
 (bv v193 fun b194 => if b194 then
 (clm (call n 94 (V.sl 1 (lsl (gv st109 0)) false :: [v102, v141, (V.int .i64 b), c]) hh110) 1 fun l195 r196 h197 =>
 some (Res.ret (V.sl 1 l195 false :: []), h197))
 else
 some (Res.ret (V.sl 1 (lsl (gv st109 0)) false :: []), hh110)))
 else
 some (Res.ret (V.sl 1 (lsl (gv st109 0)) false :: []), hh110)))))
 else
 (bd (bop prog .lss 3 v102 v141) fun v198 =>
 (bv v198 fun b199 => if b199 then
 (bd (bop prog .lss 3 v141 (V.int .i64 b)) fun v200 =>
 (bv v200 fun b201 => if b201 then
 (clm (call n 94 (V.sl 1 (lsl (gv st109 0)) false :: [v102, v141, (V.int .i64 b), c]) hh110) 1 fun l202 r203 h204 =>
 some (Res.ret (V.sl 1 l202 false :: []), h204))
 else
 some (Res.ret (V.sl 1 (lsl (gv st109 0)) false :: []), hh110)))
 else
 some (Res.ret (V.sl 1 (lsl (gv st109 0)) false :: []), hh110)))))))
 else
 (bd (bop prog .lss 3 (V.int .i64 a) (gv st109 1)) fun v205 =>
 (bv v205 fun b206 => if b206 then
 (bd (bop prog .lss 3 (gv st109 1) v102) fun v207 =>
 (bv v207 fun b208 => if b208 then
 (clm (call n 94 (V.sl 1 (lsl (gv st109 0)) false :: [(V.int .i64 a), (gv st109 1), v102, c]) hh110) 1 fun l209 r210 h211 =>
 (bd (bop prog .lss 3 v102 v141) fun v212 =>
 (bv v212 fun b213 => if b213 then
 (bd (bop prog .lss 3 v141 (V.int .i64 b)) fun v214 =>
 (bv v214 fun b215 => if b215 then
 (clm (call n 94 (V.sl 1 l209 false :: [v102, v141, (V.int .i64 b), c]) h211) 1 fun l216 r217 h218 =>
 some (Res.ret (V.sl 1 l216 false :: []), h218))
 else
 some (Res.ret (V.sl 1 l209 false :: []), h211)))
 else
 some (Res.ret (V.sl 1 l209 false :: []), h211))))
 else
 (bd (bop prog .lss 3 v102 v141) fun v219 =>
 (bv v219 fun b220 => if b220 then
 (bd (bop prog .lss 3 v141 (V.int .i64 b)) fun v221 =>
 (bv v221 fun b222 => if b222 then
 (clm (call n 94 (V.sl 1 (lsl (gv st109 0)) false :: [v102, v141, (V.int .i64 b), c]) hh110) 1 fun l223 r224 h225 =>
 some (Res.ret (V.sl 1 l223 false :: []), h225))
 else
 some (Res.ret (V.sl 1 (lsl (gv st109 0)) false :: []), hh110)))
 else
 some (Res.ret (V.sl 1 (lsl (gv st109 0)) false :: []), hh110)))))
 else
 (bd (bop prog .lss 3 v102 v141) fun v226 =>
 (bv v226 fun b227 => if b227 then
 (bd (bop prog .lss 3 v141 (V.int .i64 b)) fun v228 =>
 (bv v228 fun b229 => if b229 then
 (clm (call n 94 (V.sl 1 (lsl (gv st109 0)) false :: [v102, v141, (V.int .i64 b), c]) hh110) 1 fun l230 r231 h232 =>
 some (Res.ret (V.sl 1 l230 false :: []), h232))
 else
 some (Res.ret (V.sl 1 (lsl (gv st109 0)) false :: []), hh110)))
 else
 some (Res.ret (V.sl 1 (lsl (gv st109 0)) false :: []), hh110))))))))))
noncomputable def lSym_l234 (n : Nat) (a : Int) (m : Int) (b : Int) (c : V) (v102 : V) (v103 : V) (v233 : V) (st235 : List V) (hh236 : Heap) (next237 : List V -> Heap -> Option (Res × Heap)) : Option (Res × Heap) :=
 (bd (bop prog .lss 3 (gv st235 1) (gv st235 2)) fun v238 =>
 (bv v238 fun b239 => if b239 then
 (bd (bop prog .add 3 (gv st235 1) (gv st235 2)) fun v240 =>
 (bd (cvt prog 3 124 v240) fun v241 =>
 (bd (bop prog .shr 124 v241 (V.int .u64 1)) fun v242 =>
 (bd (cvt prog 124 3 v242) fun v243 =>
 (bd (bop prog .sub 3 v233 v243) fun v244 =>
 (bdS (nv v244) fun n245 =>
 (if (1 = 1 /\ n245 < ((lsl (gv st235 0))).length /\ (some 163 : Option Nat) ≠ some 0) then
 (bd ((lsl (gv st235 0)))[n245]? fun es246 =>
 (bd (es246)[0]? fun v247 =>
 (bdS (nv v243) fun n248 =>
 (if (1 = 1 /\ n248 < ((lsl (gv st235 0))).length /\ (some 167 : Option Nat) ≠ some 0) then
 (bd ((lsl (gv st235 0)))[n248]? fun es249 =>
 (bd (es249)[0]? fun v250 =>
 (fnK c fun f251 c252 => if (okV prog 3 f251 = true) then (if keepS f251 then
 (cl (call n f251 ([v247, v250] ++ c252) hh236) (fun r253 h254 =>
 (one1 r253 fun v256 =>
 (bd (bop prog .lss 3 v256 (V.int .i64 0)) fun v257 =>
 (bd (uop .not v257) fun v258 =>
 (bv v258 fun b259 => if b259 then
 (bd (bop prog .add 3 v243 (V.int .i64 1)) fun v260 =>
 (next237 [(V.sl 1 (lsl (gv st235 0)) false), v260, (gv st235 2)] h254))
 else
 (next237 [(V.sl 1 (lsl (gv st235 0)) false), (gv st235 1), v243] h254)))))) (fun z255 h254 => none))
 else if pureS f251 then
 (bd (evBsL [(valB hh236 v247), (valB hh236 v250)]) fun a261 => cl (call n f251 (a261 ++ c252) hh236) (fun r253 h254 => if V.simple.simpleL r253 then
 (one1 r253 fun v262 =>
 (bd (bop prog .lss 3 v262 (V.int .i64 0)) fun v263 =>
 (bd (uop .not v263) fun v264 =>
 (bv v264 fun b265 => if b265 then
 (bd (bop prog .add 3 v243 (V.int .i64 1)) fun v266 =>
 (next237 [(V.sl 1 (lsl (gv st235 0)) false), v266, (gv st235 2)] h254))
 else
 (next237 [(V.sl 1 (lsl (gv st235 0)) false), (gv st235 1), v243] h254))))) else none) (fun z255 h254 => if z255.simple then none else none))
 else none) else none))) else none)))) else none)))))))
 else
 (bd (bop prog .sub 3 v103 (gv st235 1)) fun v267 =>
 (bd (bop prog .lss 3 (gv st235 1) (V.int .i64 m)) fun v268 =>
 (bv v268 fun b269 => if b269 then
 (bd (bop prog .lss 3 (V.int .i64 m) v267) fun v270 =>
 (bv v270 fun b271 => if b271 then
 (clm (call n 101 (V.sl 1 (lsl (gv st235 0)) false :: [(gv st235 1), (V.int .i64 m), v267, c]) hh236) 1 fun l272 r273 h274 =>
 (bd (bop prog .lss 3 (V.int .i64 a) (gv st235 1)) fun v275 =>
 (bv v275 fun b276 => if b276 then
 (bd (bop prog .lss 3 (gv st235 1) v102) fun v277 =>
 (bv v277 fun b278 => if b278 then
 (clm (call n 94 (V.sl 1 l272 false :: [(V.int .i64 a), (gv st235 1), v102, c]) h274) 1 fun l279 r280 h281 =>
 (bd (bop prog .lss 3 v102 v267) fun v282 =>
 (bv v282 fun b283 => if b283 then
 (bd (bop prog .lss 3 v267 (V.int .i64 b)) fun v284 =>
 (bv v284 fun b285 => if b285 then
 (clm (call n 94 (V.sl 1 l279 false :: [v102, v267, (V.int .i64 b), c]) h281) 1 fun l286 r287 h288 =>
 some (Res.ret (V.sl 1 l286 false :: []), h288))
 else
 some (Res.ret (V.sl 1 l279 false :: []), h281)))
 else
 some (Res.ret (V.sl 1 l279 false :: []), h281))))
 else
 (bd (bop prog .lss 3 v102 v267) fun v289 =>
 (bv v289 fun b290 => if b290 then
 (bd (bop prog .lss 3 v267 (V.int .i64 b)) fun v291 =>
 (bv v291 fun b292 => if b292 then
 (clm (call n 94 (V.sl 1 l272 false :: [v102, v267, (V.int .i64 b), c]) h274) 1 fun l293 r294 h295 =>
 some (Res.ret (V.sl 1 l293 false :: []), h295))
 else
 some (Res.ret (V.sl 1 l272 false :: []), h274)))
 else
 some (Res.ret (V.sl 1 l272 false :: []), h274)))))
 else
 (bd (bop prog .lss 3 v102 v267) fun v296 =>
 (bv v296 fun b297 => if b297 then
 (bd (bop prog .lss 3 v267 (V.int .i64 b)) fun v298 =>
 (bv v298 fun b299 => if b299 then
 (clm (call n 94 (V.sl 1 l272 false :: [v102, v267, (V.int .i64 b), c]) h274) 1 fun l300 r301 h302 =>
 some (Res.ret (V.sl 1 l300 false :: []), h302))
 else
 some (Res.ret (V.sl 1 l272 false :: []), h274)))
 else
 some (Res.ret (V.sl 1 l272 false :: []), h274))))))
 else
 (bd (bop prog .lss 3 (V.int .i64 a) (gv st235 1)) fun v303 =>
 (bv v303 fun b304 => if b304 then
 (bd (bop prog .lss 3 (gv st235 1) v102) fun v305 =>
 (bv v305 fun b306 => if b306 then
 (clm (call n 94 (V.sl 1 (lsl (gv st235 0)) false :: [(V.int .i64 a), (gv st235 1), v102, c]) hh236) 1 fun l307 r308 h309 =>
 (bd (bop prog .lss 3 v102 v267) fun v310 =>
 (bv v310 fun b311 => if b311 then
 (bd (bop prog .lss 3 v267 (V.int .i64 b)) fun v312 =>
 (bv v312 fun b313 => if b313 then
 (clm (call n 94 (V.sl 1 l307 false :: [v102, v267, (V.int .i64 b), c]) h309) 1 fun l314 r315 h316 =>
 some (Res.ret (V.sl 1 l314 false :: []), h316))
 else
 some (Res.ret (V.sl 1 l307 false :: []), h309)))
 else
 some (Res.ret (V.sl 1 l307 false :: []), h309))))
 else
 (bd (bop prog .lss 3 v102 v267) fun v317 =>
 (bv v317 fun b318 => if b318 then
 (bd (bop prog .lss 3 v267 (V.int .i64 b)) fun v319 =>
 (bv v319 fun b320 => if b320 then
 (clm (call n 94 (V.sl 1 (lsl (gv st235 0)) false :: [v102, v267, (V.int .i64 b), c]) hh236) 1 fun l321 r322 h323 =>
 some (Res.ret (V.sl 1 l321 false :: []), h323))
 else
 some (Res.ret (V.sl 1 (lsl (gv st235 0)) false :: []), hh236)))
 else
 some (Res.ret (V.sl 1 (lsl (gv st235 0)) false :: []), hh236)))))
 else
 (bd (bop prog .lss 3 v102 v267) fun v324 =>
 (bv v324 fun b325 => if b325 then
 (bd (bop prog .lss 3 v267 (V.int .i64 b)) fun v326 =>
 (bv v326 fun b327 => if b327 then
 (clm (call n 94 (V.sl 1 (lsl (gv st235 0)) false :: [v102, v267, (V.int .i64 b), c]) hh236) 1 fun l328 r329 h330 =>
 some (Res.ret (V.sl 1 l328 false :: []), h330))
 else
 some (Res.ret (V.sl 1 (lsl (gv st235 0)) false :: []), hh236)))
 else
 some (Res.ret (V.sl 1 (lsl (gv st235 0)) false :: []), hh236)))))))
 else
 (bd (bop prog .lss 3 (V.int .i64 a) (gv st235 1)) fun v331 =>
 (bv v331 fun b332 => if b332 then
 (bd (bop prog .lss 3 (gv st235 1) v102) fun v333 =>
 (bv v333 fun b334 => if b334 then
 (clm (call n 94 (V.sl 1 (lsl (gv st235 0)) false :: [(V.int .i64 a), (gv st235 1), v102, c]) hh236) 1 fun l335 r336 h337 =>
 (bd (bop prog .lss 3 v102 v267) fun v338 =>
 (bv v338 fun b339 => if b339 then
 (bd (bop prog .lss 3 v267 (V.int .i64 b)) fun v340 =>
 (bv v340 fun b341 => if b341 then
 (clm (call n 94 (V.sl 1 l335 false :: [v102, v267, (V.int .i64 b), c]) h337) 1 fun l342 r343 h344 =>
 some (Res.ret (V.sl 1 l342 false :: []), h344))
 else
 some (Res.ret (V.sl 1 l335 false :: []), h337)))
 else
 some (Res.ret (V.sl 1 l335 false :: []), h337))))
 else
 (bd (bop prog .lss 3 v102 v267) fun v345 =>
 (bv v345 fun b346 => if b346 then
 (bd (bop prog .lss 3 v267 (V.int .i64 b)) fun v347 =>
 (bv v347 fun b348 => if b348 then
 (clm (call n 94 (V.sl 1 (lsl (gv st235 0)) false :: [v102, v267, (V.int .i64 b), c]) hh236) 1 fun l349 r350 h351 =>
 some (Res.ret (V.sl 1 l349 false :: []), h351))
 else
 some (Res.ret (V.sl 1 (lsl (gv st235 0)) false :: []), hh236)))
 else
 some (Res.ret (V.sl 1 (lsl (gv st235 0)) false :: []), hh236)))))
 else
 (bd (bop prog .lss 3 v102 v267) fun v352 =>
 (bv v352 fun b353 => if b353 then
 (bd (bop prog .lss 3 v267 (V.int .i64 b)) fun v354 =>
 (bv v354 fun b355 => if b355 then
 (clm (call n 94 (V.sl 1 (lsl (gv st235 0)) false :: [v102, v267, (V.int .i64 b), c]) hh236) 1 fun l356 r357 h358 =>
 some (Res.ret (V.sl 1 l356 false :: []), h358))
 else
 some (Res.ret (V.sl 1 (lsl (gv st235 0)) false :: []), hh236)))
 else
 some (Res.ret (V.sl 1 (lsl (gv st235 0)) false :: []), hh236))))))))))
noncomputable def lSym (n : Nat) (l : List (List V)) (a : Int) (m : Int) (b : Int) (c : V) (h : Heap) : Option (Res × Heap) :=
 (if ((IntKind.i64.wrap (m - a)) == 1) then
 (loopx n (lSym_l0 n a c) [(V.sl 1 l false), (V.int .i64 m), (V.int .i64 b)] h)
 else
 (if ((IntKind.i64.wrap (b - m)) == 1) then
 (loopx n (lSym_l50 n m c) [(V.sl 1 l false), (V.int .i64 a), (V.int .i64 m)] h)
 else
 (bd (bop prog .shr 124 (V.int .u64 (IntKind.u64.wrap (IntKind.i64.wrap (a + b)))) (V.int .u64 1)) fun v101 =>
 (bd (cvt prog 124 3 v101) fun v102 =>
 (bd (bop prog .add 3 v102 (V.int .i64 m)) fun v103 =>
 (bd (bop prog .gtr 3 (V.int .i64 m) v102) fun v104 =>
 (bv v104 fun b105 => if b105 then
 (bd (bop prog .sub 3 v103 (V.int .i64 b)) fun v106 =>
 (bd (bop prog .sub 3 v103 (V.int .i64 1)) fun v107 =>
 (loopx n (lSym_l108 n a m b c v102 v103 v107) [(V.sl 1 l false), v106, v102] h)))
 else
 (bd (bop prog .sub 3 v103 (V.int .i64 1)) fun v233 =>
 (loopx n (lSym_l234 n a m b c v102 v103 v233) [(V.sl 1 l false), (V.int .i64 a), (V.int .i64 m)] h)))))))))
theorem lSym_eq (n : Nat) (l : List (List V)) (a : Int) (m : Int) (b : Int) (c : V) (h : Heap) : call (n + 1) 94 [(V.sl 1 l false), (V.int .i64 a), (V.int .i64 m), (V.int .i64 b), c] h = lSym n l a m b c h := by kernel_rfl
noncomputable def lIns_l6 (n : Nat) (a : Int) (c : V) (st1 : List V) (next3 : List V -> Heap -> Option (Res × Heap)) (st7 : List V) (hh8 : Heap) (next9 : List V -> Heap -> Option (Res × Heap)) : Option (Res × Heap) :=
 (bd (bop prog .gtr 3 (gv st7 1) (V.int .i64 a)) fun v10 =>
 (bv v10 fun b11 => if b11 then
 (bdS (nv (gv st7 1)) fun n12 =>
 (if (1 = 1 /\ n12 < ((lsl (gv st7 0))).length /\ (some 25 : Option Nat) ≠ some 0) then
 (bd ((lsl (gv st7 0)))[n12]? fun es13 =>
 (bd (es13)[0]? fun v14 =>
 (bd (bop prog .sub 3 (gv st7 1) (V.int .i64 1)) fun v15 =>
 (bdS (nv v15) fun n16 =>
 (if (1 = 1 /\ n16 < ((lsl (gv st7 0))).length /\ (some 30 : Option Nat) ≠ some 0) then
 (bd ((lsl (gv st7 0)))[n16]? fun es17 =>
 (bd (es17)[0]? fun v18 =>
 (fnK c fun f19 c20 => if (okV prog 3 f19 = true) then (if keepS f19 then
 (cl (call n f19 ([v14, v18] ++ c20) hh8) (fun r21 h22 =>
 (one1 r21 fun v24 =>
 (bd (bop prog .lss 3 v24 (V.int .i64 0)) fun v25 =>
 (bv v25 fun b26 => if b26 then
 (bd (bop prog .sub 3 (gv st7 1) (V.int .i64 1)) fun v27 =>
 (bd (bop prog .sub 3 (gv st7 1) (V.int .i64 1)) fun v28 =>
 (bdS (nv v28) fun n29 =>
 (if (1 = 1 /\ n29 < ((lsl (gv st7 0))).length /\ (some 45 : Option Nat) ≠ some 0) then
 (bd ((lsl (gv st7 0)))[n29]? fun es30 =>
 (bd (es30)[0]? fun v31 =>
 (bdS (nv (gv st7 1)) fun n32 =>
 (if (1 = 1 /\ n32 < ((lsl (gv st7 0))).length /\ (some 49 : Option Nat) ≠ some 0) then
 (bd ((lsl (gv st7 0)))[n32]? fun es33 =>
 (bd (es33)[0]? fun v34 =>
 (bdS (nv (gv st7 1)) fun n35 =>
 (if (1 = 1 /\ n35 < ((lsl (gv st7 0))).length /\ (some 51 : Option Nat) ≠ some 0) then
 (if ((V.cells v31)).length = 1 then
 (if (1 = 1 /\ 0 < 1 /\ 0 + ((V.cells v31)).length <= 1) then
 (bd ((lsl (gv st7 0)))[n35]? fun es36 =>
 (bdS (nv v27) fun n37 =>
 (if (1 = 1 /\ n37 < ((((lsl (gv st7 0))).set n35 (setR es36 0 (V.cells v31)))).length /\ (some 52 : Option Nat) ≠ some 0) then
 (if ((V.cells v34)).length = 1 then
 (if (1 = 1 /\ 0 < 1 /\ 0 + ((V.cells v34)).length <= 1) then
 (bd ((((lsl (gv st7 0))).set n35 (setR es36 0 (V.cells v31))))[n37]? fun es38 =>
 (bd (bop prog .sub 3 (gv st7 1) (V.int .i64 1)) fun v39 =>
 (next9 [(V.sl 1 (((((lsl (gv st7 0))).set n35 (setR es36 0 (V.cells v31)))).set n37 (setR es38 0 (V.cells v34))) false), v39] h22))) else none) else none) else none))) else none) else none) else none)))) else none)))) else none))))
 else
 (bd (bop prog .add 3 (gv st1 1) (V.int .i64 1)) fun v40 =>
 (next3 [(V.sl 1 (lsl (gv st7 0)) false), v40] h22)))))) (fun z23 h22 => none))
 else if pureS f19 then
 (bd (evBsL [(valB hh8 v14), (valB hh8 v18)]) fun a41 => cl (call n f19 (a41 ++ c20) hh8) (fun r21 h22 => if V.simple.simpleL r21 then
 (one1 r21 fun v42 =>
 (bd (bop prog .lss 3 v42 (V.int .i64 0)) fun v43 =>
 (bv v43 fun b44 => if b44 then
 (bd (bop prog .sub 3 (gv st7 1) (V.int .i64 1)) fun v45 =>
 (bd (bop prog .sub 3 (gv st7 1) (V.int .i64 1)) fun v46 =>
 (bdS (nv v46) fun n47 =>
 (if (1 = 1 /\ n47 < ((lsl (gv st7 0))).length /\ (some 45 : Option Nat) ≠ some 0) then
 (bd ((lsl (gv st7 0)))[n47]? fun es48 =>
 (bd (es48)[0]? fun v49 =>
 (bdS (nv (gv st7 1)) fun n50 =>
 (if (1 = 1 /\ n50 < ((lsl (gv st7 0))).length /\ (some 49 : Option Nat) ≠ some 0) then
 (bd ((lsl (gv st7 0)))[n50]? fun es51 =>
 (bd (es51)[0]? fun v52 =>
 (bdS (nv (gv st7 1)) fun n53 =>
 (if (1 = 1 /\ n53 < ((lsl (gv st7 0))).length /\ (some 51 : Option Nat) ≠ some 0) then
 (if ((V.cells v49)).length = 1 then
 (if (1 = 1 /\ 0 < 1 /\ 0 + ((V.cells v49)).length <= 1) then
 (bd ((lsl (gv st7 0)))[n53]? fun es54 =>
 (bdS (nv v45) fun n55 =>
 (if (1 = 1 /\ n55 < ((((lsl (gv st7 0))).set n53 (setR es54 0 (V.cells v49)))).length /\ (some 52 : Option Nat) ≠ some 0) then
 (if ((V.cells v52)).length = 1 then
 (if (1 = 1 /\ 0 < 1 /\ 0 + ((V.cells v52)).length <= 1) then
 (bd ((((lsl (gv st7 0))).set n53 (setR es54 0 (V.cells v49))))[n55]? fun es56 =>
 (bd (bop prog .sub 3 (gv st7 1) (V.int .i64 1)) fun v57 =>
 (next9 [(V.sl 1 (((((lsl (gv st7 0))).set n53 (setR es54 0 (V.cells v49)))).set n55 (setR es56 0 (V.cells v52))) false), v57] h22))) else none) else none) else none))) else none) else none) else none)))) else none)))) else none))))
 else
 (bd (bop prog .add 3 (gv st1 1) (V.int .i64 1)) fun v58 =>
 (next3 [(V.sl 1 (lsl (gv st7 0)) false), v58] h22))))) else none) (fun z23 h22 => if z23.simple then none else none))
 else none) else none))) else none))))) else none))
 else
 (bd (bop prog .add 3 (gv st1 1) (V.int .i64 1)) fun v59 =>
 (next3 [(V.sl 1 (lsl (gv st7 0)) false), v59] hh8))))
noncomputable def lIns_l0 (n : Nat) (a : Int) (b : Int) (c : V) (st1 : List V) (hh2 : Heap) (next3 : List V -> Heap -> Option (Res × Heap)) : Option (Res × Heap) :=
 (bd (bop prog .lss 3 (gv st1 1) (V.int .i64 b)) fun v4 =>
 (bv v4 fun b5 => if b5 then
 (loopx n (lIns_l6 n a c st1 next3) [(V.sl 1 (lsl (gv st1 0)) false), (gv st1 1)] hh2)
 else
 some (Res.ret (V.sl 1 (lsl (gv st1 0)) false :: []), hh2)))
noncomputable def lIns (n : Nat) (l : List (List V)) (a : Int) (b : Int) (c : V) (h : Heap) : Option (Res × Heap) :=
 (loopx n (lIns_l0 n a b c) [(V.sl 1 l false), (V.int .i64 (IntKind.i64.wrap (a + 1)))] h)
theorem lIns_eq (n : Nat) (l : List (List V)) (a : Int) (b : Int) (c : V) (h : Heap) : call (n + 1) 93 [(V.sl 1 l false), (V.int .i64 a), (V.int .i64 b), c] h = lIns n l a b c h := by kernel_rfl
noncomputable def lStab_l20 (n : Nat) (k : Int) (c : V) (st14 : List V) (next16 : List V -> Heap -> Option (Res × Heap)) (st21 : List V) (hh22 : Heap) (next23 : List V -> Heap -> Option (Res × Heap)) : Option (Res × Heap) :=
 (bd (bop prog .leq 3 (gv st21 2) (V.int .i64 k)) fun v24 =>
 (bv v24 fun b25 => if b25 then
 (bd (bop prog .add 3 (gv st21 1) (gv st14 1)) fun v26 =>
 (clm (call n 94 (V.sl 1 (lsl (gv st21 0)) false :: [(gv st21 1), v26, (gv st21 2), c]) hh22) 1 fun l27 r28 h29 =>
 (bd (bop prog .mul 3 (V.int .i64 2) (gv st14 1)) fun v30 =>
 (bd (bop prog .add 3 (gv st21 2) v30) fun v31 =>
 (next23 [(V.sl 1 l27 false), (gv st21 2), v31] h29)))))
 else
 (bd (bop prog .add 3 (gv st21 1) (gv st14 1)) fun v32 =>
 (bd (bop prog .lss 3 v32 (V.int .i64 k)) fun v33 =>
 (bv v33 fun b34 => if b34 then
 (clm (call n 94 (V.sl 1 (lsl (gv st21 0)) false :: [(gv st21 1), v32, (V.int .i64 k), c]) hh22) 1 fun l35 r36 h37 =>
 (bd (bop prog .mul 3 (gv st14 1) (V.int .i64 2)) fun v38 =>
 (next16 [(V.sl 1 l35 false), v38, (gv st21 1), (gv st21 2)] h37)))
 else
 (bd (bop prog .mul 3 (gv st14 1) (V.int .i64 2)) fun v39 =>
 (next16 [(V.sl 1 (lsl (gv st21 0)) false), v39, (gv st21 1), (gv st21 2)] hh22)))))))
noncomputable def lStab_l13 (n : Nat) (k : Int) (c : V) (st14 : List V) (hh15 : Heap) (next16 : List V -> Heap -> Option (Res × Heap)) : Option (Res × Heap) :=
 (bd (bop prog .lss 3 (gv st14 1) (V.int .i64 k)) fun v17 =>
 (bv v17 fun b18 => if b18 then
 (bd (bop prog .mul 3 (V.int .i64 2) (gv st14 1)) fun v19 =>
 (loopx n (lStab_l20 n k c st14 next16) [(V.sl 1 (lsl (gv st14 0)) false), (V.int .i64 0), v19] hh15))
 else
 some (Res.ret (V.sl 1 (lsl (gv st14 0)) false :: []), hh15)))
noncomputable def lStab_l0 (n : Nat) (k : Int) (c : V) (st1 : List V) (hh2 : Heap) (next3 : List V -> Heap -> Option (Res × Heap)) : Option (Res × Heap) :=
 (bd (bop prog .leq 3 (gv st1 2) (V.int .i64 k)) fun v4 =>
 (bv v4 fun b5 => if b5 then
 (clm (call n 93 (V.sl 1 (lsl (gv st1 0)) false :: [(gv st1 1), (gv st1 2), c]) hh2) 1 fun l6 r7 h8 =>
 (bd (bop prog .add 3 (gv st1 2) (V.int .i64 20)) fun v9 =>
 (next3 [(V.sl 1 l6 false), (gv st1 2), v9] h8)))
 else
 (clm (call n 93 (V.sl 1 (lsl (gv st1 0)) false :: [(gv st1 1), (V.int .i64 k), c]) hh2) 1 fun l10 r11 h12 =>
 (loopx n (lStab_l13 n k c) [(V.sl 1 l10 false), (V.int .i64 20), (gv st1 1), (gv st1 2)] h12))))
noncomputable def lStab (n : Nat) (l : List (List V)) (k : Int) (c : V) (h : Heap) : Option (Res × Heap) :=
 (loopx n (lStab_l0 n k c) [(V.sl 1 l false), (V.int .i64 0), (V.int .i64 20)] h)
theorem lStab_eq (n : Nat) (l : List (List V)) (k : Int) (c : V) (h : Heap) : call (n + 1) 88 [(V.sl 1 l false), (V.int .i64 k), c] h = lStab n l k c h := by kernel_rfl
noncomputable def lSort (n : Nat) (l : List (List V)) (c : V) (h : Heap) : Option (Res × Heap) :=
 (clm (call n 88 (V.sl 1 l false :: [(V.int .i64 ((l).length : Int)), c]) h) 1 fun l0 r1 h2 =>
 some (Res.ret (V.sl 1 l0 false :: []), h2))
theorem lSort_eq (n : Nat) (l : List (List V)) (c : V) (h : Heap) : call (n + 1) 80 [(V.sl 1 l false), c] h = lSort n l c h := by kernel_rfl
end Go.Proofs.Try
namespace Go.Rp
def Ah (K : Int -> Int) (x y : Int) : Prop := K x < K y \/ (K x = K y /\ x < y)
abbrev Sd (K : Int -> Int) (l : List Int) : Prop := l.Pairwise (Ah K)
section
variable {K : Int -> Int}
theorem Ah.trans {x y z : Int} (h : Ah K x y) (k : Ah K y z) : Ah K x z := by unfold Ah at *; omega
theorem Ah.asymm {x y : Int} (h : Ah K x y) (k : Ah K y x) : False := by unfold Ah at *; omega
theorem Ah.lt {x y : Int} (h : K x < K y) : Ah K x y := .inl h
theorem Ah.le {x y : Int} (h : K x <= K y) (k : x < y) : Ah K x y := by unfold Ah; omega
theorem Ah.of {x y : Int} (h : Ah K x y) : K x <= K y := by unfold Ah at h; omega
theorem sd_unique : ∀ {l m : List Int}, l.Perm m -> Sd K l -> Sd K m -> l = m
  | [], m, h, _, _ => (h.symm.eq_nil).symm
  | x :: l, [], h, _, _ => absurd h.eq_nil (by simp)
  | x :: l, y :: m, h, hl, hm => by
    obtain ⟨h1, h2⟩ := List.pairwise_cons.1 hl
    obtain ⟨k1, k2⟩ := List.pairwise_cons.1 hm
    have hx : x ∈ y :: m := h.mem_iff.1 (by simp)
    have hy : y ∈ x :: l := h.mem_iff.2 (by simp)
    obtain rfl : x = y := by
      rcases List.mem_cons.1 hx with e | hx
      · exact e
      · rcases List.mem_cons.1 hy with e | hy
        · exact e.symm
        · exact absurd (h1 y hy) fun a => (k1 x hx).asymm a
    rw [sd_unique (List.perm_cons x |>.1 h) h2 k2]
def insD (K : Int -> Int) : List Int -> Int -> List Int -> List Int
  | [], x, b => x :: b
  | y :: r, x, b => if K x < K y then insD K r x (y :: b) else r.reverse ++ y :: x :: b
theorem insD_perm : ∀ (r : List Int) (x : Int) (b : List Int), (insD K r x b).Perm (r.reverse ++ x :: b)
  | [], x, b => .refl _
  | y :: r, x, b => by
    unfold insD
    split
    · refine (insD_perm r x (y :: b)).trans ?_
      rw [List.reverse_cons, List.append_assoc]
      exact List.Perm.append_left _ (List.Perm.swap y x b)
    · rw [List.reverse_cons, List.append_assoc]; exact .refl _
theorem insD_sd : ∀ (r : List Int) (x : Int) (b : List Int), Sd K (r.reverse ++ b) -> (∀ y ∈ r, y < x) -> (∀ y ∈ b, Ah K x y) -> Sd K (insD K r x b)
  | [], x, b, h, _, hb => List.pairwise_cons.2 ⟨hb, by simpa using h⟩
  | y :: r, x, b, h, hr, hb => by
    rw [List.reverse_cons, List.append_assoc] at h
    unfold insD
    split
    · rename_i hk
      exact insD_sd r x (y :: b) h (fun z hz => hr z (List.mem_cons_of_mem _ hz)) (fun z hz => by
        rcases List.mem_cons.1 hz with rfl | hz
        · exact .lt hk
        · exact hb z hz)
    · rename_i hk
      have hyx : Ah K y x := .le (by omega) (hr y (by simp))
      obtain ⟨h1, h2, h3⟩ := List.pairwise_append.1 h
      obtain ⟨h4, h5⟩ := List.pairwise_cons.1 (show Sd K (y :: b) from h2)
      refine List.pairwise_append.2 ⟨h1, List.pairwise_cons.2 ⟨fun z hz => ?_, List.pairwise_cons.2 ⟨hb, h5⟩⟩, fun u hu v hv => ?_⟩
      · rcases List.mem_cons.1 hz with rfl | hz
        · exact hyx
        · exact hyx.trans (hb z hz)
      · rcases List.mem_cons.1 hv with rfl | hv
        · exact h3 u hu v (by simp)
        · rcases List.mem_cons.1 hv with rfl | hv
          · exact (h3 u hu y (by simp)).trans hyx
          · exact h3 u hu v (by simp [hv])
def ordL (K : Int -> Int) : Nat -> List Int
  | 0 => []
  | n + 1 => insD K (ordL K n).reverse n []
theorem ordL_perm : ∀ n : Nat, (ordL K n).Perm ((List.range n).map Int.ofNat)
  | 0 => .refl _
  | n + 1 => by
    unfold ordL
    refine (insD_perm _ _ _).trans ?_
    rw [List.reverse_reverse, List.range_succ, List.map_append]
    exact (ordL_perm n).append_right _
theorem ordL_mem {n : Nat} {x : Int} : x ∈ ordL K n ↔ 0 <= x /\ x < n := by
  rw [(ordL_perm n).mem_iff, List.mem_map]
  constructor
  · rintro ⟨k, hk, rfl⟩
    have := List.mem_range.1 hk
    simp; omega
  · rintro ⟨h1, h2⟩
    exact ⟨x.toNat, List.mem_range.2 (by omega), by simp; omega⟩
theorem ordL_len (n : Nat) : (ordL K n).length = n := by rw [(ordL_perm n).length_eq]; simp
theorem ordL_sd : ∀ n : Nat, Sd K (ordL K n)
  | 0 => .nil
  | n + 1 => by
    unfold ordL
    refine insD_sd _ _ _ (by simpa using ordL_sd n) (fun y hy => ?_) (by simp)
    exact (ordL_mem.1 (List.mem_reverse.1 hy)).2
theorem ordL_nodup (n : Nat) : (ordL K n).Nodup := (ordL_sd (K := K) n).imp fun h => by rintro rfl; exact h.asymm h
theorem take_all {Q : Int -> Prop} {B : List Int} {k : Nat} (hQ : ∀ y z, Ah K y z -> Q z -> Q y) (hB : Sd K B) (hk : k <= B.length) (h : k = 0 \/ Q (B.getD (k - 1) 0)) : ∀ y ∈ B.take k, Q y := by
  intro y hy
  obtain ⟨i, hi, rfl⟩ := List.mem_iff_getElem.1 hy
  rw [List.length_take] at hi
  rw [List.getElem_take]
  rcases h with h | h
  · omega
  · rw [List.getD_eq_getElem?_getD, List.getElem?_eq_getElem (by omega), Option.getD_some] at h
    rcases Nat.lt_or_ge i (k - 1) with h1 | h1
    · exact hQ _ _ (List.pairwise_iff_getElem.1 hB i (k - 1) (by omega) (by omega) h1) h
    · obtain rfl : i = k - 1 := by omega
      exact h
theorem drop_all {Q : Int -> Prop} {B : List Int} {k : Nat} (hQ : ∀ y z, Ah K y z -> Q y -> Q z) (hB : Sd K B) (h : B.length <= k \/ Q (B.getD k 0)) : ∀ y ∈ B.drop k, Q y := by
  intro y hy
  obtain ⟨i, hi, rfl⟩ := List.mem_iff_getElem.1 hy
  rw [List.length_drop] at hi
  rw [List.getElem_drop]
  rcases h with h | h
  · omega
  · rw [List.getD_eq_getElem?_getD, List.getElem?_eq_getElem (by omega), Option.getD_some] at h
    rcases Nat.eq_zero_or_pos i with h1 | h1
    · subst h1; exact h
    · exact hQ _ _ (List.pairwise_iff_getElem.1 hB k (k + i) (by omega) (by omega) (by omega)) h
theorem merge_one {x : Int} {B : List Int} {k : Nat} (hB : Sd K B) (hk : k <= B.length) (hlt : ∀ y ∈ B, x < y) (h1 : k = 0 \/ K (B.getD (k - 1) 0) < K x) (h2 : B.length <= k \/ ¬ K (B.getD k 0) < K x) : Sd K (B.take k ++ x :: B.drop k) := by
  have a1 := take_all (Q := fun y => K y < K x) (fun y z h hz => by have := h.of; omega) hB hk h1
  have a2 := drop_all (Q := fun y => ¬ K y < K x) (fun y z h hz => by have := h.of; omega) hB h2
  have hB' := hB
  rw [<- List.take_append_drop k B] at hB'
  obtain ⟨s1, s2, s3⟩ := List.pairwise_append.1 hB'
  refine List.pairwise_append.2 ⟨s1, List.pairwise_cons.2 ⟨fun y hy => ?_, s2⟩, fun u hu v hv => ?_⟩
  · exact .le (by have := a2 y hy; omega) (hlt y (List.mem_of_mem_drop hy))
  · rcases List.mem_cons.1 hv with rfl | hv
    · exact .lt (a1 u hu)
    · exact s3 u hu v hv
theorem merge_last {x : Int} {A : List Int} {k : Nat} (hA : Sd K A) (hk : k <= A.length) (hlt : ∀ y ∈ A, y < x) (h1 : k = 0 \/ ¬ K x < K (A.getD (k - 1) 0)) (h2 : A.length <= k \/ K x < K (A.getD k 0)) : Sd K (A.take k ++ x :: A.drop k) := by
  have a1 := take_all (Q := fun y => ¬ K x < K y) (fun y z h hz => by have := h.of; omega) hA hk h1
  have a2 := drop_all (Q := fun y => K x < K y) (fun y z h hz => by have := h.of; omega) hA h2
  have hA' := hA
  rw [<- List.take_append_drop k A] at hA'
  obtain ⟨s1, s2, s3⟩ := List.pairwise_append.1 hA'
  refine List.pairwise_append.2 ⟨s1, List.pairwise_cons.2 ⟨fun y hy => .lt (a2 y hy), s2⟩, fun u hu v hv => ?_⟩
  rcases List.mem_cons.1 hv with rfl | hv
  · exact .le (by have := a1 u hu; omega) (hlt u (List.mem_of_mem_take hu))
  · exact s3 u hu v hv
theorem cross {A B : List Int} {i j : Nat} (hA : Sd K A) (hB : Sd K B) (hi : i <= A.length) (hj : j <= B.length) (hlt : ∀ x ∈ A, ∀ y ∈ B, x < y)
    (h1 : i = 0 \/ B.length <= j \/ ¬ K (B.getD j 0) < K (A.getD (i - 1) 0)) (h2 : j = 0 \/ A.length <= i \/ K (B.getD (j - 1) 0) < K (A.getD i 0)) : ∀ u ∈ A.take i ++ B.take j, ∀ v ∈ A.drop i ++ B.drop j, Ah K u v := by
  have a1 : ∀ u ∈ A.take i, ∀ v ∈ B.drop j, Ah K u v := fun u hu v hv => by
    have h0 : ¬ K v < K u := by
      rcases h1 with h1 | h1 | h1
      · subst h1; simp at hu
      · rw [List.drop_of_length_le h1] at hv; cases hv
      · have := drop_all (Q := fun y => ¬ K y < K (A.getD (i - 1) 0)) (fun y z h hz => by have := h.of; omega) hB (.inr h1) v hv
        exact take_all (Q := fun y => ¬ K v < K y) (fun y z h hz => by have := h.of; omega) hA hi (.inr this) u hu
    exact .le (by omega) (hlt u (List.mem_of_mem_take hu) v (List.mem_of_mem_drop hv))
  have a2 : ∀ u ∈ B.take j, ∀ v ∈ A.drop i, Ah K u v := fun u hu v hv => by
    rcases h2 with h2 | h2 | h2
    · subst h2; simp at hu
    · rw [List.drop_of_length_le h2] at hv; cases hv
    · have := drop_all (Q := fun y => K (B.getD (j - 1) 0) < K y) (fun y z h hz => by have := h.of; omega) hA (.inr h2) v hv
      exact .lt (take_all (Q := fun y => K y < K v) (fun y z h hz => by have := h.of; omega) hB hj (.inr this) u hu)
  have hA' := hA
  have hB' := hB
  rw [<- List.take_append_drop i A] at hA'
  rw [<- List.take_append_drop j B] at hB'
  intro u hu v hv
  rcases List.mem_append.1 hu with hu | hu <;> rcases List.mem_append.1 hv with hv | hv
  · exact (List.pairwise_append.1 hA').2.2 u hu v hv
  · exact a1 u hu v hv
  · exact a2 u hu v hv
  · exact (List.pairwise_append.1 hB').2.2 u hu v hv
end
end Go.Rp
namespace Go.Rp
def Mono (p : Nat -> Int) : Prop := ∀ i j, i < j -> p i < p j
def rng (p : Nat -> Int) (lo k : Nat) : List Int := (List.range' lo k).map p
section
variable {p : Nat -> Int}
theorem rng_succ (lo k : Nat) : rng p lo (k + 1) = rng p lo k ++ [p (lo + k)] := by
  unfold rng; rw [List.range'_concat, List.map_append]; simp
theorem rng_cons (lo k : Nat) : rng p lo (k + 1) = p lo :: rng p (lo + 1) k := by
  unfold rng; rw [List.range'_succ, List.map_cons]
theorem rng_len (lo k : Nat) : (rng p lo k).length = k := by simp [rng]
theorem rng_add (lo : Nat) : ∀ (k j : Nat), rng p lo (k + j) = rng p lo k ++ rng p (lo + k) j
  | k, 0 => by simp [rng]
  | k, j + 1 => by rw [<- Nat.add_assoc, rng_succ, rng_add lo k j, rng_succ (lo + k) j, List.append_assoc, Nat.add_assoc]
theorem rng_mem {lo k : Nat} {x : Int} : x ∈ rng p lo k ↔ ∃ i, lo <= i /\ i < lo + k /\ p i = x := by
  unfold rng
  rw [List.mem_map]
  constructor
  · rintro ⟨j, hj, rfl⟩
    have := List.mem_range'_1.1 hj
    exact ⟨j, by omega, by omega, rfl⟩
  · rintro ⟨i, h1, h2, rfl⟩
    exact ⟨i, List.mem_range'_1.2 (by omega), rfl⟩
theorem rng_sub {lo k a l : Nat} {x : Int} (h1 : lo <= a) (h2 : a + l <= lo + k) (h : x ∈ rng p a l) : x ∈ rng p lo k := by
  obtain ⟨i, a1, a2, a3⟩ := rng_mem.1 h
  exact rng_mem.2 ⟨i, by omega, by omega, a3⟩
variable {K : Int -> Int}
def sR (K : Int -> Int) (p : Nat -> Int) (lo : Nat) : Nat -> List Int
  | 0 => []
  | k + 1 => insD K (sR K p lo k).reverse (p (lo + k)) []
theorem sR_perm (lo : Nat) : ∀ k, (sR K p lo k).Perm (rng p lo k)
  | 0 => .refl _
  | k + 1 => by
    unfold sR
    refine (insD_perm _ _ _).trans ?_
    rw [List.reverse_reverse, rng_succ]
    exact (sR_perm lo k).append_right _
theorem sR_len (lo k : Nat) : (sR K p lo k).length = k := by rw [(sR_perm lo k).length_eq, rng_len]
theorem sR_mem {lo k : Nat} {x : Int} : x ∈ sR K p lo k ↔ ∃ i, lo <= i /\ i < lo + k /\ p i = x := by rw [(sR_perm lo k).mem_iff, rng_mem]
theorem sR_lt (hp : Mono p) {lo i j : Nat} {x y : Int} (hx : x ∈ sR K p lo i) (hy : y ∈ sR K p (lo + i) j) : x < y := by
  obtain ⟨a, a1, a2, rfl⟩ := sR_mem.1 hx
  obtain ⟨b, b1, b2, rfl⟩ := sR_mem.1 hy
  exact hp a b (by omega)
theorem sR_sd (hp : Mono p) (lo : Nat) : ∀ k, Sd K (sR K p lo k)
  | 0 => .nil
  | k + 1 => by
    unfold sR
    refine insD_sd _ _ _ (by simpa using sR_sd hp lo k) (fun y hy => ?_) (by simp)
    obtain ⟨i, h1, h2, rfl⟩ := sR_mem.1 (List.mem_reverse.1 hy)
    exact hp _ _ h2
theorem sR_unique (hp : Mono p) {lo k : Nat} {C : List Int} (h : C.Perm (rng p lo k)) (hs : Sd K C) : C = sR K p lo k := sd_unique (h.trans (sR_perm lo k).symm) hs (sR_sd hp lo k)
theorem sR_join (hp : Mono p) {lo i j : Nat} {C : List Int} (h : C.Perm (sR K p lo i ++ sR K p (lo + i) j)) (hs : Sd K C) : C = sR K p lo (i + j) := by
  refine sR_unique hp (h.trans ?_) hs
  rw [rng_add]
  exact (sR_perm lo i).append (sR_perm (lo + i) j)
def chunks (K : Int -> Int) (p : Nat -> Int) (bs : Nat) : Nat -> Nat -> Nat -> List Int
  | 0, _, _ => []
  | f + 1, lo, len => if len <= bs then sR K p lo len else sR K p lo bs ++ chunks K p bs f (lo + bs) (len - bs)
theorem chunks_fuel {bs : Nat} (hb : 0 < bs) : ∀ (f g lo len : Nat), len <= f -> len <= g -> chunks K p bs f lo len = chunks K p bs g lo len
  | 0, 0, lo, len, _, _ => rfl
  | 0, g + 1, lo, len, h, _ => by
    obtain rfl : len = 0 := by omega
    simp [chunks, sR]
  | f + 1, 0, lo, len, _, h => by
    obtain rfl : len = 0 := by omega
    simp [chunks, sR]
  | f + 1, g + 1, lo, len, h, k => by
    unfold chunks
    split
    · rfl
    · rw [chunks_fuel hb f g _ _ (by omega) (by omega)]
theorem chunks_le {bs : Nat} (f lo len : Nat) (h : len <= bs) (hf : 0 < f) : chunks K p bs f lo len = sR K p lo len := by
  cases f with
  | zero => omega
  | succ f => unfold chunks; rw [if_pos h]
theorem chunks_gt {bs : Nat} (hb : 0 < bs) (f lo len : Nat) (h : bs < len) (hf : len <= f) : chunks K p bs f lo len = sR K p lo bs ++ chunks K p bs f (lo + bs) (len - bs) := by
  cases f with
  | zero => omega
  | succ f =>
    have := chunks_fuel (K := K) (p := p) hb f (f + 1) (lo + bs) (len - bs) (by omega) (by omega)
    rw [<- this]
    conv => lhs; unfold chunks
    rw [if_neg (by omega)]
def atP (l : List Int) (B : Int) (i : Nat) : Int := match l[i]? with | some x => x | none => B + (i : Int)
theorem atP_mono {l : List Int} {B : Int} (hl : l.Pairwise (· < ·)) (hB : ∀ x ∈ l, x < B) : Mono (atP l B) := by
  intro i j hij
  unfold atP
  cases hj : l[j]? with
  | some y =>
    have hjl := (List.getElem?_eq_some_iff.1 hj).1
    rw [List.getElem?_eq_getElem (show i < l.length by omega)]
    have := List.pairwise_iff_getElem.1 hl i j (by omega) hjl hij
    rw [List.getElem?_eq_getElem hjl] at hj
    rw [<- Option.some.inj hj]
    exact this
  | none =>
    cases hi : l[i]? with
    | some x =>
      have := hB x (List.mem_of_getElem? hi)
      simp only; omega
    | none => simp only; omega
theorem atP_rng (l : List Int) (B : Int) : rng (atP l B) 0 l.length = l := by
  apply List.ext_getElem?
  intro i
  unfold rng
  rw [List.getElem?_map]
  by_cases hi : i < l.length
  · rw [List.getElem?_range' hi, List.getElem?_eq_getElem hi]
    simp only [Option.map_some, Nat.zero_add, Nat.one_mul]
    unfold atP
    rw [List.getElem?_eq_getElem hi]
  · rw [List.getElem?_eq_none (by simp; omega), List.getElem?_eq_none (by omega)]
    rfl
end
end Go.Rp
