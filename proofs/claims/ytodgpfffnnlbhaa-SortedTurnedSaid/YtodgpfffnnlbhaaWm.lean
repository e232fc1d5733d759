import Derived.Test.YtodgpfffnnlbhaaLnat
import Derived.Test.YtodgpfffnnlbhaaInts
import Derived.Test.YtodgpfffnnlbhaaMem2
import Derived.Lib.SliceRun
import Derived.Lib.JoinLaws
import Derived.Lib.AppendZeros
import Derived.Lib.AppendZerosOnto
import Derived.Lib.Overlaps
import Derived.Laws.Externs
import Derived.Laws.IdiomCopy
import Derived.Laws.NewBlocks
/-! slices.Clone, Insert (of one), Delete at []int32: at any cells -/
set_option linter.unusedVariables false
set_option linter.unusedSimpArgs false
namespace Go.Proofs.Try
open Go.RowKit Go.Lib
set_option maxRecDepth 100000

/-- a block's row, and nothing else turned -/
def RowAt (w0 : World) (b e : Nat) (c : List Value) (w : World) : Prop := w.heap[b]? = some (.cells c.toArray e (0, 0)) ∧ w0.grownBy w (some b)
theorem RowAt.drew {w0 w : World} {b e : Nat} {c : List Value} (h : RowAt w0 b e c w) : RowAt w0 b e c w.drew := ⟨h.1, h.2.os, h.2.tape, h.2.output, h.2.size, h.2.block⟩
theorem RowAt.set1 {w0 w : World} {b e : Nat} {c : List Value} (h : RowAt w0 b e c w) (o : Nat) (v : Value) : RowAt w0 b e (c.set o v) (w.setCell ⟨b, o, none⟩ v) := by
  refine ⟨?_, h.2.os, h.2.tape, h.2.output, by simpa [World.setCell] using h.2.size, fun k hk hne => ?_⟩
  · have := heap_setCell_same w b o _ e v h.1
    rw [this]
    simp
  · rw [heap_setCell_other w _ k v (by intro e; exact hne (by rw [e]))]
    exact h.2.block k hk hne
theorem setL_eq {α : Type} : ∀ (vs c : List α) (o : Nat), o + vs.length ≤ c.length → (vs.foldl (fun (p : List α × Nat) v => (p.1.set p.2 v, p.2 + 1)) (c, o)).1 = c.take o ++ vs ++ c.drop (o + vs.length)
  | [], c, o, h => by simp
  | v :: vs, c, o, h => by
    simp only [List.length_cons] at h
    rw [List.foldl_cons, setL_eq vs _ _ (by simp; omega)]
    simp only [List.length_cons]
    have e1 : (c.set o v).take (o + 1) = c.take o ++ [v] := by
      rw [List.take_add_one, List.take_set, List.getElem?_set_self (by omega)]
      simp [List.set_eq_of_length_le (l := c.take o) (i := o) (by simp; omega)]
    have e2 : (c.set o v).drop (o + 1 + vs.length) = c.drop (o + (vs.length + 1)) := by
      rw [List.drop_set_of_lt (by omega)]
      congr 1; omega
    rw [e1, e2]
    simp
theorem RowAt.set {w0 : World} {b e : Nat} : ∀ (vs : List Value) {c : List Value} {w : World} (h : RowAt w0 b e c w) (o : Nat), RowAt w0 b e (vs.foldl (fun (p : List Value × Nat) v => (p.1.set p.2 v, p.2 + 1)) (c, o)).1 (w.setCells b o vs)
  | [], c, w, h, o => h
  | v :: vs, c, w, h, o => by
    rw [List.foldl_cons]
    exact RowAt.set vs (h.set1 o v) (o + 1)
theorem RowAt.cut {w0 w : World} {b e : Nat} {c : List Value} (h : RowAt w0 b e c w) (o : Nat) (vs : List Value) (hl : o + vs.length ≤ c.length) : RowAt w0 b e (c.take o ++ vs ++ c.drop (o + vs.length)) (w.setCells b o vs) := by
  have := RowAt.set vs h o
  rwa [setL_eq vs c o hl] at this
theorem RowAt.self {w : World} {b e : Nat} {c : List Value} (h : w.heap[b]? = some (.cells c.toArray e (0, 0))) : RowAt w b e c w := ⟨h, World.grownBy.refl _ _⟩

/-- THE OPERATION copy, WHERE ITS RUN IS KNOWN -/
theorem wp_copy_runI {P : Program} (w : World) {o : Oper} {a : Act} {K : Act → World → Prop} {Q : Exit → Act → World → Prop} (d s : Operand) (t t' : TypeId)
    (ho : o.op = .call { callee := .builtin .copy, args := #[d, s], argTypes := #[t, t'] }) (v u : Value) (hd : a.eval d = v) (hs : a.eval s = u) {v' : Value} {w' : World}
    (hr : (Builtin.copy_ #[t, t'] o.type #[v, u]).run P w = .ok v' w') (h : K (a.put o.dst v') w') : o.wp P a w K Q := by
  unfold Oper.wp execOp
  simp only [ho, resolve, invoke, builtin, Sem.run_bind, Sem.run_pure, Result.andThen_ok, List.map_toArray, List.map_cons, List.map_nil, hd, hs, hr]
  exact h
theorem wpList_copy_runI {P : Program} (w : World) {ops : Array Oper} {rest : List Oper} {o : Oper} {a : Act} {Q : Exit → Act → World → Prop} (hgd : o.guard = none) (d s : Operand) (t t' : TypeId)
    (ho : o.op = .call { callee := .builtin .copy, args := #[d, s], argTypes := #[t, t'] }) (v u : Value) (hd : a.eval d = v) (hs : a.eval s = u) {v' : Value} {w' : World}
    (hr : (Builtin.copy_ #[t, t'] o.type #[v, u]).run P w = .ok v' w') (h : wpList P ops Q rest (a.put o.dst v') w') : wpList P ops Q (o :: rest) a w :=
  wpList_plain hgd fun _ hK => wp_copy_runI w d s t t' ho v u hd hs hr (hK _ _ h)
theorem wpList_copy_at {P : Program} {w : World} {ops : Array Oper} {rest : List Oper} {a : Act} {Q : Exit → Act → World → Prop} {dst : Option Tmp} {d s : Operand} {t t' ty : TypeId} {pos : String} {after : Array Edge}
    {v' : Value} {w' : World} (hr : (Builtin.copy_ #[t, t'] ty #[a.eval d, a.eval s]).run P w = .ok v' w') (h : wpList P ops Q rest (a.put dst v') w') :
    wpList P ops Q ({ dst := dst, op := .call { callee := .builtin .copy, args := #[d, s], argTypes := #[t, t'] }, type := ty, pos := pos, after := after, guard := none } :: rest) a w :=
  wpList_copy_runI w rfl d s t t' rfl _ _ rfl rfl hr h
theorem step_copy_runI {P : Program} {ops : Array Oper} {o : Oper} {a : Act} {w : World} {K : Act → World → Prop} {Q : Exit → Act → World → Prop} {E : Prop}
    (hg : o.guard = none) (d x : Operand) (dT sT : TypeId) (hop : o.op = Op.call { callee := Callee.builtin Builtin.copy, args := #[d, x], argTypes := #[dT, sT] })
    (v u : Value) (hd : a.eval d = v) (hx : a.eval x = u) {v' : Value} {w' : World} (hr : (Builtin.copy_ #[dT, sT] o.type #[v, u]).run P w = .ok v' w') (hK : K (a.put o.dst v') w') :
    if Region.wanted o (yielded ops a.tmps) = true then Oper.wp P o a w K Q else E := by
  have hw : Region.wanted o (yielded ops a.tmps) = true := by simp [Region.wanted, hg]
  rw [if_pos hw]
  unfold Oper.wp
  simp [execOp, hop, resolve, invoke, builtin, hd, hx, hr, Result.andThen]
  exact hK
theorem isSome_setCells (b : Nat) (vs : List Value) (o : Nat) (w : World) (h : ∀ j, j < vs.length → (w.cell? ⟨b, o + j, none⟩).isSome = true) (k : Nat) (hk : (w.cell? ⟨b, k, none⟩).isSome = true) : ((w.setCells b o vs).cell? ⟨b, k, none⟩).isSome = true := by
  by_cases hin : o ≤ k ∧ k < o + vs.length
  · have := World.cell?_setCells_in b vs o w h (k - o) (by omega)
    rw [show o + (k - o) = k by omega] at this
    rw [this]; rfl
  · rw [World.cell?_setCells_out b vs o w ⟨b, k, none⟩ (fun _ _ => by show k < o ∨ o + vs.length ≤ k; omega)]
    exact hk

theorem i32_slice : TR.sliceB prog 39 21 1 4 = true := by kernel_rfl

set_option maxHeartbeats 800000 in
/-- slices.Clone -/
theorem clone_vals (w : World) (A : Option Addr) (cap : Nat) (ad : Addr) (xs : List Value) (hl : xs.length < L.lim) (hA : xs = [] ∨ A = some ad) (hc : ∀ (j : Nat) u, xs[j]? = some u → w.cell? (ad.add j) = some u) (h1 : ∀ u ∈ xs, u.oneCell' = true) :
    Calls prog 86 #[.slice A xs.length cap] w (L.NatPost w (.slice none 0 0) 21 xs.length xs) := by
  have HC := Lib.hid hc; clear hc
  have H1 := Lib.hid h1; clear h1
  unfold L.lim at hl
  have hfin : ∀ v w', w'.ownsRow w.heap.size 21 1 v xs.length xs → Below w.heap.size w w' → L.NatPost w (.slice none 0 0) 21 xs.length xs (.returned v) w' := fun v w' ho hb =>
    ⟨v, rfl, TR.own_base ho (Nat.zero_le _), ⟨hb.os, hb.tape, hb.output, hb.size, fun k hk _ => hb.block k hk⟩, fun β hβ => .inr (ho.lt β hβ).1⟩
  have HF := Lib.hid hfin; clear hfin
  cases A with
  | none =>
    have hs : xs = [] := by rcases hA with h | h <;> first | exact h | cases h
    subst hs
    have hq := fun wx => Lib.run_eql_slice_nil (P := prog) wx 39 21 none 0 cap 0 0 underlying39
    go_enter func86, ntmps86
    go_wp2
    go_ret
    exact HF.out _ _ (World.ownsRow_nil _ _ _ _) (Below.refl _ _)
  | some q =>
    have hq0 : ∀ (j : Nat) u, xs[j]? = some u → ∃ ad, (some q : Option Addr) = some ad ∧ w.cell? (ad.add j) = some u := fun j u hj => by
      rcases hA with h | h
      · subst h; simp at hj
      · cases h; exact ⟨_, rfl, HC.out j u hj⟩
    have HQ := Lib.hid hq0; clear hq0 hA
    have hq := fun wx => Lib.run_eql_slice_nil (P := prog) wx 39 21 (some q) xs.length cap 0 0 underlying39
    go_enter func86, ntmps86
    go_wp2_with (first | (at_builtin; refine TR.wpList_append_rd (s := .tmp 5) (x := .tmp 6) rfl rfl (e := 21) (size := 1) (bytes := 4) (by kernel_rfl) (World.ownsRow_made w #[] 0 (Nat.le_refl _) (by simp) rfl) rfl rfl (by simp) (fun j u hj => (HQ.out j u hj).imp fun ad h => ⟨h.1, ((show Below w.heap.size w _ by repeat (first | exact Below.refl _ _ | assumption | refine Below.drew ?_ | refine Below.drewN ?_ _ | refine Below.setCell ?_ (by first | (simp; done) | (simp; omega) | omega) _ | refine Below.alloc ?_ (by first | (simp; done) | (simp; omega) | omega) _)).cell (TR.cell_lt h.2)).trans h.2⟩) (H1.out) (show Below w.heap.size w _ by repeat (first | exact Below.refl _ _ | assumption | refine Below.drew ?_ | refine Below.drewN ?_ _ | refine Below.setCell ?_ (by first | (simp; done) | (simp; omega) | omega) _ | refine Below.alloc ?_ (by first | (simp; done) | (simp; omega) | omega) _)) (Nat.le_refl _) (show Below w.heap.size w _ by repeat (first | exact Below.refl _ _ | assumption | refine Below.drew ?_ | refine Below.drewN ?_ _ | refine Below.setCell ?_ (by first | (simp; done) | (simp; omega) | omega) _ | refine Below.alloc ?_ (by first | (simp; done) | (simp; omega) | omega) _)) (Nat.le_refl _) (by simp only [maxLen]; omega) (by omega) ?_; intro v1 w1 hown1 hg1 hb1 he1; obtain ⟨hc1', hf1'⟩ := TR.bcell hb1; have HO1 := Lib.hid hown1; have HG1 := Lib.hid hg1; have HB1 := Lib.hid hb1; have HE1 := Lib.hid he1; clear hown1 hg1 hb1 he1) | (at_builtin; generalize hK : wpList prog = K at *))
    go_ret
    exact HF.out _ _ (by simpa using HO1.out) HB1.out
theorem i32_map : (prog.info? 21).map (fun i => (i.zero, i.size, i.bytes)) = some (some (.int .i32 0), 1, 4) := by kernel_rfl
theorem i32_info : ∃ i0, prog.info? 21 = some i0 ∧ i0.zero = some (.int .i32 0) ∧ i0.size = 1 ∧ i0.bytes = 4 := by
  have h := i32_map
  cases hi : prog.info? 21 with
  | none => rw [hi] at h; cases h
  | some i0 =>
    rw [hi] at h
    simp only [Option.map_some, Option.some.injEq, Prod.mk.injEq] at h
    exact ⟨i0, rfl, h.1, h.2.1, h.2.2⟩

set_option maxHeartbeats 1600000 in
/-- slices.Insert: at the end -/
theorem insert_end (w : World) (v : Value) (xs : List Value) (vb vc : Nat) (x : Value) (n : Nat) (hn : n = xs.length) (hown : w.ownsRow 0 21 1 v xs.length xs) (hl : xs.length + 1 < L.lim) (hx : w.cell? ⟨vb, 0, none⟩ = some x) (h1 : x.oneCell' = true) :
    Calls prog 91 #[v, .int .i64 n, .slice (some ⟨vb, 0, none⟩) 1 vc] w (L.NatPost w v 21 (xs.length + 1) (xs ++ [x])) := by
  unfold L.lim at hl
  obtain ⟨i0, hi0, hz0, hzs, hzb⟩ := i32_info
  obtain ⟨v', w', r1, r2, r3, _, r5⟩ := run_append_own_at (P := prog) w 0 39 39 21 i0 (.int .i32 0) 1 4 (by kernel_rfl) hi0 hz0 hzs hzb rfl (by omega) v xs.length xs hown ⟨vb, 0, none⟩ 1 vc [x] rfl
    (fun j u hj => by
      cases j with
      | zero => simp at hj; subst hj; simpa [Addr.add] using hx
      | succ j => simp at hj) (fun u hu => by rw [List.mem_singleton] at hu; subst hu; exact h1) (by simp only [maxLen]; omega) (by omega) (Nat.zero_le _)
  have hfin : L.NatPost w v 21 (xs.length + 1) (xs ++ [x]) (.returned v') w' := ⟨v', rfl, r2, r3, fun β hβ => by
    rcases r5 with h | h
    · exact .inl (by rw [← h]; exact hβ)
    · rw [h] at hβ; cases hβ; exact .inr (Nat.le_refl _)⟩
  have HF := Lib.hid hfin
  have HR := Lib.hid r1
  clear hfin r1 r2 r3 r5 hi0 hz0 hzs hzb hx h1
  have hown' := hown.2
  clear hown
  have hn0 : (n : Int) = xs.length := by omega
  rcases hown' with ⟨rfl, h0⟩ | ⟨b, cap, cur, rfl, _, _, hcap, hmx, _⟩
  · have hxs : xs = [] := List.eq_nil_of_length_eq_zero h0
    subst hxs
    subst hn
    go_enter func91, ntmps91
    go_wp2_with (at_builtin; refine Lib.wpList_append_run _ rfl _ _ _ _ rfl _ _ rfl rfl _ _ HR.out ?_)
    all_goals (go_ret; exact HF.out)
  · subst hn
    simp only [maxLen] at hmx
    go_enter func91, ntmps91
    go_wp2_with (at_builtin; refine Lib.wpList_append_run _ rfl _ _ _ _ rfl _ _ rfl rfl _ _ HR.out ?_)
    all_goals (go_ret; exact HF.out)

/-- the list behind two copies -/
theorem shift_list {α : Type} (C xs : List α) (x : α) (i : Nat) (hx : C.take xs.length = xs) (hi : i < xs.length) (hc : xs.length + 1 ≤ C.length) :
    (((C.take (i + 1) ++ xs.drop i ++ C.drop (i + 1 + (xs.drop i).length)).take i ++ [x] ++ (C.take (i + 1) ++ xs.drop i ++ C.drop (i + 1 + (xs.drop i).length)).drop (i + 1)).take (xs.length + 1)) = xs.take i ++ [x] ++ xs.drop i := by
  have e1 : (C.take (i + 1) ++ xs.drop i ++ C.drop (i + 1 + (xs.drop i).length)).take i = xs.take i := by
    rw [List.append_assoc, List.take_append_of_le_length (by simp; omega), List.take_take, Nat.min_eq_left (by omega)]
    conv => rhs; rw [← hx]
    rw [List.take_take, Nat.min_eq_left (by omega)]
  have e2 : (C.take (i + 1) ++ xs.drop i ++ C.drop (i + 1 + (xs.drop i).length)).drop (i + 1) = xs.drop i ++ C.drop (i + 1 + (xs.drop i).length) := by
    rw [List.append_assoc, List.drop_append_of_le_length (by simp; omega)]
    simp
  rw [e1, e2]
  rw [← List.append_assoc, List.take_append_of_le_length (by simp; omega), List.take_of_length_le (by simp; omega)]

set_option maxHeartbeats 4000000 in
/-- slices.Insert: there is room -/
theorem insert_shift (w : World) (b cap : Nat) (C xs : List Value) (vb vc : Nat) (vcur : Array Value) (te : TypeId) (vs : List Value) (i n m : Nat) (hn : n = xs.length) (hm : 0 < m) (hvl : vs.length = m) (hi : i < n) (hb : w.heap[b]? = some (.cells C.toArray 21 (0, 0))) (hC : C.length = cap) (hx : C.take n = xs)
    (hroom : n + m ≤ cap) (hcap : cap ≤ 9223372036854775807) (hvb : w.heap[vb]? = some (.cells vcur te (0, 0))) (hv0 : ∀ (j : Nat) v, vs[j]? = some v → vcur[j]? = some v) (hne : vb ≠ b) (h1x : ∀ v ∈ xs, v.oneCell' = true) (h1v : ∀ v ∈ vs, v.oneCell' = true) :
    Calls prog 91 #[.slice (some ⟨b, 0, none⟩) n cap, .int .i64 i, .slice (some ⟨vb, 0, none⟩) m vc] w fun e w' =>
      e = .returned (.slice (some ⟨b, 0, none⟩) (n + m) cap) ∧ RowAt w b 21 ((C.take (i + m) ++ xs.drop i ++ C.drop (i + m + (xs.drop i).length)).take i ++ vs ++ (C.take (i + m) ++ xs.drop i ++ C.drop (i + m + (xs.drop i).length)).drop (i + vs.length)) w' := by
  have HN := Lib.hid hn
  have hz1 : ¬ ((m : Int) = 0) := by omega
  have hz2 : ¬ ((i : Int) = (n : Int)) := by omega
  have hsz : (prog.info? 21).map (·.size) = some 1 := by kernel_rfl
  have hu : prog.underlying 39 = some (.slice 21) := by kernel_rfl
  have hcs : ∀ (j : Nat) v, xs[j]? = some v → w.cell? ⟨b, j, none⟩ = some v := fun j v hj => by
    simp only [World.cell?, hb]
    rw [← hx, List.getElem?_take] at hj
    split at hj
    · simpa using hj
    · cases hj
  have hsp : ∀ j, j < n + m → (w.cell? ⟨b, j, none⟩).isSome = true := fun j hj => by
    simp only [World.cell?, hb]
    have : j < C.length := by omega
    simp [this]
  have hfz : ∀ j, w.frozen? ⟨b, j, none⟩ = false := fun j => by simp [World.frozen?, hb]
  have hvz : ∀ j, w.frozen? ⟨vb, j, none⟩ = false := fun j => by simp [World.frozen?, hvb]
  have hvs : ∀ (j : Nat) v, vs[j]? = some v → w.cell? ⟨vb, j, none⟩ = some v := fun j v hj => by simp only [World.cell?, hvb]; simpa using hv0 j v hj
  have hsa : w.shape? vb = some (te, vcur.size) := by simp [World.shape?, hvb]
  have hsb : w.shape? b = some (21, C.length) := by simp [World.shape?, hb]
  obtain ⟨i0, hi0, -, hzs, -⟩ := i32_info
  have hov : ∀ lb cb, (callFunc 99 #[.slice (some ⟨vb, 0, none⟩) m vc, .slice (some ⟨b, i + m, none⟩) lb cb]).run prog w = .ok (.value (.bool false)) w := fun lb cb => by
    rw [run_callFunc_extern func99 (by kernel_rfl) (by kernel_rfl) (by kernel_rfl) (e := Extern.SlicesOverlaps.overlaps #[39, 39] #[4]) (by kernel_rfl),
      Lib.run_overlaps_apart w 39 4 21 hu 1 (fun w => by simp [Go.sizeOf, Go.typeInfo, hi0, hzs]) ⟨vb, 0, none⟩ ⟨b, i + m, none⟩ m vc lb cb hne te 21 vcur.size C.length hsa hsb (by omega) (hvz 0) (hvz _)]
    rfl
  have hdl : (xs.drop i).length = n - i := by rw [List.length_drop, hn]
  have hw1 : IntKind.i64.wrap ((i : Int) + (m : Int)) = (i : Int) + (m : Int) := by rw [IntKind.wrap_i64]; omega
  have hb1 : (0 : Int) ≤ (i : Int) + (m : Int) := by omega
  have hin : i ≤ n := by omega
  have htn : ((i : Int) + (m : Int)).toNat = i + m := by omega
  have hb2 : ¬ (cap = i + m) := by omega
  have hb3 : (i : Int) ≤ (n : Int) + (m : Int) := by omega
  have hb4 : ¬ (cap = i) := by omega
  have hcp1 : ∀ ty dc sc, (Builtin.copy_ #[39, 39] ty #[.slice (some ⟨b, i + m, none⟩) (n + m - (i + m)) dc, .slice (some ⟨b, i, none⟩) (n + m - i) sc]).run prog w.drew = .ok (goInt (xs.drop i).length) (w.drew.setCells b (i + m) (xs.drop i)) := fun ty dc sc =>
    run_copy_cells w.drew _ _ ty 21 b (i + m) (n + m - (i + m)) dc ⟨b, i, none⟩ (n + m - i) sc (xs.drop i) hu hsz (by rw [hdl]; simp only [Nat.min_def]; split <;> omega)
      (fun j v hj => by rw [Addr.add_lit]; exact hcs (i + j) v (by rwa [List.getElem?_drop] at hj))
      (fun j hj => hsp _ (by omega)) (fun j hj => hfz _) (fun v hv => h1x v (List.mem_of_mem_drop hv))
  obtain ⟨W1, hW1⟩ : ∃ W1, W1 = w.drew.setCells b (i + m) (xs.drop i) := ⟨_, rfl⟩
  have hrow1 : RowAt w b 21 (C.take (i + m) ++ xs.drop i ++ C.drop (i + m + (xs.drop i).length)) W1 := by
    rw [hW1]
    exact (RowAt.self hb).drew.cut (i + m) (xs.drop i) (by rw [hdl]; omega)
  have hsp1 : ∀ k, k < n + m → (W1.cell? ⟨b, k, none⟩).isSome = true := fun k hk => by
    rw [hW1]
    exact isSome_setCells b _ _ w.drew (fun j hj => hsp (i + m + j) (by rw [hdl] at hj; omega)) _ (hsp k hk)
  have hcp2 : ∀ (W : World), (∀ x, W.cell? x = W1.cell? x) → (∀ x, W.frozen? x = W1.frozen? x) → ∀ ty dc, (Builtin.copy_ #[39, 39] ty #[.slice (some ⟨b, i, none⟩) (n + m - i) dc, .slice (some ⟨vb, 0, none⟩) m vc]).run prog W = .ok (goInt vs.length) (W.setCells b i vs) := fun W hWc hWf ty dc =>
    run_copy_cells W _ _ ty 21 b i (n + m - i) dc ⟨vb, 0, none⟩ m vc vs hu hsz (by rw [hvl]; simp only [Nat.min_def]; split <;> omega)
      (fun j v hj => by
        rw [Addr.add_lit, Nat.zero_add, hWc, hW1, World.cell?_setCells_out b _ _ _ _ (fun h _ => absurd h hne)]
        exact hvs j v hj)
      (fun j hj => by rw [hWc]; exact hsp1 (i + j) (by omega)) (fun j hj => by rw [hWf, hW1, World.frozen?_setCells]; exact hfz _) h1v
  rw [← hW1] at hcp1
  have hrow2 : RowAt w b 21 ((C.take (i + m) ++ xs.drop i ++ C.drop (i + m + (xs.drop i).length)).take i ++ vs ++ (C.take (i + m) ++ xs.drop i ++ C.drop (i + m + (xs.drop i).length)).drop (i + vs.length)) (W1.setCells b i vs) :=
    hrow1.cut i vs (by simp; omega)
  have HROW := Lib.hid hrow2
  have HCP1 := Lib.hid hcp1
  have HCP2 := Lib.hid hcp2
  have HOV := Lib.hid hov
  have hvl2 := Lib.hid hvl
  clear hn hvl
  clear hrow2 hrow1 hcp1 hcp2 hov hsp1 hsa hsb hsp hfz hvz hvs hcs hv0 hvb hb hx h1x h1v hW1 hu hsz hi0 hzs
  go_enter func91, ntmps91
  go_wp2_with (first
    | simp only [HOV.out]
    | (refine TR.wp_region_text (TR.cls_ok _) (by kernel_rfl) (by kernel_rfl) ?_; simp only [TR.withAsserts, TR.asserted, intT0, intT1, intT2, intT3, intT4, intT5, intT6, intT7, intT8, intT9, intT10, intT11, intT12, intT13, intT14, intT15, intT16, intT17, intT18, intT19, intT20, intT21, intT22, intT23, intT24, intT25, intT26, intT27, intT28, intT29, intT30, intT31, intT32, intT33, intT34, intT35, intT36, intT37, intT38, intT39, intT40, intT41, intT42, intT43, intT44, intT45, intT46, intT47, intT48, intT49, intT50, intT51, intT52, intT53, intT54, intT55, intT56, intT57, intT58, intT59, intT60, intT61, intT62, intT63, intT64, intT65, intT66, intT67, intT68, intT69, intT70, intT71, intT72, intT73, intT74, intT75, intT76, intT77, intT78, intT79, intT80, intT81, intT82, intT83, intT84, intT85, intT86, intT87, intT88, intT89, intT90, intT91, intT92, intT93, intT94, intT95, intT96, intT97, intT98, intT99, intT100, intT101, intT102, intT103, intT104, intT105, intT106, intT107, intT108, intT109, intT110, intT111, intT112, intT113, intT114, intT115, intT116, intT117, intT118, intT119, intT120, intT121, intT122, intT123, intT124, intT125, intT126, intT127, intT128, intT129, intT130, intT131, intT132, intT133, intT134, intT135, intT136, intT137, intT138, intT139, intT140, intT141, intT142, intT143, intT144, intT145, intT146, intT147, intT148, intT149, intT150, intT151, intT152, intT153, intT154, intT155, intT156, intT157, intT158, intT159, intT160, intT161, intT162, intT163, intT164, intT165, intT166, intT167, intT168, intT169, intT170, intT171, intT172, intT173, intT174, intT175, intT176, intT177, intT178, intT179, intT180, intT181, intT182, intT183, intT184, TR.isTmp, List.filter_cons, List.filter_nil, List.map_cons, List.map_nil, List.cons_append, List.nil_append, if_true, Bool.false_eq_true, if_false, Bool.and_self, Bool.and_false, Bool.false_and]) | (with_reducible refine TR.wpList_assert (by kernel_rfl) ?_)
    | (with_reducible show wpList _ _ _ (_ :: _) _ _; refine wpList_copy_runI _ rfl _ _ 39 39 rfl _ _ rfl rfl (HCP1.out _ _ _) ?_)
    | (with_reducible show wpList _ _ _ (_ :: _) _ _; refine wpList_copy_runI _ rfl _ _ 39 39 rfl _ _ rfl rfl (HCP2.out _ (fun _ => rfl) (fun _ => rfl) _ _) ?_))
  go_ret
  exact ⟨rfl, HROW.out⟩
end Go.Proofs.Try
