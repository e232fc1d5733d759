import Derived.Test.YtodgpfffnnlbhaaHb
import Derived.Test.YtodgpfffnnlbhaaHbe
/-! history.Check by contract: maps, the words, once -/
set_option linter.unusedVariables false
set_option linter.unusedSimpArgs false
namespace Go.L
/-! words at blocks that are known -/
theorem cellsP_box {h : Heap} {b n : Nat} {cs : List V} (hb : h[b]? = some (.box n cs)) (o : Nat) : cellsP h (.ptr b o) = some (cs, n, o) := by simp only [cellsP, hb]
theorem cellsP_iptr (h : Heap) (n : Nat) (cs : List V) (o : Nat) : cellsP h (.iptr n cs o) = some (cs, n, o) := rfl
theorem idxP_sl {sz n : Nat} {l : List (List V)} {es : List V} (h : l[n]? = some es) (b : Bool) : idxP sz n (.sl sz l b) = some (.iptr sz es 0) := by simp [idxP, h]
@[simp] theorem slcH_sl (h : Heap) (sz : Nat) (l : List (List V)) (b : Bool) : slcH h (.sl sz l b) = some (sz, l) := rfl
@[simp] theorem lenP_sl (sz : Nat) (l : List (List V)) (b : Bool) : lenP (.sl sz l b) = some l.length := rfl
@[simp] theorem aggK_agg {R : Type} (l : List V) (k : List V → Option R) : aggK (.agg l) k = k l := rfl
theorem mapOf_map {h : Heap} {b : Nat} {es : List (V × V)} (hb : h[b]? = some (.map es)) : mapOf h (.map b) = some es := by simp only [mapOf, hb]
/-! maps whose keys are told apart -/
section
variable {α : Type} [DecidableEq α] {kf : α → V} {ks : List Nat}
def asM (kf : α → V) (L : List (α × V)) : List (V × V) := L.map fun p => (kf p.1, p.2)
theorem findI_asM (hk : ∀ a b, keq ks (kf a) (kf b) = some (decide (a = b))) (a : α) : ∀ (L : List (α × V)) (i : Nat), findI ks (kf a) (asM kf L) i = some ((L.findIdx? (fun p => decide (a = p.1))).map (· + i))
  | [], i => rfl
  | p :: L, i => by
    unfold asM
    rw [List.map_cons, findI, hk, List.findIdx?_cons]
    by_cases h : a = p.1
    · simp [h]
    · simp only [h, decide_false, Bool.false_eq_true, if_false]
      have := findI_asM hk a L (i + 1)
      unfold asM at this
      rw [this]
      cases L.findIdx? (fun p => decide (a = p.1)) <;> simp; omega
/-- what a key leads to -/
def lookV (L : List (α × V)) (a : α) : Option V := (L.find? (fun p => decide (a = p.1))).map (·.2)
def updA (L : List (α × V)) (a : α) (v : V) : List (α × V) := match L.findIdx? (fun p => decide (a = p.1)) with
  | some i => L.set i (a, v)
  | none => L ++ [(a, v)]
theorem upd_asM (L : List (α × V)) (a : α) (v : V) : upd (asM kf L) (kf a) v (L.findIdx? (fun p => decide (a = p.1))) = asM kf (updA L a v) := by
  unfold updA
  cases L.findIdx? (fun p => decide (a = p.1)) with
  | none => simp [upd, asM]
  | some i => simp [upd, asM, List.map_set]
theorem entry_asM (L : List (α × V)) (a : α) (z : V) : entryV (asM kf L) z (L.findIdx? (fun p => decide (a = p.1))) = some ((lookV L a).getD z) ∧ (L.findIdx? (fun p => decide (a = p.1))).isSome = (lookV L a).isSome := by
  unfold lookV
  induction L with
  | nil => exact ⟨rfl, rfl⟩
  | cons p L ih =>
    rw [List.findIdx?_cons, List.find?_cons]
    by_cases h : a = p.1
    · simp [h, entryV, asM]
    · simp only [h, decide_false, Bool.false_eq_true, if_false]
      obtain ⟨h1, h2⟩ := ih
      cases hf : L.findIdx? (fun p => decide (a = p.1)) with
      | none =>
        rw [hf] at h1 h2
        simp only [Option.map_none, entryV] at h1 ⊢
        exact ⟨h1, h2⟩
      | some i =>
        rw [hf] at h1 h2
        simp only [Option.map_some, entryV, asM, List.map_cons, List.getElem?_cons_succ] at h1 ⊢
        exact ⟨h1, by simpa using h2⟩
theorem lookV_updA (L : List (α × V)) (a b : α) (v : V) : lookV (updA L a v) b = if b = a then some v else lookV L b := by
  unfold lookV updA
  induction L with
  | nil =>
    simp only [List.findIdx?_nil, List.nil_append, List.find?_cons, List.find?_nil]
    by_cases h : b = a <;> simp [h]
  | cons p L ih =>
    rw [List.findIdx?_cons]
    by_cases h : a = p.1
    · simp only [h, decide_true, if_true]
      rw [← h]
      simp only [List.set_cons_zero, List.find?_cons]
      by_cases hb : b = a
      · simp [hb]
      · simp [hb, ← h]
    · simp only [h, decide_false, Bool.false_eq_true, if_false]
      cases hf : L.findIdx? (fun p => decide (a = p.1)) with
      | none =>
        rw [hf] at ih
        simp only [Option.map_none] at ih ⊢
        rw [List.cons_append, List.find?_cons, List.find?_cons]
        by_cases hb : b = p.1
        · have hne : b ≠ a := fun e => h (e ▸ hb)
          simp [hb, Ne.symm h]
        · simp only [hb, decide_false]
          exact ih
      | some i =>
        rw [hf] at ih
        simp only [Option.map_some] at ih ⊢
        rw [List.set_cons_succ, List.find?_cons, List.find?_cons]
        by_cases hb : b = p.1
        · have hne : b ≠ a := fun e => h (e ▸ hb)
          simp [hb, Ne.symm h]
        · simp only [hb, decide_false]
          exact ih
end
end Go.L
namespace Go.Proofs.Try
open Go.L Go.Rp
set_option maxRecDepth 100000
/-- which operation it is; that, and what it asks -/
structure N2 where
  th : Int
  sq : Int
  deriving DecidableEq
structure N4 where
  th : Int
  sq : Int
  k : Int
  v : Int
  deriving DecidableEq
def N2.key (m : N2) : V := .agg [.int .i64 m.th, .int .i64 m.sq]
def N4.key (m : N4) : V := .agg [.int .i64 m.th, .int .i64 m.sq, .int .u8 m.k, .int .i32 m.v]
def n2A (x : Ap) : N2 := ⟨x.th, x.sq⟩
def n4A (x : Ap) : N4 := ⟨x.th, x.sq, x.op.k, x.op.v⟩
def n4S (s : Sp) : N4 := ⟨s.th, s.sq, s.op.k, s.op.v⟩
theorem keq_n2 (a b : N2) : keq [0, 0] a.key b.key = some (decide (a = b)) := by
  show some (a.th == b.th && (a.sq == b.sq && true)) = _
  obtain ⟨a1, a2⟩ := a
  obtain ⟨b1, b2⟩ := b
  by_cases h1 : a1 = b1 <;> by_cases h2 : a2 = b2 <;> simp [h1, h2]
theorem keq_n4 (a b : N4) : keq [0, 0, 0, 0] a.key b.key = some (decide (a = b)) := by
  show some (a.th == b.th && (a.sq == b.sq && (a.k == b.k && (a.v == b.v && true)))) = _
  obtain ⟨a1, a2, a3, a4⟩ := a
  obtain ⟨b1, b2, b3, b4⟩ := b
  by_cases h1 : a1 = b1 <;> by_cases h2 : a2 = b2 <;> by_cases h3 : a3 = b3 <;> by_cases h4 : a4 = b4 <;> simp [h1, h2, h3, h4]
theorem kds_n2 : kds prog 12 110 = some [0, 0] := by kernel_rfl
theorem kds_n4 : kds prog 12 112 = some [0, 0, 0, 0] := by kernel_rfl
theorem must_call (n : Nat) (b : Bool) (e : Int) (h : Heap) : call (n + 1) 77 [.bool b, .int .u16 e] h = if b then some (.ret [], h) else some (.pan (.iface 56 (.int .u16 e)), h) := by
  rw [hMust_eq]
  unfold hMust
  cases b <;> rfl
theorem of_call (n : Nat) (x : Ap) (h : Heap) : call (n + 1) 76 [.agg x.v] h = some (.ret [(n4A x).key], h) := by
  refine (hOf_eq n _ _ _ _ _ _ _ h).trans ?_
  exact gcw_ret (by simp) (by simp [N4.key])
theorem ofSpan_call (n : Nat) (s : Sp) (h : Heap) : call (n + 1) 55 [.agg s.v] h = some (.ret [(n4S s).key], h) := by
  refine (hOfSpan_eq n _ _ _ _ _ _ _ _ h).trans ?_
  exact gcw_ret (by simp) (by simp [N4.key])
/-- one of a list, laid into a variable -/
theorem ap_cells (x : Ap) : (((setR [(V.int .i64 0), (V.int .i64 0), (V.int .u8 0), (V.int .i32 0), (V.int .u8 0), (V.int .i32 0), (V.int .i64 0)] 0 ((x.v).drop 0 |>.take 7))).drop 0 |>.take 7) = x.v := rfl
theorem sp_cells (s : Sp) : (((setR [(V.int .i64 0), (V.int .i64 0), (V.int .u8 0), (V.int .i32 0), (V.int .u8 0), (V.int .i32 0), (V.int .i64 0), (V.int .i64 0)] 0 ((s.v).drop 0 |>.take 8))).drop 0 |>.take 8) = s.v := rfl
theorem sp_var (s : Sp) : setR [(V.int .i64 0), (V.int .i64 0), (V.int .u8 0), (V.int .i32 0), (V.int .u8 0), (V.int .i32 0), (V.int .i64 0), (V.int .i64 0)] 0 ((s.v).drop 0 |>.take 8) = s.v := rfl
theorem ap_len (x : Ap) : ((x.v).drop 0 |>.take 7).length = 7 := rfl
theorem sp_len (x : Sp) : ((x.v).drop 0 |>.take 8).length = 8 := rfl
theorem n4_two (m : N4) : V.agg (([.int .i64 m.th, .int .i64 m.sq, .int .u8 m.k, .int .i32 m.v] : List V).drop 0 |>.take 2) = (N2.mk m.th m.sq).key := rfl
end Go.Proofs.Try
/-! history.Check by contract: span, once -/
set_option linter.unusedVariables false
set_option linter.unusedSimpArgs false
namespace Go.Proofs.Try
open Go.L Go.Rp
set_option maxRecDepth 100000
/-- an order lies there, and its map -/
structure OrdAt (h : Heap) (O M : Nat) (log : List Ap) (bl : Bool) (l : List Sp) (bs : Bool) (L : List (N4 × V)) : Prop where
  o : h[O]? = some (.box 3 [.sl 7 (log.map Ap.v) bl, .sl 8 (l.map Sp.v) bs, .map M])
  m : h[M]? = some (.map (asM N4.key L))
theorem get_aps (log : List Ap) (n : Nat) : (log.map Ap.v)[n]? = (log[n]?).map Ap.v := List.getElem?_map
theorem get_sps (l : List Sp) (n : Nat) : (l.map Sp.v)[n]? = (l[n]?).map Sp.v := List.getElem?_map
theorem n4_one (m : N4) : m.key.one = !true ∧ m.key.cells.length = [0, 0, 0, 0].length := ⟨rfl, rfl⟩
theorem n2_one (m : N2) : m.key.one = !true ∧ m.key.cells.length = [0, 0].length := ⟨rfl, rfl⟩
/-- the first span of an operation -/
theorem span_call (n : Nat) {h : Heap} {O M : Nat} {log : List Ap} {bl : Bool} {l : List Sp} {bs : Bool} {L : List (N4 × V)} (ho : OrdAt h O M log bl l bs L) (x : Ap) {k : Nat} {s : Sp} (hk : lookV L (n4A x) = some (.int .i64 (k : Int))) (hs : l[k]? = some s) :
    call (n + 2) 78 [.ptr O 0, .agg x.v] h = some (.ret [.agg s.v], h) := by
  refine (hSpan_eq (n + 1) O x.v h).trans ?_
  unfold hSpan
  have hx : (x.v).length = 7 := rfl
  have hcut : ((x.v).drop 0 |>.take 7) = x.v := rfl
  obtain ⟨e1, e2⟩ := entry_asM (kf := N4.key) L (n4A x) (.int .i64 0)
  have hsl : (l.map Sp.v)[k]? = some s.v := by rw [get_sps, hs]; rfl
  simp only [hx, if_true, cellsP_box ho.o, bd3_some, Nat.reduceAdd, Nat.reduceLeDiff, Nat.lt_add_one, Nat.zero_lt_one, and_self, List.getElem?_cons_succ, List.getElem?_cons_zero, bd_some, hcut]
  rw [of_call, clS_ret, one1_one]
  simp only [mapOf_map ho.m, bdS_some, kds_n4, bd_some, findI_asM keq_n4, Nat.add_zero, Option.map_id', e1, hk, Option.getD_some]
  rw [if_pos (by first | exact ⟨(n4_one _).1, (n4_one _).2, rfl⟩ | exact ⟨(n4_one _).1, (n4_one _).2, trivial⟩)]
  simp only [nv_nat, bdS_some, idxP_sl hsl, bd_some, cellsP_iptr, bd3_some, Nat.zero_add, Nat.le_refl, Nat.reduceLeDiff, Nat.reduceLT, and_self, if_true, sp_len, sp_cells]
/-- how a phase ends: it goes on, or gives up; what was there is as it was -/
def Phase (r : Option (Res × Heap)) (e : Int) (h : Heap) : Prop :=
  ∃ h', r = some (if e = 0 then .ret [] else .pan (.iface 56 (.int .u16 e)), h') ∧ h.length ≤ h'.length ∧ ∀ i, i < h.length → h'[i]? = h[i]?
/-- none stands twice -/
def OnceP (log : List Ap) : Prop := ∀ (j k : Nat) x y, j < k → log[j]? = some x → log[k]? = some y → n2A x ≠ n2A y
theorem lookV_snoc {α : Type} [DecidableEq α] (L : List α) (v : V) (a : α) : (lookV (L.map fun x => (x, v)) a).isSome = decide (a ∈ L) := by
  unfold lookV
  induction L with
  | nil => rfl
  | cons x L ih =>
    rw [List.map_cons, List.find?_cons]
    by_cases h : a = x
    · simp [h]
    · simp only [h, decide_false]
      rw [ih]
      simp [h]
theorem updA_new {α : Type} [DecidableEq α] (L : List α) (v : V) (a : α) (h : a ∉ L) : updA (L.map fun x => (x, v)) a v = (L ++ [a]).map fun x => (x, v) := by
  unfold updA
  have : (L.map fun x => (x, v)).findIdx? (fun p => decide (a = p.1)) = none := by
    rw [List.findIdx?_eq_none_iff]
    intro p hp
    obtain ⟨y, hy, rfl⟩ := List.mem_map.1 hp
    simp
    rintro rfl
    exact h hy
  rw [this]
  simp
theorem once_loop (n : Nat) (h : Heap) (log : List Ap) (bl : Bool) (hlim : log.length < lim) : ∀ (d k M : Nat) (hh : Heap), k + d = log.length → d < M → hh[h.length]? = some (.map (asM N2.key (((log.take k).map n2A).map fun x => (x, V.agg [])))) → h.length < hh.length → (∀ i, i < h.length → hh[i]? = h[i]?) →
    (∀ (j i : Nat) x y, j < i → i < k → log[j]? = some x → log[i]? = some y → n2A x ≠ n2A y) →
    ((OnceP log → Phase (loopx M (hOnce_l5 (n + 1) h (.sl 7 (log.map Ap.v) bl) (7, log.map Ap.v)) [.int .i64 (k : Int)] hh) 0 h) ∧
     (¬ OnceP log → Phase (loopx M (hOnce_l5 (n + 1) h (.sl 7 (log.map Ap.v) bl) (7, log.map Ap.v)) [.int .i64 (k : Int)] hh) 20 h))
  | _, _, 0, _, _, h2, _, _, _, _ => by omega
  | 0, k, M + 1, hh, h1, _, hm, hl, hk, hp => by
    have hlt : decide ((k : Int) < (log.length : Int)) = false := by simp; omega
    rw [loopx_succ]
    simp only [hOnce_l5, gv, List.getD_cons_zero, List.length_map, bop_i64_lss, bd_some, bv_bool, hlt, Bool.false_eq_true, if_false]
    refine ⟨fun _ => ⟨hh, rfl, Nat.le_of_lt hl, hk⟩, fun hn => ?_⟩
    exact absurd (fun j i x y hji hx hy => hp j i x y hji (by have := (List.getElem?_eq_some_iff.1 hy).1; omega) hx hy) hn
  | d + 1, k, M + 1, hh, h1, h2, hm, hl, hk, hp => by
    have hlt : decide ((k : Int) < (log.length : Int)) = true := by simp; omega
    obtain ⟨x, hx⟩ : ∃ x, log[k]? = some x := ⟨_, List.getElem?_eq_getElem (by omega)⟩
    have hxv : (log.map Ap.v)[k]? = some x.v := by rw [get_aps, hx]; rfl
    have h3 : ((0 : Nat) + 7 ≤ 7 ∧ 0 < 7) := by decide
    have h4 : (0 + 2 ≤ ([.int .i64 x.th, .int .i64 x.sq, .int .u8 x.op.k, .int .i32 x.op.v] : List V).length) := by show 2 ≤ 4; decide
    have hkey : (n4A x).key = .agg [.int .i64 x.th, .int .i64 x.sq, .int .u8 x.op.k, .int .i32 x.op.v] := rfl
    have htwo : V.agg (([.int .i64 x.th, .int .i64 x.sq, .int .u8 x.op.k, .int .i32 x.op.v] : List V).drop 0 |>.take 2) = (n2A x).key := rfl
    obtain ⟨e1, e2⟩ := entry_asM (kf := N2.key) (((log.take k).map n2A).map fun x => (x, V.agg [])) (n2A x) (.agg [])
    have hsome : (lookV (((log.take k).map n2A).map fun x => (x, V.agg [])) (n2A x)).isSome = decide (n2A x ∈ (log.take k).map n2A) := lookV_snoc _ _ _
    have hz : (lookV (((log.take k).map n2A).map fun x => (x, V.agg [])) (n2A x)).getD (.agg []) = .agg [] := by
      unfold lookV
      cases hf : (((log.take k).map n2A).map fun x => (x, V.agg [])).find? (fun p => decide (n2A x = p.1)) with
      | none => rfl
      | some p =>
        have := List.mem_of_find?_eq_some hf
        obtain ⟨y, _, rfl⟩ := List.mem_map.1 this
        rfl
    have hc0 : (V.cells (V.agg [])).length = 0 := rfl
    rw [loopx_succ]
    have key : ∀ next, hOnce_l5 (n + 1) h (.sl 7 (log.map Ap.v) bl) (7, log.map Ap.v) [.int .i64 (k : Int)] hh next =
        if n2A x ∈ (log.take k).map n2A then some (.pan (.iface 56 (.int .u16 20)), hh)
        else next [.int .i64 ((k + 1 : Nat) : Int)] (hh.set h.length (.map (asM N2.key (((log.take (k + 1)).map n2A).map fun x => (x, V.agg []))))) := by
      intro next
      simp only [hOnce_l5, gv, List.getD_cons_zero, List.length_map, bop_i64_lss, bd_some, bv_bool, hlt, if_true, nv_nat, bdS_some, idxP_sl hxv, cellsP_iptr, bd3_some, Nat.zero_add, Nat.le_refl, Nat.reduceLeDiff, Nat.reduceLT, and_self, ap_len, ap_cells]
      rw [of_call, cl_ret, one1_one, hkey]
      simp only [aggK_agg, h4, if_true, htwo, mapOf_map hm, bdS_some, kds_n2, bd_some, findI_asM keq_n2, Nat.add_zero, Option.map_id', e1, hz]
      rw [if_pos (by first | exact ⟨(n2_one _).1, (n2_one _).2, rfl⟩ | exact ⟨(n2_one _).1, (n2_one _).2, trivial⟩)]
      simp only [hc0, if_true, Nat.le_refl]
      rw [must_call, e2, hsome]
      by_cases hin : n2A x ∈ (log.take k).map n2A
      · simp only [hin, decide_true, Bool.not_true, Bool.false_eq_true, if_false, if_true, cl_pan]
      · simp only [hin, decide_false, Bool.not_false, if_true, if_false, cl_ret]
        rw [of_call, cl_ret, one1_one, hkey]
        simp only [aggK_agg, h4, if_true, htwo, hm, mapAt_map, kds_n2, bd_some, findI_asM keq_n2, Nat.add_zero, Option.map_id']
        rw [if_pos ⟨(n2_one _).1, (n2_one _).2⟩]
        simp only [bop_i64_add, bd_some, step64 (show k < lim by omega), upd_asM]
        rw [updA_new _ _ _ hin, List.take_add_one, hx]
        simp
    rw [key]
    by_cases hin : n2A x ∈ (log.take k).map n2A
    · rw [if_pos hin]
      obtain ⟨y, hy, hyx⟩ := List.mem_map.1 hin
      obtain ⟨j, hj⟩ := List.mem_iff_getElem?.1 hy
      rw [List.getElem?_take] at hj
      split at hj
      · rename_i hjk
        exact ⟨fun ho => absurd hyx (ho j k y x hjk hj hx), fun _ => ⟨hh, rfl, Nat.le_of_lt hl, hk⟩⟩
      · cases hj
    · rw [if_neg hin]
      refine once_loop n h log bl hlim d (k + 1) M _ (by omega) (by omega) (by rw [List.getElem?_set_self hl]) (by simpa using hl) (fun i hi => by rw [List.getElem?_set_ne (by omega)]; exact hk i hi) (fun j i a b hji hi ha hb => ?_)
      rcases Nat.lt_or_ge i k with hik | hik
      · exact hp j i a b hji hik ha hb
      · have : i = k := by omega
        subst this
        rw [hx] at hb; cases hb
        intro he
        exact hin (List.mem_map.2 ⟨a, List.mem_of_getElem? (by rw [List.getElem?_take, if_pos hji]; exact ha), he⟩)
theorem once_call (n : Nat) {h : Heap} {O M : Nat} {log : List Ap} {bl : Bool} {l : List Sp} {bs : Bool} {L : List (N4 × V)} (ho : OrdAt h O M log bl l bs L) (hlim : log.length < lim) (hn : log.length < n + 1) :
    (OnceP log → Phase (call (n + 2) 56 [.ptr O 0] h) 0 h) ∧ (¬ OnceP log → Phase (call (n + 2) 56 [.ptr O 0] h) 20 h) := by
  have hO : (h ++ [HB.map []])[O]? = some (.box 3 [.sl 7 (log.map Ap.v) bl, .sl 8 (l.map Sp.v) bs, .map M]) := by
    rw [List.getElem?_append_left (List.getElem?_eq_some_iff.1 ho.o).1]; exact ho.o
  have h1 : ((0 : Nat) + 1 ≤ 3 ∧ 0 < 1) := by decide
  have he : call (n + 2) 56 [.ptr O 0] h = loopx (n + 1) (hOnce_l5 (n + 1) h (.sl 7 (log.map Ap.v) bl) (7, log.map Ap.v)) [.int .i64 ((0 : Nat) : Int)] (h ++ [HB.map []]) := by
    refine (hOnce_eq (n + 1) O h).trans ?_
    unfold hOnce
    simp only [cellsP_box hO, bd3_some, Nat.zero_add, Nat.reduceLeDiff, Nat.reduceLT, and_self, if_true, List.getElem?_cons_zero, bd_some, slcH_sl]
    rfl
  rw [he]
  exact once_loop n h log bl hlim log.length 0 (n + 1) (h ++ [HB.map []]) (by omega) hn (by simp [asM]) (by simp) (fun i hi => List.getElem?_append_left hi) (fun j i x y _ h0 => by omega)
end Go.Proofs.Try
/-! history.Check by contract: whole, timely -/
set_option linter.unusedVariables false
set_option linter.unusedSimpArgs false
namespace Go.Proofs.Try
open Go.L Go.Rp
set_option maxRecDepth 100000
/-- the first span of a name -/
def firstK (l : List Sp) (m : N4) : Option Nat := l.findIdx? (fun s => decide (n4S s = m))
/-- a map leads to the first spans -/
def LeadsTo (L : List (N4 × V)) (l : List Sp) : Prop := ∀ m, lookV L m = (firstK l m).map fun k => .int .i64 (k : Int)
/-- none lacks -/
def WholeP (log : List Ap) (l : List Sp) : Prop := (∀ x ∈ log, ∃ s ∈ l, n4S s = n4A x) ∧ ∀ s ∈ l, (∃ x ∈ log, n4A x = n4S s) ∨ s.to < 0
theorem first_some {l : List Sp} {m : N4} : (firstK l m).isSome = true ↔ ∃ s ∈ l, n4S s = m := by
  unfold firstK
  rw [Option.isSome_iff_ne_none, ne_eq, List.findIdx?_eq_none_iff]
  simp
/-- a span's own place -/
theorem sp_take (s : Sp) : V.agg (List.take 8 (List.drop 0 s.v)) = V.agg s.v := rfl
theorem OrdAt.keep {h hh : Heap} {O M : Nat} {log : List Ap} {bl : Bool} {l : List Sp} {bs : Bool} {L : List (N4 × V)} (ho : OrdAt h O M log bl l bs L) (hk : ∀ i, i < h.length → hh[i]? = h[i]?) : OrdAt hh O M log bl l bs L :=
  ⟨(hk _ (List.getElem?_eq_some_iff.1 ho.o).1).trans ho.o, (hk _ (List.getElem?_eq_some_iff.1 ho.m).1).trans ho.m⟩
def setOf (log : List Ap) : List (N4 × V) := (log.map n4A).map fun x => (x, V.agg [])
theorem setOf_z (log : List Ap) (m : N4) : (lookV (setOf log) m).getD (.agg []) = .agg [] := by
  unfold lookV setOf
  cases hf : ((log.map n4A).map fun x => (x, V.agg [])).find? (fun p => decide (m = p.1)) with
  | none => rfl
  | some p =>
    have := List.mem_of_find?_eq_some hf
    obtain ⟨y, _, rfl⟩ := List.mem_map.1 this
    rfl
theorem updA_in {α : Type} [DecidableEq α] (L : List α) (v : V) (a : α) : lookV (updA (L.map fun x => (x, v)) a v) = lookV ((L ++ [a]).map fun x => (x, v)) := by
  funext b
  rw [lookV_updA]
  unfold lookV
  rw [List.map_append, List.find?_append]
  by_cases hb : b = a
  · subst hb
    rw [if_pos rfl]
    cases hf : (L.map fun x => (x, v)).find? (fun p => decide (b = p.1)) with
    | none => simp
    | some p =>
      have := List.mem_of_find?_eq_some hf
      obtain ⟨y, _, rfl⟩ := List.mem_map.1 this
      rfl
  · rw [if_neg hb]
    cases hf : (L.map fun x => (x, v)).find? (fun p => decide (b = p.1)) with
    | none => simp [hb]
    | some p => rfl
/-- a set lies there: which names are in it -/
def SetAt (hh : Heap) (b : Nat) (log : List Ap) : Prop := ∃ L : List (N4 × V), hh[b]? = some (.map (asM N4.key L)) ∧ ∀ m, lookV L m = lookV (setOf log) m
theorem whole_loop2 (n : Nat) (h : Heap) (log : List Ap) (l : List Sp) (bs : Bool) (hlim : l.length < lim) (hlog : ∀ x ∈ log, ∃ s ∈ l, n4S s = n4A x) : ∀ (d k M : Nat) (hh : Heap), k + d = l.length → d < M → SetAt hh h.length log → h.length < hh.length → (∀ i, i < h.length → hh[i]? = h[i]?) →
    (∀ (i : Nat) s, i < k → l[i]? = some s → (∃ x ∈ log, n4A x = n4S s) ∨ s.to < 0) →
    ((WholeP log l → Phase (loopx M (hWhole_l43 (n + 1) h (.sl 8 (l.map Sp.v) bs) (8, l.map Sp.v)) [.int .i64 (k : Int)] hh) 0 h) ∧
     (¬ WholeP log l → Phase (loopx M (hWhole_l43 (n + 1) h (.sl 8 (l.map Sp.v) bs) (8, l.map Sp.v)) [.int .i64 (k : Int)] hh) 21 h))
  | _, _, 0, _, _, h2, _, _, _, _ => by omega
  | 0, k, M + 1, hh, h1, _, hm, hl, hk, hp => by
    have hlt : decide ((k : Int) < (l.length : Int)) = false := by simp; omega
    rw [loopx_succ]
    simp only [hWhole_l43, gv, List.getD_cons_zero, List.length_map, bop_i64_lss, bd_some, bv_bool, hlt, Bool.false_eq_true, if_false]
    refine ⟨fun _ => ⟨hh, rfl, Nat.le_of_lt hl, hk⟩, fun hn => ?_⟩
    refine absurd ⟨hlog, fun s hs => ?_⟩ hn
    obtain ⟨i, hi⟩ := List.mem_iff_getElem?.1 hs
    exact hp i s (by have := (List.getElem?_eq_some_iff.1 hi).1; omega) hi
  | d + 1, k, M + 1, hh, h1, h2, hm, hl, hk, hp => by
    have hlt : decide ((k : Int) < (l.length : Int)) = true := by simp; omega
    obtain ⟨s, hs⟩ : ∃ s, l[k]? = some s := ⟨_, List.getElem?_eq_getElem (by omega)⟩
    have hsv : (l.map Sp.v)[k]? = some s.v := by rw [get_sps, hs]; rfl
    obtain ⟨L, hL, hLs⟩ := hm
    obtain ⟨e1, e2⟩ := entry_asM (kf := N4.key) L (n4S s) (.agg [])
    have hz : (lookV L (n4S s)).getD (.agg []) = .agg [] := by rw [hLs]; exact setOf_z _ _
    have hsome : (lookV L (n4S s)).isSome = decide (n4S s ∈ log.map n4A) := by rw [hLs]; exact lookV_snoc _ _ _
    have hto : (setR [V.int .i64 0, V.int .i64 0, V.int .u8 0, V.int .i32 0, V.int .u8 0, V.int .i32 0, V.int .i64 0, V.int .i64 0] 0 (List.take 8 (List.drop 0 s.v)))[7]? = some (.int .i64 s.to) := rfl
    have hc0 : (V.cells (V.agg [])).length = 0 := rfl
    rw [loopx_succ]
    have key : ∀ next, hWhole_l43 (n + 1) h (.sl 8 (l.map Sp.v) bs) (8, l.map Sp.v) [.int .i64 (k : Int)] hh next =
        if n4S s ∈ log.map n4A ∨ s.to < 0 then next [.int .i64 ((k + 1 : Nat) : Int)] hh
        else some (.pan (.iface 56 (.int .u16 21)), hh) := by
      intro next
      simp only [hWhole_l43, gv, List.getD_cons_zero, List.length_map, bop_i64_lss, bd_some, bv_bool, hlt, if_true, nv_nat, bdS_some, idxP_sl hsv, cellsP_iptr, bd3_some, Nat.zero_add, Nat.le_refl, Nat.reduceLeDiff, Nat.reduceLT, and_self, sp_len, sp_cells]
      rw [ofSpan_call, cl_ret, one1_one]
      simp only [mapOf_map hL, bdS_some, kds_n4, bd_some, findI_asM keq_n4, Nat.add_zero, Option.map_id', e1, hz]
      rw [if_pos (by first | exact ⟨(n4_one _).1, (n4_one _).2, rfl⟩ | exact ⟨(n4_one _).1, (n4_one _).2, trivial⟩)]
      simp only [hc0, if_true, Nat.le_refl, e2, hsome]
      by_cases hin : n4S s ∈ log.map n4A
      · simp only [hin, decide_true, if_true, true_or]
        rw [must_call]
        simp only [if_true, cl_ret, bop_i64_add, bd_some, step64 (show k < lim by omega)]
      · simp only [hin, decide_false, Bool.false_eq_true, if_false, false_or, hto, bd_some, bop_i64_lss]
        rw [must_call]
        by_cases h0 : s.to < 0
        · simp only [h0, decide_true, if_true, cl_ret, bop_i64_add, bd_some, step64 (show k < lim by omega)]
        · simp only [h0, decide_false, Bool.false_eq_true, if_false, cl_pan]
    rw [key]
    have hmem : n4S s ∈ log.map n4A ↔ ∃ x ∈ log, n4A x = n4S s := List.mem_map
    by_cases hin : n4S s ∈ log.map n4A ∨ s.to < 0
    · rw [if_pos hin]
      refine whole_loop2 n h log l bs hlim hlog d (k + 1) M hh (by omega) (by omega) ⟨L, hL, hLs⟩ hl hk (fun i t hi ht => ?_)
      rcases Nat.lt_or_ge i k with hik | hik
      · exact hp i t hik ht
      · have : i = k := by omega
        subst this
        rw [hs] at ht; cases ht
        exact hin.imp hmem.1 id
    · rw [if_neg hin]
      exact ⟨fun hw => absurd ((hw.2 s (List.mem_of_getElem? hs)).imp hmem.2 id) hin, fun _ => ⟨hh, rfl, Nat.le_of_lt hl, hk⟩⟩
theorem whole_loop (n : Nat) {h : Heap} {O Mb : Nat} {log : List Ap} {bl : Bool} {l : List Sp} {bs : Bool} {L : List (N4 × V)} (ho : OrdAt h O Mb log bl l bs L) (hL : LeadsTo L l) (hlim : log.length < lim) (hlim2 : l.length < lim) (hn : l.length < n + 1) : ∀ (d k M : Nat) (hh : Heap), k + d = log.length → d < M → SetAt hh h.length (log.take k) → h.length < hh.length → (∀ i, i < h.length → hh[i]? = h[i]?) →
    (∀ (i : Nat) x, i < k → log[i]? = some x → ∃ s ∈ l, n4S s = n4A x) →
    ((WholeP log l → Phase (loopx M (hWhole_l5 (n + 1) O h (.sl 7 (log.map Ap.v) bl) (7, log.map Ap.v)) [.int .i64 (k : Int)] hh) 0 h) ∧
     (¬ WholeP log l → Phase (loopx M (hWhole_l5 (n + 1) O h (.sl 7 (log.map Ap.v) bl) (7, log.map Ap.v)) [.int .i64 (k : Int)] hh) 21 h))
  | _, _, 0, _, _, h2, _, _, _, _ => by omega
  | 0, k, M + 1, hh, h1, _, hm, hl, hk, hp => by
    have hlt : decide ((k : Int) < (log.length : Int)) = false := by simp; omega
    have hk0 : log.take k = log := List.take_of_length_le (by omega)
    rw [hk0] at hm
    have ho' := ho.keep hk
    rw [loopx_succ]
    simp only [hWhole_l5, gv, List.getD_cons_zero, List.length_map, bop_i64_lss, bd_some, bv_bool, hlt, Bool.false_eq_true, if_false, cellsP_box ho'.o, bd3_some, Nat.reduceAdd, Nat.reduceLeDiff, Nat.reduceLT, and_self, if_true, List.getElem?_cons_succ, List.getElem?_cons_zero, slcH_sl]
    exact whole_loop2 n h log l bs hlim2 (fun x hx => by
      obtain ⟨i, hi⟩ := List.mem_iff_getElem?.1 hx
      exact hp i x (by have := (List.getElem?_eq_some_iff.1 hi).1; omega) hi) l.length 0 (n + 1) hh (by omega) hn hm hl hk (fun i s hi => by omega)
  | d + 1, k, M + 1, hh, h1, h2, hm, hl, hk, hp => by
    have hlt : decide ((k : Int) < (log.length : Int)) = true := by simp; omega
    obtain ⟨x, hx⟩ : ∃ x, log[k]? = some x := ⟨_, List.getElem?_eq_getElem (by omega)⟩
    have hxv : (log.map Ap.v)[k]? = some x.v := by rw [get_aps, hx]; rfl
    have ho' := ho.keep hk
    obtain ⟨S, hS, hSs⟩ := hm
    obtain ⟨e1, e2⟩ := entry_asM (kf := N4.key) L (n4A x) (.int .i64 0)
    have hsome : (lookV L (n4A x)).isSome = (firstK l (n4A x)).isSome := by rw [hL]; cases firstK l (n4A x) <;> rfl
    obtain ⟨z, hz⟩ : ∃ z, (lookV L (n4A x)).getD (.int .i64 0) = z := ⟨_, rfl⟩
    rw [loopx_succ]
    have key : ∀ next, hWhole_l5 (n + 1) O h (.sl 7 (log.map Ap.v) bl) (7, log.map Ap.v) [.int .i64 (k : Int)] hh next =
        if (firstK l (n4A x)).isSome then next [.int .i64 ((k + 1 : Nat) : Int)] (hh.set h.length (.map (asM N4.key (updA S (n4A x) (.agg [])))))
        else some (.pan (.iface 56 (.int .u16 21)), hh) := by
      intro next
      simp only [hWhole_l5, gv, List.getD_cons_zero, List.length_map, bop_i64_lss, bd_some, bv_bool, hlt, if_true, nv_nat, bdS_some, idxP_sl hxv, cellsP_iptr, bd3_some, Nat.zero_add, Nat.le_refl, Nat.reduceLeDiff, Nat.reduceLT, and_self, ap_len, ap_cells, cellsP_box ho'.o, Nat.reduceAdd, List.getElem?_cons_succ, List.getElem?_cons_zero]
      rw [of_call, clS_ret, one1_one]
      simp only [mapOf_map ho'.m, bdS_some, kds_n4, bd_some, findI_asM keq_n4, Nat.add_zero, Option.map_id', e1]
      rw [if_pos (by first | exact ⟨(n4_one _).1, (n4_one _).2, rfl⟩ | exact ⟨(n4_one _).1, (n4_one _).2, trivial⟩)]
      rw [must_call, e2, hsome]
      by_cases hin : (firstK l (n4A x)).isSome = true
      · simp only [hin, if_true, cl_ret]
        rw [of_call, cl_ret, one1_one]
        simp only [hS, mapAt_map, kds_n4, bd_some, findI_asM keq_n4, Nat.add_zero, Option.map_id']
        rw [if_pos ⟨(n4_one _).1, (n4_one _).2⟩]
        simp only [bop_i64_add, bd_some, step64 (show k < lim by omega), upd_asM]
      · simp only [hin, Bool.false_eq_true, if_false, cl_pan]
    rw [key]
    by_cases hin : (firstK l (n4A x)).isSome = true
    · rw [if_pos hin]
      refine whole_loop n ho hL hlim hlim2 hn d (k + 1) M _ (by omega) (by omega) ⟨_, List.getElem?_set_self hl, fun m => ?_⟩ (by simpa using hl) (fun i hi => by rw [List.getElem?_set_ne (by omega)]; exact hk i hi) (fun i y hi hy => ?_)
      · rw [lookV_updA, hSs]
        have := congrFun (updA_in ((log.take k).map n4A) (V.agg []) (n4A x)) m
        rw [lookV_updA] at this
        unfold setOf
        rw [List.take_add_one, hx]
        simp only [Option.toList_some, List.map_append, List.map_cons, List.map_nil] at this ⊢
        exact this
      · rcases Nat.lt_or_ge i k with hik | hik
        · exact hp i y hik hy
        · have : i = k := by omega
          subst this
          rw [hx] at hy; cases hy
          exact first_some.1 hin
    · rw [if_neg hin]
      exact ⟨fun hw => absurd (first_some.2 (hw.1 x (List.mem_of_getElem? hx))) hin, fun _ => ⟨hh, rfl, Nat.le_of_lt hl, hk⟩⟩
theorem whole_call (n : Nat) {h : Heap} {O M : Nat} {log : List Ap} {bl : Bool} {l : List Sp} {bs : Bool} {L : List (N4 × V)} (ho : OrdAt h O M log bl l bs L) (hL : LeadsTo L l) (hlim : log.length < lim) (hlim2 : l.length < lim) (hn : log.length < n + 1) (hn2 : l.length < n + 1) :
    (WholeP log l → Phase (call (n + 2) 57 [.ptr O 0] h) 0 h) ∧ (¬ WholeP log l → Phase (call (n + 2) 57 [.ptr O 0] h) 21 h) := by
  have hO : (h ++ [HB.map []])[O]? = some (.box 3 [.sl 7 (log.map Ap.v) bl, .sl 8 (l.map Sp.v) bs, .map M]) := by
    rw [List.getElem?_append_left (List.getElem?_eq_some_iff.1 ho.o).1]; exact ho.o
  have he : call (n + 2) 57 [.ptr O 0] h = loopx (n + 1) (hWhole_l5 (n + 1) O h (.sl 7 (log.map Ap.v) bl) (7, log.map Ap.v)) [.int .i64 ((0 : Nat) : Int)] (h ++ [HB.map []]) := by
    refine (hWhole_eq (n + 1) O h).trans ?_
    unfold hWhole
    simp only [cellsP_box hO, bd3_some, Nat.zero_add, Nat.reduceLeDiff, Nat.reduceLT, and_self, if_true, List.getElem?_cons_zero, bd_some, slcH_sl]
    rfl
  rw [he]
  exact whole_loop n ho hL hlim hlim2 hn2 log.length 0 (n + 1) (h ++ [HB.map []]) (by omega) hn ⟨[], by simp [asM], fun m => rfl⟩ (by simp) (fun i hi => List.getElem?_append_left hi) (fun i x h0 => by omega)
end Go.Proofs.Try
/-! history.Check by contract: timely -/
set_option linter.unusedVariables false
set_option linter.unusedSimpArgs false
namespace Go.Proofs.Try
open Go.L Go.Rp
set_option maxRecDepth 100000
/-- a name's first span -/
def FirstS (l : List Sp) (m : N4) (s : Sp) : Prop := ∃ k, firstK l m = some k ∧ l[k]? = some s
theorem FirstS.one {l : List Sp} {m : N4} {s t : Sp} (a : FirstS l m s) (b : FirstS l m t) : s = t := by
  obtain ⟨k, h1, h2⟩ := a
  obtain ⟨j, h3, h4⟩ := b
  rw [h1] at h3; cases h3
  rw [h2] at h4; cases h4; rfl
theorem firstS_ex {l : List Sp} {m : N4} (h : ∃ s ∈ l, n4S s = m) : ∃ s, FirstS l m s := by
  have h1 := first_some.2 h
  obtain ⟨k, hk⟩ := Option.isSome_iff_exists.1 h1
  obtain ⟨h2, _⟩ := List.findIdx?_eq_some_iff_getElem.1 hk
  exact ⟨l[k], k, hk, List.getElem?_eq_getElem h2⟩
theorem FirstS.name {l : List Sp} {m : N4} {s : Sp} (a : FirstS l m s) : n4S s = m ∧ s ∈ l := by
  obtain ⟨k, h1, h2⟩ := a
  obtain ⟨h3, h4, _⟩ := List.findIdx?_eq_some_iff_getElem.1 h1
  rw [List.getElem?_eq_getElem h3] at h2
  cases h2
  exact ⟨by simpa using h4, List.getElem_mem h3⟩
/-- a's span is ahead of b's -/
def Ahead (s t : Sp) : Prop := 0 ≤ s.to ∧ s.to < t.fr
instance (s t : Sp) : Decidable (Ahead s t) := inferInstanceAs (Decidable (_ ∧ _))
/-- none comes ahead of what was ahead of it -/
def TimelyP (log : List Ap) (l : List Sp) : Prop := ∀ (j k : Nat) x y s t, j < k → log[k]? = some x → log[j]? = some y → FirstS l (n4A x) s → FirstS l (n4A y) t → ¬ Ahead s t
theorem span_first (n : Nat) {h : Heap} {O M : Nat} {log : List Ap} {bl : Bool} {l : List Sp} {bs : Bool} {L : List (N4 × V)} (ho : OrdAt h O M log bl l bs L) (hL : LeadsTo L l) (x : Ap) {s : Sp} (hs : FirstS l (n4A x) s) :
    call (n + 2) 78 [.ptr O 0, .agg x.v] h = some (.ret [.agg s.v], h) := by
  obtain ⟨k, h1, h2⟩ := hs
  exact span_call n ho x (by rw [hL, h1]; rfl) h2
theorem timely_in (n : Nat) {h : Heap} {O M : Nat} {log : List Ap} {bl : Bool} {l : List Sp} {bs : Bool} {L : List (N4 × V)} (ho : OrdAt h O M log bl l bs L) (hL : LeadsTo L l) (hw : ∀ x ∈ log, ∃ s ∈ l, n4S s = n4A x) (hlim : log.length < lim) (k : Nat) (x : Ap) (s : Sp) (hx : log[k]? = some x) (hs : FirstS l (n4A x) s) (next8 : List V → Heap → Option (Res × Heap)) : ∀ (d j N : Nat), j + d = k → d < N →
    (((∀ (i : Nat) y t, j ≤ i → i < k → log[i]? = some y → FirstS l (n4A y) t → ¬ Ahead s t) → loopx N (hTimely_l24 (n + 2) O [.int .i64 (k : Int)] next8 (.sl 7 ((log.take k).map Ap.v) false) (7, (log.take k).map Ap.v)) [.agg x.v, .int .i64 (j : Int)] h = next8 [.int .i64 ((k + 1 : Nat) : Int)] h) ∧
     ((¬ ∀ (i : Nat) y t, j ≤ i → i < k → log[i]? = some y → FirstS l (n4A y) t → ¬ Ahead s t) → loopx N (hTimely_l24 (n + 2) O [.int .i64 (k : Int)] next8 (.sl 7 ((log.take k).map Ap.v) false) (7, (log.take k).map Ap.v)) [.agg x.v, .int .i64 (j : Int)] h = some (.pan (.iface 56 (.int .u16 22)), h)))
  | _, _, 0, _, h2 => by omega
  | 0, j, N + 1, h1, _ => by
    have hkl : k < log.length := (List.getElem?_eq_some_iff.1 hx).1
    have hlen : ((log.take k).map Ap.v).length = k := by simp; omega
    have hlt : decide ((j : Int) < (k : Int)) = false := by simp; omega
    rw [loopx_succ]
    simp only [hTimely_l24, gv, List.getD_cons_zero, List.getD_cons_succ, hlen, bop_i64_lss, bd_some, bv_bool, hlt, Bool.false_eq_true, if_false, bop_i64_add, step64 (show k < lim by omega)]
    refine ⟨fun _ => by trivial, fun hn => absurd (fun i y t hi hik => by omega) hn⟩
  | d + 1, j, N + 1, h1, h2 => by
    have hkl : k < log.length := (List.getElem?_eq_some_iff.1 hx).1
    have hlen : ((log.take k).map Ap.v).length = k := by simp; omega
    have hlt : decide ((j : Int) < (k : Int)) = true := by simp; omega
    obtain ⟨y, hy⟩ : ∃ y, log[j]? = some y := ⟨_, List.getElem?_eq_getElem (by omega)⟩
    have hyv : ((log.take k).map Ap.v)[j]? = some y.v := by rw [get_aps, List.getElem?_take, if_pos (by omega), hy]; rfl
    obtain ⟨t, ht⟩ := firstS_ex (hw y (List.mem_of_getElem? hy))
    have hcut : List.take 7 (List.drop 0 x.v) = x.v := rfl
    have key : ∀ next, hTimely_l24 (n + 2) O [.int .i64 (k : Int)] next8 (.sl 7 ((log.take k).map Ap.v) false) (7, (log.take k).map Ap.v) [.agg x.v, .int .i64 (j : Int)] h next = if Ahead s t then some (.pan (.iface 56 (.int .u16 22)), h) else next [.agg x.v, .int .i64 ((j + 1 : Nat) : Int)] h := by
      intro next
      simp only [hTimely_l24, gv, List.getD_cons_zero, List.getD_cons_succ, hlen, bop_i64_lss, bd_some, bv_bool, hlt, if_true, nv_nat, bdS_some, idxP_sl hyv, cellsP_iptr, bd3_some, Nat.zero_add, Nat.le_refl, Nat.reduceLeDiff, Nat.reduceLT, and_self, ap_len, ap_cells, lcs, hcut]
      rw [span_first n ho hL x hs, clH_ret, one1_one, span_first n ho hL y ht, clH_ret, one1_one, before_call, clS_ret, one1_one, uop_not, bd_some, must_call]
      by_cases hb : Ahead s t
      · have : (decide (0 ≤ s.to) && decide (s.to < t.fr)) = true := by simpa [Ahead] using hb
        simp only [this, Bool.not_true, Bool.false_eq_true, if_false, cl_pan, if_pos hb]
      · have : (decide (0 ≤ s.to) && decide (s.to < t.fr)) = false := by
          rw [Bool.eq_false_iff]; intro hc; exact hb (by simpa [Ahead] using hc)
        simp only [this, Bool.not_false, if_true, cl_ret, if_neg hb, bop_i64_add, bd_some, step64 (show j < lim by omega)]
    rw [loopx_succ, key]
    by_cases hb : Ahead s t
    · rw [if_pos hb]
      exact ⟨fun ha => absurd hb (ha j y t (Nat.le_refl _) (by omega) hy ht), fun _ => rfl⟩
    · rw [if_neg hb]
      obtain ⟨i1, i2⟩ := timely_in n ho hL hw hlim k x s hx hs next8 d (j + 1) N (by omega) (by omega)
      refine ⟨fun ha => i1 fun i z u hi hik hz hu => ha i z u (by omega) hik hz hu, fun hn => i2 fun ha => hn fun i z u hi hik hz hu => ?_⟩
      rcases Nat.lt_or_ge j i with hji | hji
      · exact ha i z u hji hik hz hu
      · have : i = j := by omega
        subst this
        rw [hy] at hz; cases hz
        rw [hu.one ht]; exact hb
theorem timely_loop (n : Nat) {h : Heap} {O M : Nat} {log : List Ap} {bl : Bool} {l : List Sp} {bs : Bool} {L : List (N4 × V)} (ho : OrdAt h O M log bl l bs L) (hL : LeadsTo L l) (hw : ∀ x ∈ log, ∃ s ∈ l, n4S s = n4A x) (hlim : log.length < lim) (hn : log.length < n + 2) : ∀ (d k N : Nat), k + d = log.length → d < N →
    (∀ (i : Nat) j x y s t, i < k → j < i → log[i]? = some x → log[j]? = some y → FirstS l (n4A x) s → FirstS l (n4A y) t → ¬ Ahead s t) →
    ((TimelyP log l → loopx N (hTimely_l5 (n + 2) O (.sl 7 (log.map Ap.v) bl) (7, log.map Ap.v)) [.int .i64 (k : Int)] h = some (.ret [], h)) ∧
     (¬ TimelyP log l → loopx N (hTimely_l5 (n + 2) O (.sl 7 (log.map Ap.v) bl) (7, log.map Ap.v)) [.int .i64 (k : Int)] h = some (.pan (.iface 56 (.int .u16 22)), h)))
  | _, _, 0, _, h2, _ => by omega
  | 0, k, N + 1, h1, _, hp => by
    have hlt : decide ((k : Int) < (log.length : Int)) = false := by simp; omega
    rw [loopx_succ]
    simp only [hTimely_l5, gv, List.getD_cons_zero, List.length_map, bop_i64_lss, bd_some, bv_bool, hlt, Bool.false_eq_true, if_false]
    refine ⟨fun _ => by trivial, fun hn => absurd (fun j i x y s t hji hx hy hs ht => hp i j x y s t (by have := (List.getElem?_eq_some_iff.1 hx).1; omega) hji hx hy hs ht) hn⟩
  | d + 1, k, N + 1, h1, h2, hp => by
    have hlt : decide ((k : Int) < (log.length : Int)) = true := by simp; omega
    obtain ⟨x, hx⟩ : ∃ x, log[k]? = some x := ⟨_, List.getElem?_eq_getElem (by omega)⟩
    have hxv : (log.map Ap.v)[k]? = some x.v := by rw [get_aps, hx]; rfl
    obtain ⟨s, hs⟩ := firstS_ex (hw x (List.mem_of_getElem? hx))
    have hvar : setR [V.int .i64 0, V.int .i64 0, V.int .u8 0, V.int .i32 0, V.int .u8 0, V.int .i32 0, V.int .i64 0] 0 (List.take 7 (List.drop 0 x.v)) = x.v := rfl
    have hsl : sliceP 7 0 k (none : Option Nat) true (.sl 7 (log.map Ap.v) bl) = some (.sl 7 ((log.take k).map Ap.v) false) := by
      have hk : k ≤ log.length := by omega
      simp [sliceP, hk]
    rw [loopx_succ]
    have key : ∀ next, hTimely_l5 (n + 2) O (.sl 7 (log.map Ap.v) bl) (7, log.map Ap.v) [.int .i64 (k : Int)] h next = loopx (n + 2) (hTimely_l24 (n + 2) O [.int .i64 (k : Int)] next (.sl 7 ((log.take k).map Ap.v) false) (7, (log.take k).map Ap.v)) [.agg x.v, .int .i64 ((0 : Nat) : Int)] h := by
      intro next
      simp only [hTimely_l5, gv, List.getD_cons_zero, List.length_map, bop_i64_lss, bd_some, bv_bool, hlt, if_true, nv_nat, bdS_some, idxP_sl hxv, cellsP_iptr, bd3_some, Nat.zero_add, Nat.le_refl, Nat.reduceLeDiff, Nat.reduceLT, and_self, ap_len, cellsP_box ho.o, Nat.reduceAdd, List.getElem?_cons_zero, lenP_sl, hsl, slcH_sl, hvar]
      rfl
    rw [key]
    obtain ⟨i1, i2⟩ := timely_in n ho hL hw hlim k x s hx hs (loopx N (hTimely_l5 (n + 2) O (.sl 7 (log.map Ap.v) bl) (7, log.map Ap.v))) k 0 (n + 2) (by omega) (by omega)
    by_cases hb : ∀ (i : Nat) y t, 0 ≤ i → i < k → log[i]? = some y → FirstS l (n4A y) t → ¬ Ahead s t
    · rw [i1 hb]
      refine timely_loop n ho hL hw hlim hn d (k + 1) N (by omega) (by omega) (fun i j a b u v hi hji ha hb' hu hv => ?_)
      rcases Nat.lt_or_ge i k with hik | hik
      · exact hp i j a b u v hik hji ha hb' hu hv
      · have : i = k := by omega
        subst this
        rw [hx] at ha; cases ha
        rw [hu.one hs]
        exact hb j b v (Nat.zero_le _) hji hb' hv
    · rw [i2 hb]
      refine ⟨fun ht => absurd (fun i y t _ hik hy hu => ht i k x y s t hik hx hy hs hu) hb, fun _ => rfl⟩
theorem timely_call (n : Nat) {h : Heap} {O M : Nat} {log : List Ap} {bl : Bool} {l : List Sp} {bs : Bool} {L : List (N4 × V)} (ho : OrdAt h O M log bl l bs L) (hL : LeadsTo L l) (hw : ∀ x ∈ log, ∃ s ∈ l, n4S s = n4A x) (hlim : log.length < lim) (hn : log.length < n + 2) :
    (TimelyP log l → Phase (call (n + 3) 58 [.ptr O 0] h) 0 h) ∧ (¬ TimelyP log l → Phase (call (n + 3) 58 [.ptr O 0] h) 22 h) := by
  have he : call (n + 3) 58 [.ptr O 0] h = loopx (n + 2) (hTimely_l5 (n + 2) O (.sl 7 (log.map Ap.v) bl) (7, log.map Ap.v)) [.int .i64 ((0 : Nat) : Int)] h := by
    refine (hTimely_eq (n + 2) O h).trans ?_
    unfold hTimely
    simp only [cellsP_box ho.o, bd3_some, Nat.zero_add, Nat.reduceLeDiff, Nat.reduceLT, and_self, if_true, List.getElem?_cons_zero, bd_some, slcH_sl]
    rfl
  obtain ⟨i1, i2⟩ := timely_loop n ho hL hw hlim hn log.length 0 (n + 2) (by omega) (by omega) (fun i j x y s t hi => by omega)
  exact ⟨fun ht => ⟨h, by rw [he, i1 ht]; rfl, Nat.le_refl _, fun _ _ => rfl⟩, fun ht => ⟨h, by rw [he, i2 ht]; rfl, Nat.le_refl _, fun _ _ => rfl⟩⟩
end Go.Proofs.Try
/-! history.Pending by contract -/
set_option linter.unusedVariables false
set_option linter.unusedSimpArgs false
namespace Go.Proofs.Try
open Go.L Go.Rp
set_option maxRecDepth 100000
def pendN (l : List Sp) : Nat := l.countP fun s => decide (s.to < 0)
theorem pend_take {l : List Sp} {k : Nat} {s : Sp} (h : l[k]? = some s) : pendN (l.take (k + 1)) = pendN (l.take k) + if s.to < 0 then 1 else 0 := by
  unfold pendN
  rw [List.take_add_one, h, List.countP_append]
  by_cases h0 : s.to < 0 <;> simp [h0]
theorem pend_loop (n : Nat) (h : Heap) (l : List Sp) (bs : Bool) (hlim : l.length < lim) : ∀ (d k N : Nat), k + d = l.length → d < N →
    loopx N (hPending_l0 n (l.map Sp.v) bs) [.int .i64 (pendN (l.take k) : Int), .int .i64 (k : Int)] h = some (.ret [.int .i64 (pendN l : Int)], h) := by
  intro d
  induction d with
  | zero =>
    intro k N h1 h2
    obtain ⟨N, rfl⟩ : ∃ N', N = N' + 1 := ⟨N - 1, by omega⟩
    have hlt : decide ((k : Int) < (l.length : Int)) = false := by simp; omega
    have hk : l.take k = l := List.take_of_length_le (by omega)
    rw [loopx_succ, hk]
    simp only [hPending_l0, gv, List.getD_cons_zero, List.getD_cons_succ, List.length_map, bop_i64_lss, bd_some, bv_bool, hlt, Bool.false_eq_true, if_false]
  | succ d ih =>
    intro k N h1 h2
    obtain ⟨N, rfl⟩ : ∃ N', N = N' + 1 := ⟨N - 1, by omega⟩
    have hlt : decide ((k : Int) < (l.length : Int)) = true := by simp; omega
    obtain ⟨s, hs⟩ : ∃ s, l[k]? = some s := ⟨_, List.getElem?_eq_getElem (by omega)⟩
    have hsv : (l.map Sp.v)[k]? = some s.v := by rw [get_sps, hs]; rfl
    have hto : (setR [V.int .i64 0, V.int .i64 0, V.int .u8 0, V.int .i32 0, V.int .u8 0, V.int .i32 0, V.int .i64 0, V.int .i64 0] 0 (List.take 8 (List.drop 0 s.v)))[7]? = some (.int .i64 s.to) := rfl
    have hpl : pendN (l.take k) ≤ k := Nat.le_trans List.countP_le_length (by rw [List.length_take]; omega)
    have hw : IntKind.i64.wrap ((pendN (l.take k) : Int) + 1) = ((pendN (l.take k) + 1 : Nat) : Int) := step64 (by omega)
    have IH := ih (k + 1) N (by omega) (by omega)
    rw [pend_take hs] at IH
    have key : ∀ next, hPending_l0 n (l.map Sp.v) bs [.int .i64 (pendN (l.take k) : Int), .int .i64 (k : Int)] h next = next [.int .i64 ((pendN (l.take k) + (if s.to < 0 then 1 else 0) : Nat) : Int), .int .i64 ((k + 1 : Nat) : Int)] h := by
      intro next
      by_cases h0 : s.to < 0
      · simp only [hPending_l0, gv, List.getD_cons_zero, List.getD_cons_succ, List.length_map, bop_i64_lss, bd_some, bv_bool, hlt, if_true, nv_nat, bdS_some, idxP_sl hsv, cellsP_iptr, bd3_some, Nat.zero_add, Nat.le_refl, Nat.reduceLT, and_self, sp_len, hto, h0, decide_true, bop_i64_add, hw, step64 (show k < lim by omega)]
      · simp only [hPending_l0, gv, List.getD_cons_zero, List.getD_cons_succ, List.length_map, bop_i64_lss, bd_some, bv_bool, hlt, if_true, nv_nat, bdS_some, idxP_sl hsv, cellsP_iptr, bd3_some, Nat.zero_add, Nat.le_refl, Nat.reduceLT, and_self, sp_len, hto, h0, decide_false, Bool.false_eq_true, if_false, bop_i64_add, Nat.add_zero, step64 (show k < lim by omega)]
    rw [loopx_succ, key]
    exact IH
theorem pending_call (n : Nat) (h : Heap) (l : List Sp) (bs : Bool) (hlim : l.length < lim) (hn : l.length < n) : call (n + 1) 30 [.sl 8 (l.map Sp.v) bs] h = some (.ret [.int .i64 (pendN l : Int)], h) := by
  refine (hPending_eq n (l.map Sp.v) bs h).trans ?_
  unfold hPending
  exact pend_loop n h l bs hlim l.length 0 n (by omega) hn
end Go.Proofs.Try
