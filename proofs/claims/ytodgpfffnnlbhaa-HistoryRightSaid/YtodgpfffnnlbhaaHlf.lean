import Derived.Test.YtodgpfffnnlbhaaHpl
import Derived.Test.YtodgpfffnnlbhaaHls
import Derived.Test.YtodgpfffnnlbhaaLrow
/-! the law HistoryFront -/
set_option linter.unusedVariables false
set_option linter.unusedSimpArgs false
namespace Go.Proofs.Try
open Go.L Go.Rp
set_option maxRecDepth 100000
/-- those between two places without an answer -/
def midS (l : List Sp) (k j : Nat) : List Sp := l.mapIdx fun i s => if k ≤ i ∧ i < j then pendS s else s
theorem midS_get (l : List Sp) (k j i : Nat) : (midS l k j)[i]? = (l[i]?).map fun s => if k ≤ i ∧ i < j then pendS s else s := by
  unfold midS
  rw [List.getElem?_mapIdx]
theorem midS_len (l : List Sp) (k j : Nat) : (midS l k j).length = l.length := by simp [midS]
theorem midS_none (l : List Sp) (k : Nat) : midS l k k = l := by
  apply List.ext_getElem?
  intro i
  rw [midS_get]
  cases h : l[i]? with
  | none => rfl
  | some s => simp only [Option.map_some]; rw [if_neg (by omega)]
theorem midS_all (l : List Sp) (k : Nat) : midS l k l.length = frontS l k := by
  apply List.ext_getElem?
  intro i
  rw [midS_get, frontS_get]
  cases h : l[i]? with
  | none => simp
  | some s =>
    have := (List.getElem?_eq_some_iff.1 h).1
    by_cases hi : i < k
    · rw [if_pos hi]; simp only [Option.map_some]; rw [if_neg (by omega)]
    · rw [if_neg hi]; simp only [Option.map_some]; rw [if_pos (by omega)]
theorem midS_step {l : List Sp} {k j : Nat} {s : Sp} (hk : k ≤ j) (hs : l[j]? = some s) : (midS l k j).set j (pendS s) = midS l k (j + 1) := by
  have hj := (List.getElem?_eq_some_iff.1 hs).1
  apply List.ext_getElem?
  intro i
  rw [List.getElem?_set, midS_get, midS_get, midS_len]
  by_cases h : j = i
  · subst h
    rw [if_pos rfl, if_pos hj, hs]
    simp only [Option.map_some]
    rw [if_pos (by omega)]
  · rw [if_neg h]
    cases hi : l[i]? with
    | none => rfl
    | some t =>
      simp only [Option.map_some]
      by_cases hc : k ≤ i ∧ i < j
      · rw [if_pos hc, if_pos (by omega)]
      · rw [if_neg hc, if_neg (by omega)]
theorem midS_at {l : List Sp} {k j : Nat} {s : Sp} (hs : l[j]? = some s) : (midS l k j)[j]? = some s := by
  rw [midS_get, hs]
  simp only [Option.map_some]
  rw [if_neg (by omega)]
/-- the loop that takes the answers away: then what is asked of them -/
theorem front_loop (n : Nat) (h : Heap) (x0 x1 : Int) (v4 v6 : V) (l : List Sp) (k : Nat) (hlim : l.length < lim) (Q : Option (Res × Heap))
    (hend : ∀ next b, lwFront_l9 n x0 x1 v4 v6 [.sl 8 ((frontS l k).map Sp.v) false, .int .i64 (l.length : Int), .bool b] h next = Q) : ∀ (d j N : Nat) (b : Bool), j + d = l.length → k ≤ j → d < N →
    loopx N (lwFront_l9 n x0 x1 v4 v6) [.sl 8 ((midS l k j).map Sp.v) false, .int .i64 (j : Int), .bool b] h = Q := by
  intro d
  induction d with
  | zero =>
    intro j N b h1 h2 h3
    obtain ⟨N, rfl⟩ : ∃ N', N = N' + 1 := ⟨N - 1, by omega⟩
    obtain rfl : j = l.length := by omega
    rw [loopx_succ, midS_all]
    exact hend _ b
  | succ d ih =>
    intro j N b h1 h2 h3
    obtain ⟨N, rfl⟩ : ∃ N', N = N' + 1 := ⟨N - 1, by omega⟩
    obtain ⟨s, hs⟩ : ∃ s, l[j]? = some s := ⟨_, List.getElem?_eq_getElem (by omega)⟩
    have hlt : decide ((j : Int) < (l.length : Int)) = true := by simp; omega
    have hsv : ((midS l k j).map Sp.v)[j]? = some s.v := by rw [get_sps, midS_at hs]; rfl
    have hjl : j < ((midS l k j).map Sp.v).length := by rw [List.length_map, midS_len]; omega
    have c1 : (8 = 8 ∧ j < ((midS l k j).map Sp.v).length ∧ (some 44 : Option Nat) ≠ some 12) := ⟨rfl, hjl, by decide⟩
    have c2 : ∀ y, (8 = 8 ∧ j < (((midS l k j).map Sp.v).set j y).length ∧ (some 49 : Option Nat) ≠ some 12) := fun y => ⟨rfl, by rw [List.length_set]; exact hjl, by decide⟩
    have g2 : ∀ y, (((midS l k j).map Sp.v).set j y)[j]? = some y := fun y => List.getElem?_set_self hjl
    have e2 : setR (setR s.v 7 [.int .i64 (-1)]) 4 [.int .u8 0, .int .i32 0] = (pendS s).v := rfl
    have key : ∀ next, lwFront_l9 n x0 x1 v4 v6 [.sl 8 ((midS l k j).map Sp.v) false, .int .i64 (j : Int), .bool b] h next = next [.sl 8 ((midS l k (j + 1)).map Sp.v) false, .int .i64 ((j + 1 : Nat) : Int), .bool false] h := by
      intro next
      unfold lwFront_l9
      simp only [gv, List.getD_cons_zero, List.getD_cons_succ, lsl, List.length_map, midS_len, bop_i64_lss, bd_some, bv_bool, hlt, if_true, nv_nat, bdS_some]
      have hjl2 : j < l.length := by omega
      rw [if_pos (by exact ⟨trivial, hjl2, by decide⟩), hsv, bd_some]
      have c2' := c2 (setR s.v 7 [.int .i64 (-1)])
      rw [if_pos (by exact ⟨trivial, c2'.2.1, by decide⟩), g2, bd_some, bop_i64_add, bd_some, step64 (show j < lim by omega), List.set_set, e2, ← List.map_set, midS_step h2 hs]
    rw [loopx_succ, key]
    exact ih (j + 1) N false (by omega) (by omega) (by omega)
end Go.Proofs.Try
/-! the law HistoryFront: it returns true -/
set_option linter.unusedVariables false
set_option linter.unusedSimpArgs false
namespace Go.Proofs.Try
open Go.L Go.Rp
set_option maxRecDepth 100000
theorem bop_errno_eql (a b : Int) : bop prog .eql 56 (.int .u16 a) (.int .u16 b) = some (.bool (a == b)) := by kernel_rfl
theorem bop_i64_rem_any {a b : Int} (h : b ≠ 0) : bop prog .rem 3 (.int .i64 a) (.int .i64 b) = some (.int .i64 (a.tmod b)) := by
  have e : bop prog .rem 3 (.int .i64 a) (.int .i64 b) = if b = 0 then none else some (.int .i64 (a.tmod b)) := by kernel_rfl
  rw [e, if_neg h]
theorem log_take (o m : Int) (os : List O) (K k : Nat) (h : k ≤ K) : (logTo o m os K).take k = logTo o m os k := by
  apply List.ext_getElem?
  intro i
  rw [List.getElem?_take]
  by_cases hi : i < k
  · rw [if_pos hi, logTo_get o m os K i (by omega), logTo_get o m os k i hi]
  · rw [if_neg hi, List.getElem?_eq_none (by rw [logTo_len]; omega)]
theorem pend_front {l : List Sp} {k : Nat} (h : ∀ s ∈ l, 0 ≤ s.to) (hk : k ≤ l.length) : pendN (frontS l k) = l.length - k := by
  unfold pendN frontS
  rw [List.countP_append]
  have e1 : (l.take k).countP (fun s => decide (s.to < 0)) = 0 := by
    rw [List.countP_eq_zero]
    intro s hs
    have := h s (List.mem_of_mem_take hs)
    simp; omega
  have e2 : ((l.drop k).map pendS).countP (fun s => decide (s.to < 0)) = ((l.drop k).map pendS).length := by
    rw [List.countP_eq_length]
    intro s hs
    obtain ⟨t, _, rfl⟩ := List.mem_map.1 hs
    simp [pendS]
  rw [e1, e2, List.length_map, List.length_drop]
  omega
theorem spans_nil_to (o m : Int) (os : List O) : ∀ s ∈ spansTo o m os [] os.length, 0 ≤ s.to := by
  intro s hs
  obtain ⟨j, hj⟩ := List.mem_iff_getElem?.1 hs
  have hjl : j < os.length := by have := (List.getElem?_eq_some_iff.1 hj).1; rwa [spansTo_len] at this
  rw [spansTo_get o m os [] os.length j hjl] at hj
  obtain rfl := Option.some.inj hj
  show 0 ≤ (4 * (j : Int) + 1)
  omega
theorem known19_h (h : Heap) : call 100 26 [] h = some (.ret [.bool true], h) := by kernel_rfl
/-- the law's own object, and how many items there may be -/
theorem obj_ok {x : Int} (h0 : 0 ≤ x) (h1 : x < 256) : IntKind.u8.wrap (1 + Int.tmod x 3) = 1 + x % 3 := by
  rw [Int.tmod_eq_emod_of_nonneg h0, w8] <;> omega
theorem most_ok {x : Int} (h0 : 0 ≤ x) (h1 : x < 256) : IntKind.i64.wrap (1 + IntKind.i64.wrap (Int.tmod x 5)) = 1 + x % 5 := by
  rw [Int.tmod_eq_emod_of_nonneg h0, w64 (n := x % 5) (by omega) (by omega), w64] <;> omega
theorem app_span {l : List Sp} (h : l.length < lim) : app 54 8 (S.own 54 8 []) (l.map Sp.v) = some (l.map Sp.v) := by
  simp only [app]
  rw [if_pos ⟨trivial, trivial, by simpa using h⟩, List.nil_append]
theorem app_ap' {g l : List Ap} (h : g.length + l.length < lim) : app 60 7 (S.own 60 7 (g.map Ap.v)) (l.map Ap.v) = some ((g ++ l).map Ap.v) := by
  simp only [app]
  rw [if_pos ⟨trivial, trivial, by simpa using h⟩, List.map_append]
/-- what Spans leaves -/
def spH (A : List Sp) (B : List Ap) : Heap := [.row 54 8 (A.map Sp.v) true, .row 60 7 (B.map Ap.v) true]
theorem spH_a {A : List Sp} {B : List Ap} {n : Nat} (h : A.length = n) : slcH (spH A B) (.row 0 8 0 n) = some (8, A.map Sp.v) := by
  have := slcH_all (h := spH A B) (b := 0) rfl
  rwa [List.length_map, h] at this
theorem spH_b {A : List Sp} {B : List Ap} {n : Nat} (h : B.length = n) : slcH (spH A B) (.row 1 7 0 n) = some (7, B.map Ap.v) := by
  have := slcH_all (h := spH A B) (b := 1) rfl
  rwa [List.length_map, h] at this
theorem spH_va {A : List Sp} {B : List Ap} {n : Nat} (h : A.length = n) : valB (spH A B) (.row 0 8 0 n) = some (.sl 8 (A.map Sp.v) false) := by
  have := valB_all (h := spH A B) (b := 0) rfl
  rwa [List.length_map, h] at this
theorem spH_vb {A : List Sp} {B : List Ap} {n k : Nat} (h : B.length = n) (hk : k ≤ n) : valB (spH A B) (.row 1 7 0 k) = some (.sl 7 ((B.take k).map Ap.v) false) := by
  have := valB_row (h := spH A B) (b := 1) (lo := 0) (hi := k) rfl (Nat.zero_le _) (by rw [List.length_map, h]; exact hk)
  rwa [List.drop_zero, ← List.map_take] at this
theorem log_kinds (o m : Int) (c : List Int) (hc : small c = true) : ∀ x ∈ logs o m c, 0 ≤ x.op.k := by
  intro x hx
  obtain ⟨i, hi⟩ := List.mem_iff_getElem?.1 hx
  obtain ⟨hik, rfl⟩ := log_get hi
  show 0 ≤ (opK (done c) i).k
  unfold opK
  rw [List.getD_eq_getElem?_getD]
  obtain ⟨y, hy⟩ : ∃ y, (done c)[i]? = some y := ⟨_, List.getElem?_eq_getElem hik⟩
  rw [hy]
  exact ops_k hc (by decide) y (List.mem_of_mem_take (List.mem_of_getElem? hy))
end Go.Proofs.Try
