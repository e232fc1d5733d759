import Derived.Test.YtooibfffneecfaaLfind
import Derived.Test.YtooibfffneecfaaLlog
/-! the law SearchNone: it returns true -/
set_option linter.unusedVariables false
set_option linter.unusedSimpArgs false
namespace Go.Proofs.Try
open Go.L Go.Rp
set_option maxRecDepth 100000
theorem bld_op (k v : Int) : bldV prog 34 [(0, .int .u8 k), (1, .int .i32 v)] = some [.int .u8 k, .int .i32 v] := by kernel_rfl
theorem bld_span (k v c w a b : Int) : bldV prog 36 [(2, .agg [.int .u8 k, .int .i32 v]), (3, .agg [.int .u8 c, .int .i32 w]), (4, .int .i64 a), (5, .int .i64 b)] = some (Sp.v ⟨0, 0, ⟨k, v⟩, ⟨c, w⟩, a, b⟩) := by kernel_rfl
theorem bsl_sp1 (y : Sp) : bslV prog 22 1 [(0, .agg (Sp.v y))] = some (8, [Sp.v y]) := by kernel_rfl
theorem bsl_sp2 (y x : Sp) : bslV prog 22 2 [(0, .agg (Sp.v y)), (1, .agg (Sp.v x))] = some (8, [Sp.v y, Sp.v x]) := by kernel_rfl
theorem set_res (y : Sp) (c w : Int) : setR (Sp.v y) 4 [.int .u8 c, .int .i32 w] = Sp.v { y with res := ⟨c, w⟩ } := rfl
theorem fit_nil_order {o m : Int} {order : List Int} (h : Fit o m [] order) : order = [] := by
  cases order with
  | nil => rfl
  | cons a r => have := h.inr 0 a rfl; simp at this; omega
section
variable {o kd v w a T : Int} (h1 : (apply o 4 [] ⟨kd, v⟩) = ([], ⟨4, 0⟩)) (h2 : (apply o 4 [] ⟨1, w⟩).1 = [w]) (h3 : (apply o 4 [w] ⟨kd, v⟩).2 = ⟨2, w⟩) (hT : 0 ≤ T)
theorem none_one (h1 : (apply o 4 [] ⟨kd, v⟩) = ([], ⟨4, 0⟩)) (hT : 0 ≤ T) : ¬ ∃ order, Fit o 4 [⟨0, 0, ⟨kd, v⟩, ⟨2, w⟩, a, T⟩] order := by
  rw [fit_goes]
  rintro ⟨rest, hg⟩
  cases hg with
  | done h => have := h 0 _ rfl hT; simp at this
  | step hn hg =>
    rename_i k x rest
    have hk := hn.at_
    match k, hk with
    | 0, hk =>
      cases hk
      have := hn.told hT
      rw [h1] at this
      simp at this
    | k + 1, hk => simp at hk
theorem none_two (h1 : (apply o 4 [] ⟨kd, v⟩) = ([], ⟨4, 0⟩)) : ∃ order, Fit o 4 [⟨0, 0, ⟨kd, v⟩, ⟨4, 0⟩, a, T⟩] order := by
  rw [fit_goes]
  refine ⟨[((0 : Nat) : Int)], .step (x := ⟨0, 0, ⟨kd, v⟩, ⟨4, 0⟩, a, T⟩) ⟨rfl, by simp, fun j y hy hj => ?_, fun _ => by rw [h1]⟩ (.done fun k s hs _ => ?_)⟩
  · have := (List.getElem?_eq_some_iff.1 hy).1
    simp at this; omega
  · have := (List.getElem?_eq_some_iff.1 hs).1
    simp at this; subst this; simp
theorem none_three (h1 : (apply o 4 [] ⟨kd, v⟩) = ([], ⟨4, 0⟩)) (h2 : (apply o 4 [] ⟨1, w⟩).1 = [w]) (h3 : (apply o 4 [w] ⟨kd, v⟩).2 = ⟨2, w⟩) : ∃ order, Fit o 4 [⟨0, 0, ⟨kd, v⟩, ⟨2, w⟩, a, T⟩, ⟨1, 0, ⟨1, w⟩, ⟨0, 0⟩, T, -1⟩] order := by
  rw [fit_goes]
  refine ⟨[((1 : Nat) : Int), ((0 : Nat) : Int)], .step (x := ⟨1, 0, ⟨1, w⟩, ⟨0, 0⟩, T, -1⟩) ⟨rfl, by simp, fun j y hy hj _ => ?_, fun h => by simp at h⟩ (.step (x := ⟨0, 0, ⟨kd, v⟩, ⟨2, w⟩, a, T⟩) ⟨rfl, by simp, fun j y hy hj hm => ?_, fun _ => by rw [h2, h3]⟩ (.done fun k s hs _ => ?_))⟩
  · match j, hy with
    | 0, hy => cases hy; simp [before]
    | 1, hy => exact absurd rfl hj
    | j + 2, hy => simp at hy
  · match j, hy with
    | 0, hy => exact absurd rfl hj
    | 1, hy => simp at hm
    | j + 2, hy => simp at hy
  · match k, hs with
    | 0, hs => simp
    | 1, hs => simp
    | k + 2, hs => simp at hs
theorem none_four (h1 : (apply o 4 [] ⟨kd, v⟩) = ([], ⟨4, 0⟩)) (hT : 0 ≤ T) : ¬ ∃ order, Fit o 4 [⟨0, 0, ⟨kd, v⟩, ⟨2, w⟩, a, T⟩, ⟨1, 0, ⟨1, w⟩, ⟨0, 0⟩, T + 1, -1⟩] order := by
  rw [fit_goes]
  rintro ⟨rest, hg⟩
  cases hg with
  | done h => have := h 0 _ rfl hT; simp at this
  | step hn hg =>
    rename_i k x rest
    have hk := hn.at_
    match k, hk with
    | 0, hk =>
      cases hk
      have := hn.told hT
      rw [h1] at this
      simp at this
    | 1, hk =>
      cases hk
      have := hn.free 0 _ rfl (by decide) (by simp)
      simp [before] at this
      omega
    | k + 2, hk => simp at hk
end
theorem none_six (o : Int) : ∃ order, Fit o 4 [] order := by
  rw [fit_goes]
  exact ⟨[], .done fun k s hs => by simp at hs⟩
/-- the law, of an object -/
theorem none_obj (x0 v w f t : Int) (o kd : Int) (x3 : List (List V)) (x3b : Bool) (ho : IntKind.u8.wrap (1 + Int.tmod x0 3) = o) (hkd : [[V.int .u8 0], [V.int .u8 2], [V.int .u8 3], [V.int .u8 2]][o.toNat]? = some [.int .u8 kd]) (ho1 : 1 ≤ o) (ho3 : o ≤ 3) (hk : 0 ≤ kd)
    (hv : -2147483648 ≤ v ∧ v ≤ 2147483647) (hw : -2147483648 ≤ w ∧ w ≤ 2147483647) (hf : 0 ≤ f ∧ f ≤ 255) (ht : 0 ≤ t ∧ t ≤ 255)
    (h1 : (apply o 4 [] ⟨kd, v⟩) = ([], ⟨4, 0⟩)) (h2 : (apply o 4 [] ⟨1, w⟩).1 = [w]) (h3 : (apply o 4 [w] ⟨kd, v⟩).2 = ⟨2, w⟩) : lawNone 40 x0 v w x3 x3b f t = some (.ret [.bool true], []) := by
  have hF : ∀ (l : List Sp) (z : Nat), (z = 8 ∨ l = []) → (∀ y ∈ l, 0 ≤ y.op.k) → (∀ y ∈ l, -2147483648 ≤ y.op.v ∧ y.op.v ≤ 2147483647) → ∃ ok res, call 40 22 [.int .u8 o, .int .i64 4, .sl z (l.map Sp.v) false] [] = some (.ret [res, .bool ok], []) ∧ V.free res = true ∧
      (ok = true → ∃ order zr br, res = .sl zr (order.map (intV .i64)) br ∧ (zr = 1 ∨ order = [] ∧ zr = 0 ∧ br = false) ∧ Fit o 4 l order) ∧ (ok = false → res = .sl 1 [] false ∧ (l.length ≤ 8 → ¬ ∃ order, Fit o 4 l order)) ∧ (8 < l.length → ok = false) := fun l z hz hop hv => find_call 40 o 4 z l false [] hz (by omega) hop hv (by omega)
  have hyes : ∀ {ok : Bool} {res : V} {l : List Sp}, l.length ≤ 8 → (ok = false → res = .sl 1 [] false ∧ (l.length ≤ 8 → ¬ ∃ order, Fit o 4 l order)) → (∃ order, Fit o 4 l order) → ok = true := fun {ok res l} hl h he => by
    cases ok with
    | true => rfl
    | false => exact absurd he ((h rfl).2 hl)
  have hno : ∀ {ok : Bool} {res : V} {l : List Sp}, (ok = true → ∃ order zr br, res = V.sl zr (order.map (intV .i64)) br ∧ (zr = 1 ∨ order = [] ∧ zr = 0 ∧ br = false) ∧ Fit o 4 l order) → (¬ ∃ order, Fit o 4 l order) → ok = false := fun {ok res l} h he => by
    cases ok with
    | false => rfl
    | true => obtain ⟨order, _, _, _, _, hf⟩ := h rfl; exact absurd ⟨order, hf⟩ he
  have w1 : IntKind.i64.wrap f = f := by rw [w64] <;> omega
  have w2 : IntKind.i64.wrap t = t := by rw [w64] <;> omega
  have w3 : IntKind.i64.wrap (f + t) = f + t := by rw [w64] <;> omega
  have w4 : IntKind.i64.wrap (f + t + 1) = f + t + 1 := by rw [w64] <;> omega
  obtain ⟨b1, r1, c1, -, y1, n1, -⟩ := hF [⟨0, 0, ⟨kd, v⟩, ⟨2, w⟩, f, f + t⟩] 8 (.inl rfl) (by simpa using hk) (by simpa using hv)
  obtain ⟨b2, r2, c2, -, y2, n2, -⟩ := hF [⟨0, 0, ⟨kd, v⟩, ⟨4, 0⟩, f, f + t⟩] 8 (.inl rfl) (by simpa using hk) (by simpa using hv)
  obtain ⟨b3, r3, c3, -, y3, n3, -⟩ := hF [⟨0, 0, ⟨kd, v⟩, ⟨2, w⟩, f, f + t⟩, ⟨1, 0, ⟨1, w⟩, ⟨0, 0⟩, f + t, -1⟩] 8 (.inl rfl) (by simpa using hk) (by simpa using ⟨hv, hw⟩)
  obtain ⟨b4, r4, c4, -, y4, n4, -⟩ := hF [⟨0, 0, ⟨kd, v⟩, ⟨2, w⟩, f, f + t⟩, ⟨1, 0, ⟨1, w⟩, ⟨0, 0⟩, f + t + 1, -1⟩] 8 (.inl rfl) (by simpa using hk) (by simpa using ⟨hv, hw⟩)
  obtain ⟨b5, r5, c5, -, -, -, n5⟩ := hF (List.replicate 9 ⟨0, 0, ⟨0, 0⟩, ⟨0, 0⟩, 0, 0⟩) 8 (.inl rfl) (by intro y hy; rw [(List.mem_replicate.1 hy).2]; decide) (by intro y hy; rw [(List.mem_replicate.1 hy).2]; decide)
  obtain ⟨b6, r6, c6, -, y6, n6, -⟩ := hF [] 0 (.inr rfl) (by simp) (by simp)
  obtain rfl := hno y1 (none_one h1 (by omega))
  obtain rfl := hyes (by simp) n2 (none_two h1)
  obtain rfl := hyes (by simp) n3 (none_three h1 h2 h3)
  obtain rfl := hno y4 (none_four h1 (by omega))
  obtain rfl : b5 = false := n5 (by decide)
  obtain rfl := hyes (by simp) n6 (none_six o)
  obtain ⟨order, zr, br, rfl, -, hfit⟩ := y6 rfl
  obtain rfl := fit_nil_order hfit
  have c5' : call 40 22 [.int .u8 o, .int .i64 4, .sl 8 (List.replicate 9 [V.int .i64 0, .int .i64 0, .int .u8 0, .int .i32 0, .int .u8 0, .int .i32 0, .int .i64 0, .int .i64 0]) false] [] = some (.ret [r5, .bool false], []) := c5
  simp only [List.map_cons, List.map_nil] at c1 c2 c3 c4 c6
  have hput : ∀ T : Int, [V.int .i64 1, .int .i64 0, .int .u8 1, .int .i32 w, .int .u8 0, .int .i32 0, .int .i64 T, .int .i64 (-1)] = Sp.v ⟨1, 0, ⟨1, w⟩, ⟨0, 0⟩, T, -1⟩ := fun _ => rfl
  have hcond : (True ∧ o.toNat < [[V.int .u8 0], [V.int .u8 2], [V.int .u8 3], [V.int .u8 2]].length ∧ (some 34 : Option Nat) ≠ some 32) := ⟨trivial, by simp; omega, by decide⟩
  have h9 : (9 = 9 ∧ 9 < lim ∧ 8 = 8) := ⟨rfl, by unfold lim; omega, rfl⟩
  unfold lawNone
  rw [ho]
  simp only [nv_int (show 0 ≤ o by omega), bdS_some]
  rw [if_pos hcond]
  simp only [hkd, bd_some, List.getElem?_cons_zero, bld_op, w1, w2, w3, w4, bld_span, spv_len, Nat.le_refl, if_true, setSp, List.drop_zero, spv_all, bsl_sp1, hput, bsl_sp2, set_res, c1, c2, c3, c4, c6, cl_ret, List.getElem?_cons_succ, c5', if_pos h9, known_call, one1_one, bv_bool, uop_not, Bool.not_false, slc_sl, List.map_nil, List.length_nil]
  rfl
/-- SearchNone -/
theorem none_call (x0 v w f t : Int) (x3 : List Int) (x3b : Bool) (h0 : 0 ≤ x0) (hv : -2147483648 ≤ v ∧ v ≤ 2147483647) (hw : -2147483648 ≤ w ∧ w ≤ 2147483647) (hf : 0 ≤ f ∧ f ≤ 255) (ht : 0 ≤ t ∧ t ≤ 255) :
    call 41 6 [.int .u8 x0, .int .i32 v, .int .i32 w, .sl 1 (x3.map (intV .u8)) x3b, .int .u8 f, .int .u8 t] [] = some (.ret [.bool true], []) := by
  obtain ⟨o, ho, ho1, ho2⟩ := obj_of x0 h0
  rw [lawNone_eq]
  have : lawNone 40 x0 v w (x3.map (intV .u8)) x3b f t = some (.ret [.bool true], []) := by
    obtain rfl | rfl | rfl : o = 1 ∨ o = 2 ∨ o = 3 := by omega
    · exact none_obj x0 v w f t 1 2 _ _ ho rfl (by decide) (by decide) (by decide) hv hw hf ht rfl rfl (by simp [apply, do4, most])
    · exact none_obj x0 v w f t 2 3 _ _ ho rfl (by decide) (by decide) (by decide) hv hw hf ht rfl rfl (by simp [apply, do5, most])
    · exact none_obj x0 v w f t 3 2 _ _ ho rfl (by decide) (by decide) (by decide) hv hw hf ht rfl rfl (by simp [apply, do8, most])
  rw [this]
  exact gcw_ret (by simp) (by simp)
end Go.Proofs.Try
