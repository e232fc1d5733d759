import Derived.Test.YtooibfffneecfaaLtry
/-! search.Find: an order that fits, if there is one -/
set_option linter.unusedVariables false
set_option linter.unusedSimpArgs false
namespace Go.Proofs.Try
open Go.L Go.Rp
set_option maxRecDepth 100000
/-- those that are not pending, as bits, as far as it was looked -/
structure WholeTo (l : List Sp) (k wn : Nat) : Prop where
  lt : wn < 2 ^ k
  bit : ∀ j : Nat, wn.testBit j = true ↔ j < k ∧ ∃ x, l[j]? = some x ∧ 0 ≤ x.to
theorem wholeTo_zero (l : List Sp) : WholeTo l 0 0 := ⟨by decide, fun j => by simp⟩
theorem wholeTo_yes {l : List Sp} {k wn : Nat} {x : Sp} (h : WholeTo l k wn) (hx : l[k]? = some x) (ht : 0 ≤ x.to) : WholeTo l (k + 1) (wn ||| 2 ^ k) where
  lt := Nat.or_lt_two_pow (Nat.lt_trans h.lt (Nat.pow_lt_pow_right (by decide) (by omega))) (Nat.pow_lt_pow_right (by decide) (by omega))
  bit := fun j => by
    rw [Nat.testBit_or, Bool.or_eq_true, h.bit j, Nat.testBit_two_pow, decide_eq_true_eq]
    constructor
    · rintro (⟨h1, h2⟩ | rfl)
      · exact ⟨by omega, h2⟩
      · exact ⟨by omega, x, hx, ht⟩
    · rintro ⟨h1, h2⟩
      rcases Nat.lt_or_ge j k with h3 | h3
      · exact .inl ⟨h3, h2⟩
      · exact .inr (by omega)
theorem wholeTo_no {l : List Sp} {k wn : Nat} {x : Sp} (h : WholeTo l k wn) (hx : l[k]? = some x) (ht : ¬ 0 ≤ x.to) : WholeTo l (k + 1) wn where
  lt := Nat.lt_trans h.lt (Nat.pow_lt_pow_right (by decide) (by omega))
  bit := fun j => by
    rw [h.bit j]
    constructor
    · rintro ⟨h1, h2⟩; exact ⟨by omega, h2⟩
    · rintro ⟨h1, y, hy, hyt⟩
      rcases Nat.lt_or_ge j k with h3 | h3
      · exact ⟨h3, y, hy, hyt⟩
      · obtain rfl : j = k := by omega
        rw [hx] at hy; cases hy
        exact absurd hyt ht
theorem find_loop {o m : Int} {l : List Sp} {z : Nat} {b : Bool} (hz : z = 8 ∨ l = []) (hl : l.length ≤ 8) (N p : Nat) : ∀ (d k wn M : Nat), k + d = l.length → d < M → WholeTo l k wn → ∃ wn', WholeTo l l.length wn' ∧
    loopx M (lFind_l4 N (.sl z (l.map Sp.v) b) (p, l.map Sp.v)) [.agg [.int .u8 o], .agg [.int .i64 m], .agg [.sl z (l.map Sp.v) b], .sl 1 [] false, .agg [.map 0], .agg [.int .u64 (wn : Int)], .int .i64 (k : Int)] [HB.map []] =
      cl (call N 40 (tryArgs 0 [] false 0 0 [] false) (HH (.sl z (l.map Sp.v) b) wn' o m [])) (fun r h => bd r[0]? fun v => bd r[1]? fun v' => some (Res.ret [v, v'], h)) (fun z h => some (Res.pan z, h))
  | d, k, wn, 0, _, h, _ => by omega
  | 0, k, wn, M + 1, hk, _, hw => by
    obtain rfl : k = l.length := by omega
    refine ⟨wn, hw, ?_⟩
    rw [loopx_succ]
    simp only [lFind_l4, gv, List.getD_cons_succ, List.getD_cons_zero, List.length_map, bop_i64_lss, bd_some, bv_bool, Int.lt_irrefl, decide_false, Bool.false_eq_true, if_false, lcs]
    kernel_rfl
  | d + 1, k, wn, M + 1, hk, hM, hw => by
    have hlt : (k : Int) < (l.length : Int) := by omega
    obtain ⟨x, hx⟩ : ∃ x, l[k]? = some x := ⟨_, List.getElem?_eq_getElem (by omega)⟩
    obtain rfl : z = 8 := hz.resolve_right (by rintro rfl; simp at hx)
    have hst : IntKind.i64.wrap ((k : Int) + 1) = ((k + 1 : Nat) : Int) := step64 (show k < lim by unfold lim; omega)
    have h64 : wn < 2 ^ 64 := Nat.lt_of_lt_of_le hw.lt (Nat.pow_le_pow_right (by decide) (by omega))
    have h2k : 2 ^ k < 2 ^ 64 := Nat.pow_lt_pow_right (by decide) (by omega)
    have hset : ∀ a c : V, setR [a] 0 [c] = [c] := fun a c => rfl
    by_cases ht : 0 ≤ x.to
    · obtain ⟨wn', h1, h2⟩ := find_loop (o := o) (m := m) (b := b) (.inl rfl) hl N p d (k + 1) (wn ||| 2 ^ k) M (by omega) (by omega) (wholeTo_yes hw hx ht)
      refine ⟨wn', h1, Eq.trans ?_ h2⟩
      have ht' : x.to ≥ 0 := ht
      rw [loopx_succ]
      simp only [lFind_l4, gv, List.getD_cons_succ, List.getD_cons_zero, List.length_map, bop_i64_lss, bd_some, bv_bool, hlt, decide_true, if_true, nv_nat, bdS_some, slk_sl, get_sps, hx, Option.map_some, List.drop_zero, spv_all, spv_len, Nat.le_refl, setSp, spv_to, bop_i64_geq, ht', lcs, List.getElem?_cons_zero, bop_shl1 _ (show k < 64 by omega), bop_or64 _ _ h64 h2k, V.cells, List.length_cons, List.length_nil, Nat.zero_add, bop_i64_add, hst, lsl, hset]
    · obtain ⟨wn', h1, h2⟩ := find_loop (o := o) (m := m) (b := b) (.inl rfl) hl N p d (k + 1) wn M (by omega) (by omega) (wholeTo_no hw hx ht)
      refine ⟨wn', h1, Eq.trans ?_ h2⟩
      have ht' : ¬ x.to ≥ 0 := ht
      rw [loopx_succ]
      simp only [lFind_l4, gv, List.getD_cons_succ, List.getD_cons_zero, List.length_map, bop_i64_lss, bd_some, bv_bool, hlt, decide_true, if_true, nv_nat, bdS_some, slk_sl, get_sps, hx, Option.map_some, List.drop_zero, spv_all, spv_len, Nat.le_refl, setSp, spv_to, bop_i64_geq, ht', decide_false, Bool.false_eq_true, if_false, lcs, bop_i64_add, hst, lsl]
theorem fit_goes {o m : Int} {l : List Sp} : (∃ order, Fit o m l order) ↔ ∃ rest, Goes o m l [] [] rest :=
  ⟨fun ⟨order, h⟩ => ⟨order, Fit.goes order [] h⟩, fun ⟨rest, h⟩ => ⟨rest, by have := Goes.fit rest [] (Pre.nil o m l) h; simpa using this⟩⟩
/-- search.Find -/
theorem find_call (n : Nat) (o m : Int) (z : Nat) (l : List Sp) (b : Bool) (h : Heap) (hz : z = 8 ∨ l = []) (ho : 0 ≤ o) (hop : ∀ y ∈ l, 0 ≤ y.op.k) (hv : ∀ y ∈ l, -2147483648 ≤ y.op.v ∧ y.op.v ≤ 2147483647) (hn : 30 ≤ n) :
    ∃ ok res, call n 22 [.int .u8 o, .int .i64 m, .sl z (l.map Sp.v) b] h = some (.ret [res, .bool ok], h) ∧ V.free res = true ∧
      (ok = true → ∃ order zr br, res = .sl zr (order.map (intV .i64)) br ∧ (zr = 1 ∨ order = [] ∧ zr = 0 ∧ br = false) ∧ Fit o m l order) ∧ (ok = false → res = .sl 1 [] false ∧ (l.length ≤ 8 → ¬ ∃ order, Fit o m l order)) ∧ (8 < l.length → ok = false) := by
  obtain ⟨N, rfl⟩ : ∃ N, n = N + 1 := ⟨n - 1, by omega⟩
  rw [lFind_eq]
  have hfr : V.free.freeL [.int .u8 o, .int .i64 m, .sl z (l.map Sp.v) b] = true := by simp
  by_cases hl : 8 < l.length
  · have h8 : ((l.length : Int) > 8) := by omega
    refine ⟨false, .sl 1 [] false, ?_, rfl, fun h => (by cases h), fun _ => ⟨rfl, fun h => by omega⟩, fun _ => rfl⟩
    unfold lFind
    simp only [V.cells, List.length_cons, List.length_nil, Nat.zero_add, if_true, List.getElem?_cons_zero, bd_some, slc_sl, List.length_map, h8, decide_true]
    exact gcw_ret hfr rfl
  · have h8 : ¬ ((l.length : Int) > 8) := by omega
    obtain ⟨wn, hw, hloop⟩ := find_loop (o := o) (m := m) (b := b) hz (by omega) N z l.length 0 0 N (by omega) (by omega) (wholeTo_zero l)
    have hwh : Whole l wn := ⟨Nat.lt_of_lt_of_le hw.lt (Nat.pow_le_pow_right (by decide) (by omega)), fun k => (hw.bit k).trans ⟨fun h => h.2, fun h => ⟨by obtain ⟨x, hx, _⟩ := h; exact (List.getElem?_eq_some_iff.1 hx).1, h⟩⟩⟩
    obtain ⟨ok, res, ents', hcall, -, htr⟩ := try_ok (b := b) hz (by omega) ho hop hv hwh l.length N [] [] 0 0 false 0 false [] ⟨Nat.two_pow_pos _, fun k => by simp⟩ (remain_nil _) (by simp; omega) (Nat.le_refl _) (fun x hx => by cases hx) (.inr ⟨rfl, rfl, rfl⟩) (.inr rfl) (fun e he => by cases he) (by omega)
    simp only [List.map_nil] at hcall
    refine ⟨ok, res, ?_, ?_, fun h => ?_, fun h => ?_, fun h => absurd h hl⟩
    · have hlf : lFind N o m (.sl z (l.map Sp.v) b) = some (.ret [res, .bool ok], HH (.sl z (l.map Sp.v) b) wn o m (ents'.map encE)) := by
        unfold lFind
        simp only [V.cells, List.length_cons, List.length_nil, Nat.zero_add, if_true, List.getElem?_cons_zero, bd_some, slc_sl, List.length_map, h8, decide_false, Bool.false_eq_true, if_false]
        refine hloop.trans ?_
        rw [hcall]
        simp only [cl_ret, List.getElem?_cons_zero, List.getElem?_cons_succ, bd_some]
      rw [hlf]
      refine gcw_ret hfr ?_
      cases hok : ok with
      | true =>
        obtain ⟨rest, zr, br, rfl, _, _⟩ := htr.1 hok
        simp
      | false =>
        obtain ⟨rfl, _⟩ := htr.2 hok
        rfl
    · cases hok : ok with
      | true =>
        obtain ⟨rest, zr, br, rfl, _, _⟩ := htr.1 hok
        simp
      | false =>
        obtain ⟨rfl, _⟩ := htr.2 hok
        rfl
    · obtain ⟨rest, zr, br, h1, h2, h3⟩ := htr.1 h
      refine ⟨rest, zr, br, by simpa using h1, by simpa using h2, ?_⟩
      have := Goes.fit rest [] (Pre.nil o m l) h3
      simpa using this
    · obtain ⟨h1, h2⟩ := htr.2 h
      exact ⟨h1, fun _ hf => h2 (fit_goes.1 hf)⟩
end Go.Proofs.Try
