import Derived.Test.YtodgpfffnnlbhaaRu
/-! the law SortedTurned: it returns true, the end -/
set_option linter.unusedVariables false
set_option linter.unusedSimpArgs false
namespace Go.Proofs.Try
open Go.L Go.Rp Go.Sk
set_option maxRecDepth 100000
theorem turned_front (x0 : Int) (c : List Int) (cb : Bool) (x2 : List Int) (x2b : Bool) (os : List O) (hol : os.length ≤ 80) (m : Int) (h1 h2 : Heap) (hw : IntKind.i64.wrap (Int.tmod x0 15) = m) (hops : call 1000 14 [.sl 1 (c.map (intV .u8)) cb, .int .u8 3] [] = some (.ret [.sl 2 (os.map O.w) false], [])) (e1' : call 1000 15 [.int .i64 m] [] = some (.ret [.ptr 0 0], h1)) (e2 : call 1000 15 [.int .i64 m] h1 = some (.ret [.ptr 1 0], h2)) :
    lwTurned 1000 x0 (c.map (intV .u8)) cb (x2.map (intV .u8)) x2b = if (decide (((x2.length : Nat) : Int) > 60)) then some (.ret [.bool true], h2) else loopx 1000 (lwTurned_l55 1000 (x2.map (intV .u8)) x2b (.sl 2 (os.map O.w) false) (.ptr 0 0) (.ptr 1 0)) [.sl 2 (os.reverse.map O.w) false, .int .i64 0] h2 := by
  obtain ⟨M3, e3⟩ := back_loop x0 (x2.map (intV .u8)) x2b os hol [] os.length 1000 (Nat.le_refl _) (by omega)
  simp only [List.drop_length, List.reverse_nil, List.map_nil] at e3
  have iw : IntKind.i64.wrap ((os.length : Int) - 1) = (os.length : Int) - 1 := w64 (by omega) (by omega)
  unfold lwTurned
  rw [hops, cl_ret, one1_one, slcH_sl, bd_some]
  simp only [List.length_map]
  rw [iw]
  rw [e3]
  unfold lwTurned_l5
  have hk := known11_1000 h2
  clear e3 hops
  generalize call 1000 = C at e1' e2 hk ⊢
  generalize loopx 1000 = X
  simp only [gv, List.getD_cons_zero, List.getD_cons_succ]
  rw [bop_i64_geq, bd_some, bv_bool]
  simp only [lsl, hw]
  rw [if_neg (by decide), e1', cl_ret, one1_one, e2, cl_ret, one1_one, bop_sk_nil, bd_some, bv_bool, if_neg (by decide), bop_sk_nil, bd_some, bv_bool, if_neg (by decide), List.length_map]
  by_cases hl : decide (((x2.length : Nat) : Int) > 60) = true
  · rw [if_pos hl, if_pos hl, bop_sk_neq, bd_some, bv_bool, if_pos rfl, bop_sk_neq, bd_some, bv_bool, if_pos rfl, hk, cl_ret, one1_one]
  · rw [if_neg hl, if_neg hl]
theorem turned_law_call (x0 : Int) (c : List Int) (cb : Bool) (x2 : List Int) (x2b : Bool) (h0 : 0 ≤ x0 ∧ x0 < 256) (hc : small c = true) :
    call 1001 5 [.int .u8 x0, .sl 1 (c.map (intV .u8)) cb, .sl 1 (x2.map (intV .u8)) x2b] [] = some (.ret [.bool true], []) := by
  refine (lwTurned_eq 1000 x0 _ cb _ x2b []).trans ?_
  obtain ⟨os, hos⟩ : ∃ os, os = ops c 3 := ⟨_, rfl⟩
  have hol : os.length ≤ 80 := hos ▸ ops_len c 3
  have hops := ops_call 1000 c 1 cb 3 [] (.inl rfl) hc (by omega) (by omega) (by omega)
  rw [← hos] at hops
  obtain ⟨m, hm⟩ : ∃ m, m = x0 % 15 := ⟨_, rfl⟩
  have hw : IntKind.i64.wrap (Int.tmod x0 15) = m := by rw [Int.tmod_eq_emod_of_nonneg h0.1, w64, hm] <;> omega
  have hmm : max 0 (min m 1000) = m := by omega
  have key : ∃ H, lwTurned 1000 x0 (c.map (intV .u8)) cb (x2.map (intV .u8)) x2b = some (.ret [.bool true], H) := by
    obtain ⟨N1, e1, S1⟩ := new_call 999 [] m
    obtain ⟨N2, e2, S2⟩ := new_call 999 ([] ++ [.box 12 ((ndH ([] : Heap).length 0 (max 0 (min m 1000))).cells (fun _ _ => nilP))]) m
    generalize hh1 : [] ++ [HB.box 12 ((ndH ([] : Heap).length 0 (max 0 (min m 1000))).cells (fun _ _ => nilP))] = h1 at e1 S1 e2 S2
    have l1 : h1.length = 1 := by rw [← hh1]; rfl
    rw [l1] at e2 S2
    generalize hh2 : h1 ++ [HB.box 12 ((ndH 1 0 (max 0 (min m 1000))).cells (fun _ _ => nilP))] = h2 at e2 S2
    rw [hmm] at S1 S2
    have e1' : call 1000 15 [.int .i64 m] [] = some (.ret [.ptr 0 0], h1) := e1
    have sk0 : ∀ s, ∀ b ∈ skB s [], b = s := fun s b hb => by simpa [skB] using hb
    have A : ∃ N, SkAt h2 0 [] m N := ⟨N1, SkAt.keep (h := h1) S1 fun b hb => by rw [← hh2, List.getElem?_append_left (by have := sk0 _ b hb; omega)]⟩
    have front := turned_front x0 c cb x2 x2b os hol m h1 h2 hw hops e1' e2
    by_cases hl : decide (((x2.length : Nat) : Int) > 60) = true
    · exact ⟨h2, by rw [front, if_pos hl]⟩
    · have hl' : x2.length ≤ 60 := by simp at hl; omega
      obtain ⟨M', h', ts', us', e, A', B', hit, dis, lt, hr⟩ := turned_fill x2 x2b (.sl 2 (os.map O.w) false) os.reverse m hl' x2.length 0 1000 h2 [] [] (by omega) (by omega) A ⟨N2, S2⟩ rfl (fun b hb hc => by have := sk0 _ b hb; have := sk0 _ b hc; omega) (by simp) (by simp; omega)
      obtain ⟨H, eH⟩ := turned_end x2 x2b os m hol (by omega) A' B' hit dis (by omega) hr
      exact ⟨H, by rw [front, if_neg hl]; exact e.trans (eH _)⟩
  obtain ⟨H, key⟩ := key
  rw [key]
  exact gcw_ret (by simp [intV]) (by simp)
end Go.Proofs.Try
