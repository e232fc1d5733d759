import Derived.Test.YtodgpfffnnlbhaaRq
/-! the law SortedSame: it returns true -/
set_option linter.unusedVariables false
set_option linter.unusedSimpArgs false
namespace Go.Proofs.Try
open Go.L Go.Rp Go.Sk
set_option maxRecDepth 100000
theorem known11_n (n : Nat) (h : Heap) : call (n + 300) 13 [] h = some (.ret [.bool true], h) := by kernel_rfl
theorem known11_2000 (h : Heap) : call 2000 13 [] h = some (.ret [.bool true], h) := known11_n 1700 h
theorem small_ops {c : List Int} {kinds : Int} (hc : small c = true) : Small (ops c kinds) := ops_v hc
theorem same_law_call (x0 x1 : Int) (bs : List Int) (bb : Bool) (a : List O) (ab : Bool) (b : List O) (b2 : Bool) (c : List Int) (cb : Bool) (h1 : 0 ≤ x1 ∧ x1 < 256) (hbs : small bs = true) (ha : Small a) (hb : Small b) (hc : small c = true) (l1 : bs.length ≤ 140737488355328) (l2 : a.length ≤ 140737488355328) (l3 : b.length ≤ 140737488355328) (l4 : c.length ≤ 140737488355328) :
    call 2001 8 [.int .i64 x0, .int .u8 x1, .sl 1 (bs.map (intV .u8)) bb, .sl 2 (a.map O.w) ab, .sl 2 (b.map O.w) b2, .sl 1 (c.map (intV .u8)) cb] [] = some (.ret [.bool true], []) := by
  refine (lwSame_eq 2000 x0 x1 _ bb _ ab _ b2 _ cb []).trans ?_
  have hfree : ∀ os : List O, V.free.freeLL (os.map O.w) = true := fun os => free_map _ (fun _ => rfl) os
  have key : ∃ H, lwSame 2000 x0 x1 (bs.map (intV .u8)) bb (a.map O.w) ab (b.map O.w) b2 (c.map (intV .u8)) cb = some (.ret [.bool true], H) := by
    unfold lwSame
    simp only [List.length_map]
    rw [w64 (n := (bs.length : Int) + (a.length : Int)) (by omega) (by omega), w64 (n := (bs.length : Int) + (a.length : Int) + (b.length : Int)) (by omega) (by omega), w64 (by omega) (by omega)]
    by_cases hbig : ((bs.length : Int) + (a.length : Int) + (b.length : Int) + (c.length : Int) > 200)
    · rw [if_pos (by simpa using hbig), known11_2000, cl_ret, one1_one]
      exact ⟨_, rfl⟩
    · rw [if_neg (by simpa using hbig)]
      obtain ⟨H1, c1⟩ := lwsame_call 1999 [] x0 bs bb hbs a b ab b2 ha hb (by omega) (by omega)
      have o2 := ops_call 2000 c 1 cb 2 H1 (.inl rfl) hc (by decide) (by decide) (by omega)
      have hol := ops_len c 2
      obtain ⟨H2, c2⟩ := lwsame_call 1999 H1 (IntKind.i64.wrap (Int.tmod x1 9)) bs bb hbs (ops c 2) b false b2 (small_ops hc) hb (by omega) (by omega)
      rw [known11_2000, cl_ret, one1_one, bv_bool, if_pos rfl, c1, cl_ret, one1_one, bv_bool, if_pos rfl, o2, cl_ret, one1_one, c2, cl_ret, one1_one]
      exact ⟨_, rfl⟩
  obtain ⟨H, key⟩ := key
  rw [key]
  exact gcw_ret (by simp [hfree, intV]) (by simp)
end Go.Proofs.Try
