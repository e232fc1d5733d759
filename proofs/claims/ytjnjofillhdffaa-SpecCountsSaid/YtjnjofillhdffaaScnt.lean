import Derived.Test.YtjnjofillhdffaaSask
/-! the law SpecCounts: it returns true -/
set_option linter.unusedVariables false
set_option linter.unusedSimpArgs false
namespace Go.Proofs.Try
open Go.L Go.Rp
set_option maxRecDepth 100000
/-- by how much there are more -/
def dl (c : Int) : Int := if c = 1 then 1 else if c = 2 then -1 else 0
def cnt : List R → Int
  | [] => 0
  | r :: l => dl r.c + cnt l
theorem dl_le (c : Int) : -1 ≤ dl c ∧ dl c ≤ 1 := by
  unfold dl
  split
  · omega
  · split <;> omega
theorem cnt_append : ∀ a b : List R, cnt (a ++ b) = cnt a + cnt b
  | [], b => by simp [cnt]
  | r :: a, b => by simp [cnt, cnt_append a b]; omega
theorem cnt_le : ∀ l : List R, -(l.length : Int) ≤ cnt l ∧ cnt l ≤ l.length
  | [] => by simp [cnt]
  | r :: l => by have := cnt_le l; have := dl_le r.c; simp [cnt]; omega
theorem cnt_zero (n : Nat) : cnt (List.replicate n ⟨0, 0⟩) = 0 := by
  induction n with
  | zero => rfl
  | succ n ih => rw [List.replicate_succ, cnt, ih]; rfl
theorem cnt_take {l : List R} {k : Nat} {r : R} (h : l[k]? = some r) : cnt (l.take (k + 1)) = cnt (l.take k) + dl r.c := by
  rw [List.take_add_one, h, cnt_append]; simp [cnt]
theorem cnt_set : ∀ (l : List R) (k : Nat) (r x : R), l[k]? = some r → cnt (l.set k x) = cnt l - dl r.c + dl x.c
  | [], k, r, x, h => by simp at h
  | a :: l, 0, r, x, h => by simp at h; subst h; simp [cnt]; omega
  | a :: l, k + 1, r, x, h => by simp at h; simp [cnt, cnt_set l k r x h]; omega
theorem apply_cnt (o m : Int) (s : List Int) (x : O) : ((apply o m s x).1.length : Int) = s.length + dl (apply o m s x).2.c := by
  have hu := upto_le x.v s
  unfold apply
  split
  · unfold do4; repeat' split
    all_goals (simp [dl]; try omega)
  · split
    · unfold do5; repeat' split
      all_goals (simp [dl]; try omega)
    · split
      · unfold do8; repeat' split
        all_goals (simp [dl]; try omega)
      · simp [dl]
theorem run_cnt (o m : Int) : ∀ (os : List O) (s : List Int), ((run o m s os).1.length : Int) = s.length + cnt (run o m s os).2
  | [], s => by simp [run, cnt]
  | x :: os, s => by
    have h1 := apply_cnt o m s x
    have h2 := run_cnt o m os (apply o m s x).1
    simp only [run, cnt]
    omega
theorem batL_cnt (o m : Int) (os : List O) : ∀ (l : List Int) (s : List Int) (told : List R), l.Nodup → (∀ x ∈ l, 0 ≤ x ∧ x < (told.length : Int)) → (∀ x ∈ l, told[x.toNat]? = some ⟨0, 0⟩) → ((batL o m os l s told).1.length : Int) = s.length + (cnt (batL o m os l s told).2 - cnt told)
  | [], s, told, _, _, _ => by simp [batL]
  | x :: l, s, told, hn, hl, ht => by
    obtain ⟨n1, n2⟩ := List.nodup_cons.1 hn
    have h1 := apply_cnt o m s (oAt os x)
    have h2 := batL_cnt o m os l (apply o m s (oAt os x)).1 (told.set x.toNat (apply o m s (oAt os x)).2) n2 (fun y hy => by rw [List.length_set]; exact hl y (List.mem_cons_of_mem _ hy)) (fun y hy => by
      have hx := hl x (by simp)
      have hy' := hl y (List.mem_cons_of_mem _ hy)
      have hne : x.toNat ≠ y.toNat := fun h => n1 (by
        obtain rfl : x = y := by omega
        exact hy)
      rw [List.getElem?_set_ne hne]
      exact ht y (List.mem_cons_of_mem _ hy))
    have h3 := cnt_set told x.toNat ⟨0, 0⟩ (apply o m s (oAt os x)).2 (ht x (by simp))
    have h4 : dl 0 = 0 := rfl
    simp only [batL]
    rw [h2, h3, h1]
    simp only [h4]
    omega
theorem ordOf_nodup (o : Int) (os : List O) : (ordOf o os).Nodup := by
  unfold ordOf
  split
  · exact ordL_nodup _
  · unfold rng
    refine List.Pairwise.map _ (fun a b h => ?_) (List.nodup_range' (s := 0) (n := os.length) (step := 1))
    intro h'
    exact h (Int.ofNat.inj h')
theorem batch_cnt (o m : Int) (s : List Int) (os : List O) : ((batch o m s os).1.length : Int) = s.length + cnt (batch o m s os).2 := by
  have := batL_cnt o m os (ordOf o os) s (List.replicate os.length ⟨0, 0⟩) (ordOf_nodup o os) (fun x hx => by
    have := ordOf_mem.1 hx; simp; omega) (fun x hx => by
    have := ordOf_mem.1 hx
    rw [List.getElem?_replicate, if_pos (by omega)])
  rw [cnt_zero] at this
  unfold batch
  omega
theorem rw0 (r : R) : (R.w r)[0]? = some (.int .u8 r.c) := rfl
theorem cnt_step (N : Nat) (s v5 v10 : V) (l1 : List (List V)) (T B : List R) (b1 b2 : Bool) (H : Heap) (next : List V → Heap → Option (Res × Heap)) (u : V) (n j : Int) (k : Nat) {r r' : R} (h1 : T[k]? = some r) (h2 : B[k]? = some r') (hn : -1000000 ≤ n ∧ n ≤ 1000000) (hj : -1000000 ≤ j ∧ j ≤ 1000000) (hk : k < 1000000) :
    lawCnt_l18 N s l1 v5 (.sl 2 (T.map R.w) b1) v10 (.sl 2 (B.map R.w) b2) [.int .i64 n, .int .i64 j, .int .i64 (k : Int), u] H next = next [.int .i64 (n + dl r.c), .int .i64 (j + dl r'.c), .int .i64 ((k + 1 : Nat) : Int), .bool false] H := by
  have hlt : (k : Int) < (T.length : Int) := by have := (List.getElem?_eq_some_iff.1 h1).1; omega
  have e1 : IntKind.i64.wrap ((k : Int) + 1) = ((k + 1 : Nat) : Int) := wN (by omega) (by unfold lim; omega)
  have w1 : IntKind.i64.wrap (n + 1) = n + 1 := w64 (by omega) (by omega)
  have w2 : IntKind.i64.wrap (n - 1) = n + -1 := by rw [w64 (by omega) (by omega)]; omega
  have w3 : IntKind.i64.wrap (j + 1) = j + 1 := w64 (by omega) (by omega)
  have w4 : IntKind.i64.wrap (j - 1) = j + -1 := by rw [w64 (by omega) (by omega)]; omega
  have t12 : ((1 : Int) == 2) = false := rfl
  have t21 : ((2 : Int) == 1) = false := rfl
  have d1 : dl 1 = 1 := rfl
  have d2 : dl 2 = -1 := rfl
  have hd : ∀ c : Int, (c = 1 ∧ dl c = 1) ∨ (c = 2 ∧ dl c = -1) ∨ ((c == 1) = false ∧ (c == 2) = false ∧ dl c = 0) := fun c => by
    by_cases h : c = 1
    · subst h; exact .inl ⟨rfl, rfl⟩
    · by_cases h' : c = 2
      · subst h'; exact .inr (.inl ⟨rfl, rfl⟩)
      · exact .inr (.inr ⟨by simpa using h, by simpa using h', by simp [dl, h, h']⟩)
  rcases hd r.c with ⟨a1, a2⟩ | ⟨a1, a2⟩ | ⟨a1, a2, a3⟩ <;> rcases hd r'.c with ⟨c1, c2⟩ | ⟨c1, c2⟩ | ⟨c1, c2, c3⟩
  all_goals
    simp only [lawCnt_l18, gv, List.getD_cons_succ, List.getD_cons_zero, slc_sl, List.length_map, bop_i64_lss, bd_some, bv_bool, hlt, decide_true, if_true, nv_nat, bdS_some, slk_sl, get_rs, h1, h2, Option.map_some, rw0, bop_u8_eql, a1, a2, c1, c2, beq_self_eq_true, t12, t21, Bool.false_eq_true, if_false, bop_i64_add, bop_i64_sub, w1, w2, w3, w4, e1, d1, d2]
  all_goals try simp only [a3]
  all_goals try simp only [c3]
  all_goals try simp only [Int.add_zero]
theorem cnt_loop (N : Nat) (s : List Int) (z : Nat) (b : Bool) (hz : z = 1 ∨ s = []) (a1 a2 : List Int) (T B : List R) (b1 b2 c1 c2 : Bool) (H : Heap) (hs : s.length ≤ 200) (hT : T.length ≤ 200) (hB : B.length = T.length) (h1 : (a1.length : Int) = s.length + cnt T) (h2 : (a2.length : Int) = s.length + cnt B) (hN : 210 ≤ N) : ∀ (d k M : Nat) (u : V), k + d = T.length → d < M →
    loopx M (lawCnt_l18 N (.sl z (s.map (intV .i32)) b) (s.map (intV .i32)) (.sl 1 (a1.map (intV .i32)) c1) (.sl 2 (T.map R.w) b1) (.sl 1 (a2.map (intV .i32)) c2) (.sl 2 (B.map R.w) b2)) [.int .i64 (s.length + cnt (T.take k)), .int .i64 (s.length + cnt (B.take k)), .int .i64 (k : Int), u] H = some (.ret [.bool true], H)
  | d, k, 0, _, _, h => by omega
  | 0, k, M + 1, u, hk, _ => by
    obtain rfl : k = T.length := by omega
    have cs := same_call N s s 1 z false b H (.inl rfl) hz (by unfold lim; omega) (by omega)
    rw [decide_eq_true rfl] at cs
    have e1 : ((a1.length : Int) == (s.length : Int) + cnt T) = true := by rw [h1]; simp
    have e2 : ((a2.length : Int) == (s.length : Int) + cnt B) = true := by rw [h2]; simp
    rw [loopx_succ, List.take_length, ← hB, List.take_length, hB]
    simp only [lawCnt_l18, gv, List.getD_cons_succ, List.getD_cons_zero, slc_sl, List.length_map, bop_i64_lss, bd_some, bv_bool, Int.lt_irrefl, decide_false, Bool.false_eq_true, if_false, bop_i64_eql, e1, e2, if_true]
    rw [cs, cl_ret, one1_one]
  | d + 1, k, M + 1, u, hk, hM => by
    obtain ⟨r, hr⟩ : ∃ r, T[k]? = some r := ⟨_, List.getElem?_eq_getElem (by omega)⟩
    obtain ⟨r', hr'⟩ : ∃ r, B[k]? = some r := ⟨_, List.getElem?_eq_getElem (by omega)⟩
    have q1 := cnt_le (T.take k)
    have q2 := cnt_le (B.take k)
    rw [List.length_take] at q1 q2
    have ih := cnt_loop N s z b hz a1 a2 T B b1 b2 c1 c2 H hs hT hB h1 h2 hN d (k + 1) M (.bool false) (by omega) (by omega)
    rw [loopx_succ, cnt_step N _ _ _ _ T B b1 b2 H _ u _ _ k hr hr' (by omega) (by omega) (by omega)]
    rw [cnt_take hr, cnt_take hr', ← Int.add_assoc, ← Int.add_assoc] at ih
    exact ih
theorem counts_call (n : Nat) (o m : Int) (z : Nat) (s : List Int) (b : Bool) (zo : Nat) (os : List O) (bo : Bool) (H : Heap) (hz : z = 1 ∨ s = []) (hzo : zo = 2 ∨ os = []) (ho : 0 ≤ o) (hk : ∀ x ∈ os, 0 ≤ x.k) (hs : Small os) (hsl : s.length ≤ 200) (hol : os.length ≤ 200) (hn : 801 ≤ n) :
    call n 28 [.int .u8 o, .int .i64 m, .sl z (s.map (intV .i32)) b, .sl zo (os.map O.w) bo] H = some (.ret [.bool true], H) := by
  obtain ⟨N, rfl⟩ : ∃ N, n = N + 1 := ⟨n - 1, by omega⟩
  have hl : lim > 100000 := by unfold lim; omega
  have c1 := run_call N o m 1 s false zo os bo H (.inl rfl) hzo ho hk (by omega) (by omega)
  have c3 := batch_call N o m 1 s false zo os bo H (.inl rfl) hzo ho hk hs (by omega) (by omega)
  have r1 := run_len o m os s
  have r2 := batL_len o m os (ordOf o os) s (List.replicate os.length ⟨0, 0⟩)
  rw [ordOf_len, List.length_replicate] at r2
  have d2 : (batch o m s os).2.length = os.length := r2.2
  have hcond : (True ∧ (z = 1 ∨ (s.map (intV .i32)).isEmpty = true)) := ⟨trivial, hz.imp id (fun h => by rw [h]; rfl)⟩
  have hcond' : (39 = 39 ∧ (z = 1 ∨ (s.map (intV .i32)).isEmpty = true)) := ⟨rfl, hcond.2⟩
  have t1 : ((os.length : Int) != (os.length : Int)) = false := by simp
  rw [lawCnt_eq]
  unfold lawCnt
  rw [slc_sl, bdS_some, if_pos hcond', app_nil s (by omega), bd_some, c1, cl_ret]
  simp only [List.getElem?_cons_zero, List.getElem?_cons_succ, bd_some]
  rw [c3, cl_ret]
  simp only [List.getElem?_cons_zero, List.getElem?_cons_succ, bd_some, slc_sl, List.length_map, r1.2, d2, t1, Bool.false_eq_true, if_false]
  have := cnt_loop N s z b hz (run o m s os).1 (batch o m s os).1 (run o m s os).2 (batch o m s os).2 false false false false H hsl (by rw [r1.2]; exact hol) (by rw [r1.2, d2]) (run_cnt o m os s) (batch_cnt o m s os) (by omega) os.length 0 N (.bool false) (by rw [r1.2]; omega) (by omega)
  simpa [cnt] using this
/-- SpecCounts -/
theorem counts_law_call (x0 x1 : Int) (s : List Int) (sb : Bool) (os : List O) (ob : Bool) (x4 : Int) (c : List Int) (cb : Bool) (h0 : 0 ≤ x0) (h4 : 0 ≤ x4 ∧ x4 < 256) (hc : small c = true) (hk : ∀ x ∈ os, 0 ≤ x.k) (hs : Small os) (l1 : s.length ≤ 140737488355328) (l2 : os.length ≤ 140737488355328) (l3 : c.length ≤ 140737488355328) :
    call 1000 10 [.int .u8 x0, .int .i64 x1, .sl 1 (s.map (intV .i32)) sb, .sl 2 (os.map O.w) ob, .int .u8 x4, .sl 1 (c.map (intV .u8)) cb] [] = some (.ret [.bool true], []) := by
  refine (lawCounts_eq 999 x0 x1 _ sb _ ob x4 _ cb []).trans ?_
  have hkn := known_true3
  have hfree : V.free.freeLL (os.map O.w) = true := free_map _ (fun _ => rfl) os
  have key : lawCounts 999 x0 x1 (s.map (intV .i32)) sb (os.map O.w) ob x4 (c.map (intV .u8)) cb = some (.ret [.bool true], []) := by
    unfold lawCounts
    simp only [List.length_map]
    rw [w64 (n := (s.length : Int) + (os.length : Int)) (by omega) (by omega), w64 (by omega) (by omega)]
    by_cases hbig : ((s.length : Int) + (os.length : Int) + (c.length : Int) > 200)
    · rw [if_pos (by simpa using hbig), hkn, cl_ret, one1_one]
    · rw [if_neg (by simpa using hbig)]
      have e3 : Int.tmod x4 3 = x4 % 3 := Int.tmod_eq_emod_of_nonneg h4.1
      have w3 : IntKind.u8.wrap (1 + x4 % 3) = 1 + x4 % 3 := w8 (by omega) (by omega)
      have ol := ops_len c 4
      have c0 := counts_call 999 x0 x1 1 s sb 2 os ob [] (.inl rfl) (.inl rfl) h0 hk hs (by omega) (by omega) (by omega)
      have o4 := ops_call 999 c 1 cb 4 [] (.inl rfl) hc (by decide) (by decide) (by omega)
      have c2 := counts_call 999 (1 + x4 % 3) (IntKind.i64.wrap (Int.tmod x4 9)) 0 [] false 2 (ops c 4) false [] (.inr rfl) (.inl rfl) (by omega) (ops_k hc (by decide)) (small_ops hc) (by simp) (by omega) (by omega)
      rw [e3, w3]
      rw [hkn, cl_ret, one1_one, bv_bool, if_pos rfl, c0, cl_ret, one1_one, bv_bool, if_pos rfl, o4, cl_ret, one1_one]
      rw [show ([] : List (List V)) = ([] : List Int).map (intV .i32) from rfl, c2, cl_ret, one1_one]
  rw [key]
  exact gcw_ret (by simp [hfree]) (by simp)
end Go.Proofs.Try
