import Derived.Test.YtodgpfffnnlbhaaSo4
/-! slices.symMergeCmpFunc, stableCmpFunc, SortStableFunc at []int: what they come to -/
set_option linter.unusedVariables false
set_option linter.unusedSimpArgs false
namespace Go.Proofs.Try
open Go.L Go.Rp
set_option maxRecDepth 100000
section
variable {K : Int → Int} {D : Int → Prop} {H : Heap} {c : V} {n0 : Nat} {p : Nat → Int}
/-- two tests of a search, where the parts lie -/
theorem sym_search (hc : CmpOk n0 c H K D) (n : Nat) (A B P S : List Int) (a m b mid nn lo hi : Nat) (body : List V → Heap → (List V → Heap → Option (Res × Heap)) → Option (Res × Heap))
    (hbody : ∀ st hh next, body st hh next = lSym_l108 n a m b c (.int .i64 (mid : Int)) (.int .i64 (nn : Int)) (.int .i64 ((nn - 1 : Nat) : Int)) st hh next)
    (ha : a = P.length) (hm : m = P.length + A.length) (hb : b = P.length + A.length + B.length) (hmid : mid = (a + b) / 2) (hnn : nn = mid + m) (hl : 2 * b + 1 < lim)
    (hlo : (m > mid ∧ lo = nn - b ∧ hi = mid) ∨ (m ≤ mid ∧ lo = a ∧ hi = m)) (hA0 : 0 < A.length) (hB0 : 0 < B.length)
    (dA : ∀ x ∈ A, D x) (dB : ∀ y ∈ B, D y) (hn : n0 ≤ n) (hn2 : hi < n + lo) :
    ∃ r, a ≤ r ∧ r ≤ m ∧ r ≤ mid ∧ mid ≤ r + B.length ∧ (r - a = 0 ∨ B.length ≤ mid - r ∨ ¬ K (B.getD (mid - r) 0) < K (A.getD (r - a - 1) 0)) ∧ (mid - r = 0 ∨ A.length ≤ r - a ∨ K (B.getD (mid - r - 1) 0) < K (A.getD (r - a) 0)) ∧
      loopx n body [.sl 1 (iL (P ++ (A ++ (B ++ S)))) false, .int .i64 (lo : Int), .int .i64 (hi : Int)] H = symT n a m b c (.int .i64 (mid : Int)) (.int .i64 (nn : Int)) (.int .i64 (r : Int)) (iL (P ++ (A ++ (B ++ S)))) H := by
  obtain ⟨f, caps, hcf, hok, hk, hcmp⟩ := hc.ex
  have hfn : ∀ k : Nat → List V → Option (Res × Heap), fnK c k = k f caps := fun k => by rw [hcf]; rfl
  have gA : ∀ h, a ≤ h → h < m → (P ++ (A ++ (B ++ S)))[h]? = some (A.getD (h - a) 0) := fun h h1 h2 => by
    rw [seg_get P A (B ++ S) (h := h) (by omega) (by omega), ha]
  have gB : ∀ h, m ≤ h → h < b → (P ++ (A ++ (B ++ S)))[h]? = some (B.getD (h - m) 0) := fun h h1 h2 => by
    have := seg_get (P ++ A) B S (h := h) (by simp; omega) (by simp; omega)
    simp only [List.append_assoc, List.length_append] at this
    rw [this, hm]
  have hlom : a ≤ lo ∧ lo ≤ hi ∧ hi ≤ m ∧ hi ≤ mid ∧ mid ≤ lo + B.length := by
    rcases hlo with ⟨h1, h2, h3⟩ | ⟨h1, h2, h3⟩ <;> omega
  obtain ⟨r, r1, r2, r3, r4, r5⟩ := bs_gen (H := H) (l := .sl 1 (iL (P ++ (A ++ (B ++ S)))) false) (body := body) (fin := fun i => symT n a m b c (.int .i64 (mid : Int)) (.int .i64 (nn : Int)) (.int .i64 (i : Int)) (iL (P ++ (A ++ (B ++ S)))) H) (Q := fun h => ¬ K (B.getD (mid - 1 - h) 0) < K (A.getD (h - a) 0)) lo hi
    (fun i j h1 h2 h3 next => by
      rw [hbody]
      have hij : (i : Int) < (j : Int) := by omega
      have e1 : IntKind.i64.wrap ((i : Int) + (j : Int)) = ((i + j : Nat) : Int) := wN (by omega) (by omega)
      have g1 := gA ((i + j) / 2) (by omega) (by omega)
      have g2 := gB (nn - 1 - (i + j) / 2) (by omega) (by omega)
      have l1 := (List.getElem?_eq_some_iff.1 g1).1
      have l2 := (List.getElem?_eq_some_iff.1 g2).1
      have e2 : IntKind.i64.wrap ((((i + j) / 2 : Nat) : Int) + 1) = (((i + j) / 2 + 1 : Nat) : Int) := wN (by omega) (by omega)
      have e3 : IntKind.i64.wrap (((nn - 1 : Nat) : Int) - (((i + j) / 2 : Nat) : Int)) = ((nn - 1 - (i + j) / 2 : Nat) : Int) := wN (by omega) (by omega)
      have e4 : nn - 1 - (i + j) / 2 - m = mid - 1 - (i + j) / 2 := by omega
      rw [e4] at g2
      obtain ⟨q, hq, hqk⟩ := hcmp n hn (B.getD (mid - 1 - (i + j) / 2) 0) (A.getD ((i + j) / 2 - a) 0) (dB _ (getD_mem (by omega))) (dA _ (getD_mem (by omega)))
      simp only [lSym_l108, gv, List.getD_cons_succ, List.getD_cons_zero, bop_i64_lss, bd_some, bv_bool, hij, decide_true, if_true, bop_i64_add, e1, cvt_iu, shr_u, cvt_ui, half_ok (show i + j < lim by omega), bop_i64_sub, e3, nv_nat, bdS_some, lsl, iL_len, own_iff, some_ne, true_and, zlo, ole, Nat.reduceBEq, and_true, l1, l2, iL_get g1, iL_get g2, List.getElem?_cons_zero, hfn, hok, hk]
      rw [hq, cl_ret]
      simp only [one1_one, bop_i64_lss, bd_some, uop_not, bv_bool, bop_i64_add, e2]
      by_cases h : K (B.getD (mid - 1 - (i + j) / 2) 0) < K (A.getD ((i + j) / 2 - a) 0)
      · exact .inr ⟨fun h' => h' h, by simp only [hqk.2 h, decide_true, Bool.not_true, Bool.false_eq_true, if_false]⟩
      · exact .inl ⟨h, by simp only [show ¬ q < 0 from fun h' => h (hqk.1 h'), decide_false, Bool.not_false, if_true]⟩)
    (fun i h1 h2 next => by
      have hii : ¬ (i : Int) < (i : Int) := by omega
      rw [hbody]
      simp only [lSym_l108, gv, List.getD_cons_succ, List.getD_cons_zero, bop_i64_lss, bd_some, bv_bool, hii, decide_false, Bool.false_eq_true, if_false, lsl, symT, symV, symU])
    n lo hi (by omega) (Nat.le_refl _) hlom.2.1 (Nat.le_refl _) (.inl rfl) (.inl rfl)
  refine ⟨r, by omega, by omega, by omega, by omega, ?_, ?_, r5⟩
  · rcases r3 with h | h
    · rcases hlo with ⟨h1, h2, h3⟩ | ⟨h1, h2, h3⟩
      · exact .inr (.inl (by omega))
      · exact .inl (by omega)
    · by_cases h0 : r - a = 0
      · exact .inl h0
      · refine .inr (.inr ?_)
        rw [show mid - r = mid - 1 - (r - 1) by omega, show r - a - 1 = r - 1 - a by omega]
        exact h
  · rcases r4 with h | h
    · rcases hlo with ⟨h1, h2, h3⟩ | ⟨h1, h2, h3⟩
      · exact .inl (by omega)
      · exact .inr (.inl (by omega))
    · refine .inr (.inr ?_)
      rw [show mid - r - 1 = mid - 1 - r by omega]
      simpa using h
theorem symOk_all (hc : CmpOk n0 c H K D) : ∀ (sz n : Nat), n0 + 2 * sz + 8 ≤ n → SymOk c H K D n sz
  | 0, n, _ => fun A B P S a m b hA hB hsz => by
    have := List.length_pos_iff.2 hA; omega
  | sz + 1, n, hn => fun A B P S a m b hA hB hsz ha hm hb hl sA sB hlt dA dB => by
    obtain ⟨N, rfl⟩ : ∃ N, n = N + 1 := ⟨n - 1, by omega⟩
    have ih := symOk_all hc sz N (by omega)
    have hA0 := List.length_pos_iff.2 hA
    have hB0 := List.length_pos_iff.2 hB
    have e1 : IntKind.i64.wrap ((m : Int) - (a : Int)) = ((A.length : Nat) : Int) := wN (by omega) (by omega)
    have e2 : IntKind.i64.wrap ((b : Int) - (m : Int)) = ((B.length : Nat) : Int) := wN (by omega) (by omega)
    have e3 : IntKind.i64.wrap ((a : Int) + (b : Int)) = ((a + b : Nat) : Int) := wN (by omega) (by omega)
    rw [lSym_eq]
    unfold lSym
    rw [e1, e2, e3]
    by_cases h1 : A.length = 1
    · obtain ⟨x, rfl⟩ := List.length_eq_one_iff.1 h1
      have hc1 : ((([x] : List Int).length : Int) == 1) = true := by simp
      rw [if_pos hc1]
      obtain ⟨C, p, s, e⟩ := sym_one hc N x B P S a m b ha (by simpa using hm) (by simpa using hb) hl sB (fun y hy => hlt x (by simp) y hy) (dA x (by simp)) dB (by omega) (by omega)
      exact ⟨C, by simpa using p, s, by simpa using e⟩
    · have hc1 : ¬ (((A.length : Nat) : Int) == 1) = true := by simp; omega
      rw [if_neg hc1]
      by_cases h2 : B.length = 1
      · obtain ⟨x, rfl⟩ := List.length_eq_one_iff.1 h2
        have hc2 : ((([x] : List Int).length : Int) == 1) = true := by simp
        rw [if_pos hc2]
        obtain ⟨C, p, s, e⟩ := sym_last hc N x A P S a m ha hm (by simp at hb; omega) sA (fun y hy => hlt y hy x (by simp)) (dB x (by simp)) dA (by omega) (by simp at hsz; omega)
        exact ⟨C, p, s, by simpa using e⟩
      · have hc2 : ¬ (((B.length : Nat) : Int) == 1) = true := by simp; omega
        rw [if_neg hc2]
        obtain ⟨mid, hmid⟩ : ∃ mid, mid = (a + b) / 2 := ⟨_, rfl⟩
        obtain ⟨nn, hnn⟩ : ∃ nn, nn = mid + m := ⟨_, rfl⟩
        have e4 : IntKind.i64.wrap ((mid : Int) + (m : Int)) = ((nn : Nat) : Int) := wN (by omega) (by omega)
        have e5 : IntKind.i64.wrap ((nn : Int) - 1) = ((nn - 1 : Nat) : Int) := wN (by omega) (by omega)
        have e6 := half_ok (show a + b < lim by omega)
        rw [← hmid] at e6
        simp only [shr_u, bd_some, cvt_ui, e6, bop_i64_add, e4, bop_i64_gtr, bv_bool]
        -- what the search and its end come to
        have key : ∀ (lo hi : Nat) (body : List V → Heap → (List V → Heap → Option (Res × Heap)) → Option (Res × Heap)), (∀ st hh next, body st hh next = lSym_l108 N a m b c (.int .i64 (mid : Int)) (.int .i64 (nn : Int)) (.int .i64 ((nn - 1 : Nat) : Int)) st hh next) →
            ((m > mid ∧ lo = nn - b ∧ hi = mid) ∨ (m ≤ mid ∧ lo = a ∧ hi = m)) → ∃ C, C.Perm (A ++ B) ∧ Sd K C ∧ loopx N body [.sl 1 (iL (P ++ (A ++ (B ++ S)))) false, .int .i64 (lo : Int), .int .i64 (hi : Int)] H = some (.ret [.sl 1 (iL (P ++ (C ++ S))) false], H) := fun lo hi body hbody hlo => by
          obtain ⟨r, r1, r2, r3, r4, r5, r6, r7⟩ := sym_search hc N A B P S a m b mid nn lo hi body hbody ha hm hb hmid hnn hl hlo hA0 hB0 dA dB (by omega) (by omega)
          have hAt : A = A.take (r - a) ++ A.drop (r - a) := (List.take_append_drop _ _).symm
          have hBt : B = B.take (mid - r) ++ B.drop (mid - r) := (List.take_append_drop _ _).symm
          have hcr := cross sA sB (by omega) (by omega) hlt r5 r6
          have tA : (A.take (r - a)).length = r - a := by rw [List.length_take]; omega
          have tB : (B.take (mid - r)).length = mid - r := by rw [List.length_take]; omega
          have dA' : (A.drop (r - a)).length = A.length - (r - a) := List.length_drop
          have dB' : (B.drop (mid - r)).length = B.length - (mid - r) := List.length_drop
          obtain ⟨C1, C2, p1, q1, p2, q2, e⟩ := symT_ok ih (A.take (r - a)) (A.drop (r - a)) (B.take (mid - r)) (B.drop (mid - r)) P S a r m mid nn b (by omega) (by omega) ha (by omega) (by omega) (by omega) hnn (by omega) hl (by omega)
            (sA.sublist (List.take_sublist _ _)) (sB.sublist (List.take_sublist _ _)) (sA.sublist (List.drop_sublist _ _)) (sB.sublist (List.drop_sublist _ _)) (by rw [← hAt, ← hBt]; exact hlt) (by rw [← hAt]; exact dA) (by rw [← hBt]; exact dB)
          rw [← hAt, ← hBt] at e
          refine ⟨C1 ++ C2, ?_, List.pairwise_append.2 ⟨q1, q2, fun u hu v hv => hcr u (p1.mem_iff.1 hu) v (p2.mem_iff.1 hv)⟩, ?_⟩
          · refine (p1.append p2).trans ?_
            conv => rhs; rw [hAt, hBt]
            simp only [List.append_assoc]
            refine List.Perm.append_left _ ?_
            rw [← List.append_assoc, ← List.append_assoc]
            exact List.Perm.append_right _ List.perm_append_comm
          · rw [r7, e]; simp only [List.append_assoc]
        by_cases hg : (m : Int) > (mid : Int)
        · have e7 : IntKind.i64.wrap ((nn : Int) - (b : Int)) = ((nn - b : Nat) : Int) := wN (by omega) (by omega)
          simp only [hg, decide_true, if_true, bop_i64_sub, bd_some, e7, e5]
          exact key (nn - b) mid _ (fun _ _ _ => rfl) (.inl ⟨by omega, rfl, rfl⟩)
        · simp only [hg, decide_false, Bool.false_eq_true, if_false, bop_i64_sub, bd_some, e5]
          exact key a m _ (fun _ _ _ => rfl) (.inr ⟨by omega, rfl, rfl⟩)
/-- two parts of the numbers, each sorted -/
theorem sym_sR (hp : Mono p) (hc : CmpOk n0 c H K D) (n lo i j : Nat) (P S : List Int) (hP : lo = P.length) (hi : 0 < i) (hj : 0 < j) (hl : 2 * (lo + i + j) + 1 < lim) (hD : ∀ x ∈ rng p lo (i + j), D x) (hn : n0 + 2 * (i + j) + 8 ≤ n) :
    call n 94 [.sl 1 (iL (P ++ (sR K p lo i ++ (sR K p (lo + i) j ++ S)))) false, .int .i64 (lo : Int), .int .i64 ((lo + i : Nat) : Int), .int .i64 ((lo + i + j : Nat) : Int), c] H = some (.ret [.sl 1 (iL (P ++ (sR K p lo (i + j) ++ S))) false], H) := by
  have hne : ∀ l k, 0 < k → sR K p l k ≠ [] := fun l k hk h => by have := sR_len (K := K) (p := p) l k; rw [h] at this; simp at this; omega
  obtain ⟨C, q, s, e⟩ := symOk_all hc (i + j) n hn (sR K p lo i) (sR K p (lo + i) j) P S lo (lo + i) (lo + i + j) (hne _ _ hi) (hne _ _ hj) (by rw [sR_len, sR_len]; omega) hP (by rw [sR_len]; omega) (by rw [sR_len, sR_len]; omega) hl (sR_sd hp _ _) (sR_sd hp _ _)
    (fun x hx y hy => sR_lt hp hx hy) (fun x hx => hD x (rng_sub (Nat.le_refl _) (by omega) (rng_mem.2 (sR_mem.1 hx)))) (fun x hx => hD x (rng_sub (Nat.le_add_right _ _) (by omega) (rng_mem.2 (sR_mem.1 hx))))
  rw [e, sR_join hp q s]
end
end Go.Proofs.Try
