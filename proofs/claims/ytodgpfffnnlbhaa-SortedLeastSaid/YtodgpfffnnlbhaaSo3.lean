import Derived.Test.YtodgpfffnnlbhaaSo2
/-! slices.symMergeCmpFunc at []int: what it comes to -/
set_option linter.unusedVariables false
set_option linter.unusedSimpArgs false
namespace Go.Proofs.Try
open Go.L Go.Rp
set_option maxRecDepth 100000
/-- the end of symMerge: the parts behind the middle -/
noncomputable def symU (n : Nat) (b : Int) (c : V) (v100 v138 : V) (l : List (List V)) (h : Heap) : Option (Res × Heap) :=
  bd (bop prog .lss 3 v100 v138) fun v153 =>
  bv v153 fun b154 => if b154 then
    bd (bop prog .lss 3 v138 (V.int .i64 b)) fun v155 =>
    bv v155 fun b156 => if b156 then
      clm (call n 94 (V.sl 1 l false :: [v100, v138, (V.int .i64 b), c]) h) 1 fun l157 r158 h159 => some (Res.ret (V.sl 1 l157 false :: []), h159)
    else some (Res.ret (V.sl 1 l false :: []), h)
  else some (Res.ret (V.sl 1 l false :: []), h)
/-- .. ahead of it -/
noncomputable def symV (n : Nat) (a b : Int) (c : V) (v100 v138 v1 : V) (l : List (List V)) (h : Heap) : Option (Res × Heap) :=
  bd (bop prog .lss 3 (V.int .i64 a) v1) fun v146 =>
  bv v146 fun b147 => if b147 then
    bd (bop prog .lss 3 v1 v100) fun v148 =>
    bv v148 fun b149 => if b149 then
      clm (call n 94 (V.sl 1 l false :: [(V.int .i64 a), v1, v100, c]) h) 1 fun l150 r151 h152 => symU n b c v100 v138 l150 h152
    else symU n b c v100 v138 l h
  else symU n b c v100 v138 l h
/-- what comes behind the search -/
noncomputable def symT (n : Nat) (a m b : Int) (c : V) (v100 v101 v1 : V) (l : List (List V)) (hh : Heap) : Option (Res × Heap) :=
  bd (bop prog .sub 3 v101 v1) fun v138 =>
  bd (bop prog .lss 3 v1 (V.int .i64 m)) fun v139 =>
  bv v139 fun b140 => if b140 then
    bd (bop prog .lss 3 (V.int .i64 m) v138) fun v141 =>
    bv v141 fun b142 => if b142 then
      clm (call n 101 (V.sl 1 l false :: [v1, (V.int .i64 m), v138, c]) hh) 1 fun l143 r144 h145 => symV n a b c v100 v138 v1 l143 h145
    else symV n a b c v100 v138 v1 l hh
  else symV n a b c v100 v138 v1 l hh
/-- a merge, as it is said -/
def SymOk (c : V) (H : Heap) (K : Int → Int) (D : Int → Prop) (n sz : Nat) : Prop := ∀ (A B P S : List Int) (a m b : Nat), A ≠ [] → B ≠ [] → A.length + B.length ≤ sz → a = P.length → m = P.length + A.length → b = P.length + A.length + B.length → 2 * b + 1 < lim →
  Sd K A → Sd K B → (∀ x ∈ A, ∀ y ∈ B, x < y) → (∀ x ∈ A, D x) → (∀ y ∈ B, D y) → ∃ C, C.Perm (A ++ B) ∧ Sd K C ∧
    call n 94 [.sl 1 (iL (P ++ (A ++ (B ++ S)))) false, .int .i64 (a : Int), .int .i64 (m : Int), .int .i64 (b : Int), c] H = some (.ret [.sl 1 (iL (P ++ (C ++ S))) false], H)
section
variable {K : Int → Int} {D : Int → Prop} {H : Heap} {c : V}
theorem symU_ok {n sz : Nat} (ih : SymOk c H K D n sz) (A B P S : List Int) (mid e b : Nat) (hsz : A.length + B.length ≤ sz) (hm : mid = P.length) (he : e = P.length + A.length) (hb : b = P.length + A.length + B.length) (hl : 2 * b + 1 < lim)
    (hA : Sd K A) (hB : Sd K B) (hlt : ∀ x ∈ A, ∀ y ∈ B, x < y) (dA : ∀ x ∈ A, D x) (dB : ∀ y ∈ B, D y) : ∃ C, C.Perm (A ++ B) ∧ Sd K C ∧
    symU n b c (.int .i64 (mid : Int)) (.int .i64 (e : Int)) (iL (P ++ (A ++ (B ++ S)))) H = some (.ret [.sl 1 (iL (P ++ (C ++ S))) false], H) := by
  unfold symU
  by_cases h1 : A = []
  · subst h1
    have hc : ¬ (mid : Int) < (e : Int) := by simp at he; omega
    exact ⟨B, .refl _, hB, by simp only [bop_i64_lss, bd_some, bv_bool, hc, decide_false, Bool.false_eq_true, if_false, List.nil_append]⟩
  · have hA0 : 0 < A.length := List.length_pos_iff.2 h1
    have hc : (mid : Int) < (e : Int) := by omega
    by_cases h2 : B = []
    · subst h2
      have hc2 : ¬ (e : Int) < (b : Int) := by simp at hb; omega
      exact ⟨A, by simp, hA, by simp only [bop_i64_lss, bd_some, bv_bool, hc, hc2, decide_true, decide_false, Bool.false_eq_true, if_false, if_true, List.nil_append]⟩
    · have hB0 : 0 < B.length := List.length_pos_iff.2 h2
      have hc2 : (e : Int) < (b : Int) := by omega
      obtain ⟨C, p, s, e1⟩ := ih A B P S mid e b h1 h2 hsz hm he hb hl hA hB hlt dA dB
      refine ⟨C, p, s, ?_⟩
      simp only [bop_i64_lss, bd_some, bv_bool, hc, hc2, decide_true, if_true]
      rw [e1, clm_ret]
theorem symV_ok {n sz : Nat} (ih : SymOk c H K D n sz) (A1 A2 B1 B2 P S : List Int) (a r mid e b : Nat) (h1z : A1.length + B1.length ≤ sz) (h2z : A2.length + B2.length ≤ sz) (ha : a = P.length) (hr : r = P.length + A1.length) (hm : mid = P.length + A1.length + B1.length) (he : e = mid + A2.length) (hb : b = e + B2.length) (hl : 2 * b + 1 < lim)
    (s1 : Sd K A1) (t1 : Sd K B1) (s2 : Sd K A2) (t2 : Sd K B2) (hlt : ∀ x ∈ A1 ++ A2, ∀ y ∈ B1 ++ B2, x < y) (dA : ∀ x ∈ A1 ++ A2, D x) (dB : ∀ y ∈ B1 ++ B2, D y) : ∃ C1 C2, C1.Perm (A1 ++ B1) ∧ Sd K C1 ∧ C2.Perm (A2 ++ B2) ∧ Sd K C2 ∧
    symV n a b c (.int .i64 (mid : Int)) (.int .i64 (e : Int)) (.int .i64 (r : Int)) (iL (P ++ (A1 ++ (B1 ++ (A2 ++ (B2 ++ S)))))) H = some (.ret [.sl 1 (iL (P ++ (C1 ++ (C2 ++ S)))) false], H) := by
  have hU : ∀ C1 : List Int, C1.length = A1.length + B1.length → ∃ C2, C2.Perm (A2 ++ B2) ∧ Sd K C2 ∧ symU n b c (.int .i64 (mid : Int)) (.int .i64 (e : Int)) (iL (P ++ (C1 ++ (A2 ++ (B2 ++ S))))) H = some (.ret [.sl 1 (iL (P ++ (C1 ++ (C2 ++ S)))) false], H) := fun C1 hC => by
    obtain ⟨C2, p, s, e1⟩ := symU_ok ih A2 B2 (P ++ C1) S mid e b h2z (by simp; omega) (by simp; omega) (by simp; omega) hl s2 t2 (fun x hx y hy => hlt x (List.mem_append_right _ hx) y (List.mem_append_right _ hy)) (fun x hx => dA x (List.mem_append_right _ hx)) (fun y hy => dB y (List.mem_append_right _ hy))
    exact ⟨C2, p, s, by simpa only [List.append_assoc] using e1⟩
  unfold symV
  by_cases h1 : A1 = []
  · subst h1
    have hc : ¬ (a : Int) < (r : Int) := by simp at hr; omega
    obtain ⟨C2, p, s, e1⟩ := hU B1 (by simp)
    exact ⟨B1, C2, .refl _, t1, p, s, by simp only [bop_i64_lss, bd_some, bv_bool, hc, decide_false, Bool.false_eq_true, if_false, List.nil_append]; exact e1⟩
  · have hA0 : 0 < A1.length := List.length_pos_iff.2 h1
    have hc : (a : Int) < (r : Int) := by omega
    by_cases h2 : B1 = []
    · subst h2
      have hc2 : ¬ (r : Int) < (mid : Int) := by simp at hm; omega
      obtain ⟨C2, p, s, e1⟩ := hU A1 (by simp)
      exact ⟨A1, C2, by simp, s1, p, s, by simp only [bop_i64_lss, bd_some, bv_bool, hc, hc2, decide_true, decide_false, Bool.false_eq_true, if_false, if_true, List.nil_append]; exact e1⟩
    · have hB0 : 0 < B1.length := List.length_pos_iff.2 h2
      have hc2 : (r : Int) < (mid : Int) := by omega
      obtain ⟨C1, p1, q1, e1⟩ := ih A1 B1 P (A2 ++ (B2 ++ S)) a r mid h1 h2 h1z ha hr hm (by omega) s1 t1 (fun x hx y hy => hlt x (List.mem_append_left _ hx) y (List.mem_append_left _ hy)) (fun x hx => dA x (List.mem_append_left _ hx)) (fun y hy => dB y (List.mem_append_left _ hy))
      obtain ⟨C2, p2, q2, e2⟩ := hU C1 (by rw [p1.length_eq]; simp)
      refine ⟨C1, C2, p1, q1, p2, q2, ?_⟩
      simp only [bop_i64_lss, bd_some, bv_bool, hc, hc2, decide_true, if_true]
      rw [e1, clm_ret, e2]
theorem symT_ok {n sz : Nat} (ih : SymOk c H K D n sz) (A1 A2 B1 B2 P S : List Int) (a r m mid nn b : Nat) (h1z : A1.length + B1.length ≤ sz) (h2z : A2.length + B2.length ≤ sz) (ha : a = P.length) (hr : r = P.length + A1.length) (hmm : m = r + A2.length) (hm : mid = P.length + A1.length + B1.length) (hnn : nn = mid + m) (hb : b = m + B1.length + B2.length) (hl : 2 * b + 1 < lim) (hn : A2.length + B1.length + 3 ≤ n)
    (s1 : Sd K A1) (t1 : Sd K B1) (s2 : Sd K A2) (t2 : Sd K B2) (hlt : ∀ x ∈ A1 ++ A2, ∀ y ∈ B1 ++ B2, x < y) (dA : ∀ x ∈ A1 ++ A2, D x) (dB : ∀ y ∈ B1 ++ B2, D y) : ∃ C1 C2, C1.Perm (A1 ++ B1) ∧ Sd K C1 ∧ C2.Perm (A2 ++ B2) ∧ Sd K C2 ∧
    symT n a m b c (.int .i64 (mid : Int)) (.int .i64 (nn : Int)) (.int .i64 (r : Int)) (iL (P ++ ((A1 ++ A2) ++ ((B1 ++ B2) ++ S)))) H = some (.ret [.sl 1 (iL (P ++ (C1 ++ (C2 ++ S)))) false], H) := by
  obtain ⟨C1, C2, p1, q1, p2, q2, e1⟩ := symV_ok ih A1 A2 B1 B2 P S a r mid (m + B1.length) b h1z h2z ha hr hm (by omega) (by omega) hl s1 t1 s2 t2 hlt dA dB
  refine ⟨C1, C2, p1, q1, p2, q2, ?_⟩
  have e2 : IntKind.i64.wrap ((nn : Int) - (r : Int)) = ((m + B1.length : Nat) : Int) := wN (by omega) (by omega)
  unfold symT
  simp only [bop_i64_sub, bd_some, e2, bop_i64_lss, bv_bool]
  by_cases h1 : A2 = []
  · subst h1
    have hc : ¬ (r : Int) < (m : Int) := by simp at hmm; omega
    simp only [hc, decide_false, Bool.false_eq_true, if_false]
    simpa only [List.append_nil, List.nil_append, List.append_assoc] using e1
  · have hA0 : 0 < A2.length := List.length_pos_iff.2 h1
    have hc : (r : Int) < (m : Int) := by omega
    by_cases h2 : B1 = []
    · subst h2
      have hc2 : ¬ (m : Int) < ((m + ([] : List Int).length : Nat) : Int) := by simp
      simp only [hc, hc2, decide_true, decide_false, Bool.false_eq_true, if_false, if_true]
      simpa only [List.append_nil, List.nil_append, List.append_assoc] using e1
    · have hB0 : 0 < B1.length := List.length_pos_iff.2 h2
      have hc2 : (m : Int) < ((m + B1.length : Nat) : Int) := by omega
      have hrot := rot_call n H c r m (m + B1.length) (P ++ A1) A2 B1 (B2 ++ S) h1 h2 (by simp; omega) (by simp; omega) (by simp; omega) (by simp; omega) hn
      simp only [hc, hc2, decide_true, if_true]
      simp only [List.append_assoc] at hrot e1 ⊢
      rw [hrot, clm_ret, e1]
end
end Go.Proofs.Try
