import Derived.Test.YtodgpfffnnlbhaaReg
/-! the look at a region that draws its order, by masks: for the kernel's own numbers -/
set_option linter.unusedVariables false
namespace Go.TR
/-- a list of numbers as a mask -/
def maskL : List Nat → Nat
  | [] => 0
  | d :: l => (1 <<< d) ||| maskL l
theorem bit_one (d k : Nat) : (1 <<< d).testBit k = (k == d) := by
  rw [Nat.one_shiftLeft, Nat.testBit_two_pow]
  exact Bool.eq_iff_iff.2 ⟨fun h => by simp at h ⊢; omega, fun h => by simp at h ⊢; omega⟩
theorem maskL_bit : ∀ (l : List Nat) (k : Nat), (maskL l).testBit k = l.contains k
  | [], k => by simp [maskL]
  | d :: l, k => by
    rw [maskL, Nat.testBit_or, bit_one, maskL_bit l k, List.contains_cons]
theorem and_zero {a b : Nat} (h : ((a &&& b) == 0) = true) (k : Nat) (ha : a.testBit k = true) : b.testBit k = false := by
  have h0 : a &&& b = 0 := by simpa using h
  have : (a &&& b).testBit k = false := by rw [h0]; simp
  rw [Nat.testBit_and, ha, Bool.true_and] at this
  exact this
theorem and_pos {a b k : Nat} (ha : a.testBit k = true) (hb : b.testBit k = true) : ((a &&& b) == 0) = false := by
  cases h : ((a &&& b) == 0) with
  | false => rfl
  | true => rw [and_zero h k ha] at hb; cases hb
theorem and_ex {a b : Nat} (h : ((a &&& b) == 0) = false) : ∃ k, a.testBit k = true ∧ b.testBit k = true := by
  have h0 : a &&& b ≠ 0 := by simpa using h
  obtain ⟨k, hk⟩ := Nat.exists_testBit_of_ne_zero h0
  rw [Nat.testBit_and, Bool.and_eq_true] at hk
  exact ⟨k, hk⟩
/-- behind which operations it has to come -/
def edgeM (o : Oper) : Nat := maskL ((o.after.toList.filter (Region.binds .any)).map (·.on))
theorem edgeM_bit (o : Oper) (k : Nat) : (edgeM o).testBit k = true ↔ ∃ e ∈ o.after, Region.binds .any e = true ∧ e.on = k := by
  unfold edgeM
  rw [maskL_bit, List.contains_iff_mem, List.mem_map]
  constructor
  · rintro ⟨e, he, rfl⟩
    obtain ⟨h1, h2⟩ := List.mem_filter.1 he
    exact ⟨e, by simpa using h1, h2, rfl⟩
  · rintro ⟨e, he, hb, rfl⟩
    exact ⟨e, List.mem_filter.2 ⟨by simpa using he, hb⟩, rfl⟩
/-- which operations come behind operation p, by edges: a mask -/
def descM (p : Nat) : List Oper → Nat → Nat → Nat
  | [], _, acc => acc
  | o :: l, j, acc => descM p l (j + 1) (if ((edgeM o &&& (acc ||| (1 <<< p))) == 0) = true then acc else acc ||| (1 <<< j))
theorem descM_eq (p : Nat) : ∀ (l : List Oper) (j acc : Nat) (arr : Array Bool), arr.size = j → (∀ k, acc.testBit k = arr.getD k false) → ∀ k, (descM p l j acc).testBit k = (descs .any p l arr).getD k false
  | [], j, acc, arr, hs, h, k => h k
  | o :: l, j, acc, arr, hs, h, k => by
    unfold descM descs
    refine descM_eq p l (j + 1) _ _ (by simp [hs]) (fun k => ?_) k
    have key : (o.after.any fun e => Region.binds .any e && (e.on == p || arr.getD e.on false)) = !((edgeM o &&& (acc ||| (1 <<< p))) == 0) := by
      cases hz : ((edgeM o &&& (acc ||| (1 <<< p))) == 0) with
      | true =>
        rw [Bool.not_true, Array.any_eq_false]
        intro i hi hh
        rw [Bool.and_eq_true, Bool.or_eq_true, beq_iff_eq] at hh
        have hb := (edgeM_bit o o.after[i].on).2 ⟨o.after[i], Array.getElem_mem hi, hh.1, rfl⟩
        have := and_zero hz _ hb
        rw [Nat.testBit_or, bit_one, h, Bool.or_eq_false_iff] at this
        rcases hh.2 with h1 | h1
        · rw [h1] at this; simp at this
        · rw [h1] at this; simp at this
      | false =>
        rw [Bool.not_false, Array.any_eq_true']
        obtain ⟨d, h1, h2⟩ := and_ex hz
        obtain ⟨e, he, hb, rfl⟩ := (edgeM_bit o d).1 h1
        refine ⟨e, he, ?_⟩
        rw [Nat.testBit_or, bit_one, h, Bool.or_eq_true] at h2
        rw [Bool.and_eq_true, Bool.or_eq_true]
        exact ⟨hb, h2.symm⟩
    rw [key]
    cases hz : ((edgeM o &&& (acc ||| (1 <<< p))) == 0) with
    | true =>
      rw [if_pos rfl, Bool.not_true, h]
      simp only [Array.getD_eq_getD_getElem?, Array.getElem?_push]
      split
      · rename_i hk
        subst hk
        rw [Array.getElem?_eq_none (Nat.le_refl _)]; rfl
      · rfl
    | false =>
      rw [if_neg (by simp), Bool.not_false, Nat.testBit_or, bit_one, h]
      simp only [Array.getD_eq_getD_getElem?, Array.getElem?_push]
      split
      · rename_i hk
        subst hk
        simp [hs]
      · rename_i hk
        have : (k == j) = false := by rw [← hs]; simpa using hk
        rw [this, Bool.or_false]
theorem descM_bit (p : Nat) (l : List Oper) (k : Nat) : (descM p l 0 0).testBit k = (descs .any p l #[]).getD k false := descM_eq p l 0 0 #[] rfl (fun k => by simp) k
/-- what an operation writes, and looks at; its kind -/
def summ (cl : Op → Nat) (ops : Array Oper) (o : Oper) : Nat × Nat × Nat := (match o.dst with | some d => 1 <<< d | none => 0, maskL (o.looksAt ops), cl o.op)
def okC (x y : Nat) : Bool := x == 0 || y == 0 || (x == 1 && y == 1) || (x == 1 && y == 3)
def fastRow (s : Nat × Nat × Nat) (dsc : Nat) : Nat → List (Nat × Nat × Nat) → Bool
  | _, [] => true
  | j, t :: l => ((okC s.2.2 t.2.2 && ((s.1 &&& (t.2.1 ||| t.1)) == 0) && ((t.1 &&& s.2.1) == 0)) || dsc.testBit j) && fastRow s dsc (j + 1) l
def fastAll (l : List Oper) : Nat → List (Nat × Nat × Nat) → Bool
  | _, [] => true
  | i, s :: t => fastRow s (descM i l 0 0) (i + 1) t && fastAll l (i + 1) t
def fastB (cl : Op → Nat) (ops : Array Oper) : Bool := Region.noSelect ops && fastAll ops.toList 0 (ops.toList.map (summ cl ops))
theorem apart_of {cl : Op → Nat} {ops : Array Oper} {x y : Oper} (h1 : (((summ cl ops x).1 &&& ((summ cl ops y).2.1 ||| (summ cl ops y).1)) == 0) = true) (h2 : (((summ cl ops y).1 &&& (summ cl ops x).2.1) == 0) = true) : x.apart ops y = true := by
  unfold summ at h1 h2
  unfold Oper.apart
  have key : ∀ d, y.dst = some d → (x.looksAt ops).contains d = false := fun d hd => by
    rw [hd] at h2
    have := and_zero h2 d (by rw [bit_one]; simp)
    rwa [maskL_bit] at this
  have key2 : ∀ d, x.dst = some d → (y.looksAt ops).contains d = false ∧ y.dst ≠ some d := fun d hd => by
    rw [hd] at h1
    have := and_zero h1 d (by rw [bit_one]; simp)
    rw [Nat.testBit_or, Bool.or_eq_false_iff, maskL_bit] at this
    refine ⟨this.1, fun hy => ?_⟩
    rw [hy] at this
    have := this.2
    rw [bit_one] at this
    simp at this
  rw [Bool.and_eq_true]
  refine ⟨?_, ?_⟩
  · split
    · rename_i d hd
      rw [Bool.and_eq_true, (key2 d hd).1]
      exact ⟨rfl, bne_iff_ne.2 (key2 d hd).2⟩
    · rfl
  · split
    · rename_i d hd
      rw [key d hd]; rfl
    · rfl
theorem fastRow_spec {s : Nat × Nat × Nat} {dsc : Nat} : ∀ {l : List (Nat × Nat × Nat)} {j : Nat}, fastRow s dsc j l = true → ∀ (k : Nat) t, l[k]? = some t → (okC s.2.2 t.2.2 && ((s.1 &&& (t.2.1 ||| t.1)) == 0) && ((t.1 &&& s.2.1) == 0)) = true ∨ dsc.testBit (j + k) = true
  | [], j, h, k, t, hk => by simp at hk
  | u :: l, j, h, k, t, hk => by
    unfold fastRow at h
    rw [Bool.and_eq_true] at h
    cases k with
    | zero =>
      simp at hk; subst hk
      have h1 := h.1
      rwa [Bool.or_eq_true] at h1
    | succ k =>
      rw [show j + (k + 1) = j + 1 + k by omega]
      exact fastRow_spec h.2 k t (by simpa using hk)
theorem fastAll_spec {L : List Oper} : ∀ {l : List (Nat × Nat × Nat)} {i : Nat}, fastAll L i l = true → ∀ (a b : Nat) s t, l[a]? = some s → l[b]? = some t → a < b → (okC s.2.2 t.2.2 && ((s.1 &&& (t.2.1 ||| t.1)) == 0) && ((t.1 &&& s.2.1) == 0)) = true ∨ (descM (i + a) L 0 0).testBit (i + b) = true
  | [], i, h, a, b, s, t, ha, hb, hab => by simp at ha
  | u :: l, i, h, a, b, s, t, ha, hb, hab => by
    unfold fastAll at h
    rw [Bool.and_eq_true] at h
    obtain ⟨b, rfl⟩ : ∃ b', b = b' + 1 := ⟨b - 1, by omega⟩
    cases a with
    | zero =>
      simp at ha hb; subst ha
      have := fastRow_spec h.1 b t (by simpa using hb)
      rwa [show i + 1 + b = i + (b + 1) by omega] at this
    | succ a =>
      have := fastAll_spec h.2 a b s t (by simpa using ha) (by simpa using hb) (by omega)
      rwa [show i + 1 + a = i + (a + 1) by omega, show i + 1 + b = i + (b + 1) by omega] at this
theorem fastB_ok {cl : Op → Nat} {ops : Array Oper} (h : fastB cl ops = true) : textB cl ops = true := by
  unfold fastB at h
  rw [Bool.and_eq_true] at h
  unfold textB
  rw [h.1, Bool.true_and, List.all_eq_true]
  rintro ⟨oi, i⟩ hi
  have hi : ops.toList[i]? = some oi := by simpa using List.mem_zipIdx_iff_getElem?.1 hi
  simp only
  rw [List.all_eq_true]
  rintro ⟨oj, j⟩ hj
  have hj : ops.toList[j]? = some oj := by simpa using List.mem_zipIdx_iff_getElem?.1 hj
  simp only
  by_cases hij : i < j
  case neg => simp [hij]
  have := fastAll_spec h.2 i j (summ cl ops oi) (summ cl ops oj) (by rw [List.getElem?_map, hi]; rfl) (by rw [List.getElem?_map, hj]; rfl) hij
  rw [Nat.zero_add, Nat.zero_add, descM_bit] at this
  rcases this with h1 | h1
  · rw [Bool.and_eq_true, Bool.and_eq_true] at h1
    rw [apart_of h1.1.2 h1.2]
    have : okC (cl oi.op) (cl oj.op) = true := h1.1.1
    unfold okC at this
    simp only [Bool.true_and]
    rw [this, Bool.or_true]
  · rw [h1, Bool.or_true, Bool.true_or]
end Go.TR
