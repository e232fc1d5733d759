import Derived.Test.YtooibfffneecfaaLfree
/-! search.Find: the search itself -/
set_option linter.unusedVariables false
set_option linter.unusedSimpArgs false
namespace Go.Proofs.Try
open Go.L Go.Rp
set_option maxRecDepth 100000
theorem _root_.Go.Rp.Goes.congrN {o m : Int} {l : List Sp} {D s rest : List Int} (h : Goes o m l D s rest) : ∀ {E : List Int}, (∀ k : Nat, (k : Int) ∈ D ↔ (k : Int) ∈ E) → Goes o m l E s rest := by
  induction h with
  | done h => exact fun he => .done fun k s h1 h2 => (he k).1 (h k s h1 h2)
  | step hn _ ih => exact fun he => .step ⟨hn.at_, fun hc => hn.new ((he _).2 hc), fun j y hy hne hj => hn.free j y hy hne (fun hc => hj ((he _).1 hc)), hn.told⟩ (ih fun k => by simp [he])
/-- the search's variables -/
def HH (SP : V) (wn : Nat) (o m : Int) (es : List (V × V)) : Heap :=
  [.map es, .box 1 [SP], .box 1 [.int .u64 (wn : Int)], .box 1 [.map 0], .box 1 [.fn 39 [.ptr 1 0]], .box 1 [.int .u8 o], .box 1 [.int .i64 m],
    .box 1 [.fn 40 [.ptr 2 0, .ptr 3 0, .ptr 1 0, .ptr 4 0, .ptr 5 0, .ptr 6 0, .ptr 7 0]]]
section
variable (SP : V) (wn : Nat) (o m : Int) (es es' : List (V × V))
theorem HH0 : (HH SP wn o m es)[0]? = some (.map es) := rfl
theorem HH1 : (HH SP wn o m es)[1]? = some (.box 1 [SP]) := rfl
theorem HH2 : (HH SP wn o m es)[2]? = some (.box 1 [.int .u64 (wn : Int)]) := rfl
theorem HH3 : (HH SP wn o m es)[3]? = some (.box 1 [.map 0]) := rfl
theorem HH4 : (HH SP wn o m es)[4]? = some (.box 1 [.fn 39 [.ptr 1 0]]) := rfl
theorem HH5 : (HH SP wn o m es)[5]? = some (.box 1 [.int .u8 o]) := rfl
theorem HH6 : (HH SP wn o m es)[6]? = some (.box 1 [.int .i64 m]) := rfl
theorem HH7 : (HH SP wn o m es)[7]? = some (.box 1 [.fn 40 [.ptr 2 0, .ptr 3 0, .ptr 1 0, .ptr 4 0, .ptr 5 0, .ptr 6 0, .ptr 7 0]]) := rfl
theorem HHm : mapOf (HH SP wn o m es) (.map 0) = some es := rfl
theorem HHs : (HH SP wn o m es).set 0 (.map es') = HH SP wn o m es' := rfl
end
theorem okv_free : okV prog 4 39 = true := by kernel_rfl
theorem keep_free : keepS 39 = true := by kernel_rfl
theorem keep_try : keepS 40 = true := by kernel_rfl
theorem pure_try : pureS 40 = false := by kernel_rfl
/-- what was tried, as the program keeps it -/
def encE (e : Nat × ByteArray) : V × V := (.agg [.int .u64 (e.1 : Int), .str e.2], .agg [])
theorem find_ent (d : Nat) (b : ByteArray) : ∀ (ents : List (Nat × ByteArray)) (i : Nat), ∃ r, findI [0, 2] (.agg [.int .u64 (d : Int), .str b]) (ents.map encE) i = some r ∧ (r = none → ∀ e ∈ ents, ¬ (e.1 = d ∧ b.toList = e.2.toList)) ∧
    (∀ j, r = some j → i ≤ j ∧ ∃ e, ents[j - i]? = some e ∧ e.1 = d ∧ b.toList = e.2.toList)
  | [], i => ⟨none, rfl, fun _ e he => (by cases he), fun j h => (by cases h)⟩
  | e :: ents, i => by
    have hk : keq [0, 2] (.agg [.int .u64 (d : Int), .str b]) (.agg [.int .u64 (e.1 : Int), .str e.2]) = some ((d : Int) == (e.1 : Int) && b.toList == e.2.toList) := by
      simp [keq, eqK, V.one, V.cells]
    by_cases hc : (d : Int) = (e.1 : Int) ∧ b.toList = e.2.toList
    · refine ⟨some i, ?_, fun h => (by cases h), fun j h => ?_⟩
      · rw [List.map_cons, encE, findI, hk]
        have : ((d : Int) == (e.1 : Int) && b.toList == e.2.toList) = true := by simp [hc.1, hc.2]
        rw [this]
      · cases h
        exact ⟨Nat.le_refl _, e, by simp, by omega, hc.2⟩
    · obtain ⟨r, hr, h1, h2⟩ := find_ent d b ents (i + 1)
      refine ⟨r, ?_, fun h e' he' => ?_, fun j h => ?_⟩
      · rw [List.map_cons, encE, findI, hk]
        have : ((d : Int) == (e.1 : Int) && b.toList == e.2.toList) = false := by
          rw [Bool.and_eq_false_iff]
          by_cases hd : (d : Int) = (e.1 : Int)
          · right; simp; exact fun h => hc ⟨hd, h⟩
          · left; simpa using hd
        rw [this]
        exact hr
      · rcases List.mem_cons.1 he' with rfl | he'
        · rintro ⟨h3, h4⟩; exact hc ⟨by omega, h4⟩
        · exact h1 h e' he'
      · obtain ⟨h3, e', h4, h5⟩ := h2 j h
        refine ⟨by omega, e', ?_, h5⟩
        rw [show j - i = (j - (i + 1)) + 1 by omega, List.getElem?_cons_succ]
        exact h4
theorem entry_ent {ents : List (Nat × ByteArray)} {j : Nat} {e : Nat × ByteArray} (zv : V) (h : ents[j]? = some e) : entryV (ents.map encE) zv (some j) = some (.agg []) := by
  show ((ents.map encE)[j]?).map (·.2) = _
  rw [List.getElem?_map, h]; rfl
theorem kds_tried : kds prog 12 102 = some [0, 2] := by kernel_rfl
theorem bld_tried (d : Int) (b : ByteArray) : bldV prog 102 [(0, .int .u64 d), (1, .str b)] = some [.int .u64 d, .str b] := by kernel_rfl
/-- which are done, as bits -/
structure Bits (l : List Sp) (D : List Int) (dn : Nat) : Prop where
  lt : dn < 2 ^ l.length
  bit : ∀ k : Nat, dn.testBit k = true ↔ (k : Int) ∈ D
structure Whole (l : List Sp) (wn : Nat) : Prop where
  lt : wn < 2 ^ 64
  bit : ∀ k : Nat, wn.testBit k = true ↔ ∃ x, l[k]? = some x ∧ 0 ≤ x.to
theorem all_iff {l : List Sp} {P : List Int} {dn wn : Nat} (hb : Bits l P dn) (hw : Whole l wn) : (((dn &&& wn : Nat) : Int) == (wn : Int)) = true ↔ All l P := by
  rw [beq_iff_eq]
  constructor
  · intro h k x hx ht
    have h1 : dn &&& wn = wn := by omega
    have h2 := (hw.bit k).2 ⟨x, hx, ht⟩
    rw [← h1, Nat.testBit_and, Bool.and_eq_true] at h2
    exact (hb.bit k).1 h2.1
  · intro h
    have : dn &&& wn = wn := Nat.eq_of_testBit_eq fun i => by
      rw [Nat.testBit_and]
      cases hwi : wn.testBit i with
      | false => simp
      | true =>
        obtain ⟨x, hx, ht⟩ := (hw.bit i).1 hwi
        rw [(hb.bit i).2 (h i x hx ht)]; rfl
    rw [this]
theorem bits_snoc {l : List Sp} {P : List Int} {dn k : Nat} (hb : Bits l P dn) (hk : k < l.length) : Bits l (P ++ [(k : Int)]) (dn ||| 2 ^ k) where
  lt := Nat.or_lt_two_pow hb.lt (Nat.pow_lt_pow_right (by decide) hk)
  bit := fun j => by
    rw [Nat.testBit_or, Bool.or_eq_true, hb.bit j, Nat.testBit_two_pow, decide_eq_true_eq, List.mem_append, List.mem_singleton]
    constructor
    · rintro (h | rfl)
      · exact .inl h
      · exact .inr rfl
    · rintro (h | h)
      · exact .inl h
      · exact .inr (by omega)
/-- nothing that was tried goes -/
def Inv (o m : Int) (l : List Sp) (ents : List (Nat × ByteArray)) : Prop := ∀ e ∈ ents, ∀ (D s : List Int), Bits l D e.1 → InR s → (keyB s).toList = e.2.toList → ¬ ∃ rest, Goes o m l D s rest
theorem inv_new {o m : Int} {l : List Sp} {P s : List Int} {dn : Nat} (hb : Bits l P dn) (hs : InR s) (hn : ¬ ∃ rest, Goes o m l P s rest) : ∀ (D t : List Int), Bits l D dn → InR t → (keyB t).toList = (keyB s).toList → ¬ ∃ rest, Goes o m l D t rest := fun D t hD ht hk => by
  obtain rfl := key_inj ht hs hk
  rintro ⟨rest, hg⟩
  exact hn ⟨rest, hg.congrN fun k => by rw [← hb.bit k, ← hD.bit k]⟩
theorem inv_upd {o m : Int} {l : List Sp} {ents : List (Nat × ByteArray)} {P s : List Int} {dn : Nat} (hi : Inv o m l ents) (hb : Bits l P dn) (hs : InR s) (hn : ¬ ∃ rest, Goes o m l P s rest) (r : Option Nat) :
    ∃ ents', upd (ents.map encE) (.agg [.int .u64 (dn : Int), .str (keyB s)]) (.agg []) r = ents'.map encE ∧ Inv o m l ents' := by
  cases r with
  | none =>
    refine ⟨ents ++ [(dn, keyB s)], by simp [upd, encE], fun e he => ?_⟩
    rcases List.mem_append.1 he with he | he
    · exact hi e he
    · obtain rfl : e = (dn, keyB s) := by simpa using he
      exact inv_new hb hs hn
  | some i =>
    refine ⟨ents.set i (dn, keyB s), by simp [upd, encE, List.map_set], fun e he => ?_⟩
    rcases List.mem_or_eq_of_mem_set he with he | rfl
    · exact hi e he
    · exact inv_new hb hs hn
theorem apply_inR {o m : Int} {s : List Int} {x : O} (hs : InR s) (hx : -2147483648 ≤ x.v ∧ x.v ≤ 2147483647) : InR (apply o m s x).1 := by
  have hdrop : ∀ k, InR (s.drop k) := fun k y hy => hs y (List.mem_of_mem_drop hy)
  have htake : ∀ k, InR (s.take k) := fun k y hy => hs y (List.mem_of_mem_take hy)
  unfold apply do4 do5 do8
  repeat' split
  all_goals first
    | exact hs
    | exact htake _
    | exact hdrop _
    | (intro y hy
       simp only [List.mem_append, List.mem_cons, List.not_mem_nil, or_false, false_or] at hy
       rcases hy with hy | hy | hy <;> first | exact hs y hy | exact htake _ y hy | exact hdrop _ y hy | (subst hy; exact hx))
    | (intro y hy
       simp only [List.mem_append, List.mem_cons, List.not_mem_nil, or_false, false_or] at hy
       rcases hy with hy | hy <;> first | exact hs y hy | (subst hy; exact hx))
    | (intro y hy
       simp only [List.mem_append, List.mem_cons, List.not_mem_nil, or_false, false_or] at hy
       rcases hy with (hy | hy) | hy <;> first | exact hs y hy | exact htake _ y hy | exact hdrop _ y hy | (subst hy; exact hx))

/-- what a search comes to -/
def TryRes (o m : Int) (l : List Sp) (P s : List Int) (res : V) (ok : Bool) : Prop :=
  (ok = true → ∃ rest zr br, res = .sl zr ((P ++ rest).map (intV .i64)) br ∧ (zr = 1 ∨ P ++ rest = [] ∧ zr = 0 ∧ br = false) ∧ Goes o m l P s rest) ∧ (ok = false → res = .sl 1 [] false ∧ ¬ ∃ rest, Goes o m l P s rest)
/-- the arguments of a search -/
def tryArgs (z0 : Nat) (P : List Int) (b0 : Bool) (dn : Nat) (z2 : Nat) (s : List Int) (b2 : Bool) : List V :=
  [.sl z0 (P.map (intV .i64)) b0, .int .u64 (dn : Int), .sl z2 (s.map (intV .i32)) b2, .ptr 2 0, .ptr 3 0, .ptr 1 0, .ptr 4 0, .ptr 5 0, .ptr 6 0, .ptr 7 0]
/-- a search answers what it should, where so many are left -/
def TryOk (o m : Int) (l : List Sp) (SP : V) (wn r : Nat) : Prop := ∀ (n : Nat) (P s : List Int) (dn z0 : Nat) (b0 : Bool) (z2 : Nat) (b2 : Bool) (ents : List (Nat × ByteArray)),
  Bits l P dn → remain l.length P = r → P.length + r ≤ 8 → s.length ≤ P.length → InR s → (z0 = 1 ∨ P = [] ∧ z0 = 0 ∧ b0 = false) → (z2 = 1 ∨ s = []) → Inv o m l ents → r + 20 ≤ n →
  ∃ ok res ents', call n 40 (tryArgs z0 P b0 dn z2 s b2) (HH SP wn o m (ents.map encE)) = some (.ret [res, .bool ok], HH SP wn o m (ents'.map encE)) ∧ Inv o m l ents' ∧ TryRes o m l P s res ok
theorem setSp (y : Sp) : setR [V.int .i64 0, .int .i64 0, .int .u8 0, .int .i32 0, .int .u8 0, .int .i32 0, .int .i64 0, .int .i64 0] 0 (Sp.v y) = Sp.v y := rfl
theorem setRes (a b : V) : setR [V.int .u8 0, .int .i32 0] 0 [a, b] = [a, b] := rfl
theorem okv_try : okV prog 61 40 = true := by kernel_rfl
theorem app_full (e : Nat) (k : IntKind) (a : List Int) (x : Int) (h : a.length + 1 < lim) : app e 1 (.v (.sl 1 (a.map (intV k)) true)) [[.int k x]] = some ((a ++ [x]).map (intV k)) := by
  simp [app, h, intV]
theorem bsl_one (x : Int) : bslV prog 23 1 [(0, .int .i64 x)] = some (1, [[.int .i64 x]]) := by kernel_rfl
/-- the loop over what may come next -/
theorem try_loop {o m : Int} {l : List Sp} {z : Nat} {b : Bool} {wn r : Nat} (hz : z = 8 ∨ l = []) (hl : l.length ≤ 8) (ho : 0 ≤ o) (hop : ∀ y ∈ l, 0 ≤ y.op.k) (hv : ∀ y ∈ l, -2147483648 ≤ y.op.v ∧ y.op.v ≤ 2147483647)
    (IH : ∀ r' < r, TryOk o m l (.sl z (l.map Sp.v) b) wn r') {N : Nat} {P s : List Int} {dn z0 : Nat} {b0 : Bool} {z2 : Nat} {b2 : Bool} (p : Nat) (u0 u1 : V)
    (hb : Bits l P dn) (hr : remain l.length P = r) (hP : P.length + r ≤ 8) (hsl : s.length ≤ P.length) (hs : InR s) (hz0 : z0 = 1 ∨ P = [] ∧ z0 = 0 ∧ b0 = false) (hz2 : z2 = 1 ∨ s = []) (hN : r + 19 ≤ N) (hna : ¬ All l P) :
    ∀ (d k M : Nat) (ents : List (Nat × ByteArray)), k + d = l.length → d < M → Inv o m l ents → (∀ j < k, ¬ ∃ x rest, Rp.Next o m l P s j x ∧ Goes o m l (P ++ [(j : Int)]) (apply o m s x.op).1 rest) →
    ∃ ok res ents', loopx M (lTry_l24 N (.sl z0 (P.map (intV .i64)) b0) (dn : Int) (.sl z2 (s.map (intV .i32)) b2) 3 4 5 6 7 (.sl z (l.map Sp.v) b) (p, l.map Sp.v)) [u0, u1, .agg [.int .u64 (dn : Int), .str (keyB s)], .agg [], .int .i64 (k : Int)] (HH (.sl z (l.map Sp.v) b) wn o m (ents.map encE)) =
      some (.ret [res, .bool ok], HH (.sl z (l.map Sp.v) b) wn o m (ents'.map encE)) ∧ Inv o m l ents' ∧ TryRes o m l P s res ok
  | d, k, 0, ents, _, h, _, _ => by omega
  | 0, k, M + 1, ents, hk, _, hi, hno => by
    obtain rfl : k = l.length := by omega
    have hng : ¬ ∃ rest, Goes o m l P s rest := by
      rintro ⟨rest, hg⟩
      cases hg with
      | done h => exact hna h
      | step hn hg =>
        exact hno _ (List.getElem?_eq_some_iff.1 hn.at_).1 ⟨_, _, hn, hg⟩
    obtain ⟨r', hf, -, -⟩ := find_ent dn (keyB s) ents 0
    obtain ⟨ents', hu, hi'⟩ := inv_upd hi hb hs hng r'
    refine ⟨false, .sl 1 [] false, ents', ?_, hi', fun h => (by cases h), fun _ => ⟨rfl, hng⟩⟩
    rw [loopx_succ]
    have htk : List.take 2 [V.int .u64 (dn : Int), .str (keyB s)] = [V.int .u64 (dn : Int), .str (keyB s)] := rfl
    simp only [lTry_l24, gv, List.getD_cons_succ, List.getD_cons_zero, List.length_map, bop_i64_lss, bd_some, bv_bool, Int.lt_irrefl, decide_false, Bool.false_eq_true, if_false, HH3, HH0, boxAt_box, mapAt_map, mpK_map, Nat.zero_add, Nat.lt_add_one, Nat.le_refl, and_self, if_true, List.getElem?_cons_zero, kds_tried, lcs, List.drop_zero, htk, hf, V.one, V.cells, List.length_cons, List.length_nil, Bool.not_true, HHs, hu]
  | d + 1, k, M + 1, ents, hk, hM, hi, hno => by
    have hlt : (k : Int) < (l.length : Int) := by omega
    have hkl : k < l.length := by omega
    obtain ⟨x, hx⟩ : ∃ x, l[k]? = some x := ⟨_, List.getElem?_eq_getElem hkl⟩
    have hxm := List.mem_of_getElem? hx
    obtain rfl : z = 8 := hz.resolve_right (by rintro rfl; simp at hx)
    have hd64 : dn < 2 ^ 64 := Nat.lt_of_lt_of_le hb.lt (Nat.pow_le_pow_right (by decide) (by omega))
    obtain ⟨fr, hfr, hfri⟩ := free_call N 8 l b k dn x (HH (.sl 8 (l.map Sp.v) b) wn o m (ents.map encE)) (.inl rfl) rfl hl hd64 hx (by omega)
    have hst : IntKind.i64.wrap ((k : Int) + 1) = ((k + 1 : Nat) : Int) := step64 (show k < lim by unfold lim; omega)
    have hgo := fun hno' => try_loop (b0 := b0) (b2 := b2) (.inl rfl) hl ho hop hv IH p u0 u1 hb hr hP hsl hs hz0 hz2 hN hna d (k + 1) M ents (by omega) (by omega) hi hno'
    have hnext : (¬ ∃ x rest, Rp.Next o m l P s k x ∧ Goes o m l (P ++ [(k : Int)]) (apply o m s x.op).1 rest) → ∀ j < k + 1, ¬ ∃ x rest, Rp.Next o m l P s j x ∧ Goes o m l (P ++ [(j : Int)]) (apply o m s x.op).1 rest := fun h j hj => by
      rcases Nat.lt_or_ge j k with h' | h'
      · exact hno j h'
      · obtain rfl : j = k := by omega
        exact h
    have hfree : fr = true ↔ (k : Int) ∉ P ∧ ∀ (j : Nat) y, l[j]? = some y → j ≠ k → (j : Int) ∉ P → before y x = false := by
      rw [hfri]
      constructor
      · rintro ⟨h1, h2⟩
        refine ⟨fun hc => (by rw [(hb.bit k).2 hc] at h1; cases h1), fun j y hy hne hj => h2 j y (Nat.zero_le _) hy hne ?_⟩
        cases hbb : dn.testBit j with
        | false => rfl
        | true => exact absurd ((hb.bit j).1 hbb) hj
      · rintro ⟨h1, h2⟩
        refine ⟨?_, fun j y _ hy hne hj => h2 j y hy hne fun hc => (by rw [(hb.bit j).2 hc] at hj; cases hj)⟩
        cases hbb : dn.testBit k with
        | false => rfl
        | true => exact absurd ((hb.bit k).1 hbb) h1
    rw [loopx_succ]
    have hA := apply_call N o m z2 s b2 x.op.k x.op.v (HH (.sl 8 (l.map Sp.v) b) wn o m (ents.map encE)) hz2 ho (hop x hxm) (by unfold lim; omega) (by omega)
    simp only [lTry_l24, gv, List.getD_cons_succ, List.getD_cons_zero, List.length_map, bop_i64_lss, bd_some, bv_bool, hlt, decide_true, if_true, nv_nat, bdS_some, slk_sl, get_sps, hx, Option.map_some, List.drop_zero, spv_all, spv_len, Nat.le_refl, HH4, boxAt_box, Nat.zero_add, Nat.lt_add_one, and_self, List.getElem?_cons_zero, fnK_fn, okv_free, keep_free, List.cons_append, List.nil_append, hfr, cl_ret, one1_one, uop_not, bop_i64_add, hst, lcs]
    cases hfr' : fr with
    | false =>
      simp only [Bool.not_false, if_true]
      refine hgo (hnext ?_)
      rintro ⟨x', rest, hn, _⟩
      have hxx := hn.at_
      rw [hx] at hxx; cases hxx
      have := hfree.2 ⟨hn.new, hn.free⟩
      rw [hfr'] at this; cases this
    | true =>
      have hfr2 := hfree.1 hfr'
      simp only [Bool.not_true, Bool.false_eq_true, if_false, HH5, HH6, boxAt_box, Nat.zero_add, Nat.lt_add_one, Nat.le_refl, and_self, if_true, List.getElem?_cons_zero, bd_some, setSp, spv_op, hA, ansA, cl_ret, List.getElem?_cons_succ, V.cells, List.length_cons, List.length_nil, spv_to, bop_i64_geq, bv_bool, setRes, spv_res, List.drop_zero]
      by_cases htl : 0 ≤ x.to → (apply o m s x.op).2 = x.res
      · -- it may come next
        have hn : Rp.Next o m l P s k x := ⟨hx, hfr2.1, hfr2.2, htl⟩
        have hrem := remain_snoc (n := l.length) hkl hfr2.1
        have hal := apply_len o m s x.op
        obtain ⟨ok, res, ents', hcall, hi', htr⟩ := IH (remain l.length (P ++ [(k : Int)])) (by omega) N (P ++ [(k : Int)]) (apply o m s x.op).1 (dn ||| 2 ^ k) 1 false 1 false ents (bits_snoc hb hkl) rfl (by rw [List.length_append, List.length_singleton]; omega) (by rw [List.length_append, List.length_singleton]; omega)
          (apply_inR hs (hv x hxm)) (.inl rfl) (.inl rfl) hi (by omega)
        unfold tryArgs at hcall
        have hcond : 0 ≤ P.length ∧ True ∧ (z0 = 1 ∨ (P.map (intV .i64)).isEmpty = true) ∧ (some P.length = none ∨ True) ∧ True := ⟨Nat.zero_le _, trivial, hz0.imp id (fun h => by rw [h.1]; rfl), .inr trivial, trivial⟩
        have htk : List.take P.length (P.map (intV .i64)) = P.map (intV .i64) := List.take_of_length_le (by simp)
        have h2k : 2 ^ k < 2 ^ 64 := Nat.pow_lt_pow_right (by decide) (by omega)
        have hrec : (boxAt (HH (.sl 8 (l.map Sp.v) b) wn o m (ents.map encE))[7]? fun m64 cs65 =>
            if 1 ≤ m64 ∧ True then
              bd cs65[0]? fun v66 =>
                bd (slc (V.sl z0 (P.map (intV .i64)) b0)) fun p67 =>
                  bd (slc (V.sl z0 (P.map (intV .i64)) b0)) fun p68 =>
                    if 0 ≤ p67.snd.length ∧ p67.snd.length ≤ P.length ∧ (z0 = 1 ∨ (P.map (intV .i64)).isEmpty = true) ∧ (some p68.snd.length = none ∨ some p68.snd.length = some p67.snd.length) ∧ True then
                      bd (bslV prog 23 1 [(0, V.int .i64 (k : Int))]) fun p74 =>
                        bd (app 3 1 (S.v (V.sl 1 (List.take p67.snd.length (P.map (intV .i64))) (some p68.snd.length).isSome)) p74.snd) fun l75 =>
                          bd (bop prog .shl 97 (.int .u64 1) (.int .i64 (k : Int))) fun v76 =>
                            bd (bop prog .or 97 (.int .u64 (dn : Int)) v76) fun v77 =>
                              fnK v66 fun f78 c79 =>
                                if okV prog 61 f78 = true then
                                  if pureS f78 = true then
                                    if keepS f78 = true then none
                                    else
                                      clS (call N f78 (V.sl 1 l75 false :: v77 :: V.sl 1 ((apply o m s ⟨x.op.k, x.op.v⟩).fst.map (intV .i32)) false :: c79) []) fun r80 =>
                                        if V.simple.simpleL r80 = true then
                                          bd r80[0]? fun v83 => bd r80[1]? fun v84 => bv v84 fun b85 =>
                                            if b85 = true then some (Res.ret [v83, V.bool true], HH (.sl 8 (l.map Sp.v) b) wn o m (ents.map encE))
                                            else loopx M (lTry_l24 N (V.sl z0 (P.map (intV .i64)) b0) (dn : Int) (V.sl z2 (s.map (intV .i32)) b2) 3 4 5 6 7 (V.sl 8 (l.map Sp.v) b) (p, l.map Sp.v)) [u0, u1, V.agg [V.int .u64 (dn : Int), V.str (keyB s)], V.agg [], V.int .i64 ((k + 1 : Nat) : Int)] (HH (.sl 8 (l.map Sp.v) b) wn o m (ents.map encE))
                                        else none
                                  else if keepS f78 = true then
                                    clH (call N f78 (V.sl 1 l75 false :: v77 :: V.sl 1 ((apply o m s ⟨x.op.k, x.op.v⟩).fst.map (intV .i32)) false :: c79) (HH (.sl 8 (l.map Sp.v) b) wn o m (ents.map encE))) fun r80 h81 =>
                                      bd r80[0]? fun v87 => bd r80[1]? fun v88 => bv v88 fun b89 =>
                                        if b89 = true then some (Res.ret [v87, V.bool true], h81)
                                        else loopx M (lTry_l24 N (V.sl z0 (P.map (intV .i64)) b0) (dn : Int) (V.sl z2 (s.map (intV .i32)) b2) 3 4 5 6 7 (V.sl 8 (l.map Sp.v) b) (p, l.map Sp.v)) [u0, u1, V.agg [V.int .u64 (dn : Int), V.str (keyB s)], V.agg [], V.int .i64 ((k + 1 : Nat) : Int)] h81
                                  else none
                                else none
                    else none
            else none) = (if ok = true then some (Res.ret [res, V.bool true], HH (.sl 8 (l.map Sp.v) b) wn o m (ents'.map encE)) else
              loopx M (lTry_l24 N (V.sl z0 (P.map (intV .i64)) b0) (dn : Int) (V.sl z2 (s.map (intV .i32)) b2) 3 4 5 6 7 (V.sl 8 (l.map Sp.v) b) (p, l.map Sp.v)) [u0, u1, V.agg [V.int .u64 (dn : Int), V.str (keyB s)], V.agg [], V.int .i64 ((k + 1 : Nat) : Int)] (HH (.sl 8 (l.map Sp.v) b) wn o m (ents'.map encE))) := by
          simp only [HH7, boxAt_box, Nat.le_refl, and_self, if_true, List.getElem?_cons_zero, bd_some, slc_sl, List.length_map]
          rw [if_pos hcond]
          simp only [bsl_one, bd_some, Option.isSome_some, htk, app_full _ _ _ _ (show P.length + 1 < lim by unfold lim; omega), bop_shl1 _ (show k < 64 by omega), bop_or64 _ _ hd64 h2k, fnK_fn, okv_try, if_true, pure_try, Bool.false_eq_true, if_false, keep_try, hcall, clH_ret, List.getElem?_cons_zero, List.getElem?_cons_succ, bv_bool]
        have hfin : ∃ ok' res' ents'', (if ok = true then some (Res.ret [res, V.bool true], HH (.sl 8 (l.map Sp.v) b) wn o m (ents'.map encE)) else
              loopx M (lTry_l24 N (V.sl z0 (P.map (intV .i64)) b0) (dn : Int) (V.sl z2 (s.map (intV .i32)) b2) 3 4 5 6 7 (V.sl 8 (l.map Sp.v) b) (p, l.map Sp.v)) [u0, u1, V.agg [V.int .u64 (dn : Int), V.str (keyB s)], V.agg [], V.int .i64 ((k + 1 : Nat) : Int)] (HH (.sl 8 (l.map Sp.v) b) wn o m (ents'.map encE))) =
            some (Res.ret [res', V.bool ok'], HH (.sl 8 (l.map Sp.v) b) wn o m (ents''.map encE)) ∧ Inv o m l ents'' ∧ TryRes o m l P s res' ok' := by
          cases hok : ok with
          | true =>
            rw [if_pos rfl]
            refine ⟨true, res, ents', rfl, hi', fun _ => ?_, fun h => (by cases h)⟩
            obtain ⟨rest, zr, br, h1, h2, h3⟩ := htr.1 hok
            rw [List.append_assoc] at h1 h2
            exact ⟨(k : Int) :: rest, zr, br, h1, h2, .step hn h3⟩
          | false =>
            rw [if_neg (by simp)]
            refine try_loop (b0 := b0) (b2 := b2) (.inl rfl) hl ho hop hv IH p u0 u1 hb hr hP hsl hs hz0 hz2 hN hna d (k + 1) M ents' (by omega) (by omega) hi' (hnext ?_)
            rintro ⟨x', rest, hn', hg⟩
            have hxx := hn'.at_
            rw [hx] at hxx; cases hxx
            exact (htr.2 hok).2 ⟨rest, hg⟩
        by_cases ht : 0 ≤ x.to
        · have ht' : x.to ≥ 0 := ht
          have hne : decide ((apply o m s x.op).2 ≠ x.res) = false := by simp [htl ht]
          have hbn : bop prog .neq 32 (V.agg (List.take 2 [V.int .u8 (apply o m s ⟨x.op.k, x.op.v⟩).2.c, V.int .i32 (apply o m s ⟨x.op.k, x.op.v⟩).2.v])) (V.agg [V.int .u8 x.res.c, V.int .i32 x.res.v]) = some (.bool false) := (bop_res _ _).trans (by rw [hne])
          rw [decide_eq_true ht', if_pos rfl, hbn]
          simp only [bd_some, bv_bool, Bool.false_eq_true, if_false]
          rw [hrec]
          exact hfin
        · have ht' : ¬ x.to ≥ 0 := ht
          rw [decide_eq_false ht', if_neg (by simp), hrec]
          exact hfin
      · -- it was told something else
        have ht : 0 ≤ x.to := Classical.byContradiction fun h => htl fun h' => absurd h' h
        have hne : (apply o m s x.op).2 ≠ x.res := fun h => htl fun _ => h
        have ht' : x.to ≥ 0 := ht
        have hbn : bop prog .neq 32 (V.agg (List.take 2 [V.int .u8 (apply o m s ⟨x.op.k, x.op.v⟩).2.c, V.int .i32 (apply o m s ⟨x.op.k, x.op.v⟩).2.v])) (V.agg [V.int .u8 x.res.c, V.int .i32 x.res.v]) = some (.bool true) := (bop_res _ _).trans (by rw [show decide ((apply o m s x.op).2 ≠ x.res) = true by simp [hne]])
        rw [decide_eq_true ht', if_pos rfl, hbn]
        simp only [bd_some, bv_bool, if_true]
        refine hgo (hnext ?_)
        rintro ⟨x', rest, hn', _⟩
        have hxx := hn'.at_
        rw [hx] at hxx; cases hxx
        exact hne (hn'.told ht)

/-- the search -/
theorem try_ok {o m : Int} {l : List Sp} {z : Nat} {b : Bool} {wn : Nat} (hz : z = 8 ∨ l = []) (hl : l.length ≤ 8) (ho : 0 ≤ o) (hop : ∀ y ∈ l, 0 ≤ y.op.k) (hv : ∀ y ∈ l, -2147483648 ≤ y.op.v ∧ y.op.v ≤ 2147483647) (hw : Whole l wn) : ∀ r, TryOk o m l (.sl z (l.map Sp.v) b) wn r := fun r => by
  induction r using Nat.strongRecOn with
  | ind r IH =>
    intro n P s dn z0 b0 z2 b2 ents hb hr hP hsl hs hz0 hz2 hi hn
    obtain ⟨N, rfl⟩ : ∃ N, n = N + 1 := ⟨n - 1, by omega⟩
    have hd64 : dn < 2 ^ 64 := Nat.lt_of_lt_of_le hb.lt (Nat.pow_le_pow_right (by decide) (by omega))
    have hall := all_iff hb hw
    have hkey := key_call N z2 s b2 (HH (.sl z (l.map Sp.v) b) wn o m (ents.map encE)) hz2 (by unfold lim; omega) (by omega)
    unfold tryArgs
    rw [lTry_eq]
    simp only [lTry, HH2, boxAt_box, Nat.zero_add, Nat.lt_add_one, Nat.le_refl, and_self, if_true, List.getElem?_cons_zero, bd_some, bop_and64 _ _ hd64 hw.lt, bop_u64_eql, bv_bool]
    by_cases ha : All l P
    · rw [if_pos (hall.2 ha)]
      exact ⟨true, _, ents, rfl, hi, fun _ => ⟨[], z0, b0, by rw [List.append_nil], by rw [List.append_nil]; exact hz0, .done ha⟩, fun h => (by cases h)⟩
    · rw [if_neg (fun h => ha (hall.1 h))]
      obtain ⟨r', hf, hfn, hfs⟩ := find_ent dn (keyB s) ents 0
      have hset : setR [V.int .u64 0, .str (ByteArray.mk #[])] 0 [V.int .u64 (dn : Int), .str (keyB s)] = [V.int .u64 (dn : Int), .str (keyB s)] := rfl
      have htk : List.take 2 [V.int .u64 (dn : Int), .str (keyB s)] = [V.int .u64 (dn : Int), .str (keyB s)] := rfl
      have hset0 : setR ([] : List V) 0 [] = [] := rfl
      have hno0 : ∀ j < 0, ¬ ∃ x rest, Rp.Next o m l P s j x ∧ Goes o m l (P ++ [(j : Int)]) (apply o m s x.op).1 rest := fun j hj => by omega
      have hloop := try_loop (b0 := b0) (b2 := b2) hz hl ho hop hv IH (N := N) z (.sl 1 [] false) (.bool false) hb hr hP hsl hs hz0 hz2 (by omega) ha l.length 0 N ents (by omega) (by omega) hi hno0
      cases r' with
      | some j =>
        obtain ⟨-, e, he, hd, hk⟩ := hfs j rfl
        rw [Nat.sub_zero] at he
        refine ⟨false, .sl 1 [] false, ents, ?_, hi, fun h => (by cases h), fun _ => ⟨rfl, hi e (List.mem_of_getElem? he) P s (by rw [hd]; exact hb) hs hk⟩⟩
        simp only [hkey, cl_ret, one1_one, bld_tried, bd_some, List.length_cons, List.length_nil, Nat.le_refl, HH3, boxAt_box, List.getElem?_cons_zero, HHm, bdS_some, kds_tried, hset, htk, List.drop_zero, hf, entry_ent _ he, V.one, V.cells, Bool.not_true, Option.isSome_some, and_self, if_true, Nat.lt_add_one, Nat.zero_add]
      | none =>
        simp only [hkey, cl_ret, one1_one, bld_tried, bd_some, List.length_cons, List.length_nil, Nat.le_refl, HH3, HH1, boxAt_box, List.getElem?_cons_zero, HHm, bdS_some, kds_tried, hset, htk, hset0, List.drop_zero, hf, entry_none, V.one, V.cells, Bool.not_true, Option.isSome_none, and_self, if_true, Nat.lt_add_one, Nat.zero_add, Bool.false_eq_true, if_false, slc_sl]
        exact hloop
end Go.Proofs.Try
