import Derived.Test.YtooibfffneecfaaPlain2
/-! how an order goes, step by step -/
namespace Go.Rp
/-- what may come next: not done yet, all that was told ahead of it done, told what is told -/
structure Next (object m : Int) (l : List Sp) (D : List Int) (s : List Int) (k : Nat) (x : Sp) : Prop where
  at_ : l[k]? = some x
  new : (k : Int) ∉ D
  free : ∀ (j : Nat) y, l[j]? = some y → j ≠ k → (j : Int) ∉ D → before y x = false
  told : 0 ≤ x.to → (apply object m s x.op).2 = x.res
/-- all that is not pending is done -/
def All (l : List Sp) (D : List Int) : Prop := ∀ (k : Nat) s, l[k]? = some s → 0 ≤ s.to → (k : Int) ∈ D
inductive Goes (object m : Int) (l : List Sp) : List Int → List Int → List Int → Prop
  | done {D s} : All l D → Goes object m l D s []
  | step {D s k x rest} : Next object m l D s k x → Goes object m l (D ++ [(k : Int)]) (apply object m s x.op).1 rest → Goes object m l D s ((k : Int) :: rest)

theorem Next.congr {object m : Int} {l : List Sp} {D E : List Int} {s : List Int} {k : Nat} {x : Sp} (h : Next object m l D s k x) (he : ∀ n : Int, n ∈ D ↔ n ∈ E) : Next object m l E s k x :=
  ⟨h.at_, fun hc => h.new ((he _).2 hc), fun j y hy hne hj => h.free j y hy hne (fun hc => hj ((he _).1 hc)), h.told⟩
theorem Goes.congr {object m : Int} {l : List Sp} {D s rest : List Int} (h : Goes object m l D s rest) : ∀ {E : List Int}, (∀ n : Int, n ∈ D ↔ n ∈ E) → Goes object m l E s rest := by
  induction h with
  | done h => exact fun he => .done fun k s h1 h2 => (he _).1 (h k s h1 h2)
  | step hn _ ih => exact fun he => .step (hn.congr he) (ih fun n => by simp [he])

/-- the items behind an order -/
def itemsOf (object m : Int) (l : List Sp) (P : List Int) : List Int := (run object m [] (P.map (opAt l))).1
/-- an order that is right as far as it goes -/
structure Pre (object m : Int) (l : List Sp) (P : List Int) : Prop where
  front : Front l P P.length
  told : ∀ (k : Nat) n s, P[k]? = some n → l[n.toNat]? = some s → 0 ≤ s.to → (toldOf object m l P)[k]? = some s.res
  clos : ∀ (n j : Nat) y z, (n : Int) ∈ P → l[n]? = some z → l[j]? = some y → j ≠ n → before y z = true → (j : Int) ∈ P

theorem Pre.nil (object m : Int) (l : List Sp) : Pre object m l [] := ⟨Front.zero l [], fun k n s h => by simp at h, fun n j y z h => by simp at h⟩
theorem told_snoc (object m : Int) (l : List Sp) (P : List Int) (n : Int) : toldOf object m l (P ++ [n]) = toldOf object m l P ++ [(apply object m (itemsOf object m l P) (opAt l n)).2] := by
  unfold toldOf itemsOf
  rw [List.map_append, List.map_cons, List.map_nil, run_snoc]
theorem items_snoc (object m : Int) (l : List Sp) (P : List Int) (n : Int) : itemsOf object m l (P ++ [n]) = (apply object m (itemsOf object m l P) (opAt l n)).1 := by
  unfold itemsOf
  rw [List.map_append, List.map_cons, List.map_nil, run_snoc]
theorem told_len (object m : Int) (l : List Sp) (P : List Int) : (toldOf object m l P).length = P.length := by
  unfold toldOf
  rw [(run_len object m _ []).2, List.length_map]
theorem opAt_of {l : List Sp} {k : Nat} {x : Sp} (h : l[k]? = some x) : opAt l (k : Int) = x.op := by
  unfold opAt
  rw [List.getD_eq_getElem?_getD, Int.toNat_natCast, h]; rfl

theorem Pre.snoc {object m : Int} {l : List Sp} {P : List Int} {k : Nat} {x : Sp} (h : Pre object m l P) (hn : Next object m l P (itemsOf object m l P) k x) : Pre object m l (P ++ [(k : Int)]) := by
  have hlt : k < l.length := (List.getElem?_eq_some_iff.1 hn.at_).1
  refine ⟨⟨fun i n hi hin => ?_, fun j i n hji hi h1 h2 => ?_, fun j i a b y z hji hi h1 h2 hy hz => ?_⟩, fun i n s hin hs h0 => ?_, fun n j y z hm hz hy hne hb => ?_⟩
  · rw [List.getElem?_append] at hin
    split at hin
    · exact h.front.inr i n (by assumption) hin
    · have : i - P.length = 0 := by simp at hi; omega
      rw [this] at hin
      simp at hin
      omega
  · rw [List.length_append, List.length_singleton] at hi
    rw [List.getElem?_append_left (by omega)] at h1
    rw [List.getElem?_append] at h2
    split at h2
    · exact h.front.once j i n hji (by assumption) h1 h2
    · have : i - P.length = 0 := by omega
      rw [this] at h2
      simp at h2
      exact hn.new (by rw [h2]; exact List.mem_of_getElem? h1)
  · rw [List.length_append, List.length_singleton] at hi
    rw [List.getElem?_append_left (by omega)] at h1
    rw [List.getElem?_append] at h2
    split at h2
    · exact h.front.ahead j i a b y z hji (by assumption) h1 h2 hy hz
    · have : i - P.length = 0 := by omega
      rw [this] at h2
      simp at h2
      subst h2
      -- the new one is not told ahead of one that is done
      have hin := h.front.inr j a (by omega) h1
      rw [Int.toNat_natCast, hn.at_] at hz
      cases hz
      cases hb : before x y with
      | false => rfl
      | true =>
        have hm : ((a.toNat : Nat) : Int) ∈ P := by rw [Int.toNat_of_nonneg hin.1]; exact List.mem_of_getElem? h1
        exact absurd (h.clos a.toNat k x y hm hy hn.at_ (by rintro rfl; exact hn.new hm) hb) hn.new
  · rw [told_snoc]
    rw [List.getElem?_append] at hin ⊢
    rw [told_len]
    split at hin
    · rename_i hi
      rw [if_pos hi]
      exact h.told i n s hin hs h0
    · rename_i hi
      rw [if_neg hi]
      have : i - P.length = 0 := by
        have := (List.getElem?_eq_some_iff.1 hin).1
        simp at this; omega
      rw [this] at hin ⊢
      simp at hin
      subst hin
      rw [Int.toNat_natCast] at hs
      rw [hn.at_] at hs; cases hs
      simp [opAt_of hn.at_, hn.told h0]
  · rcases List.mem_append.1 hm with hm | hm
    · exact List.mem_append_left _ (h.clos n j y z hm hz hy hne hb)
    · have : n = k := by simp at hm; omega
      subst this
      rw [hn.at_] at hz; cases hz
      by_cases hj : (j : Int) ∈ P
      · exact List.mem_append_left _ hj
      · have := hn.free j y hy hne hj
        rw [this] at hb; cases hb

theorem Fit.of_pre {object m : Int} {l : List Sp} {P : List Int} (h : Pre object m l P) (ha : All l P) : Fit object m l P :=
  ⟨fun k n hn => h.front.inr k n (List.getElem?_eq_some_iff.1 hn).1 hn, fun j k n hjk h1 h2 => h.front.once j k n hjk (List.getElem?_eq_some_iff.1 h2).1 h1 h2,
    fun j k a b x y hjk h1 h2 h3 h4 => h.front.ahead j k a b x y hjk (List.getElem?_eq_some_iff.1 h2).1 h1 h2 h3 h4, ha, h.told⟩

/-- what goes, fits -/
theorem Goes.fit {object m : Int} {l : List Sp} : ∀ (rest P : List Int), Pre object m l P → Goes object m l P (itemsOf object m l P) rest → Fit object m l (P ++ rest)
  | [], P, hp, h => by
    cases h with
    | done ha => rw [List.append_nil]; exact .of_pre hp ha
  | n :: rest, P, hp, h => by
    cases h with
    | step hn hg =>
      have := Goes.fit rest (P ++ [_]) (hp.snoc hn) (by rw [items_snoc, opAt_of hn.at_]; exact hg)
      rwa [List.append_assoc] at this

theorem told_append (object m : Int) (l : List Sp) (P R : List Int) : ∃ t, toldOf object m l (P ++ R) = toldOf object m l P ++ t := by
  induction R generalizing P with
  | nil => exact ⟨[], by simp⟩
  | cons n R ih =>
    obtain ⟨t, ht⟩ := ih (P ++ [n])
    rw [told_snoc] at ht
    exact ⟨_ :: t, by rw [List.append_assoc] at ht; simpa using ht⟩

/-- what fits, goes -/
theorem Fit.goes {object m : Int} {l : List Sp} : ∀ (rest P : List Int), Fit object m l (P ++ rest) → Goes object m l P (itemsOf object m l P) rest
  | [], P, h => .done (by rw [List.append_nil] at h; exact h.whole)
  | n :: rest, P, h => by
    have hn0 : (P ++ n :: rest)[P.length]? = some n := by simp
    obtain ⟨h0, h1⟩ := h.inr _ _ hn0
    obtain ⟨k, rfl⟩ := Int.eq_ofNat_of_zero_le h0
    obtain ⟨x, hx⟩ : ∃ x, l[k]? = some x := ⟨_, List.getElem?_eq_getElem (by omega)⟩
    have hnew : (k : Int) ∉ P := fun hm => by
      obtain ⟨i, hi⟩ := List.mem_iff_getElem?.1 hm
      have hlt := (List.getElem?_eq_some_iff.1 hi).1
      exact h.once i P.length k hlt (by rw [List.getElem?_append_left hlt]; exact hi) hn0
    refine .step (x := x) ⟨hx, hnew, fun j y hy hne hj => ?_, fun ht => ?_⟩ ?_
    · cases hb : before y x with
      | false => rfl
      | true =>
        have hto : 0 ≤ y.to := by simp [before] at hb; exact hb.1
        have hm := h.whole j y hy hto
        obtain ⟨i, hi⟩ := List.mem_iff_getElem?.1 hm
        have hpi : P.length < i := by
          rcases Nat.lt_trichotomy i P.length with hlt | heq | hgt
          · rw [List.getElem?_append_left hlt] at hi
            exact absurd (List.mem_of_getElem? hi) hj
          · subst heq
            rw [hn0] at hi
            injection hi with hi
            omega
          · exact hgt
        have := h.ahead P.length i k j x y hpi hn0 hi (by simpa using hx) (by simpa using hy)
        rw [this] at hb; cases hb
    · have h2 := h.told P.length k x hn0 (by simpa using hx) ht
      obtain ⟨t, htl⟩ := told_append object m l (P ++ [(k : Int)]) rest
      rw [List.append_assoc] at htl
      simp only [List.singleton_append] at htl
      rw [htl, told_snoc] at h2
      rw [List.append_assoc, List.getElem?_append_right (by rw [told_len]; omega), told_len] at h2
      simp [opAt_of hx] at h2
      exact h2
    · have := Fit.goes (object := object) (m := m) (l := l) rest (P ++ [(k : Int)]) (by rw [List.append_assoc]; exact h)
      rw [items_snoc, opAt_of hx] at this
      exact this
end Go.Rp
/-! how many are left -/
namespace Go.Rp
def remain (n : Nat) (P : List Int) : Nat := ((List.range n).filter fun (k : Nat) => decide ((k : Int) ∉ P)).length
theorem remain_nil (n : Nat) : remain n [] = n := by
  unfold remain
  rw [List.filter_eq_self.2 (fun x _ => by simp), List.length_range]
theorem filter_one {l : List Nat} (hn : l.Nodup) {p : Nat → Bool} {k : Nat} (hk : k ∈ l) (hp : p k = true) : (l.filter p).length = (l.filter fun x => p x && x != k).length + 1 := by
  induction l with
  | nil => cases hk
  | cons a l ih =>
    rw [List.nodup_cons] at hn
    rcases List.mem_cons.1 hk with rfl | hk
    · have h1 : l.filter (fun x => p x && x != k) = l.filter p := List.filter_congr fun x hx => by
        have : x ≠ k := by rintro rfl; exact hn.1 hx
        simp [this]
      simp [hp, h1]
    · have hne : a ≠ k := by rintro rfl; exact hn.1 hk
      have := ih hn.2 hk
      cases hpa : p a <;> simp [hpa, hne, this]
theorem remain_snoc {n k : Nat} {P : List Int} (hk : k < n) (hn : (k : Int) ∉ P) : remain n P = remain n (P ++ [(k : Int)]) + 1 := by
  unfold remain
  rw [filter_one (p := fun k => decide ((k : Int) ∉ P)) List.nodup_range (List.mem_range.2 hk) (by simpa using hn)]
  congr 2
  refine List.filter_congr fun x _ => ?_
  by_cases hx : x = k
  · subst hx; simp
  · have : ¬ (x : Int) = k := by omega
    simp [hx, this]
end Go.Rp
/-! when an order fits, one by one -/
namespace Go.Rp
/-- an order that is right as far as it goes -/
structure Part (object m : Int) (l : List Sp) (P : List Int) : Prop where
  inr : ∀ (k : Nat) n, P[k]? = some n → 0 ≤ n ∧ n < l.length
  once : ∀ (j k : Nat) n, j < k → P[j]? = some n → P[k]? = some n → False
  ahead : ∀ (j k : Nat) a b x y, j < k → P[j]? = some a → P[k]? = some b → l[a.toNat]? = some x → l[b.toNat]? = some y → before y x = false
  told : ∀ (k : Nat) n s, P[k]? = some n → l[n.toNat]? = some s → 0 ≤ s.to → (toldOf object m l P)[k]? = some s.res
/-- may an operation come next? -/
def May (object m : Int) (l : List Sp) (P s : List Int) (n : Int) (y : Sp) : Prop :=
  0 ≤ n ∧ l[n.toNat]? = some y ∧ n ∉ P ∧ (∀ a ∈ P, ∀ x, l[a.toNat]? = some x → before y x = false) ∧ (0 ≤ y.to → (apply object m s y.op).2 = y.res)
theorem fit_iff {object m : Int} {l : List Sp} {P : List Int} : Fit object m l P ↔ Part object m l P ∧ All l P :=
  ⟨fun h => ⟨⟨h.inr, h.once, h.ahead, h.told⟩, h.whole⟩, fun ⟨h, a⟩ => ⟨h.inr, h.once, h.ahead, a, h.told⟩⟩
theorem Part.nil (object m : Int) (l : List Sp) : Part object m l [] := ⟨fun k n h => by simp at h, fun j k n _ h => by simp at h, fun j k a b x y _ h => by simp at h, fun k n s h => by simp at h⟩
theorem Part.front {object m : Int} {l : List Sp} {P R : List Int} (h : Part object m l (P ++ R)) : Part object m l P := by
  have hl : ∀ {k : Nat} {n : Int}, P[k]? = some n → (P ++ R)[k]? = some n := fun {k n} hk => by rw [List.getElem?_append_left (List.getElem?_eq_some_iff.1 hk).1]; exact hk
  refine ⟨fun k n hk => h.inr k n (hl hk), fun j k n hjk h1 h2 => h.once j k n hjk (hl h1) (hl h2), fun j k a b x y hjk h1 h2 => h.ahead j k a b x y hjk (hl h1) (hl h2), fun k n s hk hs ht => ?_⟩
  have := h.told k n s (hl hk) hs ht
  obtain ⟨t, ht'⟩ := told_append object m l P R
  rw [ht', List.getElem?_append_left (by rw [told_len]; exact (List.getElem?_eq_some_iff.1 hk).1)] at this
  exact this
theorem snoc_get {P : List Int} {n a : Int} {k : Nat} (h : (P ++ [n])[k]? = some a) : P[k]? = some a ∨ (k = P.length ∧ a = n) := by
  rw [List.getElem?_append] at h
  split at h
  · exact .inl h
  · rename_i hk
    have hlt := (List.getElem?_eq_some_iff.1 h).1
    simp at hlt
    have : k - P.length = 0 := by omega
    rw [this] at h
    simp at h
    exact .inr ⟨by omega, h.symm⟩
theorem Part.snoc {object m : Int} {l : List Sp} {P : List Int} {n : Int} {y : Sp} (h : Part object m l P) (hm : May object m l P (itemsOf object m l P) n y) : Part object m l (P ++ [n]) := by
  obtain ⟨h0, hy, hnew, hb, ht⟩ := hm
  have hlt : ∀ {k : Nat} {a : Int}, P[k]? = some a → k < P.length := fun hk => (List.getElem?_eq_some_iff.1 hk).1
  refine ⟨fun k a hk => ?_, fun j k a hjk h1 h2 => ?_, fun j k a b x z hjk h1 h2 hx hz => ?_, fun k a s hk hs h0' => ?_⟩
  · rcases snoc_get hk with hk | ⟨_, rfl⟩
    · exact h.inr k a hk
    · have := (List.getElem?_eq_some_iff.1 hy).1
      omega
  · rcases snoc_get h2 with g2 | ⟨rfl, rfl⟩
    · rcases snoc_get h1 with g1 | ⟨e, _⟩
      · exact h.once j k a hjk g1 g2
      · have := hlt g2; omega
    · rcases snoc_get h1 with h1 | ⟨rfl, _⟩
      · exact hnew (List.mem_of_getElem? h1)
      · omega
  · rcases snoc_get h2 with g2 | ⟨rfl, rfl⟩
    · rcases snoc_get h1 with g1 | ⟨e, _⟩
      · exact h.ahead j k a b x z hjk g1 g2 hx hz
      · have := hlt g2; omega
    · rcases snoc_get h1 with h1 | ⟨rfl, _⟩
      · rw [hy] at hz; cases hz
        exact hb a (List.mem_of_getElem? h1) x hx
      · omega
  · rw [told_snoc]
    rcases snoc_get hk with hk | ⟨rfl, rfl⟩
    · rw [List.getElem?_append_left (by rw [told_len]; exact hlt hk)]
      exact h.told k a s hk hs h0'
    · rw [hy] at hs; cases hs
      rw [List.getElem?_append_right (by rw [told_len]; omega), told_len, Nat.sub_self]
      have : opAt l a = y.op := by unfold opAt; rw [List.getD_eq_getElem?_getD, hy]; rfl
      rw [this, ← ht h0']
      rfl
theorem Part.may {object m : Int} {l : List Sp} {P : List Int} {n : Int} (h : Part object m l (P ++ [n])) : ∃ y, May object m l P (itemsOf object m l P) n y := by
  have hn : (P ++ [n])[P.length]? = some n := by simp
  have hl : ∀ {k : Nat} {a : Int}, P[k]? = some a → (P ++ [n])[k]? = some a := fun {k a} hk => by rw [List.getElem?_append_left (List.getElem?_eq_some_iff.1 hk).1]; exact hk
  obtain ⟨h0, h1⟩ := h.inr _ _ hn
  obtain ⟨y, hy⟩ : ∃ y, l[n.toNat]? = some y := ⟨_, List.getElem?_eq_getElem (by omega)⟩
  refine ⟨y, h0, hy, fun hm => ?_, fun a ha x hx => ?_, fun ht => ?_⟩
  · obtain ⟨k, hk⟩ := List.mem_iff_getElem?.1 hm
    exact h.once k P.length n (List.getElem?_eq_some_iff.1 hk).1 (hl hk) hn
  · obtain ⟨k, hk⟩ := List.mem_iff_getElem?.1 ha
    exact h.ahead k P.length a n x y (List.getElem?_eq_some_iff.1 hk).1 (hl hk) hn hx hy
  · have := h.told P.length n y hn hy ht
    rw [told_snoc, List.getElem?_append_right (by rw [told_len]; omega), told_len, Nat.sub_self] at this
    have he : opAt l n = y.op := by unfold opAt; rw [List.getD_eq_getElem?_getD, hy]; rfl
    rw [he] at this
    simpa using this
/-- .. from somewhere on -/
def FitsFrom (object m : Int) (l : List Sp) (P s : List Int) : List Int → Prop
  | [] => All l P
  | n :: rest => ∃ y, May object m l P s n y ∧ FitsFrom object m l (P ++ [n]) (apply object m s y.op).1 rest
theorem fitsFrom_iff {object m : Int} {l : List Sp} : ∀ (rest P : List Int), Part object m l P → (FitsFrom object m l P (itemsOf object m l P) rest ↔ Fit object m l (P ++ rest))
  | [], P, h => by rw [List.append_nil, fit_iff]; exact ⟨fun a => ⟨h, a⟩, fun a => a.2⟩
  | n :: rest, P, h => by
    have he : ∀ y, l[n.toNat]? = some y → itemsOf object m l (P ++ [n]) = (apply object m (itemsOf object m l P) y.op).1 := fun y hy => by
      rw [items_snoc]
      have : opAt l n = y.op := by unfold opAt; rw [List.getD_eq_getElem?_getD, hy]; rfl
      rw [this]
    constructor
    · rintro ⟨y, hm, hf⟩
      rw [← he y hm.2.1] at hf
      have := (fitsFrom_iff rest (P ++ [n]) (h.snoc hm)).1 hf
      rwa [List.append_assoc] at this
    · intro hf
      have hp : Part object m l (P ++ [n]) := by
        have := (fit_iff.1 hf).1
        rw [show P ++ n :: rest = (P ++ [n]) ++ rest by simp] at this
        exact this.front
      obtain ⟨y, hm⟩ := hp.may
      refine ⟨y, hm, ?_⟩
      rw [← he y hm.2.1]
      exact (fitsFrom_iff rest (P ++ [n]) hp).2 (by rwa [List.append_assoc])
theorem fits_iff {object m : Int} {l : List Sp} (order : List Int) : FitsFrom object m l [] [] order ↔ Fit object m l order := fitsFrom_iff order [] (.nil object m l)
end Go.Rp
/-! the order in which the operations of choices were made: it fits -/
namespace Go.Rp
/-- 0, 1, .. -/
def ordTo (n : Nat) : List Int := (List.range n).map fun (k : Nat) => (k : Int)
theorem ordTo_len (n : Nat) : (ordTo n).length = n := by simp [ordTo]
theorem ordTo_succ (n : Nat) : ordTo (n + 1) = ordTo n ++ [(n : Int)] := by simp [ordTo, List.range_succ]
theorem ordTo_get {n k : Nat} (h : k < n) : (ordTo n)[k]? = some (k : Int) := by simp [ordTo, h]
theorem ordTo_get_some {n k : Nat} {a : Int} (h : (ordTo n)[k]? = some a) : k < n ∧ a = k := by
  have hk := (List.getElem?_eq_some_iff.1 h).1
  rw [ordTo_len] at hk
  rw [ordTo_get hk] at h
  cases h
  exact ⟨hk, rfl⟩
theorem mem_ordTo {n : Nat} {a : Int} : a ∈ ordTo n ↔ ∃ k : Nat, k < n ∧ a = k := by
  simp only [ordTo, List.mem_map, List.mem_range]
  exact ⟨fun ⟨k, h, e⟩ => ⟨k, h, e.symm⟩, fun ⟨k, h, e⟩ => ⟨k, h, e.symm⟩⟩
theorem spansTo_get (object m : Int) (os : List O) (d : List Int) : ∀ {n k : Nat}, k < n → (spansTo object m os d n)[k]? = some (spanAt d k (os.getD k ⟨0, 0⟩) (apply object m (run object m [] (os.take k)).1 (os.getD k ⟨0, 0⟩)).2)
  | 0, k, h => by omega
  | n + 1, k, h => by
    unfold spansTo
    rcases Nat.lt_or_ge k n with hlt | hge
    · rw [List.getElem?_append_left (by rw [spansTo_len]; exact hlt)]
      exact spansTo_get object m os d hlt
    · obtain rfl : k = n := by omega
      rw [List.getElem?_append_right (by rw [spansTo_len]; omega), spansTo_len, Nat.sub_self]
      rfl
theorem spans_len (object m : Int) (c d : List Int) : (spans object m c d).length = (done c).length := spansTo_len _ _ _ _ _
theorem logs_len (object m : Int) (c : List Int) : (logs object m c).length = (done c).length := logTo_len _ _ _ _
theorem spans_get {object m : Int} {c d : List Int} {k : Nat} (h : k < (done c).length) : (spans object m c d)[k]? = some (spanAt d k ((done c).getD k ⟨0, 0⟩) (apply object m (run object m [] ((done c).take k)).1 ((done c).getD k ⟨0, 0⟩)).2) := spansTo_get _ _ _ _ h
theorem spanAt_op (d : List Int) (k : Nat) (o : O) (r : R) : (spanAt d k o r).op = o := by
  unfold spanAt
  split
  · rfl
  · split <;> rfl
theorem spanAt_fr (d : List Int) (k : Nat) (o : O) (r : R) : (∀ x ∈ d, 0 ≤ x) → (spanAt d k o r).fr ≤ 4 * k := by
  intro hd
  unfold spanAt
  split
  · simp only; omega
  · rename_i x hx
    have := hd x (List.mem_of_getElem? hx)
    split <;> (simp only; omega)
theorem spanAt_to (d : List Int) (k : Nat) (o : O) (r : R) : (∀ x ∈ d, 0 ≤ x) → (spanAt d k o r).to = -1 ∨ 4 * k ≤ (spanAt d k o r).to := by
  intro hd
  unfold spanAt
  split
  · right; simp only; omega
  · rename_i x hx
    have := hd x (List.mem_of_getElem? hx)
    split
    · left; rfl
    · right; simp only; omega
theorem spanAt_res {d : List Int} {k : Nat} {o : O} {r : R} (h : 0 ≤ (spanAt d k o r).to) : (spanAt d k o r).res = r := by
  unfold spanAt at h ⊢
  split
  · rfl
  · split
    · rename_i h1 h2
      rw [h1] at h
      simp only [if_pos h2] at h
      omega
    · rfl
theorem done_k {c : List Int} (hc : ∀ x ∈ c, 0 ≤ x) : ∀ o ∈ done c, 0 ≤ o.k := by
  intro o ho
  unfold done ops at ho
  obtain ⟨x, hx, rfl⟩ := List.mem_map.1 (List.mem_of_mem_take ho)
  have := hc x (List.mem_of_mem_take hx)
  unfold opOf
  simp only
  omega
theorem spans_k {object m : Int} {c d : List Int} (hc : ∀ x ∈ c, 0 ≤ x) : ∀ y ∈ spans object m c d, 0 ≤ y.op.k := by
  intro y hy
  obtain ⟨k, hk⟩ := List.mem_iff_getElem?.1 hy
  have hlt := (List.getElem?_eq_some_iff.1 hk).1
  rw [spans_len] at hlt
  rw [spans_get hlt] at hk
  cases hk
  rw [spanAt_op]
  refine done_k hc _ ?_
  rw [List.getD_eq_getElem?_getD, List.getElem?_eq_getElem hlt]
  exact List.getElem_mem hlt
theorem run_get (object m : Int) : ∀ (os : List O) (s : List Int) (k : Nat) (o : O), os[k]? = some o → (run object m s os).2[k]? = some (apply object m (run object m s (os.take k)).1 o).2
  | [], s, k, o, h => by simp at h
  | x :: os, s, 0, o, h => by simp at h; subst h; simp [run]
  | x :: os, s, k + 1, o, h => by
    simp only [List.getElem?_cons_succ] at h
    simp only [run, List.getElem?_cons_succ, List.take_succ_cons]
    exact run_get object m os _ k o h
theorem ord_ops (object m : Int) (c d : List Int) : (ordTo (spans object m c d).length).map (opAt (spans object m c d)) = done c := by
  refine List.ext_getElem? fun k => ?_
  rw [List.getElem?_map]
  rcases Nat.lt_or_ge k (done c).length with hlt | hge
  · rw [ordTo_get (by rw [spans_len]; exact hlt)]
    simp only [Option.map_some]
    rw [opAt_of (spans_get hlt), spanAt_op, List.getD_eq_getElem?_getD, List.getElem?_eq_getElem hlt]
    rfl
  · rw [List.getElem?_eq_none (by rw [ordTo_len, spans_len]; exact hge), List.getElem?_eq_none hge]
    rfl
/-- operations in the order in which they were made -/
theorem own_fit {object m : Int} {c d : List Int} (hd : ∀ x ∈ d, 0 ≤ x) : Fit object m (spans object m c d) (ordTo (spans object m c d).length) := by
  refine ⟨fun k n h => ?_, fun j k n hjk h1 h2 => ?_, fun j k a b x y hjk h1 h2 hx hy => ?_, fun k s hs _ => ?_, fun k n s h hs ht => ?_⟩
  · obtain ⟨hk, rfl⟩ := ordTo_get_some h
    omega
  · obtain ⟨_, rfl⟩ := ordTo_get_some h1
    obtain ⟨_, e⟩ := ordTo_get_some h2
    omega
  · obtain ⟨hj, rfl⟩ := ordTo_get_some h1
    obtain ⟨hk, rfl⟩ := ordTo_get_some h2
    rw [Int.toNat_natCast] at hx hy
    rw [spans_len] at hj hk
    rw [spans_get hj] at hx
    rw [spans_get hk] at hy
    cases hx; cases hy
    unfold before
    have h1 := spanAt_fr d j ((done c).getD j ⟨0, 0⟩) (apply object m (run object m [] ((done c).take j)).1 ((done c).getD j ⟨0, 0⟩)).2 hd
    rcases spanAt_to d k ((done c).getD k ⟨0, 0⟩) (apply object m (run object m [] ((done c).take k)).1 ((done c).getD k ⟨0, 0⟩)).2 hd with h2 | h2
    · rw [h2]; rfl
    · rw [Bool.and_eq_false_iff]
      right
      simp only [decide_eq_false_iff_not]
      omega
  · exact mem_ordTo.2 ⟨k, (List.getElem?_eq_some_iff.1 hs).1, rfl⟩
  · obtain ⟨hk, rfl⟩ := ordTo_get_some h
    rw [Int.toNat_natCast] at hs
    rw [spans_len] at hk
    unfold toldOf
    rw [ord_ops, run_get object m (done c) [] k _ (List.getElem?_eq_getElem hk)]
    rw [spans_get hk] at hs
    cases hs
    rw [spanAt_res ht]
    simp [List.getD_eq_getElem?_getD, List.getElem?_eq_getElem hk]
end Go.Rp
