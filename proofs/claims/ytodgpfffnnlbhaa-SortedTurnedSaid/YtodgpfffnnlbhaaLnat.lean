import Derived.Test.YtodgpfffnnlbhaaLope
/-! L: functions of the library that L knows -/
set_option linter.unusedVariables false
set_option linter.unusedSimpArgs false
namespace Go.L
open Go.RowKit
section
variable {vc : Bool} {P : Program} {o : Oper} {a : Act} {g : G} {w : World} {F : List S} {h : Heap}

/-- a row of the call's own, behind a call that was handed what 'v' owns -/
def NatPost (w : World) (v : Value) (e n : Nat) (xs : List Value) (en : Ending) (w' : World) : Prop :=
  ∃ v', en = .returned v' ∧ w'.ownsRow 0 e 1 v' n xs ∧ w.grownBy w' v.ownBlock ∧ ∀ β, v'.ownBlock = some β → v.ownBlock = some β ∨ w.heap.size ≤ β
structure NatOk (P : Program) : Prop where
  fn : ∀ f k e, natF P f = some (k, e) → ∃ fn, P.funcs[f]? = some fn ∧ fn.body.isNone = false ∧ (fn.name == "runtime.NumGoroutine") = false
  clone : ∀ f e, natF P f = some (0, e) → ∀ (w : World) (A : Option Addr) (cap : Nat) (ad : Addr) (xs : List Value), xs.length < lim → (xs = [] ∨ A = some ad) → (∀ (j : Nat) u, xs[j]? = some u → w.cell? (ad.add j) = some u) → (∀ u ∈ xs, u.oneCell' = true) →
    Calls P f #[.slice A xs.length cap] w (NatPost w (.slice none 0 0) e xs.length xs)
  insert : ∀ f e, natF P f = some (1, e) → ∀ (w : World) (v vy : Value) (xs : List Value) (x : Value) (i : Nat), w.ownsRow 0 e 1 v xs.length xs → w.ownsRow 0 e 1 vy 1 [x] → v.ownBlock ≠ vy.ownBlock → i ≤ xs.length → xs.length + 1 < lim → (∀ u ∈ xs, u.oneCell' = true) → x.oneCell' = true →
    Calls P f #[v, .int .i64 i, vy] w (NatPost w v e (xs.length + 1) (xs.take i ++ [x] ++ xs.drop i))
  delete : ∀ f e, natF P f = some (2, e) → ∀ (w : World) (v : Value) (xs : List Value) (i j : Nat), w.ownsRow 0 e 1 v xs.length xs → i < j → j ≤ xs.length → xs.length < lim → (∀ u ∈ xs, u.oneCell' = true) →
    Calls P f #[v, .int .i64 i, .int .i64 j] w (NatPost w v e (xs.length - (j - i)) (xs.take i ++ xs.drop j))

/-- a row of the call's own, behind such a call -/
theorem own_back {v v' : Value} {w' : World} {e s : Nat} {l : List (List V)} {xs : List Value} {F1 : List S} (hh : Hinv g h w) (hf : Finv g F1 a.tmps w) (hun : ∀ x, F1[s]? = some x → lin x = false ∨ x = .gone)
    (how : ∀ β, v.ownBlock = some β → g.ow β = some (.slot s)) (hones : ∀ es ∈ l, es.length = 1 ∧ Ones es) (hvl : VL g.im g.io l.flatten xs)
    (hown : w'.ownsRow 0 e 1 v' l.length xs) (hg : w.grownBy w' v.ownBlock) (hob : ∀ β, v'.ownBlock = some β → v.ownBlock = some β ∨ w.heap.size ≤ β) :
    ∃ g', Hinv g' h w' ∧ Finv g' (put F1 o.dst (.own e 1 l)) (a.put o.dst v').tmps w' ∧ Step g w g' w' := by
  have hsame : ∀ β, β < w.heap.size → g.ow β ≠ some (.slot s) → w'.heap[β]? = w.heap[β]? := fun β hβ hne => hg.block β hβ fun e => hne (how β e.symm)
  -- the ghost behind it
  let g' : G := match v'.ownBlock with | some β => g.own β (o.dst.map .slot) | none => g
  have him : g'.im = g.im := by show (match v'.ownBlock with | some β => g.own β (o.dst.map .slot) | none => g).im = _; split <;> rfl
  have hio : g'.io = g.io := by show (match v'.ownBlock with | some β => g.own β (o.dst.map .slot) | none => g).io = _; split <;> rfl
  have howner : ∀ β, v'.ownBlock = some β → g'.ow β = o.dst.map .slot := fun β hβ => by
    show (match v'.ownBlock with | some β => g.own β (o.dst.map .slot) | none => g).ow β = _
    rw [hβ]; exact G.own_same _ _ _
  have hother : ∀ β, v'.ownBlock ≠ some β → g'.ow β = g.ow β := fun β hβ => by
    show (match v'.ownBlock with | some β => g.own β (o.dst.map .slot) | none => g).ow β = _
    split
    · rename_i b hb
      exact G.own_ne _ _ (by rintro rfl; exact hβ hb)
    · rfl
  have hkeep : ∀ β, g.ow β ≠ some (.slot s) → β < w.heap.size → g'.ow β = g.ow β := fun β h1 h2 => hother β fun e => by
    rcases hob β e with h | h
    · exact h1 (how β h)
    · omega
  refine ⟨g', ?_, ?_, ⟨fun p v hp => by rw [him]; exact hp, fun b β hb => by rw [hio]; exact hb, fun p v hp => .inl (by rw [him] at hp; exact hp), fun β hβ h0 => ?_, hg.os, hg.tape, hg.output, hg.size, fun β hβ h0 => hsame β hβ (by rw [h0]; simp)⟩⟩
  · refine hh.keep him hio (fun β h0 hlt => ⟨?_, hsame β hlt (by rw [h0]; simp)⟩) (fun β b hb => ⟨?_, hsame β (hh.ow β (by rw [hb]; simp)) (by rw [hb]; simp)⟩) (fun β hβ => ?_)
    · rw [hkeep β (by rw [h0]; simp) hlt]; exact h0
    · have := hh.ow β (by rw [hb]; simp)
      rw [hkeep β (by rw [hb]; simp) (by omega)]; exact hb
    · by_cases hv : v'.ownBlock = some β
      · exact (hown.lt β hv).2
      · rw [hother β hv] at hβ
        exact Nat.lt_of_lt_of_le (hh.ow β hβ) hg.size
  · refine Finv.put ?_ o.dst (.own e 1 l) v' (fun k hk _ => show SR _ _ _ _ (.own e 1 l) _ from ⟨xs, hown, hones, by rw [him, hio]; exact hvl, fun β hβ => by rw [howner β hβ, hk]; rfl⟩) (fun k e sz i c _ he => by cases he)
    refine hf.keep3 (by rw [him]; exact fun _ _ h => h) (by rw [hio]; exact fun _ _ h => h) fun s' x hx hl hng β hβ => ?_
    have hne : g.ow β ≠ some (.slot s) := fun e => by
      rw [hβ] at e; injection e with e; injection e with e
      subst e
      rcases hun x hx with h | h
      · rw [h] at hl; cases hl
      · exact hng h
    have hlt := hh.ow β (by rw [hβ]; simp)
    exact ⟨by rw [hkeep β hne (by omega)]; exact hβ, hsame β hlt hne⟩
  · rw [hkeep β (by rw [h0]; simp) (by omega)]; exact h0

theorem evI_sound (hf : Finv g F a.tmps w) {x : Operand} {n : Nat} (he : evI F x = some n) : a.eval x = .int .i64 (n : Int) := by
  unfold evI at he
  split at he
  · rename_i m hv
    split at he
    · rename_i h0
      cases he
      have := evV_sound hf hv
      generalize a.eval x = y at this
      cases this
      rw [Int.toNat_of_nonneg h0]
    · cases he
  · cases he
theorem flat1 {l : List (List V)} (h : ∀ es ∈ l, es.length = 1 ∧ Ones es) (n : Nat) : (l.take n).flatten = l.flatten.take n ∧ (l.drop n).flatten = l.flatten.drop n := by
  induction l generalizing n with
  | nil => simp
  | cons es l ih =>
    cases n with
    | zero => simp
    | succ n =>
      obtain ⟨h1, h2⟩ := ih (fun e he => h e (List.mem_cons_of_mem _ he)) n
      have hl := (h es (List.mem_cons_self ..)).1
      obtain ⟨x, rfl⟩ := List.length_eq_one_iff.1 hl
      simp [h1, h2]
theorem own_ones {im : Im} {io : Io} {l : List (List V)} {xs : List Value} (h : ∀ es ∈ l, es.length = 1 ∧ Ones es) (hv : VL im io l.flatten xs) : xs.length = l.length ∧ ∀ u ∈ xs, u.oneCell' = true :=
  ⟨by rw [← hv.1, flatten_len (fun es hes => (h es hes).1), Nat.mul_one], hv.oneCell fun x hx => by
    obtain ⟨es, hes, hx⟩ := List.mem_flatten.1 hx
    exact (h es hes).2 x hx⟩

/-- what such a call comes to -/
theorem nat_sound (hnat : NatOk P) {f k e : Nat} {args : List Operand} (hfk : natF P f = some (k, e)) {R : Type} {K : List S → Option R} {r : R} (hx : natx o k e args F h K = some r) (hh : Hinv g h w) (hf : Finv g F a.tmps w) :
    Calls P f (args.map a.eval).toArray w fun en w' => ∃ v' F' g', en = .returned v' ∧ K F' = some r ∧ Hinv g' h w' ∧ Finv g' F' (a.put o.dst v').tmps w' ∧ Step g w g' w' := by
  unfold natx at hx
  split at hx
  · rename_i x
    split at hx
    · rename_i sz l hc
      split at hx
      · rename_i hcond
        obtain ⟨hsz, hlen⟩ := hcond
        obtain ⟨A, cap, ad, hv, hA, hs, ys, hr⟩ := evC_sound hh hf hc
        have hs' : ∀ es ∈ l, es.length = 1 ∧ Ones es := fun es hes => by
          rcases hsz with rfl | hn
          · exact hs es hes
          · simp at hn; subst hn; cases hes
        have hr' : ∀ (k : Nat) es (j : Nat) x, l[k]? = some es → es[j]? = some x → w.cell? (ad.add (k * 1 + j)) = some (ys k j) ∧ VR g.im g.io x (ys k j) := fun k es j x hk hj => by
          rcases hsz with rfl | hn
          · exact hr k es j x hk hj
          · simp at hn; subst hn; simp at hk
        obtain ⟨nc, n1, n2, n3⟩ := news_read hA hs' (by omega) hr'
        obtain ⟨m1, m2⟩ := own_ones hs' n2
        rw [show ([x] : List Operand).map a.eval = [.slice A nc.length cap] from by rw [List.map_cons, List.map_nil, hv, m1]]
        have hcell : ∀ (j : Nat) u, nc[j]? = some u → w.cell? (ad.add j) = some u := n3
        refine (hnat.clone f e hfk w A cap ad nc (by rw [m1]; exact hlen) (by
          rcases hA with h | h
          · left; subst h; exact List.eq_nil_of_length_eq_zero (by rw [m1]; rfl)
          · exact .inr h) hcell m2).mono ?_
        rintro en w' ⟨v', rfl, h1, h2, h3⟩
        obtain ⟨g', b1, b2, b3⟩ := own_back (o := o) (s := F.length) (l := l) (v := .slice none 0 0) hh hf (fun x hx => by rw [List.getElem?_eq_none (Nat.le_refl _)] at hx; cases hx) (fun β hβ => by simp [Value.ownBlock] at hβ) hs' n2 (by rw [← m1]; exact h1) h2 h3
        exact ⟨v', _, g', rfl, hx, b1, b2, b3⟩
      · cases hx
    · cases hx
  · rename_i s i y
    split at hx
    · rename_i e1 s1 l n e2 s2 x hs hi hy
      split at hx
      · rename_i hcond
        obtain ⟨⟨rfl, rfl⟩, ⟨rfl, rfl⟩, hne, hn, hlen⟩ := hcond
        obtain ⟨xs, h1, h2, h3, h4⟩ := hf.getD hs
        obtain ⟨zs, k1, k2, k3, k4⟩ := hf.getD hy
        obtain ⟨m1, m2⟩ := own_ones h2 h3
        obtain ⟨m3, m4⟩ := own_ones k2 k3
        obtain ⟨z, rfl⟩ := List.length_eq_one_iff.1 m3
        have hob : (a.eval (.tmp (rt F s))).ownBlock ≠ (a.eval (.tmp (rt F y))).ownBlock ∨ (a.eval (.tmp (rt F y))).ownBlock = none := by
          cases hb : (a.eval (.tmp (rt F y))).ownBlock with
          | none => exact .inr rfl
          | some β =>
            refine .inl fun hc => ?_
            have q1 := k4 β hb
            have q2 := h4 β hc
            rw [q1] at q2; injection q2 with q2; injection q2 with q2
            exact hne q2.symm
        have hyb : (a.eval (.tmp (rt F y))).ownBlock ≠ none := by
          rcases k1.2 with ⟨_, h0⟩ | ⟨b, cap, cur, hb, _⟩
          · cases h0
          · rw [hb]; simp [Value.ownBlock]
        have hob' := hob.resolve_right hyb
        rw [show ([.tmp s, i, .tmp y] : List Operand).map a.eval = [a.eval (.tmp (rt F s)), .int .i64 n, a.eval (.tmp (rt F y))] from by
          simp only [List.map_cons, List.map_nil, rt_eval hf, evI_sound hf hi]]
        refine (hnat.insert f _ hfk w _ _ xs z n (by rw [m1]; exact h1) k1 hob' (by rw [m1]; exact hn) (by rw [m1]; exact hlen) m2 (m4 z (by simp))).mono ?_
        rintro en w' ⟨v', rfl, q1, q2, q3⟩
        have hx1 : x.length = 1 := (k2 x (by simp)).1
        have hshape : ∀ es ∈ l.take n ++ [x] ++ l.drop n, es.length = 1 ∧ Ones es := fun es hes => by
          rcases List.mem_append.1 hes with hes | hes
          · rcases List.mem_append.1 hes with hes | hes
            · exact h2 es (List.mem_of_mem_take hes)
            · exact k2 es hes
          · exact h2 es (List.mem_of_mem_drop hes)
        have hvl : VL g.im g.io (l.take n ++ [x] ++ l.drop n).flatten (xs.take n ++ [z] ++ xs.drop n) := by
          rw [List.flatten_append, List.flatten_append, (flat1 h2 n).1, (flat1 h2 n).2]
          exact ((h3.take n).append (by simpa using k3)).append (h3.drop n)
        have hll : (l.take n ++ [x] ++ l.drop n).length = xs.length + 1 := by simp; omega
        obtain ⟨g', b1, b2, b3⟩ := own_back (o := o) (s := rt F s) (l := l.take n ++ [x] ++ l.drop n) hh (hf.give hs rfl) (fun x hx => .inr (by rw [List.getElem?_set_self (List.getElem?_eq_some_iff.1 hs).1] at hx; cases hx; rfl)) h4 hshape hvl (by rw [hll]; exact q1) q2 q3
        exact ⟨v', _, g', rfl, hx, b1, b2, b3⟩
      · cases hx
    · cases hx
  · rename_i s i j
    split at hx
    · rename_i e1 s1 l n m hs hi hj
      split at hx
      · rename_i hcond
        obtain ⟨⟨rfl, rfl⟩, hnm, hm, hlen⟩ := hcond
        obtain ⟨xs, h1, h2, h3, h4⟩ := hf.getD hs
        obtain ⟨m1, m2⟩ := own_ones h2 h3
        rw [show ([.tmp s, i, j] : List Operand).map a.eval = [a.eval (.tmp (rt F s)), .int .i64 n, .int .i64 m] from by
          simp only [List.map_cons, List.map_nil, rt_eval hf, evI_sound hf hi, evI_sound hf hj]]
        refine (hnat.delete f _ hfk w _ xs n m (by rw [m1]; exact h1) hnm (by rw [m1]; exact hm) (by rw [m1]; exact hlen) m2).mono ?_
        rintro en w' ⟨v', rfl, q1, q2, q3⟩
        have hshape : ∀ es ∈ l.take n ++ l.drop m, es.length = 1 ∧ Ones es := fun es hes => by
          rcases List.mem_append.1 hes with hes | hes
          · exact h2 es (List.mem_of_mem_take hes)
          · exact h2 es (List.mem_of_mem_drop hes)
        have hvl : VL g.im g.io (l.take n ++ l.drop m).flatten (xs.take n ++ xs.drop m) := by
          rw [List.flatten_append, (flat1 h2 n).1, (flat1 h2 m).2]
          exact (h3.take n).append (h3.drop m)
        have hll : (l.take n ++ l.drop m).length = xs.length - (m - n) := by simp; omega
        obtain ⟨g', b1, b2, b3⟩ := own_back (o := o) (s := rt F s) (l := l.take n ++ l.drop m) hh (hf.give hs rfl) (fun x hx => .inr (by rw [List.getElem?_set_self (List.getElem?_eq_some_iff.1 hs).1] at hx; cases hx; rfl)) h4 hshape hvl (by rw [hll]; exact q1) q2 q3
        exact ⟨v', _, g', rfl, hx, b1, b2, b3⟩
      · cases hx
    · cases hx
  · cases hx
end
end Go.L
