import Derived.Test.YtodgpfffnnlbhaaLopk
/-! L: regions whose operations may be turned round: what is done, by what it writes -/
set_option linter.unusedVariables false
set_option linter.unusedSimpArgs false
namespace Go.L
open Go.RowKit
/-- what a pure call answers does not hang on the heap -/
def RecLoc (gc : FuncId → Bool) (rec : Rec) : Prop := ∀ f args r h', gc f = true → rec f args [] = some (r, h') → ∀ h, rec f args h = some (r, h)
section
variable {vc : Bool} {P : Program} {o : Oper} {F : List S} {h : Heap} {gc keep : FuncId → Bool} {rec : Rec}

theorem put_wr {d : Option Nat} (hd : dstOk F d = true) (s : S) : put F d s = appF F (wr d s) := by
  cases d with
  | none => rfl
  | some d =>
    unfold dstOk at hd
    unfold put wr appF
    simp only at hd ⊢
    split at hd <;> first | (cases hd; done) | skip
    rename_i h1 h2 h3 h4
    split
    · rename_i e; exact (h1 _ _ _ e).elim
    · rename_i e; exact (h2 _ _ e).elim
    · rename_i e; exact (h3 e).elim
    · rfl
theorem rt_v {s : Nat} {x : V} (h : F[s]? = some (.v x)) : rt F s = s := by unfold rt; rw [h]
theorem evE_of_evV {x : Operand} {v : V} (hx : evV F x = some v) : evE vc F h x = some (v, F, h) := by
  cases x with
  | tmp t =>
    simp only [evV] at hx
    simp only [evE]
    split at hx
    · rename_i y hy; cases hx; simp only [hy]
    · cases hx
  | const c => simp only [evV] at hx; simp only [evE, hx]; rfl
  | func f => cases hx; rfl
  | global g => cases hx
theorem evEs_of_evVs : ∀ {xs : List Operand} {vs : List V}, evVs F xs = some vs → evEs vc F h xs = some (vs, F, h)
  | [], vs, hx => by cases hx; rfl
  | x :: xs, vs, hx => by
    unfold evVs at hx
    split at hx
    · rename_i v vs' h1 h2
      cases hx
      unfold evEs
      simp only [evE_of_evV h1, evEs_of_evVs h2]
    · cases hx

theorem placex_place {x : Operand} {cs : List V} {n c : Nat} (hx : place F h x = some (cs, n, c)) {R : Type} (K : List V → Nat → Nat → Option R) : placex F h x K = K cs n c := by
  cases x with
  | tmp s =>
    unfold place at hx
    unfold placex
    cases hs : F[s]? with
    | none => simp [hs] at hx
    | some y =>
      cases y with
      | bx n' cs' => simp only [hs] at hx ⊢; cases hx; rfl
      | fp d sz i c' =>
        simp only [hs] at hx ⊢
        cases hd : F[d]? with
        | none => simp [hd] at hx
        | some z =>
          cases z with
          | bx n' cs' =>
            simp only [hd] at hx ⊢
            by_cases hi : i = 0
            · rw [if_pos hi] at hx ⊢; cases hx; rfl
            · rw [if_neg hi] at hx; cases hx
          | own e sz' l =>
            simp only [hd] at hx ⊢
            by_cases hi : sz' = sz ∧ 0 < sz
            · rw [if_pos hi] at hx ⊢
              cases he : l[i]? with
              | none => simp [he] at hx
              | some es => simp only [he] at hx ⊢; cases hx; rfl
            · rw [if_neg hi] at hx; cases hx
          | _ => simp [hd] at hx
      | v z => simp only [hs] at hx ⊢; rw [hx]
      | _ => simp [hs] at hx
  | _ => cases hx
theorem plusxu_spec {k : Nat} {x : Operand} {d : Option Nat} {R : Type} {K : S → Option R} {r : R} (hm : plusx F k x d K = some r) : ∃ s, K s = some r ∧ ∀ (R' : Type) (K' : S → Option R'), plusx F k x d K' = K' s := by
  cases x with
  | tmp t =>
    simp only [plusx] at hm ⊢
    split at hm
    · split at hm
      · cases hm
      · rename_i hd
        exact ⟨_, hm, fun R' K' => if_neg hd⟩
    · split at hm
      · cases hm
      · rename_i ha
        split at hm
        · cases hm
        · rename_i hd
          exact ⟨_, hm, fun R' K' => by rw [if_neg ha, if_neg hd]⟩
    · split at hm
      · rename_i z hz
        exact ⟨_, hm, fun R' K' => by simp only [hz]⟩
      · cases hm
    · cases hm
  | _ => cases hm
theorem writeu_spec {vs : List V} {x : Operand} {R : Type} {K : List (Nat × S) → HE → Option R} {r : R} (hx : writeux F h vs x K = some r) : ∃ us hs, K us hs = some r ∧
    (∀ (R' : Type) (K' : List (Nat × S) → HE → Option R'), writeux F h vs x K' = K' us hs) ∧ (∀ (R' : Type) (K' : List S → Heap → Option R'), writex F h vs x K' = K' (appF F us) (appE h hs)) ∧ ∀ p ∈ us, ∃ y, F[p.1]? = some y ∧ lin y = true := by
  cases x with
  | tmp s =>
    simp only [writeux] at hx
    simp only [writeux, writex]
    split at hx
    · rename_i n cs h1
      split at hx
      · rename_i hc
        refine ⟨_, _, hx, ?_⟩
        simp only [h1, hc, if_true, appF, appE, appH, implies_true, true_and]
        intro p hp
        rw [List.mem_singleton] at hp
        subst hp
        exact ⟨_, h1, rfl⟩
      · cases hx
    · rename_i d sz i c' h1
      split at hx
      · rename_i n cs h2
        split at hx
        · rename_i hi
          refine ⟨_, _, hx, ?_⟩
          simp only [h1, h2, hi, and_self, if_true, appF, appE, appH, implies_true, true_and]
          intro p hp
          rw [List.mem_singleton] at hp
          subst hp
          exact ⟨_, h2, rfl⟩
        · cases hx
      · rename_i e sz' l h2
        split at hx
        · rename_i hi
          split at hx
          · rename_i es he
            refine ⟨_, _, hx, ?_⟩
            simp only [h1, h2, hi, and_self, if_true, he, appF, appE, appH, implies_true, true_and]
            intro p hp
            rw [List.mem_singleton] at hp
            subst hp
            exact ⟨_, h2, rfl⟩
          · cases hx
        · cases hx
      · cases hx
    · rename_i y h1
      split at hx
      · rename_i b x h2
        refine ⟨_, _, hx, ?_⟩
        simp only [h1, h2, appF, appE, appH, implies_true, true_and]
        intro p hp
        cases hp
      · cases hx
    · cases hx
  | _ => cases hx
theorem appF_append : ∀ (us vs : List (Nat × S)) (F : List S), appF F (us ++ vs) = appF (appF F us) vs
  | [], _, _ => rfl
  | (k, s) :: us, vs, F => by simp only [List.cons_append, appF]; exact appF_append us vs _
theorem appF_len : ∀ (us : List (Nat × S)) (F : List S), (appF F us).length = F.length
  | [], _ => rfl
  | (k, s) :: us, F => by simp only [appF]; rw [appF_len us]; simp
theorem appF_ne : ∀ (us : List (Nat × S)) (F : List S) (k : Nat), k ∉ us.map (·.1) → (appF F us)[k]? = F[k]?
  | [], _, _, _ => rfl
  | (j, s) :: us, F, k, hk => by
    simp only [List.map_cons, List.mem_cons, not_or] at hk
    simp only [appF]
    rw [appF_ne us _ k hk.2, List.getElem?_set_ne (fun e => hk.1 e.symm)]
theorem dstOk_app {us : List (Nat × S)} {d : Option Nat} (hd : dstOk F d = true) (hl : ∀ p ∈ us, ∃ y, F[p.1]? = some y ∧ lin y = true) : dstOk (appF F us) d = true := by
  cases d with
  | none => rfl
  | some d =>
    unfold dstOk at hd ⊢
    simp only at hd ⊢
    rw [appF_ne]
    · exact hd
    · intro hm
      obtain ⟨p, hp, rfl⟩ := List.mem_map.1 hm
      obtain ⟨y, hy, hly⟩ := hl p hp
      rw [hy] at hd
      cases y <;> simp [lin] at hly <;> simp at hd

theorem resu_spec {f : FuncId} {d : Option Nat} {vs : List V} {he : HE} (hd : dstOk F d = true) {R : Type} {K : List (Nat × S) → HE → Option R} {r : R} (hx : resu P f d vs he K = some r) : ∃ us, K us he = some r ∧
    (∀ (R' : Type) (K' : List (Nat × S) → HE → Option R'), resu P f d vs he K' = K' us he) ∧ (∀ (R' : Type) (K' : List S → Heap → Option R') (h : Heap), resK P f d vs F h K' = K' (appF F us) h) := by
  have hp : ∀ s, put F d s = appF F (wr d s) := fun s => put_wr hd s
  unfold resu at hx
  unfold resu resK
  split at hx
  · rename_i h1
    split at hx
    · refine ⟨_, hx, ?_⟩
      simp only [h1, if_true, hp, implies_true, and_self]
    · cases hx
  · rename_i h1
    refine ⟨_, hx, ?_⟩
    simp only [h1, if_false, hp, implies_true, and_self, Bool.false_eq_true]
theorem put_give {d : Option Nat} (hd : dstOk F d = true) {t : Nat} {y : S} (hy : F[t]? = some y) (hl : lin y = true) (x : S) : put (F.set t .gone) d x = appF F ((t, .gone) :: wr d x) := by
  have := dstOk_app (us := [(t, S.gone)]) hd (fun p hp => by rw [List.mem_singleton] at hp; subst hp; exact ⟨y, hy, hl⟩)
  exact put_wr this x
theorem natu_spec (hd : dstOk F o.dst = true) {k e : Nat} {args : List Operand} {R : Type} {K : List (Nat × S) → HE → Option R} {r : R} (hx : natux o k e args F h K = some r) : ∃ us, K us (.sets []) = some r ∧
    (∀ (R' : Type) (K' : List (Nat × S) → HE → Option R'), natux o k e args F h K' = K' us (.sets [])) ∧ (∀ (R' : Type) (K' : List S → Heap → Option R') (h2 : Heap), natx o k e args F h (fun F => K' F h2) = K' (appF F us) h2) := by
  unfold natux at hx
  split at hx
  · split at hx
    · rename_i sz l h1
      split at hx
      · rename_i hc
        refine ⟨_, hx, ?_⟩
        simp only [natux, natx, h1, hc, and_self, if_true, put_wr hd, implies_true]
      · cases hx
    · cases hx
  · split at hx
    · rename_i h1 h2 h3
      split at hx
      · rename_i hc
        refine ⟨_, hx, ?_⟩
        simp only [natux, natx, h1, h2, h3, hc, and_self, if_true, put_give hd h1 rfl, implies_true, not_false_eq_true, ne_eq]
      · cases hx
    · cases hx
  · split at hx
    · rename_i h1 h2 h3
      split at hx
      · rename_i hc
        refine ⟨_, hx, ?_⟩
        simp only [natux, natx, h1, h2, h3, hc, and_self, if_true, put_give hd h1 rfl, implies_true]
      · cases hx
    · cases hx
  · cases hx
theorem evE_len {F F' : List S} {h h' : Heap} {x : Operand} {v : V} (hx : evE vc F h x = some (v, F', h')) : F'.length = F.length := by
  cases x with
  | tmp t =>
    simp only [evE] at hx
    split at hx
    · cases hx; rfl
    · split at hx <;> (cases hx; simp)
    · cases hx; simp [promote]
    · split at hx
      · split at hx
        · split at hx <;> (cases hx; simp)
        · cases hx
      · split at hx
        · cases hx; simp [promote]
        · cases hx
      · cases hx
    · cases hx
  | const c =>
    simp only [evE] at hx
    cases hv : ofValue c with
    | none => simp [hv] at hx
    | some y => simp [hv] at hx; rw [hx.2.1]
  | func f => cases hx; rfl
  | global g => cases hx
theorem evEs_len : ∀ {xs : List Operand} {F F' : List S} {h h' : Heap} {vs : List V}, evEs vc F h xs = some (vs, F', h') → F'.length = F.length
  | [], F, F', h, h', vs, hx => by cases hx; rfl
  | x :: xs, F, F', h, h', vs, hx => by
    unfold evEs at hx
    split at hx
    · rename_i v F1 h1 e1
      split at hx
      · rename_i vs2 F2 h2 e2
        cases hx
        rw [evEs_len e2, evE_len e1]
      · cases hx
    · cases hx
theorem appF_allK : ∀ (L : List S) (k : Nat) (F : List S), k + L.length ≤ F.length → ∀ j, (appF F ((L.zipIdx k).map fun p => (p.2, p.1)))[j]? = if k ≤ j ∧ j < k + L.length then L[j - k]? else F[j]?
  | [], k, F, hl, j => by
    rw [if_neg (by intro h; simp at h; omega)]
    rfl
  | x :: L, k, F, hl, j => by
    simp only [List.length_cons] at hl
    simp only [List.zipIdx_cons, List.map_cons, appF]
    rw [appF_allK L (k + 1) _ (by simp; omega)]
    simp only [List.length_cons]
    by_cases h1 : k + 1 ≤ j ∧ j < k + 1 + L.length
    · rw [if_pos h1, if_pos (by omega), show j - k = (j - (k + 1)) + 1 from by omega, List.getElem?_cons_succ]
    · rw [if_neg h1]
      by_cases h2 : j = k
      · subst h2
        rw [if_pos (by omega), List.getElem?_set_self (by omega), Nat.sub_self]
        rfl
      · rw [if_neg (by omega), List.getElem?_set_ne (Ne.symm h2)]
theorem appF_allS {F' F : List S} (hl : F'.length = F.length) : appF F (allS F') = F' := by
  apply List.ext_getElem?
  intro j
  unfold allS
  rw [appF_allK F' 0 F (by omega)]
  by_cases hj : j < F'.length
  · rw [if_pos (by omega), Nat.sub_zero]
  · rw [if_neg (by omega), List.getElem?_eq_none (by omega), List.getElem?_eq_none (by omega)]
theorem callu0_spec (hloc : RecLoc gc rec) (hd : dstOk F o.dst = true) {f : FuncId} {caps : List V} {args : List Operand} {R : Type} {K : List (Nat × S) → HE → Option R} {r : R} (hx : callux0 P rec keep gc vc o f caps args F h K = some r) : ∃ us hs, K us hs = some r ∧
    (∀ (R' : Type) (K' : List (Nat × S) → HE → Option R'), callux0 P rec keep gc vc o f caps args F h K' = K' us hs) ∧ (∀ (R' : Type) (K' : List S → Heap → Option R') (Z : V → List S → Heap → Option R'), callx0 P rec keep gc vc o f caps args F h K' Z = K' (appF F us) (appE h hs)) := by
  unfold callux0 at hx
  unfold callux0 callx0
  split at hx
  · rename_i k e hnf
    split at hx
    · rename_i hc
      obtain ⟨us, k1, k2, k3⟩ := natu_spec hd hx
      refine ⟨us, .sets [], k1, ?_⟩
      simp only [hc, if_true, k2, k3, appE, appH, implies_true, and_self]
    · cases hx
  split at hx
  · rename_i hg
    split at hx
    · rename_i hk
      split at hx
      · rename_i vs h1
        split at hx
        · rename_i vs' h' h2
          obtain ⟨us, k1, k2, k3⟩ := resu_spec hd hx
          refine ⟨us, .sets [], k1, ?_⟩
          simp only [hg, hk, if_true, h1, h2, k2, evEs_of_evVs h1, hloc f _ _ _ hg h2 h, k3, appE, appH, implies_true, and_self]
        · cases hx
      · cases hx
    · rename_i hk
      split at hx
      · rename_i vs h1
        split at hx
        · rename_i vs' h' h2
          split at hx
          · rename_i h3
            obtain ⟨us, k1, k2, k3⟩ := resu_spec hd hx
            refine ⟨us, .sets [], k1, ?_⟩
            simp only [hg, hk, if_true, if_false, h1, h2, k2, h3, hloc f _ _ _ hg h2 h, k3, appE, appH, implies_true, and_self, Bool.false_eq_true]
          · cases hx
        · cases hx
      · cases hx
  · rename_i hg
    split at hx
    · rename_i hk
      split at hx
      · rename_i vs h1
        split at hx
        · rename_i vs' h' h2
          obtain ⟨us, k1, k2, k3⟩ := resu_spec hd hx
          refine ⟨us, .all h', k1, ?_⟩
          simp only [hg, hk, if_true, if_false, h1, h2, k2, evEs_of_evVs h1, k3, appE, implies_true, and_self, Bool.false_eq_true]
        · cases hx
      · rename_i h1
        split at hx
        · rename_i vs F' h0 h2
          split at hx
          · rename_i hd2
            split at hx
            · rename_i vs' h' h3
              obtain ⟨us, k1, k2, k3⟩ := resu_spec hd2 hx
              refine ⟨_, .all h', k1, ?_⟩
              have e1 : ∀ us, appF F (allS F' ++ us) = appF F' us := fun us => by rw [appF_append, appF_allS (evEs_len h2)]
              refine ⟨fun R' K' => ?_, fun R' K' Z => ?_⟩
              · simp only [hg, hk, if_true, if_false, h1, h2, h3, hd2, Bool.false_eq_true]
                exact k2 R' (fun us e => K' (allS F' ++ us) e)
              · simp only [hg, hk, if_true, if_false, h1, h2, h3, hd2, Bool.false_eq_true, appE, e1]
                exact k3 R' K' h'
            · cases hx
          · cases hx
        · cases hx
    · cases hx
theorem callu_spec (hloc : RecLoc gc rec) (hd : dstOk F o.dst = true) {f : FuncId} {caps : List V} {args : List Operand} {R : Type} {K : List (Nat × S) → HE → Option R} {r : R} (hx : callux P rec keep gc vc o f caps args F h K = some r) : ∃ us hs, K us hs = some r ∧
    (∀ (R' : Type) (K' : List (Nat × S) → HE → Option R'), callux P rec keep gc vc o f caps args F h K' = K' us hs) ∧ (∀ (R' : Type) (K' : List S → Heap → Option R') (Z : V → List S → Heap → Option R'), callx P rec keep gc vc o f caps args F h K' Z = K' (appF F us) (appE h hs)) := by
  unfold callux at hx
  split at hx
  · cases hx
  · rename_i hmu
    have := callu0_spec hloc hd hx
    simp only [callux, callx, hmu]
    exact this

theorem bltu_spec (hd : dstOk F o.dst = true) {b : Builtin} {ts : List TypeId} {args : List Operand} {R : Type} {K : List (Nat × S) → HE → Option R} {r : R} (hx : bltux P vc o b ts args F h K = some r) : ∃ us hs, K us hs = some r ∧
    (∀ (R' : Type) (K' : List (Nat × S) → HE → Option R'), bltux P vc o b ts args F h K' = K' us hs) ∧ (∀ (R' : Type) (K' : List S → Heap → Option R') (Z : V → List S → Heap → Option R'), bltx P vc o b ts args F h K' = K' (appF F us) (appE h hs)) := by
  have hp : ∀ s, put F o.dst s = appF F (wr o.dst s) := fun s => put_wr hd s
  unfold bltux at hx
  split at hx
  · rename_i t x
    split at hx
    · rename_i e h1
      split at hx
      · rename_i sz l h2
        refine ⟨_, _, hx, ?_⟩
        simp only [bltux, bltx, h1, h2, hp, appE, appH, implies_true, and_self]
      · cases hx
    · cases hx
  · rename_i t t' s y
    split at hx
    · rename_i e sz sz' news x h1 h2 h3
      split at hx
      · rename_i hc
        split at hx
        · rename_i hvc
          split at hx
          · rename_i z h' h4
            refine ⟨_, _, hx, ?_⟩
            simp only [bltux, bltx, h1, h2, h3, rt_v h3, hc, hvc, h4, and_self, if_true, appE, hp, implies_true]
          · cases hx
        rename_i hvc
        split at hx
        · rename_i l h4
          refine ⟨_, _, hx, ?_⟩
          obtain ⟨s1, l1, b1, rfl⟩ : ∃ s1 l1 b1, x = .sl s1 l1 b1 := by
            cases x <;> first | exact ⟨_, _, _, rfl⟩ | (simp [app] at h4)
          have hvf : vc = false := by simpa using hvc
          simp only [bltux, bltx, h1, h2, h3, rt_v h3, hc, hvf, Bool.false_and, Bool.false_eq_true, if_false, h4, and_self, if_true, appE, appH, implies_true, true_and]
          intro R' K' Z
          have e1 : put F (some s) .un = F.set s .un := by unfold put; simp only [h3]
          rw [e1]
          have e2 : dstOk (F.set s .un) o.dst = true := by
            cases hdd : o.dst with
            | none => rfl
            | some d =>
              rw [hdd] at hd
              unfold dstOk at hd ⊢
              simp only at hd ⊢
              rw [List.getElem?_set]
              by_cases e : s = d
              · subst e
                simp only [(List.getElem?_eq_some_iff.1 h3).1, if_true]
              · rw [if_neg e]; exact hd
          rw [put_wr e2]
          rfl
        · cases hx
      · cases hx
    · cases hx
  · split at hx
    · rename_i vs h1
      split at hx
      · rename_i v h2
        refine ⟨_, _, hx, ?_⟩
        constructor
        · intro R' K'; unfold bltux; split <;> simp_all
        · intro R' K' Z; rw [bltx_min]; simp only [h1, h2, hp, appE, appH]
      · cases hx
    · cases hx
  · split at hx
    · rename_i vs h1
      split at hx
      · rename_i v h2
        refine ⟨_, _, hx, ?_⟩
        constructor
        · intro R' K'; unfold bltux; split <;> simp_all
        · intro R' K' Z; rw [bltx_max]; simp only [h1, h2, hp, appE, appH]
      · cases hx
    · cases hx
  · cases hx

theorem movu_spec {as : Bool} (hd : dstOk F o.dst = true) {x : Operand} {R : Type} {K : List (Nat × S) → HE → Option R} {r : R} (hx : movux as o x F K = some r) : ∃ us hs, K us hs = some r ∧
    (∀ (R' : Type) (K' : List (Nat × S) → HE → Option R'), movux as o x F K' = K' us hs) ∧ (∀ (R' : Type) (K' : List S → Heap → Option R') (Z : V → List S → Heap → Option R'), movex P as o x F h K' = K' (appF F us) (appE h hs)) := by
  have hp : ∀ s, put F o.dst s = appF F (wr o.dst s) := fun s => put_wr hd s
  cases x with
  | tmp t =>
    simp only [movux] at hx
    simp only [movux, movex]
    cases hs : F[t]? with
    | none => simp [hs] at hx
    | some y =>
      cases y with
      | v a =>
        simp only [hs] at hx ⊢
        exact ⟨_, _, hx, by simp only [hp, appE, appH, implies_true, and_self]⟩
      | tup a =>
        simp only [hs] at hx ⊢
        exact ⟨_, _, hx, by simp only [hp, appE, appH, implies_true, and_self]⟩
      | own e sz l =>
        simp only [hs] at hx ⊢
        cases as with
        | true =>
          simp only [if_true] at hx ⊢
          exact ⟨_, _, hx, by simp only [put_give hd hs rfl, appE, appH, implies_true, and_self]⟩
        | false =>
          simp only [Bool.false_eq_true, if_false] at hx ⊢
          by_cases hne : o.dst = some t
          · rw [if_pos hne] at hx; cases hx
          · rw [if_neg hne] at hx
            exact ⟨_, _, hx, by simp only [if_neg hne, hp, appE, appH, implies_true, and_self]⟩
      | fp d sz i c =>
        simp only [hs] at hx ⊢
        cases as with
        | true => simp at hx
        | false =>
          simp only [Bool.false_or, beq_iff_eq, Bool.false_and, Bool.false_eq_true, if_false] at hx ⊢
          by_cases hne : o.dst = some d
          · rw [if_pos hne] at hx; cases hx
          · rw [if_neg hne] at hx
            exact ⟨_, _, hx, by simp only [if_neg hne, hp, appE, appH, implies_true, and_self]⟩
      | _ => simp [hs] at hx
  | const v =>
    simp only [movux] at hx
    split at hx
    · cases hx
    · rename_i hn
      split at hx
      · rename_i a ha
        refine ⟨_, _, hx, ?_⟩
        constructor
        · intro R' K'
          simp only [movux]
          first | (rw [ha]; done) | (simp only [ha]; done) | (split <;> simp_all)
        · intro R' K' Z
          unfold movex
          split
          · rename_i e; cases e
          · rename_i e; cases e; exact (hn rfl).elim
          · simp only [evV, ha, hp, appE, appH]
      · cases hx
  | func f => exact ⟨_, _, hx, by simp only [movux, movex, evV, hp, appE, appH, implies_true, and_self]⟩
  | global g => cases hx

/-- what an operation comes to, by what it writes -/
def Acts (P : Program) (rec : Rec) (keep gc : FuncId → Bool) (vc : Bool) (o : Oper) (F : List S) (h : Heap) (us : List (Nat × S)) (hs : HE) : Prop :=
  (∀ (R' : Type) (K' : List (Nat × S) → HE → Option R'), actx P rec keep gc vc o F h K' = K' us hs) ∧
  ∀ (R' : Type) (K' : List S → Heap → Option R') (Z : V → List S → Heap → Option R'), opx P rec keep gc vc o F h K' Z = K' (appF F us) (appE h hs)

set_option maxHeartbeats 2000000 in
theorem actx_spec (hloc : RecLoc gc rec) (hd : dstOk F o.dst = true) {R : Type} {K : List (Nat × S) → HE → Option R} {r : R} (hx : actx P rec keep gc vc o F h K = some r) :
    ∃ us hs, K us hs = some r ∧ Acts P rec keep gc vc o F h us hs := by
  have hp : ∀ s, put F o.dst s = appF F (wr o.dst s) := fun s => put_wr hd s
  have hE : ∀ {x v}, evV F x = some v → evE vc F h x = some (v, F, h) := fun hx => evE_of_evV hx
  unfold actx at hx
  unfold Acts actx opx
  cases ho : o.op with
  | pick c a b =>
    simp only [ho] at hx ⊢
    split at hx
    · rename_i h1 h2 h3
      refine ⟨_, _, hx, ?_⟩
      simp only [h1, h2, h3, hp, appE, appH, implies_true, and_self]
    · rename_i t p h1 h2 h3
      split at hx
      · rename_i ht; subst ht
        refine ⟨_, _, hx, ?_⟩
        simp only [h1, h2, h3, hp, appE, appH, if_true, implies_true, and_self]
      · cases hx
    · rename_i t p h1 h2 h3
      split at hx
      · cases hx
      · rename_i ht
        refine ⟨_, _, hx, ?_⟩
        simp only [h1, h2, h3, hp, appE, appH, if_neg ht, implies_true, and_self]
    · cases hx
  | alloc e =>
    simp only [ho] at hx ⊢
    split at hx
    · rename_i h1
      refine ⟨_, _, hx, ?_⟩
      simp only [h1, hp, appE, appH, implies_true, and_self]
    · cases hx
  | box e x =>
    simp only [ho] at hx ⊢
    split at hx
    · rename_i h1 h2
      split at hx
      · rename_i hc
        refine ⟨_, _, hx, ?_⟩
        simp only [h1, hE h1, h2, hc, hp, appE, appH, if_true, implies_true, and_self]
      · cases hx
    · cases hx
  | build t ps =>
    simp only [ho] at hx ⊢
    split at hx
    · rename_i vs h1
      split at hx
      · rename_i cs h2
        refine ⟨_, _, hx, ?_⟩
        simp only [h1, evEs_of_evVs h1, h2, hp, appE, appH, implies_true, and_self]
      · cases hx
    · cases hx
  | buildSlice t n ps =>
    simp only [ho] at hx ⊢
    split at hx
    · rename_i vs sz h1 h2
      split at hx
      · rename_i l h3
        refine ⟨_, _, hx, ?_⟩
        simp only [h1, evEs_of_evVs h1, h2, h3, hp, appE, appH, implies_true, and_self]
      · cases hx
    · cases hx
  | binOp op t x y c =>
    simp only [ho] at hx ⊢
    split at hx
    · rename_i a b h1 h2
      split at hx
      · rename_i v h3
        refine ⟨_, _, hx, ?_⟩
        simp only [h1, h2, h3, hp, appE, appH, implies_true, and_self]
      · cases hx
    · cases hx
  | move x =>
    simp only [ho] at hx ⊢
    exact movu_spec hd hx
  | assign x =>
    simp only [ho] at hx ⊢
    exact movu_spec hd hx
  | load t x =>
    simp only [ho] at hx ⊢
    split at hx
    · rename_i n h1
      obtain ⟨cs, m, c, hpl, hx⟩ := placex_spec hx
      split at hx
      · rename_i hc
        split at hx
        · rename_i v hv
          refine ⟨_, _, hx, ?_⟩
          simp only [h1, placex_place hpl, hc, hv, hp, appE, appH, if_true, and_self, implies_true]
        · cases hx
      · cases hx
    · cases hx
  | store t x y =>
    simp only [ho] at hx ⊢
    split at hx
    · rename_i v n h1 h2
      split at hx
      · rename_i hc
        obtain ⟨us, hs, hx, hw1, hw2, hw3⟩ := writeu_spec hx
        refine ⟨_, _, hx, ?_⟩
        simp only [h1, hE h1, h2, hc, hw1, hw2, if_true, implies_true, true_and]
        intro R' K' Z
        rw [put_wr (dstOk_app hd hw3), appF_append]
      · cases hx
    · cases hx
  | nilCheck x =>
    simp only [ho] at hx ⊢
    obtain ⟨s, hk, he⟩ := plusxu_spec hx
    refine ⟨_, _, hk, ?_⟩
    simp only [he, hp, appE, appH, implies_true, and_self]
  | unOp op t x =>
    simp only [ho] at hx ⊢
    split at hx
    · rename_i a h1
      split at hx
      · rename_i v h3
        refine ⟨_, _, hx, ?_⟩
        simp only [h1, h3, hp, appE, appH, implies_true, and_self]
      · cases hx
    · cases hx
  | convert s d x =>
    simp only [ho] at hx ⊢
    split at hx
    · rename_i hcs
      split at hx
      · rename_i sz l hl
        cases hu : u8s l with
        | none => simp [hu] at hx
        | some ns =>
          simp only [hu, Option.map_some] at hx
          refine ⟨_, _, hx, ?_⟩
          simp only [hcs, if_true, hl, hu, Option.map_some, hp, appE, appH, implies_true, and_self]
      · cases hx
    rename_i hcs
    simp only [if_neg hcs]
    split at hx
    · rename_i a h1
      split at hx
      · rename_i v h3
        refine ⟨_, _, hx, ?_⟩
        simp only [h1, h3, hp, appE, appH, implies_true, and_self]
      · cases hx
    · cases hx
  | slice t x lo hi mx =>
    simp only [ho] at hx ⊢
    split at hx
    · rename_i e sz y h1 h2
      split at hx
      · rename_i len hl
        split at hx
        · rename_i a b m h3 h4 h5
          split at hx
          · rename_i z hz
            refine ⟨_, _, hx, ?_⟩
            simp only [h1, h2, hE h2, hl, h3, h4, h5, hz, hp, appE, appH, implies_true, and_self]
          · cases hx
        · cases hx
      · cases hx
    · cases hx
  | fieldAddr s x k =>
    simp only [ho] at hx ⊢
    split at hx
    · rename_i off n b h0
      obtain ⟨s, hk, he⟩ := plusxu_spec hx
      refine ⟨_, _, hk, ?_⟩
      simp only [h0, he, hp, appE, appH, implies_true, and_self]
    · cases hx
  | field s x k =>
    simp only [ho] at hx ⊢
    split at hx
    · rename_i off n ag cs h1 h2
      split at hx
      · rename_i hc
        split at hx
        · rename_i v h3
          refine ⟨_, _, hx, ?_⟩
          simp only [h1, h2, hc, h3, if_true, hp, appE, appH, implies_true, and_self]
        · cases hx
      · cases hx
    · cases hx
  | indexAddr t x i =>
    simp only [ho] at hx ⊢
    split at hx
    · rename_i len sz ha
      split at hx
      · rename_i n hn
        split at hx
        · rename_i hlt
          obtain ⟨s, hk, he⟩ := plusxu_spec hx
          refine ⟨_, _, hk, ?_⟩
          simp only [ha, hn, hlt, if_true, he, hp, appE, appH, implies_true, and_self]
        · cases hx
      · cases hx
    rename_i ha
    split at hx
    · rename_i n e sz h1 h2
      cases x with
      | tmp s =>
        simp only at hx ⊢
        split at hx
        · rename_i e' sz' l h3
          split at hx
          · rename_i hc
            refine ⟨_, _, hx, ?_⟩
            simp only [ha, h1, h2, h3, hc, not_false_eq_true, and_self, if_true, hp, appE, appH, implies_true, ne_eq]
          · cases hx
        · rename_i y h3
          split at hx
          · rename_i z hz
            refine ⟨_, _, hx, ?_⟩
            simp only [ha, h1, h2, h3, hz, ipOf_eq hz, hp, appE, appH, implies_true, and_self]
          · cases hx
        · cases hx
      | _ => simp only at hx; cases hx
    · cases hx
  | lookup t m k ok =>
    simp only [ho] at hx ⊢
    split at hx
    · rename_i kt et b key h1 h2 h3
      split at hx
      · rename_i es z ks h4 h5 h6
        split at hx
        · rename_i r' zero h7 h8
          split at hx
          · rename_i v h9
            split at hx
            · rename_i hc
              split at hx
              · rename_i hok
                refine ⟨_, _, hx, ?_⟩
                simp only [h1, h2, h3, h4, h5, h6, h7, h8, h9, hc, hok, and_self, if_true, hp, appE, appH, implies_true]
              · rename_i hok
                refine ⟨_, _, hx, ?_⟩
                simp only [h1, h2, h3, h4, h5, h6, h7, h8, h9, hc, hok, and_self, if_true, hp, appE, appH, implies_true, if_false, Bool.false_eq_true]
            · cases hx
          · cases hx
        · cases hx
      · cases hx
    · cases hx
  | mapUpdate t m k x =>
    simp only [ho] at hx ⊢
    split at hx
    · rename_i kt et b key v h1 h2 h3 h4
      split at hx
      · rename_i es ks h5 h6
        split at hx
        · rename_i r' h7
          split at hx
          · rename_i hc
            refine ⟨_, _, hx, ?_⟩
            simp only [h1, h2, h3, hE h4, h5, h6, h7, hc, and_self, if_true, hp, appE, appH, implies_true]
          · cases hx
        · cases hx
      · cases hx
    · cases hx
  | insert t m k x =>
    simp only [ho] at hx ⊢
    split at hx
    · rename_i kt et b key v h1 h2 h3 h4
      split at hx
      · rename_i es ks h5 h6
        split at hx
        · rename_i r' h7
          split at hx
          · rename_i hc
            refine ⟨_, _, hx, ?_⟩
            simp only [h1, h2, h3, hE h4, h5, h6, h7, hc, and_self, if_true, hp, appE, appH, implies_true]
          · cases hx
        · cases hx
      · cases hx
    · cases hx
  | extract x i =>
    simp only [ho] at hx ⊢
    cases x with
    | tmp t =>
      simp only at hx ⊢
      split at hx
      · rename_i l h1
        split at hx
        · rename_i v h3
          refine ⟨_, _, hx, ?_⟩
          simp only [h1, h3, hp, appE, appH, implies_true, and_self]
        · cases hx
      · cases hx
    | _ => simp only at hx; cases hx
  | call c =>
    simp only [ho] at hx ⊢
    cases hc : c.callee with
    | value fo =>
      cases fo with
      | func f =>
        simp only [hc] at hx ⊢
        exact callu_spec hloc hd hx
      | tmp t =>
        simp only [hc] at hx ⊢
        split at hx
        · rename_i f caps hs
          split at hx
          · rename_i hok
            rw [calluv_eq _ _ _ _ _ hok] at hx
            simp only [hs, if_pos hok, callv_eq _ _ _ _ _ hok, calluv_eq _ _ _ _ _ hok]
            exact callu_spec hloc hd hx
          · cases hx
        · cases hx
      | _ => simp only [hc] at hx; cases hx
    | builtin b =>
      simp only [hc] at hx ⊢
      exact bltu_spec hd hx
    | _ => simp only [hc] at hx; cases hx
  | _ => simp only [ho] at hx; cases hx
end
end Go.L
/-! L: what an operation writes hangs on what it reads alone -/
set_option linter.unusedVariables false
set_option linter.unusedSimpArgs false
namespace Go.L
open Go.RowKit
section
variable {vc : Bool} {P : Program} {o : Oper} {F G : List S} {h k : Heap} {gc keep : FuncId → Bool} {rec : Rec}

/-- the same at what an operand leads to -/
def SameAt (F G : List S) (h k : Heap) (t : Nat) : Prop :=
  F[t]? = G[t]? ∧ (∀ d, baseOf F[t]? = some d → F[d]? = G[d]?) ∧ (∀ b, blkOf F[t]? = some b ∨ blkOf F[rt F t]? = some b → h[b]? = k[b]?)
def SameX (F G : List S) (h k : Heap) (x : Operand) : Prop := ∀ t, x = .tmp t → SameAt F G h k t

theorem rt_same {t : Nat} (hx : SameAt F G h k t) : rt F t = rt G t ∧ F[rt F t]? = G[rt G t]? := by
  obtain ⟨h1, h2, -⟩ := hx
  have e : rt F t = rt G t := by unfold rt; rw [h1]
  refine ⟨e, ?_⟩
  rw [← e]
  unfold rt
  split
  · rename_i d sz i c hs
    split
    · exact h2 d (by rw [hs]; rfl)
    · exact h1
  · exact h1
theorem evV_same {x : Operand} (hx : SameX F G h k x) : evV F x = evV G x := by
  cases x with
  | tmp t => simp only [evV, (hx t rfl).1]
  | _ => rfl
theorem evN_same {x : Operand} (hx : SameX F G h k x) : evN F x = evN G x := by simp only [evN, evV_same hx]
theorem evC_same {x : Operand} (hx : SameX F G h k x) : evC F h x = evC G k x := by
  cases x with
  | tmp t =>
    have hb := (hx t rfl).2.2
    simp only [evC]
    rw [← (rt_same (hx t rfl)).2]
    cases hs : F[rt F t]? with
    | none => rfl
    | some y =>
      rw [hs] at hb
      cases y with
      | v z =>
        cases z with
        | row b sz lo hi => simp only [slcH, valB, rowOf, hb b (.inr rfl)]
        | _ => rfl
      | _ => rfl
  | const v =>
    have key : ∀ (H : List S) (hp : Heap), evC H hp (.const v) = (match v with | .slice none 0 0 => some (0, []) | _ => none) := fun H hp => by
      unfold evC
      split
      · rename_i e; cases e
      · rename_i e; cases e; rfl
      · rename_i e1 e2
        split
        · exact absurd rfl e2
        · rfl
    rw [key F h, key G k]
  | func f => rfl
  | global g => rfl
theorem evB_same {x : Operand} (hx : SameX F G h k x) : evB F h x = evB G k x := by
  cases x with
  | tmp t =>
    have hb := (hx t rfl).2.2
    simp only [evB]
    rw [← (rt_same (hx t rfl)).2]
    cases hs : F[rt F t]? with
    | none => rfl
    | some y =>
      rw [hs] at hb
      cases y with
      | v z =>
        cases z with
        | row b sz lo hi => simp only [slcH, valB, rowOf, hb b (.inr rfl)]
        | _ => rfl
      | _ => rfl
  | _ => rfl
theorem ofCell_noptr (c : Value) (b i : Nat) : ofCell c ≠ some (.ptr b i) := by
  intro h
  unfold ofCell at h
  split at h <;> cases h
theorem ofValue_noptr (c : Value) (b i : Nat) : ofValue c ≠ some (.ptr b i) := by
  intro h
  unfold ofValue at h
  split at h
  · rename_i cs
    cases hc : ofCells cs.toList <;> rw [hc] at h <;> cases h
  · exact ofCell_noptr _ _ _ h
theorem evV_ptr {x : Operand} (hx : SameX F G h k x) {b i : Nat} (hm : evV F x = some (.ptr b i)) : h[b]? = k[b]? := by
  cases x with
  | tmp s =>
    refine (hx s rfl).2.2 b (.inl ?_)
    simp only [evV] at hm
    cases hs : F[s]? with
    | none => simp [hs] at hm
    | some y =>
      cases y with
      | v z => simp only [hs] at hm; cases hm; rfl
      | _ => simp [hs] at hm
  | const c => exact absurd hm (ofValue_noptr c b i)
  | func f => cases hm
  | global g => cases hm
theorem bopH_same {x y : Operand} (hx : SameX F G h k x) (hy : SameX F G h k y) {op : BinOp} {t : TypeId} {p q : V} (h1 : evV F x = some p) (h2 : evV F y = some q) : bopH P h op t p q = bopH P k op t p q := by
  unfold bopH
  split
  · rw [evV_ptr hx h1, evV_ptr hy h2]
  · rfl
theorem evVs_same : ∀ {xs : List Operand}, (∀ x ∈ xs, SameX F G h k x) → evVs F xs = evVs G xs
  | [], _ => rfl
  | x :: xs, hx => by
    have h1 := evV_same (hx x (List.mem_cons_self ..))
    have h2 := evVs_same (xs := xs) (fun y hy => hx y (List.mem_cons_of_mem _ hy))
    simp only [evVs, h1, h2]
theorem evBs_same : ∀ {xs : List Operand}, (∀ x ∈ xs, SameX F G h k x) → evBs F h xs = evBs G k xs
  | [], _ => rfl
  | x :: xs, hx => by
    have h1 := evB_same (hx x (List.mem_cons_self ..))
    have h2 := evBs_same (xs := xs) (fun y hy => hx y (List.mem_cons_of_mem _ hy))
    simp only [evBs, h1, h2]
theorem plus_same {x : Operand} (n : Nat) (hx : SameX F G h k x) : plus F n x = plus G n x := by
  cases x with
  | tmp t => simp only [plus, (hx t rfl).1]
  | _ => rfl
theorem plusx_same {x : Operand} (n : Nat) (d : Option Nat) (hx : SameX F G h k x) {R : Type} (K : S → Option R) : plusx F n x d K = plusx G n x d K := by
  cases x with
  | tmp t => simp only [plusx, (hx t rfl).1]
  | _ => rfl
theorem cellsP_same {t : Nat} {z : V} (hx : SameAt F G h k t) (hs : F[t]? = some (.v z)) : cellsP h z = cellsP k z := by
  have h3 := hx.2.2
  rw [hs] at h3
  cases z with
  | ptr b o => simp only [cellsP, h3 b (.inl rfl)]
  | rptr b sz i c => simp only [cellsP, h3 b (.inl rfl)]
  | _ => rfl
theorem writeB_same {t : Nat} {z : V} (hx : SameAt F G h k t) (hs : F[t]? = some (.v z)) (vs : List V) : writeB h vs z = writeB k vs z := by
  have h3 := hx.2.2
  rw [hs] at h3
  cases z with
  | ptr b o => simp only [writeB, h3 b (.inl rfl)]
  | rptr b sz i c => simp only [writeB, h3 b (.inl rfl)]
  | _ => rfl
theorem placex_same {x : Operand} (hx : SameX F G h k x) {R : Type} (K : List V → Nat → Nat → Option R) : placex F h x K = placex G k x K := by
  cases x with
  | tmp t =>
    have h0 := hx t rfl
    obtain ⟨h1, h2, h3⟩ := hx t rfl
    unfold placex
    simp only
    rw [← h1]
    cases hs : F[t]? with
    | none => rfl
    | some y =>
      rw [hs] at h2 h3
      cases y with
      | fp d sz i c => simp only [← h2 d rfl]
      | v z => simp only [cellsP_same h0 hs]
      | _ => rfl
  | _ => rfl
theorem writeux_same {x : Operand} (hx : SameX F G h k x) (vs : List V) {R : Type} (K : List (Nat × S) → HE → Option R) : writeux F h vs x K = writeux G k vs x K := by
  cases x with
  | tmp t =>
    have h0 := hx t rfl
    obtain ⟨h1, h2, h3⟩ := hx t rfl
    unfold writeux
    simp only
    rw [← h1]
    cases hs : F[t]? with
    | none => rfl
    | some y =>
      rw [hs] at h2 h3
      cases y with
      | fp d sz i c => simp only [← h2 d rfl]
      | v z => simp only [writeB_same h0 hs]
      | _ => rfl
  | _ => rfl

theorem ofCell_nomap (c : Value) (b : Nat) : ofCell c ≠ some (.map b) := by
  intro h
  unfold ofCell at h
  split at h <;> cases h
theorem ofValue_nomap (c : Value) (b : Nat) : ofValue c ≠ some (.map b) := by
  intro h
  unfold ofValue at h
  split at h
  · rename_i cs
    cases hc : ofCells cs.toList <;> rw [hc] at h <;> cases h
  · exact ofCell_nomap _ _ h

theorem movu_same {as : Bool} {x : Operand} (h0 : SameX F G h k x) {R : Type} (K : List (Nat × S) → HE → Option R) : movux as o x F K = movux as o x G K := by
  cases x with
  | tmp t => simp only [movux, (h0 t rfl).1]
  | _ => rfl
theorem evI_same {x : Operand} (hx : SameX F G h k x) : evI F x = evI G x := by simp only [evI, evV_same hx]
theorem natu_same {n e : Nat} {args : List Operand} (ha : ∀ x ∈ args, SameX F G h k x) {R : Type} (K : List (Nat × S) → HE → Option R) : natux o n e args F h K = natux o n e args G k K := by
  unfold natux
  split
  · rename_i x; have h1 := evC_same (ha x (by simp)); simp only [h1]
  · rename_i s i y
    obtain ⟨e1, e2⟩ := rt_same (ha (.tmp s) (by simp) s rfl)
    obtain ⟨e3, e4⟩ := rt_same (ha (.tmp y) (by simp) y rfl)
    have h1 := evI_same (ha i (by simp))
    simp only [e2, e4, h1]
    rw [e1, e3]
  · rename_i s i j
    obtain ⟨e1, e2⟩ := rt_same (ha (.tmp s) (by simp) s rfl)
    have h1 := evI_same (ha i (by simp))
    have h2 := evI_same (ha j (by simp))
    simp only [e2, h1, h2]
    rw [e1]
  · rfl
theorem bopN_noptr {t : TypeId} (hp : ∀ e, P.underlying t ≠ some (.pointer e)) {h k : Heap} {op : BinOp} {c : Bool} (x y : V) : bopN P h op t c x y = bopN P k op t c x y := by
  have hb : ∀ h : Heap, bopH P h op t x y = bop P op t x y := fun h => by
    unfold bopH
    split
    · rename_i e _ _ _ _ he; exact absurd he (hp _)
    · rfl
  unfold bopN
  rw [hb h, hb k]
set_option maxHeartbeats 2000000 in
theorem actx_same (hx0 : ∀ x ∈ o.op.operands, SameX F G h h x) (hx1 : nordH P o.op = false → ∀ x ∈ o.op.operands, SameX F G h k x) (hhk : hall P keep gc o F = true → h = k) (hco : coarse P keep gc o F = true → F = G) {R : Type} (K : List (Nat × S) → HE → Option R) : actx P rec keep gc vc o F h K = actx P rec keep gc vc o G k K := by
  unfold actx
  cases ho : o.op with
  | pick c a b =>
    have hx := hx0
    rw [ho] at hx
    simp only [evV_same (hx c (by simp [Op.operands])), evV_same (hx a (by simp [Op.operands])), evV_same (hx b (by simp [Op.operands]))]
  | alloc e => rfl
  | box e x => have hx := hx0; rw [ho] at hx; simp only [evV_same (hx x (by simp [Op.operands]))]
  | build t ps => have hx := hx0; rw [ho] at hx; have h1 := evVs_same (xs := ps.toList.map (·.2)) (fun x hm => hx x (by simpa [Op.operands] using hm)); simp only [h1]
  | buildSlice t n ps => have hx := hx0; rw [ho] at hx; have h1 := evVs_same (xs := ps.toList.map (·.2)) (fun x hm => hx x (by simpa [Op.operands] using hm)); simp only [h1]
  | binOp op t x y c =>
    by_cases hnp : nordH P o.op = true
    · rw [ho] at hx0 hnp
      have hp : ∀ e, P.underlying t ≠ some (.pointer e) := fun e he => by simp [nordH, he] at hnp
      simp only [evV_same (hx0 x (by simp [Op.operands])), evV_same (hx0 y (by simp [Op.operands])), fun p q => bopN_noptr hp (h := h) (k := k) (op := op) (c := isC x || isC y) p q]
    have hx := hx1 (by simpa using hnp)
    rw [ho] at hx
    have h1 := hx x (by simp [Op.operands])
    have h2 := hx y (by simp [Op.operands])
    simp only
    rw [← evV_same h1, ← evV_same h2]
    cases e1 : evV F x with
    | none => rfl
    | some p =>
      cases e2 : evV F y with
      | none => rfl
      | some q =>
        have hbn : bopN P h op t (isC x || isC y) p q = bopN P k op t (isC x || isC y) p q := by
          unfold bopN
          rw [bopH_same h1 h2 e1 e2]
        simp only [hbn]
  | move x => rw [ho] at hx0; exact movu_same (hx0 x (by simp [Op.operands])) K
  | assign x => rw [ho] at hx0; exact movu_same (hx0 x (by simp [Op.operands])) K
  | load t x => have hx := hx1 (by rw [ho]; rfl); rw [ho] at hx; simp only [placex_same (hx x (by simp [Op.operands]))]
  | store t x y => have hx := hx1 (by rw [ho]; rfl); rw [ho] at hx; simp only [writeux_same (hx x (by simp [Op.operands])), evV_same (hx y (by simp [Op.operands]))]
  | nilCheck x => rw [ho] at hx0; simp only [plusx_same 0 o.dst (hx0 x (by simp [Op.operands]))]
  | unOp op t x => have hx := hx0; rw [ho] at hx; simp only [evV_same (hx x (by simp [Op.operands]))]
  | convert s d x => have hx := hx1 (by rw [ho]; rfl); rw [ho] at hx; simp only [evV_same (hx x (by simp [Op.operands])), evC_same (hx x (by simp [Op.operands]))]
  | slice t x lo hi mx =>
    have hx := hx0
    rw [ho] at hx
    have h1 : evV F x = evV G x := evV_same (hx x (by simp [Op.operands]))
    have h2 : ∀ d, optN F d lo = optN G d lo := fun d => by
      cases lo with
      | none => rfl
      | some y => exact evN_same (hx y (by simp [Op.operands]))
    have h3 : ∀ d, optN F d hi = optN G d hi := fun d => by
      cases hi with
      | none => rfl
      | some y => exact evN_same (hx y (by simp [Op.operands]))
    have h4 : optM F mx = optM G mx := by
      cases mx with
      | none => rfl
      | some y => simp only [optM, evN_same (hx y (by simp [Op.operands]))]
    simp only [h1, h2, h3, h4]
  | fieldAddr s x k' => rw [ho] at hx0; simp only [fun n => plusx_same (R := R) n o.dst (hx0 x (by simp [Op.operands]))]
  | field s x k' => have hx := hx0; rw [ho] at hx; simp only [evV_same (hx x (by simp [Op.operands]))]
  | indexAddr t x i =>
    have hx := hx0
    rw [ho] at hx
    have h0 := hx x (by simp [Op.operands])
    simp only [evN_same (hx i (by simp [Op.operands])), fun n => plusx_same (R := R) n o.dst h0]
    cases x with
    | tmp s =>
      obtain ⟨e1, e2⟩ := rt_same (h0 s rfl)
      simp only [e2]
      rw [e1]
    | _ => rfl
  | lookup t m key ok =>
    have hx := hx1 (by rw [ho]; rfl)
    rw [ho] at hx
    have h0 := hx m (by simp [Op.operands])
    have hb : ∀ b, evV G m = some (.map b) → h[b]? = k[b]? := fun b hm => by
      rw [← evV_same h0] at hm
      cases m with
      | tmp s =>
        refine (h0 s rfl).2.2 b (.inl ?_)
        simp only [evV] at hm
        cases hs : F[s]? with
        | none => simp [hs] at hm
        | some y =>
          cases y with
          | v z => simp only [hs] at hm; cases hm; rfl
          | _ => simp [hs] at hm
      | const c => exact absurd hm (ofValue_nomap c b)
      | func f => cases hm
      | global g => cases hm
    simp only [evV_same (hx key (by simp [Op.operands])), evV_same h0]
    generalize evV G key = kk
    generalize hmv : evV G m = mm at hb
    cases hu : P.underlying t with
    | none => rfl
    | some d =>
      cases d <;> try rfl
      cases mm with
      | none => rfl
      | some z =>
        have hmo : mapOf h z = mapOf k z := by
          unfold mapOf
          split
          · rename_i b; rw [hb b rfl]
          · rfl
          · rfl
        cases kk with
        | none => rfl
        | some key' => simp only [hmo]
  | mapUpdate t m key x =>
    have hx := hx1 (by rw [ho]; rfl)
    rw [ho] at hx
    have h0 := hx m (by simp [Op.operands])
    have hb : ∀ b, evV G m = some (.map b) → h[b]? = k[b]? := fun b hm => by
      rw [← evV_same h0] at hm
      cases m with
      | tmp s =>
        refine (h0 s rfl).2.2 b (.inl ?_)
        simp only [evV] at hm
        cases hs : F[s]? with
        | none => simp [hs] at hm
        | some y =>
          cases y with
          | v z => simp only [hs] at hm; cases hm; rfl
          | _ => simp [hs] at hm
      | const c => exact absurd hm (ofValue_nomap c b)
      | func f => cases hm
      | global g => cases hm
    simp only [evV_same (hx key (by simp [Op.operands])), evV_same (hx x (by simp [Op.operands])), evV_same h0]
    generalize evV G key = kk
    generalize evV G x = xx
    generalize hmv : evV G m = mm at hb
    cases hu : P.underlying t with
    | none => rfl
    | some d =>
      cases d <;> try rfl
      cases mm with
      | none => rfl
      | some z =>
        cases z <;> try rfl
        rename_i b
        cases kk with
        | none => rfl
        | some key' =>
          cases xx with
          | none => rfl
          | some x' => simp only [hb b rfl]
  | insert t m key x =>
    have hx := hx1 (by rw [ho]; rfl)
    rw [ho] at hx
    have h0 := hx m (by simp [Op.operands])
    have hb : ∀ b, evV G m = some (.map b) → h[b]? = k[b]? := fun b hm => by
      rw [← evV_same h0] at hm
      cases m with
      | tmp s =>
        refine (h0 s rfl).2.2 b (.inl ?_)
        simp only [evV] at hm
        cases hs : F[s]? with
        | none => simp [hs] at hm
        | some y =>
          cases y with
          | v z => simp only [hs] at hm; cases hm; rfl
          | _ => simp [hs] at hm
      | const c => exact absurd hm (ofValue_nomap c b)
      | func f => cases hm
      | global g => cases hm
    simp only [evV_same (hx key (by simp [Op.operands])), evV_same (hx x (by simp [Op.operands])), evV_same h0]
    generalize evV G key = kk
    generalize evV G x = xx
    generalize hmv : evV G m = mm at hb
    cases hu : P.underlying t with
    | none => rfl
    | some d =>
      cases d <;> try rfl
      cases mm with
      | none => rfl
      | some z =>
        cases z <;> try rfl
        rename_i b
        cases kk with
        | none => rfl
        | some key' =>
          cases xx with
          | none => rfl
          | some x' => simp only [hb b rfl]
  | extract x i =>
    have hx := hx0
    rw [ho] at hx
    have h0 := hx x (by simp [Op.operands])
    cases x with
    | tmp t => simp only [(h0 t rfl).1]
    | _ => rfl
  | call c =>
    have hx := hx1 (by rw [ho]; rfl)
    rw [ho] at hx
    have ha : ∀ x ∈ c.args.toList, SameX F G h k x := fun x hm => hx x (by simp [Op.operands, Call.operands]; exact .inr (by simpa using hm))
    simp only
    cases hc : c.callee with
    | value fo =>
      cases fo with
      | func f =>
        suffices hq : callux0 P rec keep gc vc o f [] c.args.toList F h K = callux0 P rec keep gc vc o f [] c.args.toList G k K by
          simp only [callux, hq]
        cases hnf : natF P f with
        | some ke => simp only [callux0, hnf, natu_same ha]
        | none =>
          have h0 : keep f = true → gc f = false → hcall P keep gc o F = true := fun h1 h2 => by unfold hcall; simp [ho, hc, h1, h2, hnf]
          have h1 : keep f = true → gc f = false → h = k := fun h1 h2 => hhk (by unfold hall; rw [h0 h1 h2]; rfl)
          cases hv : evVs F c.args.toList with
          | none =>
            have h2 : keep f = true → gc f = false → F = G := fun h1 h2 => hco (by unfold coarse; simp [h0 h1 h2, ho, hv])
            rw [evVs_same ha] at hv
            simp only [callux0, evVs_same ha, evBs_same ha, natu_same ha, hv]
            cases hg : gc f with
            | true => rfl
            | false =>
              cases hk : keep f with
              | false => rfl
              | true => rw [h1 hk hg, h2 hk hg]
          | some vs =>
            rw [evVs_same ha] at hv
            simp only [callux0, evVs_same ha, evBs_same ha, natu_same ha, hv]
            cases hg : gc f with
            | true => rfl
            | false =>
              cases hk : keep f with
              | false => rfl
              | true => rw [h1 hk hg]
      | tmp t =>
        have h0 := hx (.tmp t) (by simp [Op.operands, Call.operands, hc])
        have h00 : ∀ f caps, F[t]? = some (.v (.fn f caps)) → natF P f = none → keep f = true → gc f = false → hcall P keep gc o F = true := fun f caps h0 hn h1 h2 => by unfold hcall; simp [ho, hc, h0, h1, h2, hn]
        have h1 : ∀ f caps, F[t]? = some (.v (.fn f caps)) → natF P f = none → keep f = true → gc f = false → h = k := fun f caps h0 hn h1 h2 => hhk (by unfold hall; rw [h00 f caps h0 hn h1 h2]; rfl)
        simp only
        rw [← (h0 t rfl).1]
        cases hs : F[t]? with
        | none => rfl
        | some y =>
          cases y with
          | v z =>
            cases z with
            | fn f caps =>
              suffices hsf : callux P rec keep gc vc o f caps c.args.toList F h K = callux P rec keep gc vc o f caps c.args.toList G k K by
                by_cases hok : okV P o.type f = true
                · simp only [if_pos hok, calluv_eq _ _ _ _ _ hok, hsf]
                · simp only [if_neg hok]
              suffices hq : callux0 P rec keep gc vc o f caps c.args.toList F h K = callux0 P rec keep gc vc o f caps c.args.toList G k K by
                simp only [callux, hq]
              cases hnf : natF P f with
              | some ke => simp only [callux0, hnf, natu_same ha]
              | none =>
                cases hv : evVs F c.args.toList with
                | none =>
                  have h2 : keep f = true → gc f = false → F = G := fun h1 h2 => hco (by unfold coarse; simp [h00 f caps hs hnf h1 h2, ho, hv])
                  rw [evVs_same ha] at hv
                  simp only [callux0, evVs_same ha, evBs_same ha, natu_same ha, hv]
                  cases hg : gc f with
                  | true => rfl
                  | false =>
                    cases hk : keep f with
                    | false => rfl
                    | true => rw [h1 f caps hs hnf hk hg, h2 hk hg]
                | some vs =>
                  rw [evVs_same ha] at hv
                  simp only [callux0, evVs_same ha, evBs_same ha, natu_same ha, hv]
                  cases hg : gc f with
                  | true => rfl
                  | false =>
                    cases hk : keep f with
                    | false => rfl
                    | true => rw [h1 f caps hs hnf hk hg]
            | _ => rfl
          | _ => rfl
      | _ => rfl
    | builtin b =>
      simp only
      unfold bltux
      split
      · rename_i t x h0 h1; have := evC_same (ha x (by rw [h1]; simp)); simp only [this]
      · rename_i t t' s y h1 h2
        rw [evC_same (ha y (by rw [h2]; simp)), ← (ha (.tmp s) (by rw [h2]; simp) s rfl).1]
        cases hs : F[s]? with
        | none => rcases eSize P t with _ | ⟨e, sz⟩ <;> rcases evC G k y with _ | ⟨sz', news⟩ <;> rfl
        | some z =>
          cases z with
          | v z =>
            have hk : h = k := hhk (by
              have : happ o F = true := by unfold happ; simp only [ho, hc, h2, hs]
              unfold hall; rw [this, Bool.or_true])
            rw [hk]
          | _ => rcases eSize P t with _ | ⟨e, sz⟩ <;> rcases evC G k y with _ | ⟨sz', news⟩ <;> rfl
      · simp only [evBs_same ha]
      · simp only [evBs_same ha]
      · rfl
    | _ => rfl
  | _ => rfl

/-- the same wherever an operation reads -/
structure Agree (P : Program) (keep gc : FuncId → Bool) (all : Array Oper) (o : Oper) (F G : List S) (h k : Heap) : Prop where
  len : F.length = G.length
  s : ∀ t ∈ rdS P keep gc all o F, F[t]? = G[t]?
  b : ∀ b ∈ rdH P keep gc all o F h, h[b]? = k[b]?
theorem filterMap_same {α β : Type} {f g : α → Option β} : ∀ {l : List α}, (∀ x ∈ l, f x = g x) → l.filterMap f = l.filterMap g
  | [], _ => rfl
  | x :: l, hx => by
    rw [List.filterMap_cons, List.filterMap_cons, hx x (List.mem_cons_self ..), filterMap_same (fun y hy => hx y (List.mem_cons_of_mem _ hy))]
theorem agree_same {all : Array Oper} (ha : Agree P keep gc all o F G h k) : ∀ t ∈ o.looksAt all, SameAt F G h h t := fun t ht =>
  ⟨ha.s t (by unfold rdS; simp [ht]), fun d hd => ha.s d (by
    unfold rdS
    simp only [List.mem_append, List.mem_filterMap]
    exact .inl (.inl (.inr ⟨t, ht, hd⟩))), fun b _ => rfl⟩
theorem agree_sameH {all : Array Oper} (ha : Agree P keep gc all o F G h k) (hn : nordH P o.op = false) : ∀ t ∈ o.looksAt all, SameAt F G h k t := fun t ht =>
  ⟨ha.s t (by unfold rdS; simp [ht]), fun d hd => ha.s d (by
    unfold rdS
    simp only [List.mem_append, List.mem_filterMap]
    exact .inl (.inl (.inr ⟨t, ht, hd⟩))), fun b hb => ha.b b (by
    unfold rdH
    rw [hn]
    rcases hb with hb | hb
    · exact List.mem_append_left _ (List.mem_append_left _ (List.mem_filterMap.2 ⟨t, ht, hb⟩))
    · exact List.mem_append_left _ (List.mem_append_right _ (List.mem_filterMap.2 ⟨t, ht, hb⟩)))⟩
theorem hcall_looks {all : Array Oper} {t : Nat} {c : Call} (ho : o.op = .call c) (hc : c.callee = .value (.tmp t)) : t ∈ o.looksAt all := by
  refine List.mem_append_left _ (List.mem_filterMap.2 ⟨.tmp t, ?_, rfl⟩)
  simp [ho, Op.operands, Call.operands, hc]
theorem agree_hcall {all : Array Oper} (ha : Agree P keep gc all o F G h k) : hcall P keep gc o G = hcall P keep gc o F := by
  unfold hcall
  cases ho : o.op with
  | call c =>
    simp only
    cases hc : c.callee with
    | value fo =>
      cases fo with
      | tmp t => simp only [(agree_same ha t (hcall_looks ho hc)).1]
      | _ => rfl
    | _ => rfl
  | _ => rfl
theorem agree_hall {all : Array Oper} (ha : Agree P keep gc all o F G h k) : hall P keep gc o G = hall P keep gc o F := by
  unfold hall
  rw [agree_hcall ha]
  congr 1
  unfold happ
  cases ho : o.op with
  | call c =>
    simp only
    split
    · rename_i s l hcl has
      have hl : s ∈ o.looksAt all := by
        refine List.mem_append_left _ (List.mem_filterMap.2 ⟨.tmp s, ?_, rfl⟩)
        simp [ho, Op.operands, Call.operands]
        exact .inr (by have : Operand.tmp s ∈ c.args.toList := by rw [has]; simp
                       simpa using this)
      rw [(agree_same ha s hl).1]
    · rfl
  | _ => rfl
theorem agree_heap {all : Array Oper} (ha : Agree P keep gc all o F G h k) (hc : hall P keep gc o F = true) : h = k := by
  have hb : ∀ b, b < h.length + 1 → h[b]? = k[b]? := fun b hb => ha.b b (by unfold rdH; rw [if_pos hc]; exact List.mem_append_right _ (List.mem_range.2 hb))
  apply List.ext_getElem?
  intro i
  by_cases hi : i < h.length + 1
  · exact hb i hi
  · have h1 := hb h.length (by omega)
    rw [List.getElem?_eq_none (Nat.le_refl _)] at h1
    have h2 := List.getElem?_eq_none_iff.1 h1.symm
    rw [List.getElem?_eq_none (by omega), List.getElem?_eq_none (by omega)]
theorem agree_coarse {all : Array Oper} (ha : Agree P keep gc all o F G h k) (hc : coarse P keep gc o F = true) : F = G := by
  apply List.ext_getElem?
  intro i
  by_cases hi : i < F.length
  · exact ha.s i (by unfold rdS; rw [if_pos hc]; exact List.mem_append_right _ (List.mem_range.2 hi))
  · rw [List.getElem?_eq_none (by omega), List.getElem?_eq_none (by have := ha.len; omega)]
theorem agree_coarse2 {all : Array Oper} (ha : Agree P keep gc all o F G h k) : coarse P keep gc o G = coarse P keep gc o F := by
  unfold coarse
  rw [agree_hcall ha]
  cases ho : o.op with
  | call c =>
    have hx : ∀ x ∈ c.args.toList, SameX F G h h x := fun x hx t ht => by
      subst ht
      refine agree_same ha t (List.mem_append_left _ (List.mem_filterMap.2 ⟨.tmp t, ?_, rfl⟩))
      simp [ho, Op.operands, Call.operands]
      exact .inr (by simpa using hx)
    simp only [evVs_same hx]
  | _ => rfl
theorem agree_reads {all : Array Oper} (ha : Agree P keep gc all o F G h k) : rdS P keep gc all o G = rdS P keep gc all o F ∧ rdH P keep gc all o G k = rdH P keep gc all o F h := by
  have h0 : ∀ t ∈ o.looksAt all, F[t]? = G[t]? := fun t ht => (agree_same ha t ht).1
  refine ⟨?_, ?_⟩
  · unfold rdS
    rw [filterMap_same (f := fun s => baseOf G[s]?) (g := fun s => baseOf F[s]?) (fun t ht => by rw [h0 t ht]), agree_coarse2 ha]
    cases hc : coarse P keep gc o F with
    | false => rfl
    | true => rw [agree_coarse ha hc]
  · unfold rdH
    rw [filterMap_same (f := fun s => blkOf G[s]?) (g := fun s => blkOf F[s]?) (fun t ht => by rw [h0 t ht]), filterMap_same (f := fun s => blkOf G[rt G s]?) (g := fun s => blkOf F[rt F s]?) (fun t ht => by rw [(rt_same (agree_same ha t ht)).2]), agree_hall ha]
    cases hc : hall P keep gc o F with
    | false => rfl
    | true => rw [agree_heap ha hc]
theorem agree_dst {all : Array Oper} (ha : Agree P keep gc all o F G h k) : dstOk G o.dst = dstOk F o.dst := by
  cases hd : o.dst with
  | none => rfl
  | some d =>
    have := ha.s d (by unfold rdS; simp [hd])
    simp only [dstOk, this]
theorem gactx_same {all : Array Oper} (ha : Agree P keep gc all o F G h k) {R : Type} (K : List (Nat × S) → HE → Option R) : gactx P rec keep gc vc all o F h K = gactx P rec keep gc vc all o G k K := by
  have hx0 : ∀ x ∈ o.op.operands, SameX F G h h x := fun x hx t ht => by
    subst ht
    refine agree_same ha t (List.mem_append_left _ (List.mem_filterMap.2 ⟨.tmp t, by simpa using hx, rfl⟩))
  have hx1 : nordH P o.op = false → ∀ x ∈ o.op.operands, SameX F G h k x := fun hn x hx t ht => by
    subst ht
    refine agree_sameH ha hn t (List.mem_append_left _ (List.mem_filterMap.2 ⟨.tmp t, by simpa using hx, rfl⟩))
  unfold gactx
  rw [actx_same hx0 hx1 (agree_heap ha) (agree_coarse ha)]
  cases hg : o.guard with
  | none => rfl
  | some jw =>
    obtain ⟨j, want⟩ := jw
    simp only
    cases hd : (all[j]?).bind (·.dst) with
    | none => rfl
    | some d =>
      have : F[d]? = G[d]? := (agree_same ha d (by simp [Oper.looksAt, hg, hd])).1
      simp only [this]
end

section
variable {vc : Bool} {P : Program} {gc keep : FuncId → Bool} {rec : Rec}
/-- what a guarded operation comes to, by what it writes -/
def GActs (P : Program) (rec : Rec) (keep gc : FuncId → Bool) (vc : Bool) (all : Array Oper) (o : Oper) (F : List S) (h : Heap) (us : List (Nat × S)) (hs : HE) : Prop :=
  ∀ (R' : Type) (K' : List (Nat × S) → HE → Option R'), gactx P rec keep gc vc all o F h K' = K' us hs
theorem gactx_spec (hloc : RecLoc gc rec) {all : Array Oper} {o : Oper} {F : List S} {h : Heap} (hd : dstOk F o.dst = true) {R : Type} {K : List (Nat × S) → HE → Option R} {r : R} (hx : gactx P rec keep gc vc all o F h K = some r) :
    ∃ us hs, K us hs = some r ∧ GActs P rec keep gc vc all o F h us hs := by
  have hact : actx P rec keep gc vc o F h K = some r → ∃ us hs, K us hs = some r ∧ ∀ (R' : Type) (K' : List (Nat × S) → HE → Option R'), actx P rec keep gc vc o F h K' = K' us hs := fun hx => by
    obtain ⟨us, hs, h1, h2⟩ := actx_spec hloc hd hx
    exact ⟨us, hs, h1, h2.1⟩
  unfold gactx at hx
  unfold GActs gactx
  cases hg : o.guard with
  | none =>
    simp only [hg] at hx ⊢
    exact hact hx
  | some jw =>
    obtain ⟨j, want⟩ := jw
    simp only [hg] at hx ⊢
    cases hdd : (all[j]?).bind (·.dst) with
    | none => simp [hdd] at hx
    | some d =>
      simp only [hdd] at hx ⊢
      cases hs : F[d]? with
      | none => simp [hs] at hx
      | some y =>
        cases y with
        | sk => simp only [hs] at hx ⊢; exact ⟨_, _, hx, fun _ _ => rfl⟩
        | v z =>
          cases z with
          | bool b =>
            simp only [hs] at hx ⊢
            cases b <;> cases want <;> simp only [if_true, if_false, Bool.false_eq_true] at hx ⊢ <;> first | exact hact hx | exact ⟨_, _, hx, fun _ _ => rfl⟩
          | _ => simp [hs] at hx
        | _ => simp [hs] at hx

/-- operations, done one behind the other -/
def Runs (P : Program) (rec : Rec) (keep gc : FuncId → Bool) (vc : Bool) (all : Array Oper) : List Fpr → List S → Heap → List S → Heap → Prop
  | [], F, h, F', h' => F = F' ∧ h = h'
  | x :: l, F, h, F', h' => ∃ o us hs, all[x.i]? = some o ∧ dstOk F o.dst = true ∧ GActs P rec keep gc vc all o F h us hs ∧ x.r = rdS P keep gc all o F ∧ x.hr = rdH P keep gc all o F h ∧ x.w = us.map (·.1) ∧ x.hw = hwE h hs ∧ Runs P rec keep gc vc all l (appF F us) (appE h hs) F' h'

theorem gset_spec {all : Array Oper} {o : Oper} {R : Type} {F : List S} {k : List S → Option R} {r : R} (h : gset all o F k = some r) : k F = some r := by
  unfold gset at h
  split at h
  · exact h
  · split at h
    · rename_i d hd
      split at h
      · rename_i b hb
        have hset : F.set d (.v (.bool b)) = F := by
          apply List.ext_getElem?
          intro i
          rw [List.getElem?_set]
          split
          · rename_i e; subst e
            rw [hb, if_pos (List.getElem?_eq_some_iff.1 hb).1]
          · rfl
        cases b <;> simpa [hset] using h
      · exact h
      · cases h
    · cases h
theorem loosex_runs (hloc : RecLoc gc rec) {all : Array Oper} {R : Type} {K : List S → Heap → Option R} {r : R} : ∀ (l : List (Oper × Nat)) (acc : List Fpr) (F : List S) (h : Heap), (∀ p ∈ l, all[p.2]? = some p.1) →
    loosex P rec keep gc vc all l acc F h K = some r → ∃ L F' h', Runs P rec keep gc vc all L F h F' h' ∧ L.map (·.i) = l.map (·.2) ∧ okAll all (acc ++ L) = true ∧ K F' h' = some r
  | [], acc, F, h, hl, hx => by
    unfold loosex at hx
    split at hx
    · rename_i hok
      exact ⟨[], F, h, ⟨rfl, rfl⟩, rfl, by simpa using hok, hx⟩
    · cases hx
  | (o, i) :: l, acc, F, h, hl, hx => by
    unfold loosex at hx
    have hx := gset_spec hx
    split at hx
    · rename_i hd
      obtain ⟨us, hs, h1, h2⟩ := gactx_spec hloc hd hx
      obtain ⟨L, F', h', r1, r2, r3, r4⟩ := loosex_runs hloc l _ _ _ (fun p hp => hl p (List.mem_cons_of_mem _ hp)) h1
      exact ⟨⟨i, rdS P keep gc all o F, us.map (·.1), rdH P keep gc all o F h, hwE h hs, hs.isAll⟩ :: L, F', h', ⟨o, us, hs, hl (o, i) (List.mem_cons_self ..), hd, h2, rfl, rfl, rfl, rfl, r1⟩, by simp [r2], by simpa using r3, r4⟩
    · cases hx

theorem disj_spec {a b : List Nat} (h : disj a b = true) : ∀ x ∈ a, x ∉ b := fun x hx => by
  have := List.all_eq_true.1 h x hx
  simpa using this
theorem disjW_spec {w : Bool} {a b : List Nat} (h : disjW w a b = true) : ∀ x ∈ a, x ∉ b := by
  unfold disjW at h
  split at h
  · intro x _
    have hb : b = [] := by simpa using h
    rw [hb]; simp
  · exact disj_spec h
theorem appH_ne : ∀ (us : List (Nat × HB)) (h : Heap) (k : Nat), k ∉ us.map (·.1) → (appH h us)[k]? = h[k]?
  | [], _, _, _ => rfl
  | (j, s) :: us, h, k, hk => by
    simp only [List.map_cons, List.mem_cons, not_or] at hk
    simp only [appH]
    rw [appH_ne us _ k hk.2, List.getElem?_set_ne (fun e => hk.1 e.symm)]
theorem appF_set (us : List (Nat × S)) : ∀ (F : List S) (k : Nat) (s : S), k ∉ us.map (·.1) → appF (F.set k s) us = (appF F us).set k s := by
  induction us with
  | nil => intro F k s _; rfl
  | cons p us ih =>
    intro F k s hk
    obtain ⟨j, t⟩ := p
    simp only [List.map_cons, List.mem_cons, not_or] at hk
    simp only [appF]
    rw [List.set_comm _ _ hk.1, ih _ _ _ hk.2]
theorem appF_comm : ∀ (us vs : List (Nat × S)) (F : List S), (∀ x ∈ us.map (·.1), x ∉ vs.map (·.1)) → appF (appF F us) vs = appF (appF F vs) us
  | [], vs, F, _ => rfl
  | (k, s) :: us, vs, F, hd => by
    simp only [appF]
    rw [appF_comm us vs _ (fun x hx => hd x (by simp [hx] : x ∈ ((k, s) :: us).map (·.1))), appF_set vs _ _ _ (hd k (by simp))]
theorem appH_set (us : List (Nat × HB)) : ∀ (F : Heap) (k : Nat) (s : HB), k ∉ us.map (·.1) → appH (F.set k s) us = (appH F us).set k s := by
  induction us with
  | nil => intro F k s _; rfl
  | cons p us ih =>
    intro F k s hk
    obtain ⟨j, t⟩ := p
    simp only [List.map_cons, List.mem_cons, not_or] at hk
    simp only [appH]
    rw [List.set_comm _ _ hk.1, ih _ _ _ hk.2]
theorem appH_comm : ∀ (us vs : List (Nat × HB)) (F : Heap), (∀ x ∈ us.map (·.1), x ∉ vs.map (·.1)) → appH (appH F us) vs = appH (appH F vs) us
  | [], vs, F, _ => rfl
  | (k, s) :: us, vs, F, hd => by
    simp only [appH]
    rw [appH_comm us vs _ (fun x hx => hd x (by simp [hx] : x ∈ ((k, s) :: us).map (·.1))), appH_set vs _ _ _ (hd k (by simp))]

theorem appH_len : ∀ (us : List (Nat × HB)) (h : Heap), (appH h us).length = h.length
  | [], _ => rfl
  | (k, s) :: us, h => by simp only [appH]; rw [appH_len us]; simp
theorem appH_far : ∀ (us : List (Nat × HB)) (h : Heap), (∀ x ∈ us.map (·.1), h.length ≤ x) → appH h us = h
  | [], _, _ => rfl
  | (k, s) :: us, h, hx => by
    have hk : h.length ≤ k := hx k (by simp)
    simp only [appH]
    rw [List.set_eq_of_length_le hk]
    exact appH_far us h (fun x hm => hx x (by simp [hm]))
/-- what is not written, reads as it did -/
theorem appE_ne (e : HE) (h : Heap) (b : Nat) (hb : b ∉ hwE h e) : (appE h e)[b]? = h[b]? := by
  cases e with
  | sets l => exact appH_ne l h b hb
  | all h' =>
    have : max h.length h'.length + 1 ≤ b := by
      rcases Nat.lt_or_ge b (max h.length h'.length + 1) with hlt | hge
      · exact absurd (List.mem_range.2 hlt) hb
      · exact hge
    show h'[b]? = h[b]?
    rw [List.getElem?_eq_none (by omega), List.getElem?_eq_none (by omega)]
theorem hwE_len (e : HE) {h k : Heap} (hl : h.length = k.length) : hwE h e = hwE k e := by
  cases e with
  | sets l => rfl
  | all h' => simp only [hwE, hl]
/-- two effects that do not meet -/
theorem appE_comm (e d : HE) (h : Heap) (hd : ∀ x ∈ hwE h e, x ∉ hwE (appE h e) d) : appE (appE h e) d = appE (appE h d) e ∧ hwE h d = hwE (appE h e) d ∧ hwE (appE h d) e = hwE h e := by
  cases e with
  | sets l =>
    have hl : (appE h (.sets l)).length = h.length := appH_len l h
    cases d with
    | sets m => exact ⟨appH_comm l m h hd, rfl, rfl⟩
    | all h' =>
      refine ⟨?_, (hwE_len _ hl).symm, rfl⟩
      show h' = appH h' l
      refine (appH_far l h' fun x hx => ?_).symm
      have := hd x hx
      rw [hwE_len _ hl] at this
      rcases Nat.lt_or_ge x (max h.length h'.length + 1) with hlt | hge
      · exact absurd (List.mem_range.2 hlt) this
      · omega
  | all h1 =>
    cases d with
    | sets m =>
      have hfar : ∀ x ∈ m.map (·.1), max h.length h1.length + 1 ≤ x := fun x hx => by
        rcases Nat.lt_or_ge x (max h.length h1.length + 1) with hlt | hge
        · exact absurd hx (hd x (List.mem_range.2 hlt))
        · exact hge
      have e1 : appH h m = h := appH_far m h fun x hx => by have := hfar x hx; omega
      have e2 : appH h1 m = h1 := appH_far m h1 fun x hx => by have := hfar x hx; omega
      refine ⟨?_, rfl, ?_⟩
      · show appH h1 m = h1
        exact e2
      · show hwE (appH h m) _ = _
        rw [e1]
    | all h2 =>
      exact absurd (List.mem_range.2 (by omega)) (hd 0 (List.mem_range.2 (by omega)))
/-- two that do not meet, turned round -/
theorem runs_swap {all : Array Oper} {x y : Fpr} {l : List Fpr} {F F' : List S} {h h' : Heap} (hok : x.ok y = true) (hr : Runs P rec keep gc vc all (x :: y :: l) F h F' h') : Runs P rec keep gc vc all (y :: x :: l) F h F' h' := by
  obtain ⟨o, us, hs, a1, a2, a3, a4, a5, a6, a7, p, vs, ks, b1, b2, b3, b4, b5, b6, b7, hr⟩ := hr
  unfold Fpr.ok at hok
  simp only [Bool.and_eq_true] at hok
  obtain ⟨⟨⟨c1, c2⟩, c3⟩, c4⟩ := hok
  have d1 := disj_spec c1
  have d2 := disj_spec c2
  have d3 := disjW_spec c3
  have d4 := disjW_spec c4
  -- the second one, ahead
  have hy : Agree P keep gc all p (appF F us) F (appE h hs) h := ⟨appF_len us F, fun t ht => appF_ne us F t (fun hm => d1 t (by rw [a6]; exact hm) (by rw [b4]; exact List.mem_append_left _ ht)),
    fun b hb => appE_ne hs h b (fun hm => d3 b (by rw [a7]; exact hm) (by rw [b5]; exact List.mem_append_left _ hb))⟩
  have hyr := agree_reads hy
  obtain ⟨c5, c6, c7⟩ := appE_comm hs ks h (fun b hb hm => d3 b (by rw [a7]; exact hb) (by rw [b7]; exact List.mem_append_right _ hm))
  -- the first one, behind
  have hx : Agree P keep gc all o F (appF F vs) h (appE h ks) := ⟨(appF_len vs F).symm, fun t ht => (appF_ne vs F t (fun hm => d2 t (by rw [b6]; exact hm) (by rw [a4]; exact ht))).symm,
    fun b hb => (appE_ne ks h b (fun hm => d4 b (by rw [b7, ← c6]; exact hm) (by rw [a5]; exact hb))).symm⟩
  have hxr := agree_reads hx
  refine ⟨p, vs, ks, b1, by rw [agree_dst hy]; exact b2, fun R' K' => by rw [← gactx_same hy]; exact b3 R' K', by rw [b4, hyr.1], by rw [b5, hyr.2], b6, by rw [b7, c6],
    o, us, hs, a1, by rw [agree_dst hx]; exact a2, fun R' K' => by rw [← gactx_same hx]; exact a3 R' K', by rw [a4, hxr.1], by rw [a5, hxr.2], a6, by rw [a7, c7], ?_⟩
  rw [appF_comm vs us F, ← c5]
  · exact hr
  · intro t ht hm
    rw [← a6] at hm
    exact d1 t hm (by rw [b6]; exact List.mem_append_right _ ht)
theorem runs_bubble {all : Array Oper} {x : Fpr} {F' : List S} {h' : Heap} : ∀ (pre post : List Fpr) (F : List S) (h : Heap), (∀ p ∈ pre, p.ok x = true) → Runs P rec keep gc vc all (pre ++ x :: post) F h F' h' → Runs P rec keep gc vc all (x :: (pre ++ post)) F h F' h'
  | [], post, F, h, _, hr => hr
  | p :: pre, post, F, h, hp, hr => by
    obtain ⟨o, us, hs, a1, a2, a3, a4, a5, a6, a7, hr⟩ := hr
    have := runs_bubble pre post _ _ (fun q hq => hp q (List.mem_cons_of_mem _ hq)) hr
    exact runs_swap (hp p (List.mem_cons_self ..)) ⟨o, us, hs, a1, a2, a3, a4, a5, a6, a7, this⟩
end
end Go.L
/-! L: a region whose operations may be turned round, in any order -/
set_option linter.unusedVariables false
set_option linter.unusedSimpArgs false
namespace Go.L
open Go.RowKit
section
variable {vc : Bool} {P : Program} {gc keep : FuncId → Bool} {rec : Rec} {all : Array Oper} {o : Oper} {F : List S} {h : Heap}

open Classical in
theorem step_sound (hrec : RecOk P gc rec) (hloc : RecLoc gc rec) {i : Nat} (hi : all[i]? = some o) (hd : dstOk F o.dst = true) {us : List (Nat × S)} {hs : HE} (hx : GActs P rec keep gc vc all o F h us hs)
    {g : G} {a : Act} {w : World} (hh : Hinv g h w) (hf : Finv g F a.tmps w) {K : Act → World → Prop} {Q : Exit → Act → World → Prop}
    (hK : ∀ g' v w', Hinv g' (appE h hs) w' → Finv g' (appF F us) (a.put o.dst v).tmps w' → Step g w g' w' → K (a.put o.dst v) w') : wpOp P all Q i K a w := by
  have hx0 := hx _ (fun us hs => some (us, hs))
  -- it is done
  have hdo : actx P rec keep gc vc o F h (fun us hs => some (us, hs)) = some (us, hs) → Region.wanted o (yielded all a.tmps) = true → wpOp P all Q i K a w := fun ha hw => by
    obtain ⟨us', hs', e, -, hop⟩ := actx_spec (keep := keep) hloc hd ha
    cases e
    unfold wpOp
    simp only [hi, hw, if_true]
    left
    have h1 : opx P rec keep gc vc o F h (fun F2 h2 => if F2 = appF F us ∧ h2 = appE h hs then some () else none) (fun _ _ _ => none) = some () := by
      rw [hop]; simp
    refine opx_sound hrec h1 hh hf (fun F2 h2 g' v w' k1 k2 k3 k4 => ?_) (fun x F2 h2 g' v w' k1 => by cases k1)
    split at k1
    · rename_i e
      obtain ⟨rfl, rfl⟩ := e
      exact hK g' v w' k2 k3 k4
    · cases k1
  -- it is passed over
  have hskip : some (wr o.dst .sk, HE.sets []) = some (us, hs) → Region.wanted o (yielded all a.tmps) = false → wpOp P all Q i K a w := fun e hw => by
    cases e
    unfold wpOp
    simp only [hi, hw, Bool.false_eq_true, if_false]
    refine hK g undef w hh ?_ (.refl _ _)
    rw [← put_wr hd]
    exact hf.put o.dst .sk undef (fun k _ _ => rfl) (fun k e sz i c _ he => by cases he)
  unfold gactx at hx0
  cases hg : o.guard with
  | none =>
    simp only [hg] at hx0
    exact hdo hx0 (by simp [Region.wanted, hg])
  | some jw =>
    obtain ⟨j, want⟩ := jw
    simp only [hg] at hx0
    cases hdd : (all[j]?).bind (·.dst) with
    | none => simp [hdd] at hx0
    | some d =>
      simp only [hdd] at hx0
      have hlt : ∀ y, F[d]? = some y → d < a.tmps.size := fun y hy => by rw [← hf.len]; exact (List.getElem?_eq_some_iff.1 hy).1
      cases hs' : F[d]? with
      | none => simp [hs'] at hx0
      | some y =>
        have hlt := hlt y hs'
        cases y with
        | sk =>
          simp only [hs'] at hx0
          refine hskip hx0 ?_
          have hv : a.tmps.getD d undef = undef := hf.fr d _ hs'
          have hval : a.tmps[d]? = some undef := by
            rw [Array.getD_eq_getD_getElem?, Array.getElem?_eq_getElem hlt] at hv
            rw [Array.getElem?_eq_getElem hlt]
            exact congrArg some hv
          have hy : yielded all a.tmps j = none := by
            unfold yielded
            rw [hdd]
            simp [hval, undef]
          simp [Region.wanted, hg, hy]
        | v z =>
          cases z with
          | bool b =>
            simp only [hs'] at hx0
            have hbv : VR g.im g.io (.bool b) (a.eval (.tmp d)) := hf.getD hs'
            have hval : a.tmps[d]? = some (.bool b) := by
              generalize hev : a.eval (.tmp d) = v at hbv
              cases hbv
              rw [Array.getElem?_eq_getElem hlt]
              have : a.tmps.getD d undef = .bool b := hev
              rw [Array.getD_eq_getD_getElem?, Array.getElem?_eq_getElem hlt] at this
              exact congrArg some this
            have hy : yielded all a.tmps j = some b := by
              unfold yielded
              rw [hdd]
              simp [hval]
            have hw : Region.wanted o (yielded all a.tmps) = (some b == some want) := by simp [Region.wanted, hg, hy]
            cases b <;> cases want <;> simp only [if_true, if_false, Bool.false_eq_true] at hx0 <;> first | exact hdo hx0 (by rw [hw]; rfl) | exact hskip hx0 (by rw [hw]; rfl)
          | _ => simp [hs'] at hx0
        | _ => simp [hs'] at hx0

theorem okAll_pair : ∀ {L : List Fpr}, okAll all L = true → ∀ {pre post : List Fpr} {x : Fpr}, L = pre ++ x :: post → ∀ p ∈ pre, ((TR.descs .any p.i all.toList #[]).getD x.i false || p.ok x) = true
  | [], _, pre, post, x, e, p, hp => by cases pre <;> cases e
  | y :: L, hok, [], post, x, e, p, hp => by cases hp
  | y :: L, hok, q :: pre, post, x, e, p, hp => by
    cases e
    unfold okAll at hok
    rw [Bool.and_eq_true] at hok
    rcases List.mem_cons.1 hp with rfl | hp
    · have h1 := List.all_eq_true.1 hok.1 x (by simp)
      rwa [TR.descM_bit] at h1
    · exact okAll_pair hok.2 rfl p hp
theorem okAll_drop : ∀ {pre post : List Fpr} {x : Fpr}, okAll all (pre ++ x :: post) = true → okAll all (pre ++ post) = true
  | [], post, x, h => by
    simp only [List.nil_append] at h ⊢
    unfold okAll at h
    rw [Bool.and_eq_true] at h
    exact h.2
  | p :: pre, post, x, h => by
    simp only [List.cons_append] at h ⊢
    unfold okAll at h ⊢
    rw [Bool.and_eq_true] at h ⊢
    refine ⟨?_, okAll_drop h.2⟩
    refine List.all_eq_true.2 fun y hy => List.all_eq_true.1 h.1 y ?_
    rcases List.mem_append.1 hy with hy | hy
    · exact List.mem_append_left _ hy
    · exact List.mem_append_right _ (List.mem_cons_of_mem _ hy)

theorem loose_any (hrec : RecOk P gc rec) (hloc : RecLoc gc rec) {F' : List S} {h' : Heap} {g0 : G} {w0 : World} {a0 : Act} {ms : List Nat} {Q : Exit → Act → World → Prop} (hms : ∀ o ∈ all.toList, ∀ d, o.dst = some d → d ∈ ms)
    (hQ : ∀ g' a' w', Hinv g' h' w' → Finv g' F' a'.tmps w' → Step g0 w0 g' w' → Pres ms a0 a' → Q .normal a' w')
    (hall : ∀ l : Array Bool, l.size = all.size → TR.Closed .any all l → Region.ready .any all l = [] → TR.left all.size l = []) :
    ∀ (fuel : Nat) (listed : Array Bool) (L : List Fpr) (F : List S) (h : Heap) (g : G) (a : Act) (w : World), listed.size = all.size → L.map (·.i) = TR.left all.size listed → L.length ≤ fuel → TR.Closed .any all listed →
      okAll all L = true → Runs P rec keep gc vc all L F h F' h' → Hinv g h w → Finv g F a.tmps w → Step g0 w0 g w → Pres ms a0 a → wpAny P .any all Q fuel listed a w := by
  intro fuel
  induction fuel with
  | zero =>
    intro listed L F h g a w hsz hL hlen hcl hok hr hh hf hs hp
    have hl : L = [] := List.eq_nil_of_length_eq_zero (by omega)
    subst hl
    obtain ⟨rfl, rfl⟩ := hr
    refine ⟨?_, hQ g a w hh hf hs hp⟩
    refine List.eq_nil_iff_forall_not_mem.2 fun i hi => ?_
    obtain ⟨h0, o, ho, _⟩ := mem_ready.1 hi
    have : i ∈ TR.left all.size listed := List.mem_filter.2 ⟨List.mem_range.2 (Array.getElem?_eq_some_iff.1 ho).1, by simpa using h0⟩
    rw [← hL] at this; cases this
  | succ fuel ih =>
    intro listed L F h g a w hsz hL hlen hcl hok hr hh hf hs hp
    refine ⟨fun hrd => ?_, fun i hi => ?_⟩
    · have := hall listed hsz hcl hrd
      rw [this] at hL
      have hl : L = [] := by cases L <;> first | rfl | cases hL
      subst hl
      obtain ⟨rfl, rfl⟩ := hr
      exact hQ g a w hh hf hs hp
    · obtain ⟨h0, oi, hoi, hed⟩ := mem_ready.1 hi
      have hin : i < all.size := (Array.getElem?_eq_some_iff.1 hoi).1
      have hmem : i ∈ TR.left all.size listed := List.mem_filter.2 ⟨List.mem_range.2 hin, by simpa using h0⟩
      rw [← hL] at hmem
      obtain ⟨x, hxL, hxi⟩ := List.mem_map.1 hmem
      obtain ⟨pre, post, rfl⟩ := List.append_of_mem hxL
      -- those ahead of it may stand behind it
      have hpre : ∀ p ∈ pre, p.ok x = true := fun p hpp => by
        have h1 := okAll_pair hok rfl p hpp
        rw [Bool.or_eq_true] at h1
        refine h1.resolve_left fun hdsc => ?_
        rw [hxi] at hdsc
        have hl := TR.descs_listed hcl p.i i oi hoi hed hdsc
        have hpl : p.i ∈ TR.left all.size listed := by rw [← hL]; exact List.mem_map.2 ⟨p, List.mem_append_left _ hpp, rfl⟩
        obtain ⟨hpn, hpu⟩ := List.mem_filter.1 hpl
        have hpn := List.mem_range.1 hpn
        have hsz' : p.i < listed.size := by omega
        simp [hsz'] at hpu hl
        rw [hl] at hpu; cases hpu
      have hr2 := runs_bubble pre post F h hpre hr
      obtain ⟨o, us, hs', a1, a2, a3, a4, a5, a6, a7, hr3⟩ := hr2
      rw [hxi] at a1
      have : o = oi := by rw [hoi] at a1; exact (Option.some.inj a1).symm
      subst this
      -- what is left
      have hset : TR.left all.size (listed.setIfInBounds i true) = (pre ++ post).map (·.i) := by
        have h1 : TR.left all.size (listed.setIfInBounds i true) = (TR.left all.size listed).filter (fun k => k != i) := by
          unfold TR.left
          rw [List.filter_filter]
          refine List.filter_congr fun k hk => ?_
          by_cases hki : k = i
          · subst hki
            have : k < listed.size := by omega
            simp [this]
          · rw [_root_.Go.getD_set_ne true (fun e => hki e.symm)]
            simp [hki]
        have hnd : ((pre ++ x :: post).map (·.i)).Nodup := by rw [hL]; exact List.Sublist.nodup List.filter_sublist List.nodup_range
        rw [h1, ← hL, List.map_append, List.map_cons, List.filter_append, List.filter_cons, List.map_append]
        rw [List.map_append, List.map_cons] at hnd
        have hni : i ∉ pre.map (·.i) ∧ i ∉ post.map (·.i) := by
          rw [List.nodup_append] at hnd
          rw [← hxi]
          exact ⟨fun hc => hnd.2.2 _ hc _ (List.mem_cons_self ..) rfl, fun hc => (List.nodup_cons.1 hnd.2.1).1 hc⟩
        rw [List.filter_eq_self.2 (fun k hk => by simp; rintro rfl; exact hni.1 hk), List.filter_eq_self.2 (fun k hk => by simp; rintro rfl; exact hni.2 hk)]
        simp [hxi]
      have hcl' : TR.Closed .any all (listed.setIfInBounds i true) := by
        intro k o hk hl e he hb
        by_cases hki : k = i
        · subst hki
          rw [hoi] at hk; cases hk
          exact _root_.Go.getD_set_true (hed e he hb)
        · rw [_root_.Go.getD_set_ne false (fun e => hki e.symm)] at hl
          exact _root_.Go.getD_set_true (hcl k o hk hl e he hb)
      refine step_sound hrec hloc hoi a2 a3 hh hf fun g' v w' k1 k2 k3 => ?_
      refine ih (listed.setIfInBounds i true) (pre ++ post) (appF F us) (appE h hs') g' _ w' (by simpa using hsz) hset.symm ?_ hcl' (okAll_drop hok) hr3 k1 k2 (hs.trans k3) (hp.trans (Pres.put a o.dst v fun k hk => hms o (by
        have := Array.mem_of_getElem? hoi
        simpa using this) k hk))
      simp at hlen ⊢
      omega
/-- .. where one operation is left that is behind all others -/
theorem loose_tail (hrec : RecOk P gc rec) (hloc : RecLoc gc rec) {F' : List S} {h' : Heap} {g0 : G} {w0 : World} {a0 : Act} {ms : List Nat} {Q : Exit → Act → World → Prop} (hms : ∀ o ∈ all.toList, ∀ d, o.dst = some d → d ∈ ms) {kk : Nat}
    (hkk : kk + 1 = all.size) (hdep : ∀ i, i < kk → (TR.descs .any i all.toList #[]).getD kk false = true)
    (hQ : ∀ g' a' w', Hinv g' h' w' → Finv g' F' a'.tmps w' → Step g0 w0 g' w' → Pres ms a0 a' → wpOp P all Q kk (fun a w => Q .normal a w) a' w')
    (hall : ∀ l : Array Bool, l.size = all.size → TR.Closed .any all l → Region.ready .any all l = [] → TR.left all.size l = []) :
    ∀ (fuel : Nat) (listed : Array Bool) (L : List Fpr) (F : List S) (h : Heap) (g : G) (a : Act) (w : World), listed.size = all.size → L.map (·.i) ++ [kk] = TR.left all.size listed → L.length + 1 ≤ fuel → TR.Closed .any all listed →
      okAll all L = true → Runs P rec keep gc vc all L F h F' h' → Hinv g h w → Finv g F a.tmps w → Step g0 w0 g w → Pres ms a0 a → wpAny P .any all Q fuel listed a w := by
  intro fuel
  induction fuel with
  | zero => intro listed L F h g a w hsz hL hlen; omega
  | succ fuel ih =>
    intro listed L F h g a w hsz hL hlen hcl hok hr hh hf hs hp
    refine ⟨fun hrd => ?_, fun i hi => ?_⟩
    · have := hall listed hsz hcl hrd
      rw [this] at hL
      simp at hL
    · obtain ⟨h0, oi, hoi, hed⟩ := mem_ready.1 hi
      have hin : i < all.size := (Array.getElem?_eq_some_iff.1 hoi).1
      have hmem : i ∈ TR.left all.size listed := List.mem_filter.2 ⟨List.mem_range.2 hin, by simpa using h0⟩
      rw [← hL] at hmem
      by_cases hLn : L = []
      · subst hLn
        obtain ⟨rfl, rfl⟩ := hr
        have hik : i = kk := by simpa using hmem
        subst hik
        refine wpOp_mono (fun a' w' hq => ?_) (hQ g a w hh hf hs hp)
        have hleft : ∀ k, k < all.size → (listed.setIfInBounds i true).getD k true = true := fun k hk => by
          by_cases hki : k = i
          · subst hki
            have : k < listed.size := by omega
            simp [this]
          · rw [_root_.Go.getD_set_ne true (fun e => hki e.symm)]
            cases hb : listed.getD k true with
            | true => rfl
            | false =>
              have : k ∈ TR.left all.size listed := List.mem_filter.2 ⟨List.mem_range.2 hk, by rw [hb]; rfl⟩
              rw [← hL] at this
              exact absurd (by simpa using this) hki
        have hrd : Region.ready .any all (listed.setIfInBounds i true) = [] := List.eq_nil_iff_forall_not_mem.2 fun j hj => by
          obtain ⟨h1, o, ho, _⟩ := mem_ready.1 hj
          have := hleft j (Array.getElem?_eq_some_iff.1 ho).1
          rw [h1] at this; cases this
        cases fuel with
        | zero => exact ⟨hrd, hq⟩
        | succ fuel => exact ⟨fun _ => hq, fun j hj => by rw [hrd] at hj; cases hj⟩
      obtain ⟨y, hy⟩ : ∃ y, y ∈ L := List.exists_mem_of_ne_nil L hLn
      have hyl : y.i ∈ TR.left all.size listed := by rw [← hL]; exact List.mem_append_left _ (List.mem_map.2 ⟨y, hy, rfl⟩)
      have hnd0 : (L.map (·.i) ++ [kk]).Nodup := by rw [hL]; exact List.Sublist.nodup List.filter_sublist List.nodup_range
      have hyk : y.i ≠ kk := by
        intro e
        rw [List.nodup_append] at hnd0
        exact hnd0.2.2 _ (List.mem_map.2 ⟨y, hy, rfl⟩) kk (by simp) e
      have hik : i ≠ kk := by
        rintro rfl
        obtain ⟨hyn, hyu⟩ := List.mem_filter.1 hyl
        have hyn := List.mem_range.1 hyn
        have hl := TR.descs_listed hcl y.i i oi hoi hed (hdep y.i (by omega))
        have hsz' : y.i < listed.size := by omega
        simp [hsz'] at hyu hl
        rw [hl] at hyu; cases hyu
      have hmemL : i ∈ L.map (·.i) := (List.mem_append.1 hmem).resolve_right (by simpa using hik)
      obtain ⟨x, hxL, hxi⟩ := List.mem_map.1 hmemL
      obtain ⟨pre, post, rfl⟩ := List.append_of_mem hxL
      have hpre : ∀ p ∈ pre, p.ok x = true := fun p hpp => by
        have h1 := okAll_pair hok rfl p hpp
        rw [Bool.or_eq_true] at h1
        refine h1.resolve_left fun hdsc => ?_
        rw [hxi] at hdsc
        have hl := TR.descs_listed hcl p.i i oi hoi hed hdsc
        have hpl : p.i ∈ TR.left all.size listed := by rw [← hL]; exact List.mem_append_left _ (List.mem_map.2 ⟨p, List.mem_append_left _ hpp, rfl⟩)
        obtain ⟨hpn, hpu⟩ := List.mem_filter.1 hpl
        have hpn := List.mem_range.1 hpn
        have hsz' : p.i < listed.size := by omega
        simp [hsz'] at hpu hl
        rw [hl] at hpu; cases hpu
      have hr2 := runs_bubble pre post F h hpre hr
      obtain ⟨o, us, hs', a1, a2, a3, a4, a5, a6, a7, hr3⟩ := hr2
      rw [hxi] at a1
      have : o = oi := by rw [hoi] at a1; exact (Option.some.inj a1).symm
      subst this
      have hset : TR.left all.size (listed.setIfInBounds i true) = (pre ++ post).map (·.i) ++ [kk] := by
        have h1 : TR.left all.size (listed.setIfInBounds i true) = (TR.left all.size listed).filter (fun k => k != i) := by
          unfold TR.left
          rw [List.filter_filter]
          refine List.filter_congr fun k hk => ?_
          by_cases hki : k = i
          · subst hki
            have : k < listed.size := by omega
            simp [this]
          · rw [_root_.Go.getD_set_ne true (fun e => hki e.symm)]
            simp [hki]
        have hnd : ((pre ++ x :: post).map (·.i)).Nodup := by rw [List.nodup_append] at hnd0; exact hnd0.1
        rw [h1, ← hL, List.filter_append, List.map_append, List.map_cons, List.filter_append, List.filter_cons, List.map_append]
        rw [List.map_append, List.map_cons] at hnd
        have hni : i ∉ pre.map (·.i) ∧ i ∉ post.map (·.i) := by
          rw [List.nodup_append] at hnd
          rw [← hxi]
          exact ⟨fun hc => hnd.2.2 _ hc _ (List.mem_cons_self ..) rfl, fun hc => (List.nodup_cons.1 hnd.2.1).1 hc⟩
        rw [List.filter_eq_self.2 (fun k hk => by simp; rintro rfl; exact hni.1 hk), List.filter_eq_self.2 (fun k hk => by simp; rintro rfl; exact hni.2 hk)]
        have : (kk != i) = true := by simp; exact fun e => hik e.symm
        simp [hxi, this]
      have hcl' : TR.Closed .any all (listed.setIfInBounds i true) := by
        intro k o hk hl e he hb
        by_cases hki : k = i
        · subst hki
          rw [hoi] at hk; cases hk
          exact _root_.Go.getD_set_true (hed e he hb)
        · rw [_root_.Go.getD_set_ne false (fun e => hki e.symm)] at hl
          exact _root_.Go.getD_set_true (hcl k o hk hl e he hb)
      refine step_sound hrec hloc hoi a2 a3 hh hf fun g' v w' k1 k2 k3 => ?_
      refine ih (listed.setIfInBounds i true) (pre ++ post) (appF F us) (appE h hs') g' _ w' (by simpa using hsz) hset.symm ?_ hcl' (okAll_drop hok) hr3 k1 k2 (hs.trans k3) (hp.trans (Pres.put a o.dst v fun k hk => hms o (by
        have := Array.mem_of_getElem? hoi
        simpa using this) k hk))
      simp at hlen ⊢
      omega
end
end Go.L
