import Derived.Test.YtjnjofillhdffaaLloo
/-! L: what it answers of a call, is so -/
set_option linter.unusedVariables false
set_option linter.unusedSimpArgs false
namespace Go.L
open Go.RowKit
section
variable {P : Program} {gc keep : FuncId → Bool} {rec : Rec} {R : Type} {r : R}

theorem carried_lin (ms : List Nat) : ∀ (F : List S) (i s : Nat) (x : S), F[s]? = some x → lin x = true → ∃ k n e, (i + s, k, n, e) ∈ carried ms i F ∧ k ≠ 0
  | [], i, s, x, h, _ => by simp at h
  | y :: F, i, s, x, h, hl => by
    cases s with
    | zero =>
      simp at h; subst h
      cases y with
      | own e sz l => exact ⟨1, sz, e, by simp [carried]⟩
      | bx n cs => exact ⟨2, n, 0, by simp [carried]⟩
      | gone => exact ⟨3, 0, 0, by simp [carried]⟩
      | _ => simp [lin] at hl
    | succ s =>
      obtain ⟨k, n, e, hm, hk⟩ := carried_lin ms F (i + 1) s x (by simpa using h) hl
      refine ⟨k, n, e, ?_, hk⟩
      rw [show i + (s + 1) = i + 1 + s from by omega]
      cases y <;> simp only [carried] <;> first | exact hm | exact List.mem_cons_of_mem _ hm | (split <;> first | exact hm | exact List.mem_cons_of_mem _ hm)

theorem forget_get (ms : List Nat) (cs : List (Nat × Nat × Nat × Nat)) : ∀ (F : List S) (i s : Nat) (y : S), (forget ms cs i F)[s]? = some y → y = .un ∨ (F[s]? = some y ∧ (∀ d sz j c, y = .fp d sz j c → isAl sz j = true ∧ d ∉ ms) ∧ ((i + s) ∈ ms → ∃ k n e, (i + s, k, n, e) ∈ cs))
  | [], i, s, y, h => by simp [forget] at h
  | x :: F, i, s, y, h => by
    cases s with
    | zero =>
      simp [forget] at h
      subst h
      split
      · exact .inl rfl
      · rename_i hn
        have hcar : i + 0 ∈ ms → ∃ k n e, (i + 0, k, n, e) ∈ cs := fun hm => by
          simp only [Nat.add_zero] at hm ⊢
          rcases Classical.em (∃ k n e, (i, k, n, e) ∈ cs) with h' | h'
          · exact h'
          · exfalso
            have h1 : ms.contains i = true := by simpa using hm
            have h2 : cs.any (fun p => p.1 == i) = false := by
              rw [List.any_eq_false]
              rintro ⟨a, b, c, d⟩ hmem
              simp
              rintro rfl
              exact h' ⟨b, c, d, hmem⟩
            exact hn (by rw [h1, h2]; rfl)
        cases x with
        | fp d sz j c =>
          simp only
          split
          · rename_i hc
            refine .inr ⟨rfl, fun d' sz' j' c' e => ?_, hcar⟩
            cases e
            exact hc
          · exact .inl rfl
        | _ => exact .inr ⟨rfl, by simp, hcar⟩
    | succ s =>
      have := forget_get ms cs F (i + 1) s y (by simpa [forget] using h)
      rw [show i + (s + 1) = i + 1 + s from by omega]
      simpa using this
theorem forget_len (ms : List Nat) (cs : List (Nat × Nat × Nat × Nat)) : ∀ (F : List S) (i : Nat), (forget ms cs i F).length = F.length
  | [], _ => rfl
  | x :: F, i => by simp [forget, forget_len ms cs F]

theorem restore_len (st : List V) : ∀ (cs : List (Nat × Nat × Nat × Nat)) (F : List S) (i : Nat), (restore F st cs i).length = F.length
  | [], F, i => rfl
  | (s, k, n, e) :: cs, F, i => by rw [restore, restore_len st cs]; simp
/-- what is carried stands where it stood -/
theorem restore_get {F' : List S} : ∀ (cs : List (Nat × Nat × Nat × Nat)) (F : List S) (st pre st' : List V), gather F' cs = some st' → st = pre ++ st' → F'.length = F.length → ∀ s y, (restore F st cs pre.length)[s]? = some y →
    ((∃ k n e, (s, k, n, e) ∈ cs) ∧ F'[s]? = some y ∧ (lin y = true ∨ ∃ v, y = .v v)) ∨ ((¬ ∃ k n e, (s, k, n, e) ∈ cs) ∧ F[s]? = some y)
  | [], F, st, pre, st', hg, hst, hl, s, y, h => .inr ⟨by simp, h⟩
  | (s0, k, n, e) :: cs, F, st, pre, st', hg, hst, hl, s, y, h => by
    unfold gather at hg
    -- the head of what is gathered
    have key : ∀ (x : S) (v : V) (rr : List V), F'[s0]? = some x → gather F' cs = some rr → st' = v :: rr → restS k n e v = x → (lin x = true ∨ ∃ v, x = .v v) →
        ((∃ k' n' e', (s, k', n', e') ∈ (s0, k, n, e) :: cs) ∧ F'[s]? = some y ∧ (lin y = true ∨ ∃ v, y = .v v)) ∨ ((¬ ∃ k' n' e', (s, k', n', e') ∈ (s0, k, n, e) :: cs) ∧ F[s]? = some y) := fun x v rr hx hrr hv hxe hxl => by
      subst hv
      have hgv : gv st pre.length = v := by
        unfold gv
        rw [hst, List.getD_eq_getElem?_getD, List.getElem?_append_right (Nat.le_refl _)]
        simp
      rw [restore, hgv] at h
      have h' : (restore (F.set s0 x) st cs (pre ++ [v]).length)[s]? = some y := by
        rw [List.length_append, List.length_singleton, ← hxe]
        exact h
      rcases restore_get cs (F.set s0 x) st (pre ++ [v]) rr hrr (by rw [hst]; simp) (by simpa using hl) s y h' with ⟨⟨k', n', e', hm⟩, h2, h3⟩ | ⟨h1, h2⟩
      · exact .inl ⟨⟨k', n', e', List.mem_cons_of_mem _ hm⟩, h2, h3⟩
      · rw [List.getElem?_set] at h2
        split at h2
        · rename_i he
          subst he
          split at h2
          · cases h2
            exact .inl ⟨⟨k, n, e, by simp⟩, hx, hxl⟩
          · cases h2
        · rename_i hne
          refine .inr ⟨?_, h2⟩
          rintro ⟨k', n', e', hm⟩
          rcases List.mem_cons.1 hm with he | hm
          · cases he; exact hne rfl
          · exact h1 ⟨k', n', e', hm⟩
    split at hg
    · rename_i e' sz l rr hx hrr
      split at hg
      · rename_i hc
        obtain ⟨rfl, rfl, rfl⟩ := hc
        cases hg
        exact key _ _ _ hx hrr rfl rfl (.inl rfl)
      · cases hg
    · rename_i m l rr hx hrr
      split at hg
      · rename_i hc
        obtain ⟨rfl, rfl⟩ := hc
        cases hg
        exact key _ _ _ hx hrr rfl rfl (.inl rfl)
      · cases hg
    · rename_i x rr hx hrr
      split at hg
      · rename_i hc
        subst hc
        cases hg
        exact key _ _ _ hx hrr rfl rfl (.inr ⟨_, rfl⟩)
      · cases hg
    · rename_i rr hx hrr
      split at hg
      · rename_i hc
        subst hc
        cases hg
        exact key _ _ _ hx hrr rfl rfl (.inl rfl)
      · cases hg
    · cases hg
theorem gather_lin {F' : List S} : ∀ (cs : List (Nat × Nat × Nat × Nat)) (st : List V), gather F' cs = some st → ∀ s k n e, (s, k, n, e) ∈ cs → k ≠ 0 → ∃ x, F'[s]? = some x ∧ lin x = true
  | [], st, hg, s, k, n, e, hm, hk => by cases hm
  | (s0, k0, n0, e0) :: cs, st, hg, s, k, n, e, hm, hk => by
    unfold gather at hg
    have hrest : ∀ rr, gather F' cs = some rr → (s, k, n, e) ∈ cs → ∃ x, F'[s]? = some x ∧ lin x = true := fun rr hrr hm => gather_lin cs rr hrr s k n e hm hk
    split at hg
    · rename_i e' sz l rr hx hrr
      rcases List.mem_cons.1 hm with he | hm
      · cases he; exact ⟨_, hx, rfl⟩
      · exact hrest rr hrr hm
    · rename_i m l rr hx hrr
      rcases List.mem_cons.1 hm with he | hm
      · cases he; exact ⟨_, hx, rfl⟩
      · exact hrest rr hrr hm
    · rename_i x rr hx hrr
      split at hg
      · rename_i hc
        rcases List.mem_cons.1 hm with he | hm
        · cases he; exact absurd hc hk
        · exact hrest rr hrr hm
      · cases hg
    · rename_i rr hx hrr
      rcases List.mem_cons.1 hm with he | hm
      · cases he; exact ⟨_, hx, rfl⟩
      · exact hrest rr hrr hm
    · cases hg

/-- a round's head -/
theorem head_inv {g g' : G} {F F' : List S} {a a' : Act} {w w' : World} {ms : List Nat} {st : List V} (hf : Finv g F a.tmps w) (hf' : Finv g' F' a'.tmps w') (hs : Step g w g' w') (hp : Pres ms a a') (hg : gather F' (carried ms 0 F) = some st) :
    Finv g' (restore (forget ms (carried ms 0 F) 0 F) st (carried ms 0 F) 0) a'.tmps w' := by
  have hlen : F'.length = F.length := by rw [hf'.len, hf.len, hp.2.1]
  have hget := restore_get (F' := F') (carried ms 0 F) (forget ms (carried ms 0 F) 0 F) st [] st hg rfl (by rw [forget_len]; exact hlen)
  have hnofp : ∀ (s d sz i c : Nat), (restore (forget ms (carried ms 0 F) 0 F) st (carried ms 0 F) 0)[s]? = some (S.fp d sz i c) → F[s]? = some (.fp d sz i c) ∧ d ∉ ms := fun s d sz i c hx => by
    rcases hget s _ hx with ⟨_, _, h | ⟨v, h⟩⟩ | ⟨_, h⟩
    · cases h
    · cases h
    · rcases forget_get _ _ _ _ _ _ h with h | ⟨h0, h, _⟩
      · cases h
      · exact ⟨h0, (h _ _ _ _ rfl).2⟩
  refine ⟨by rw [restore_len, forget_len, hf.len, hp.2.1], fun s d sz i c hx => ?_, fun s y hy => ?_⟩
  · obtain ⟨h1, h2⟩ := hnofp s d sz i c hx
    obtain ⟨z, hz, hlz⟩ := hf.fp s d sz i c h1
    obtain ⟨k, n, e, hm, hk⟩ := carried_lin ms F 0 d z hz hlz
    rw [Nat.zero_add] at hm
    obtain ⟨x', hx', hlx'⟩ := gather_lin _ _ hg d k n e hm hk
    have hdl : d < (restore (forget ms (carried ms 0 F) 0 F) st (carried ms 0 F) 0).length := by
      rw [restore_len, forget_len]; exact (List.getElem?_eq_some_iff.1 hz).1
    obtain ⟨y', hy'⟩ : ∃ y', (restore (forget ms (carried ms 0 F) 0 F) st (carried ms 0 F) 0)[d]? = some y' := ⟨_, List.getElem?_eq_getElem hdl⟩
    refine ⟨y', hy', ?_⟩
    rcases hget d y' hy' with ⟨_, h, _⟩ | ⟨hn, _⟩
    · rw [hx'] at h; cases h; exact hlx'
    · exact absurd ⟨k, n, e, hm⟩ hn
  rcases hget s y hy with ⟨_, h, _⟩ | ⟨hn, h⟩
  · exact hf'.fr s y h
  · rcases forget_get _ _ _ _ _ _ h with rfl | ⟨h1, h2, h3⟩
    · trivial
    · rw [Nat.zero_add] at h3
      have hns : s ∉ ms := fun hm => hn (h3 hm)
      have hnl : lin y = false := by
        cases hl : lin y with
        | false => rfl
        | true =>
          obtain ⟨k, n, e, hm, _⟩ := carried_lin ms F 0 s y h1 hl
          rw [Nat.zero_add] at hm
          exact absurd ⟨k, n, e, hm⟩ hn
      rw [hp.2.2 s hns]
      have := (hf.fr s y h1).keep2 (g' := g') (w' := w') hs.im hs.io (fun hl => by rw [hnl] at hl; cases hl)
      exact this.vals fun d sz i c he => hp.2.2 d (h2 d sz i c he).2

theorem freeze_inv {a : Act} {w : World} {h : Heap} : ∀ (l : List Nat) {F : List S} {g : G}, Hinv g h w → Finv g F a.tmps w → ∃ g', Hinv g' h w ∧ Finv g' (freezeAll l F) a.tmps w ∧ Step g w g' w
  | [], F, g, hh, hf => ⟨g, hh, hf, .refl _ _⟩
  | i :: l, F, g, hh, hf => by
    unfold freezeAll
    split
    · rename_i e sz x hx
      obtain ⟨g1, a1, a2, a3, _⟩ := evE_sound (o := .tmp i) (x := .sl sz x false) (F' := (F.map (er1 i)).set i (.v (.sl sz x false))) (h' := h) hh hf (by simp only [evE, hx])
      obtain ⟨g2, b1, b2, b3⟩ := freeze_inv l a1 a2
      exact ⟨g2, b1, b2, a3.trans b3⟩
    · exact freeze_inv l hh hf
theorem release_inv {g : G} {a : Act} {w : World} (ops : Array Oper) : ∀ (l : List Oper) {F : List S}, Finv g F a.tmps w → Finv g (release ops l F) a.tmps w
  | [], F, hf => hf
  | o :: l, F, hf => by
    unfold release
    refine release_inv ops l ?_
    split
    · split
      · split
        · exact hf.drop _
        · exact hf
      · split
        · exact hf.drop _
        · exact hf
      · split
        · exact hf.drop _
        · exact hf
      · exact hf
    · exact hf
theorem exec_sound (hrec : RecOk P gc rec) (hloc : RecLoc gc rec) (n : Nat) (hdr : P.follows .mixedOrders = true) : ∀ (c : Code) (ms : List Nat), (∀ s ∈ mods c, s ∈ ms) → ∀ (F : List S) (h : Heap) (K : Ex → List S → Heap → Option R) (g : G) (a : Act) (w : World) (Q : Exit → Act → World → Prop),
    exec P rec keep gc (loopx n) (textDraws P) c F h K = some r → Hinv g h w → Finv g F a.tmps w →
    (∀ e F' h' g' a' w' e', K e F' h' = some r → Hinv g' h' w' → Finv g' F' a'.tmps w' → Step g w g' w' → Pres ms a a' → ExR g' e e' → Q e' a' w') → c.wp P Q a w
  | .skip, ms, hms, F, h, K, g, a, w, Q, hx, hh, hf, hK => wp_skip (hK .nrm F h g a w .normal hx hh hf (.refl _ _) (.refl _ _) trivial)
  | .label l, ms, hms, F, h, K, g, a, w, Q, hx, hh, hf, hK => wp_label (hK .nrm F h g a w .normal hx hh hf (.refl _ _) (.refl _ _) trivial)
  | .exit id, ms, hms, F, h, K, g, a, w, Q, hx, hh, hf, hK => wp_exit (hK (.ex id) F h g a w (.exit id) hx hh hf (.refl _ _) (.refl _ _) rfl)
  | .ret, ms, hms, F, h, K, g, a, w, Q, hx, hh, hf, hK => wp_ret (hK .ret F h g a w .ret hx hh hf (.refl _ _) (.refl _ _) trivial)
  | .region id ops d, ms, hms, F, h, K, g, a, w, Q, hx, hh, hf, hK => by
    have hmods : ∀ o ∈ ops.toList, ∀ k, o.dst = some k → k ∈ ms := fun o ho k hk => hms k (by
      simp only [mods]
      exact List.mem_filterMap.2 ⟨o, ho, hk⟩)
    unfold exec at hx
    simp only [force_eq] at hx
    split at hx
    · rename_i hd
      have hdt : d = true := by cases d <;> simp_all
      subst hdt
      split at hx
      · rename_i hb
        rw [Bool.and_eq_true] at hb
        refine Code.wp_mono (Q := TR.Only Q) (fun e a w q => by cases e <;> first | exact q | exact q.elim) ?_
        refine wp_region_any hdr ?_
        have hzip : ∀ p ∈ ops.toList.zipIdx, ops[p.2]? = some p.1 := fun p hp => by
          have := List.mem_zipIdx_iff_getElem?.1 hp
          simpa using this
        obtain ⟨L, F', h', r1, r2, r3, r4⟩ := loosex_runs hloc ops.toList.zipIdx [] (release ops ops.toList F) h hzip hx
        have hfull : TR.left ops.size (Array.replicate ops.size false) = List.range ops.size := by
          refine List.filter_eq_self.2 fun k hk => ?_
          have := List.mem_range.1 hk
          simp [this]
        have hLi : L.map (·.i) = List.range ops.size := by
          rw [r2]
          apply List.ext_getElem <;> simp
        refine loose_any (P := P) (gc := gc) (keep := keep) (rec := rec) hrec hloc (F' := F') (h' := h') (g0 := g) (w0 := w) (a0 := a) (ms := ms) (Q := TR.Only Q) (all := ops) hmods
          (fun g' a' w' k1 k2 k3 k4 => hK .nrm F' h' g' a' w' .normal r4 k1 k2 k3 k4 trivial) (fun l hl _ => TR.ready_nil hb.2 hl) ops.size (Array.replicate ops.size false) L (release ops ops.toList F) h g a _ (by simp) (by rw [hfull]; exact hLi)
          (by have := congrArg List.length hLi; simp at this; omega) ?_ (by simpa using r3) r1 hh.drew (release_inv ops _ hf.drew) (Step.drew g w) (.refl _ _)
        intro i o hi hl
        exfalso
        rw [Array.getD_eq_getD_getElem?, Array.getElem?_replicate] at hl
        split at hl <;> simp at hl
      · cases hx
    · rename_i hd
      cases d with
      | false =>
        refine wp_region_list ?_
        have := opsx_sound (keep := keep) hrec false ops (Q := Q) ms ops.toList F h g a w hx hh hf hmods (fun F' h' g' a' w' k1 k2 k3 k4 k5 => hK .nrm F' h' g' a' w' .normal k1 k2 k3 k4 k5 trivial)
          (fun x F' h' g' a' v w' k1 k2 k3 k4 k5 k6 => hK (.pan x) F' h' g' a' w' (.panic _) k1 k2 k4 k5 k6 ⟨v, rfl, k3⟩)
        exact this
      | true =>
        have hB : (TR.textB (TR.cls P) ops && TR.backB ops) = true := by
          cases hb : textDraws P ops with
          | true =>
            unfold textDraws at hb
            rw [Bool.and_eq_true] at hb
            rw [TR.fastB_ok hb.1, hb.2]; rfl
          | false => rw [hb] at hd; simp at hd
        have hops : ops = ops.toList.toArray := by simp
        rw [hops]
        refine TR.wp_region_text (TR.cls_ok _) hdr (by rw [← hops]; exact hB) ?_
        have := opsx_sound (keep := keep) hrec true ops (Q := Exit.then (fun a w => Q .normal a w) (fun _ _ _ => False)) ms ops.toList F h g a w.drew hx hh.drew hf.drew hmods
          (fun F' h' g' a' w' k1 k2 k3 k4 k5 => hK .nrm F' h' g' a' w' .normal k1 k2 k3 ((Step.drew g w).trans k4) k5 trivial)
          (fun x F' h' g' a' v w' k1 k2 k3 k4 k5 k6 => by cases k1)
        rw [← hops]
        exact this
  | .seq x y, ms, hms, F, h, K, g, a, w, Q, hx, hh, hf, hK => by
    unfold exec at hx
    refine wp_seq ?_
    refine exec_sound hrec hloc n hdr x ms (fun s hs => hms s (by simp [mods, hs])) F h _ g a w _ hx hh hf ?_
    intro e F1 h1 g1 a1 w1 e' hk hh1 hf1 hs1 hp1 he
    cases e with
    | nrm =>
      cases e' <;> simp [ExR] at he
      refine exec_sound hrec hloc n hdr y ms (fun s hs => hms s (by simp [mods, hs])) F1 h1 K g1 a1 w1 Q hk hh1 hf1 ?_
      intro e2 F2 h2 g2 a2 w2 e2' hk2 hh2 hf2 hs2 hp2 he2
      exact hK e2 F2 h2 g2 a2 w2 e2' hk2 hh2 hf2 (hs1.trans hs2) (hp1.trans hp2) he2
    | ex i =>
      have := hK _ F1 h1 g1 a1 w1 e' hk hh1 hf1 hs1 hp1 he
      cases e' <;> simp [ExR] at he
      exact this
    | ret =>
      have := hK _ F1 h1 g1 a1 w1 e' hk hh1 hf1 hs1 hp1 he
      cases e' <;> simp [ExR] at he
      exact this
    | pan v =>
      have := hK _ F1 h1 g1 a1 w1 e' hk hh1 hf1 hs1 hp1 he
      cases e' <;> simp [ExR] at he
      exact this
  | .cond c x y, ms, hms, F, h, K, g, a, w, Q, hx, hh, hf, hK => by
    unfold exec at hx
    have hxm : ∀ s ∈ mods x, s ∈ ms := fun s hs => hms s (by simp [mods, hs])
    have hym : ∀ s ∈ mods y, s ∈ ms := fun s hs => hms s (by simp [mods, hs])
    cases c with
    | tmp t =>
      simp only at hx
      split at hx
      · rename_i b hb
        have hbv : VR g.im g.io (.bool b) (a.eval (.tmp t)) := hf.getD hb
        have hev : a.eval (.tmp t) = .bool b := by
          generalize a.eval (.tmp t) = v at hbv
          cases hbv; rfl
        have hset : F.set t (.v (.bool b)) = F := by
          apply List.ext_getElem?
          intro i
          rw [List.getElem?_set]
          split
          · rename_i e; subst e
            rw [hb, if_pos (List.getElem?_eq_some_iff.1 hb).1]
          · rfl
        refine wp_cond hev ?_
        cases b with
        | true =>
          simp only [if_true] at hx ⊢
          rw [hset] at hx
          exact exec_sound hrec hloc n hdr x ms hxm F h K g a w Q hx hh hf hK
        | false =>
          simp only [Bool.false_eq_true, if_false] at hx ⊢
          rw [hset] at hx
          exact exec_sound hrec hloc n hdr y ms hym F h K g a w Q hx hh hf hK
      · cases hx
    | const v =>
      cases v <;> simp only at hx <;> first | (cases hx; done) | skip
      rename_i b
      refine wp_cond (t := b) rfl ?_
      cases b with
      | true => exact exec_sound hrec hloc n hdr x ms hxm F h K g a w Q hx hh hf hK
      | false => exact exec_sound hrec hloc n hdr y ms hym F h K g a w Q hx hh hf hK
    | func f => cases hx
    | global f => cases hx
  | .block id b, ms, hms, F, h, K, g, a, w, Q, hx, hh, hf, hK => by
    unfold exec at hx
    refine wp_block ?_
    refine exec_sound hrec hloc n hdr b ms (fun s hs => hms s (by simpa [mods] using hs)) F h _ g a w _ hx hh hf ?_
    intro e F1 h1 g1 a1 w1 e' hk hh1 hf1 hs1 hp1 he
    cases e with
    | nrm =>
      cases e' <;> simp [ExR] at he
      exact hK .nrm F1 h1 g1 a1 w1 .normal hk hh1 hf1 hs1 hp1 trivial
    | ex i =>
      cases e' <;> simp [ExR] at he
      subst he
      simp only at hk
      simp only [Exit.inBlock]
      split at hk
      · rename_i hi
        rw [if_pos hi]
        exact hK .nrm F1 h1 g1 a1 w1 .normal hk hh1 hf1 hs1 hp1 trivial
      · rename_i hi
        rw [if_neg hi]
        exact hK (.ex i) F1 h1 g1 a1 w1 (.exit i) hk hh1 hf1 hs1 hp1 rfl
    | ret =>
      have := hK .ret F1 h1 g1 a1 w1 e' hk hh1 hf1 hs1 hp1 he
      cases e' <;> simp [ExR] at he
      exact this
    | pan v =>
      have := hK (.pan v) F1 h1 g1 a1 w1 e' hk hh1 hf1 hs1 hp1 he
      cases e' <;> simp [ExR] at he
      exact this
  | .loop b, ms, hms, F0, h, K, g0, a, w, Q, hx, hh0, hf0, hK0 => by
    unfold exec at hx
    simp only at hx
    obtain ⟨g, hh, hf, hs0⟩ := freeze_inv (valsOf P b) hh0 hf0
    have hK : ∀ e F' h' g' a' w' e', K e F' h' = some r → Hinv g' h' w' → Finv g' F' a'.tmps w' → Step g w g' w' → Pres ms a a' → ExR g' e e' → Q e' a' w' := fun e F' h' g' a' w' e' k1 k2 k3 k4 k5 k6 => hK0 e F' h' g' a' w' e' k1 k2 k3 (hs0.trans k4) k5 k6
    generalize freezeAll (valsOf P b) F0 = F at hx hf
    split at hx
    · rename_i st hst
      have hbm : ∀ s ∈ mods b, s ∈ ms := fun s hs => hms s (by simpa [mods] using hs)
      -- the rounds
      have key : ∀ (m : Nat) (st : List V) (h' : Heap) (g' : G) (a' : Act) (w' : World), loopx m (fun st h next => exec P rec keep gc (loopx n) (textDraws P) b (restore (forget (mods b) (carried (mods b) 0 F) 0 F) st (carried (mods b) 0 F) 0) h (fun e F' h => match e with
          | .nrm => (match gather F' (carried (mods b) 0 F) with | some st => next st h | none => none)
          | e => K e F' h)) st h' = some r → Hinv g' h' w' → Finv g' (restore (forget (mods b) (carried (mods b) 0 F) 0 F) st (carried (mods b) 0 F) 0) a'.tmps w' → Step g w g' w' → Pres (mods b) a a' → Code.rounds P b Q m a' w' := by
        intro m
        induction m with
        | zero => intro st h' g' a' w' hx; cases hx
        | succ m ih =>
          intro st h' g' a' w' hx hh' hf' hs' hp'
          rw [rounds_succ]
          rw [loopx] at hx
          refine exec_sound hrec hloc n hdr b (mods b) (fun s hs => hs) _ h' _ g' a' w' _ hx hh' hf' ?_
          intro e F1 h1 g1 a1 w1 e' hk hh1 hf1 hs1 hp1 he
          cases e with
          | nrm =>
            cases e' <;> simp [ExR] at he
            simp only at hk
            split at hk
            · rename_i st1 hst1
              exact ih st1 h1 g1 a1 w1 hk hh1 (head_inv hf hf1 (hs'.trans hs1) (hp'.trans hp1) hst1) (hs'.trans hs1) (hp'.trans hp1)
            · cases hk
          | ex i =>
            have := hK _ F1 h1 g1 a1 w1 e' hk hh1 hf1 (hs'.trans hs1) ((hp'.trans hp1).sub hbm) he
            cases e' <;> simp [ExR] at he
            exact this
          | ret =>
            have := hK _ F1 h1 g1 a1 w1 e' hk hh1 hf1 (hs'.trans hs1) ((hp'.trans hp1).sub hbm) he
            cases e' <;> simp [ExR] at he
            exact this
          | pan v =>
            have := hK _ F1 h1 g1 a1 w1 e' hk hh1 hf1 (hs'.trans hs1) ((hp'.trans hp1).sub hbm) he
            cases e' <;> simp [ExR] at he
            exact this
      exact wp_loop_rounds n (key n st h g a w hx hh (head_inv hf hf (.refl _ _) (.refl _ _) hst) (.refl _ _) (.refl _ _))
    · cases hx
  | .rangeFunc .., ms, hms, F, h, K, g, a, w, Q, hx, hh, hf, hK => by unfold exec at hx; cases hx
  | .scope .., ms, hms, F, h, K, g, a, w, Q, hx, hh, hf, hK => by unfold exec at hx; cases hx
  | .goto .., ms, hms, F, h, K, g, a, w, Q, hx, hh, hf, hK => by unfold exec at hx; cases hx
  | .refuse .., ms, hms, F, h, K, g, a, w, Q, hx, hh, hf, hK => by unfold exec at hx; cases hx
end
end Go.L
/-! L: calls are right, with any fuel -/
set_option linter.unusedVariables false
set_option linter.unusedSimpArgs false
namespace Go.L
open Go.RowKit

theorem freeL_mem {l : List V} (h : V.free.freeL l = true) : ∀ x ∈ l, x.free = true := by
  induction l with
  | nil => simp
  | cons a l ih =>
    intro x hx
    simp only [V.free.freeL, Bool.and_eq_true] at h
    rcases List.mem_cons.1 hx with rfl | hx
    · exact h.1
    · exact ih h.2 x hx
theorem freeLL_mem {l : List (List V)} (h : V.free.freeLL l = true) : ∀ x ∈ l, V.free.freeL x = true := by
  induction l with
  | nil => simp
  | cons a l ih =>
    intro x hx
    simp only [V.free.freeLL, Bool.and_eq_true] at h
    rcases List.mem_cons.1 hx with rfl | hx
    · exact h.1
    · exact ih h.2 x hx
theorem VR.free {im : Im} {io io' : Io} {x : V} {y : Value} (h : VR im io x y) : x.free = true → VR im io' x y := by
  induction h with
  | int => exact fun _ => .int _ _
  | bool => exact fun _ => .bool _
  | str => exact fun _ => .str _
  | val _ h => exact fun _ => .val _ h
  | agg l c hl ho _ ih =>
    intro hs
    exact .agg l c hl ho fun i x y h1 h2 => ih i x y h1 h2 (freeL_mem (by simpa [V.free] using hs) x (List.mem_of_getElem? h1))
  | sl sz l x A cap ad ys hA hx hc hm hs hi _ ih =>
    intro hf
    exact .sl sz l x A cap ad ys hA hx hc hm hs hi fun k es j x h1 h2 => ih k es j x h1 h2 (freeL_mem (freeLL_mem (by simpa [V.free] using hf) es (List.mem_of_getElem? h1)) x (List.mem_of_getElem? h2))
  | ptr => exact fun h => by simp [V.free] at h
  | iptr => exact fun h => by simp [V.free] at h
  | map => exact fun h => by simp [V.free] at h
  | fn f l c hl _ ih =>
    intro hs
    exact .fn f l c hl fun i x y h1 h2 => ih i x y h1 h2 (freeL_mem (by simpa [V.free] using hs) x (List.mem_of_getElem? h1))
  | iface t x y _ ih => intro hs; exact .iface t x y (ih (by simpa [V.free] using hs))
theorem VL.free {im : Im} {io io' : Io} {l : List V} {c : List Value} (h : VL im io l c) (hs : V.free.freeL l = true) : VL im io' l c :=
  ⟨h.1, fun i x y h1 h2 => (h.2 i x y h1 h2).free (freeL_mem hs x (List.mem_of_getElem? h1))⟩

section
variable {P : Program} {gc keep : FuncId → Bool} {rec : Rec}

def resv (T : Array Value) : ResultVar → Sem Value
  | .tmp t => Pure.pure (T.getD t undef)
  | .cell x t => do loadVar t (← asAddr (T.getD x undef))
/-- results -/
theorem resx_sound {a : Act} {w : World} : ∀ {rs : List ResultVar} {F F' : List S} {h h' : Heap} {vs : List V} {g : G}, Hinv g h w → Finv g F a.tmps w → resx P F h rs = some (vs, F', h') →
    ∃ g' us, Hinv g' h' w ∧ Finv g' F' a.tmps w ∧ Step g w g' w ∧ VL g'.im g'.io vs us ∧ (rs.mapM (m := Sem) (resv a.tmps)).run P w = .ok us w
  | [], F, F', h, h', vs, g, hh, hf, he => by cases he; exact ⟨g, [], hh, hf, .refl _ _, .nil, rfl⟩
  | .tmp t :: rs, F, F', h, h', vs, g, hh, hf, he => by
    unfold resx at he
    split at he
    · rename_i v F1 h1 h2
      split at he
      · rename_i vs2 F2 h3 h4
        cases he
        obtain ⟨g1, a1, a2, a3, a4⟩ := evE_sound hh hf h2
        obtain ⟨g2, us, b1, b2, b3, b4, b5⟩ := resx_sound a1 a2 h4
        refine ⟨g2, a.tmps.getD t undef :: us, b1, b2, a3.trans b3, .cons (a4.mono b3.im b3.io) b4, ?_⟩
        rw [List.mapM_cons]
        simp only [resv, Sem.run_bind, Sem.run_pure, Result.andThen_ok, b5]
      · cases he
    · cases he
  | .cell x t :: rs, F, F', h, h', vs, g, hh, hf, he => by
    unfold resx at he
    split at he
    · rename_i v hcv
      split at he
      · rename_i vs2 F2 h3 h4
        cases he
        unfold cellV at hcv
        split at hcv
        · rename_i cs m c n hp hn
          split at hcv
          · rename_i hc
            obtain ⟨q, u, hq, hrun, hvr⟩ := load_sound (P := P) hp hn hc hcv hh hf
            obtain ⟨g2, us, b1, b2, b3, b4, b5⟩ := resx_sound hh hf h4
            refine ⟨g2, u :: us, b1, b2, b3, .cons (hvr.mono b3.im b3.io) b4, ?_⟩
            have hq' : a.tmps.getD x undef = .pointer (some q) := hq
            rw [List.mapM_cons]
            simp only [resv, hq', asAddr, Sem.run_bind, Sem.run_pure, Result.andThen_ok, hrun, b5]
          · cases hcv
        · cases hcv
      · cases he
    · cases he

theorem results_run {fn : Func} {a : Act} {w : World} {us : List Value} (h : (fn.results.toList.mapM (m := Sem) (resv a.tmps)).run P w = .ok us w) (hl : us.length = fn.results.size) :
    ∃ v, (results fn a.tmps).run P w = .ok v w ∧ (fn.results.size = 1 → us = [v]) ∧ (fn.results.size ≠ 1 → v = .tuple us.toArray) := by
  have e : results fn a.tmps = (do let vs ← fn.results.mapM (m := Sem) (resv a.tmps); Pure.pure (if h : vs.size = 1 then vs[0] else .tuple vs)) := by
    unfold results
    congr 1
  rw [e, Array.mapM_eq_mapM_toList]
  simp only [Sem.run_bind, Sem.run_map, h, Result.andThen_ok]
  by_cases hs : us.length = 1
  · obtain ⟨v, rfl⟩ := List.length_eq_one_iff.1 hs
    exact ⟨v, by simp, fun _ => rfl, fun h => absurd (by rw [← hl]; rfl) h⟩
  · exact ⟨.tuple us.toArray, by simp [hs], fun h => absurd (by rw [hl]; exact h) hs, fun _ => rfl⟩

/-- a body, run -/
theorem body_sound (hrec : RecOk P gc rec) (hloc : RecLoc gc rec) (n : Nat) (hdr : P.follows .mixedOrders = true) {f : FuncId} {fn : Func} {c : Code} (hfn : P.funcs[f]? = some fn) (hb : fn.body = some c) {args : List V} {h h' : Heap} {r : Res} (hlen : ¬ fn.ntmps < args.length)
    (hx : exec P rec keep gc (loopx n) (textDraws P) c (args.map S.v ++ List.replicate (fn.ntmps - args.length) .un) h (fun e F h => match e with
          | .nrm | .ret => (match resx P F h fn.results.toList with | some (vs, _, h) => some (Res.ret vs, h) | none => none)
          | .pan v => some (Res.pan v, h)
          | _ => none) = some (r, h')) {g : G} {vals : List Value} {w : World} (hh : Hinv g h w) (hv : VL g.im g.io args vals) : Calls P f vals.toArray w (HeapPost P f g w r h') := by
  refine calls_of_wp hfn hb ?_
  have hvl : vals.length = args.length := hv.1.symm
  have hf : Finv g (args.map S.v ++ List.replicate (fn.ntmps - args.length) .un) (vals.toArray ++ Array.replicate (fn.ntmps - vals.toArray.size) undef) w := by
    refine ⟨by simp [hvl], fun s d sz i c' hs => ?_, fun s x hs => ?_⟩
    · rw [List.getElem?_append] at hs
      split at hs
      · rw [List.getElem?_map] at hs
        cases ha : args[s]? <;> rw [ha] at hs <;> simp at hs
      · rw [List.getElem?_replicate] at hs
        split at hs <;> simp at hs
    · rw [List.getElem?_append] at hs
      split at hs
      · rename_i hlt
        rw [List.length_map] at hlt
        rw [List.getElem?_map, List.getElem?_eq_getElem hlt] at hs
        cases hs
        obtain ⟨y, hy, hvr⟩ := hv.get (List.getElem?_eq_getElem hlt)
        have : (vals.toArray ++ Array.replicate (fn.ntmps - vals.toArray.size) undef).getD s undef = y := by
          rw [Array.getD_eq_getD_getElem?, Array.getElem?_append_left (by simpa [hvl] using hlt)]
          simp [hy]
        rw [this]
        exact hvr
      · rw [List.getElem?_replicate] at hs
        split at hs
        · cases hs; trivial
        · cases hs
  refine exec_sound (keep := keep) hrec hloc n hdr c (mods c) (fun s hs => hs) _ h _ g { tmps := _, defers := [] } w _ hx hh hf ?_
  intro e F1 h1 g1 a1 w1 e' hk hh1 hf1 hs1 hp1 he
  -- the end by a return
  have hret : (match resx P F1 h1 fn.results.toList with | some (vs, _, h) => some (Res.ret vs, h) | none => none) = some (r, h') → a1.defers = [] ∧ ∃ v, (results fn a1.tmps).run P w1 = .ok v w1 ∧ HeapPost P f g w r h' (.returned v) w1 := fun hk => by
    split at hk
    · rename_i vs F2 h2 hres
      cases hk
      obtain ⟨g2, us, b1, b2, b3, b4, b5⟩ := resx_sound (P := P) hh1 hf1 hres
      have hul : us.length = fn.results.size := by
        have hrl : ∀ (rs : List ResultVar) (F : List S) (h : Heap) (vs : List V) (F' : List S) (h' : Heap), resx P F h rs = some (vs, F', h') → vs.length = rs.length := by
          intro rs
          induction rs with
          | nil => intro F h vs F' h' he; cases he; rfl
          | cons x rs ih =>
            intro F h vs F' h' he
            cases x with
            | tmp t =>
              unfold resx at he
              split at he
              · split at he
                · cases he; simp [ih _ _ _ _ _ (by assumption)]
                · cases he
              · cases he
            | cell x t =>
              unfold resx at he
              split at he
              · split at he
                · cases he; simp [ih _ _ _ _ _ (by assumption)]
                · cases he
              · cases he
        rw [← b4.1, hrl _ _ _ _ _ _ hres]; simp
      obtain ⟨v, r1, r2, r3⟩ := results_run (P := P) (fn := fn) (a := a1) b5 hul
      refine ⟨by rw [hp1.1], v, r1, g2.hpOnly, ?_, b1.hpOnly, hpOnly_noslot g2, fn, hfn, fun hsz => ?_, fun hsz => ?_⟩
      · have hs2 := hs1.trans b3
        exact ⟨hs2.im, hs2.io, hs2.imn, fun β hβ h0 => hpOnly_none (.inl (hs2.ow β hβ h0)), hs2.os, hs2.tape, hs2.output, hs2.size, hs2.block⟩
      · have hu1 := r2 hsz
        subst hu1
        have hl1 := b4.1
        match vs, hl1, b4 with
        | [x], _, b4 => exact ⟨x, rfl, b4.2 0 x v rfl rfl⟩
      · exact ⟨us.toArray, r3 hsz, show VL g2.im g2.io vs us.toArray.toList by simpa using b4⟩
    · cases hk
  cases e with
  | nrm =>
    cases e' <;> simp [ExR] at he
    exact hret hk
  | ret =>
    cases e' <;> simp [ExR] at he
    exact hret hk
  | ex i => cases hk
  | pan x =>
    cases e' with
    | panic ch =>
      obtain ⟨v, rfl, hvr⟩ := he
      cases hk
      refine ⟨by rw [hp1.1], g1.hpOnly, ?_, hh1.hpOnly, hpOnly_noslot g1, v, rfl, hvr⟩
      exact ⟨hs1.im, hs1.io, hs1.imn, fun β hβ h0 => hpOnly_none (.inl (hs1.ow β hβ h0)), hs1.os, hs1.tape, hs1.output, hs1.size, hs1.block⟩
    | _ => simp [ExR] at he

/-- the body of a function that writes to the slice that it is handed first, run -/
theorem mutbody_sound (hrec : RecOk P gc rec) (hloc : RecLoc gc rec) (n : Nat) (hdr : P.follows .mixedOrders = true) {f : FuncId} {fn : Func} {c : Code} (hfn : P.funcs[f]? = some fn) (hb : fn.body = some c) {e sz : Nat} {l l' : List (List V)} {b' : Bool} {args vs : List V} {h h' : Heap} (hlen : ¬ fn.ntmps < args.length + 1) (h0 : (mods c).contains 0 = false)
    (hx : exec P rec keep gc (loopx n) (textDraws P) c (.own e sz l :: (args.map S.v ++ List.replicate (fn.ntmps - (args.length + 1)) .un)) h (fun (x : Ex) (F : List S) (h : Heap) => match x with
            | .nrm | .ret => (match resx P F h fn.results.toList with
              | some (vs, F2, h) => (match F2[0]? with | some (S.own e' s' l') => if e' = e ∧ s' = sz then some (Res.ret (V.sl sz l' false :: vs), h) else none | _ => none)
              | none => none)
            | _ => none) = some (Res.ret (V.sl sz l' b' :: vs), h')) {g : G} {v0 : Value} {vals : List Value} {w : World} (hh : Hinv g h w) (hsr : SR g w #[] 0 (.own e sz l) v0) (hv : VL g.im g.io args vals) : Calls P f (v0 :: vals).toArray w (MutPost P f e sz g w l' vs v0 h') := by
  refine calls_of_wp hfn hb ?_
  have hvl : vals.length = args.length := hv.1.symm
  have hf : Finv g (.own e sz l :: (args.map S.v ++ List.replicate (fn.ntmps - (args.length + 1)) .un)) ((v0 :: vals).toArray ++ Array.replicate (fn.ntmps - (v0 :: vals).toArray.size) undef) w := by
    refine ⟨by simp [hvl]; omega, fun s d sz i c' hs => ?_, fun s x hs => ?_⟩
    · cases s with
      | zero => simp at hs
      | succ s =>
        rw [List.getElem?_cons_succ, List.getElem?_append] at hs
        split at hs
        · rw [List.getElem?_map] at hs
          cases ha : args[s]? <;> rw [ha] at hs <;> simp at hs
        · rw [List.getElem?_replicate] at hs
          split at hs <;> simp at hs
    · cases s with
      | zero =>
        simp at hs
        subst hs
        have : ((v0 :: vals).toArray ++ Array.replicate (fn.ntmps - (v0 :: vals).toArray.size) undef).getD 0 undef = v0 := by
          rw [Array.getD_eq_getD_getElem?, Array.getElem?_append_left (by simp)]
          simp
        rw [this]
        exact hsr
      | succ s =>
        rw [List.getElem?_cons_succ, List.getElem?_append] at hs
        split at hs
        · rename_i hlt
          rw [List.length_map] at hlt
          rw [List.getElem?_map, List.getElem?_eq_getElem hlt] at hs
          cases hs
          obtain ⟨y, hy, hvr⟩ := hv.get (List.getElem?_eq_getElem hlt)
          have : ((v0 :: vals).toArray ++ Array.replicate (fn.ntmps - (v0 :: vals).toArray.size) undef).getD (s + 1) undef = y := by
            rw [Array.getD_eq_getD_getElem?, Array.getElem?_append_left (by simp [hvl]; exact hlt)]
            simp [hy]
          rw [this]
          exact hvr
        · rw [List.getElem?_replicate] at hs
          split at hs
          · cases hs; trivial
          · cases hs
  refine exec_sound (keep := keep) hrec hloc n hdr c (mods c) (fun s hs => hs) _ h _ g { tmps := _, defers := [] } w _ hx hh hf ?_
  intro ex F1 h1 g1 a1 w1 e' hk hh1 hf1 hs1 hp1 he
  have hret : (match resx P F1 h1 fn.results.toList with
              | some (vs, F2, h) => (match F2[0]? with | some (S.own e' s' l') => if e' = e ∧ s' = sz then some (Res.ret (V.sl sz l' false :: vs), h) else none | _ => none)
              | none => none) = some (Res.ret (V.sl sz l' b' :: vs), h') → a1.defers = [] ∧ ∃ v, (results fn a1.tmps).run P w1 = .ok v w1 ∧ MutPost P f e sz g w l' vs v0 h' (.returned v) w1 := fun hk2 => by
    split at hk2
    · rename_i vs2 F2 h2 hres
      split at hk2
      · rename_i e2 s2 l2 hF2
        split at hk2
        · rename_i hc2
          obtain ⟨rfl, rfl⟩ := hc2
          cases hk2
          obtain ⟨g2, us, b1, b2, b3, b4, b5⟩ := resx_sound (P := P) hh1 hf1 hres
          have hul : us.length = fn.results.size := by
            have hrl : ∀ (rs : List ResultVar) (F : List S) (h : Heap) (vs : List V) (F' : List S) (h' : Heap), resx P F h rs = some (vs, F', h') → vs.length = rs.length := by
              intro rs
              induction rs with
              | nil => intro F h vs F' h' he; cases he; rfl
              | cons x rs ih =>
                intro F h vs F' h' he
                cases x with
                | tmp t =>
                  unfold resx at he
                  split at he
                  · split at he
                    · cases he; simp [ih _ _ _ _ _ (by assumption)]
                    · cases he
                  · cases he
                | cell x t =>
                  unfold resx at he
                  split at he
                  · split at he
                    · cases he; simp [ih _ _ _ _ _ (by assumption)]
                    · cases he
                  · cases he
            rw [← b4.1, hrl _ _ _ _ _ _ hres]; simp
          obtain ⟨v, r1, r2, r3⟩ := results_run (P := P) (fn := fn) (a := a1) b5 hul
          have hsr2 := b2.fr 0 _ hF2
          have hv0 : a1.tmps.getD 0 undef = v0 := by
            rw [hp1.2.2 0 (by simpa using h0)]
            show ((v0 :: vals).toArray ++ Array.replicate (fn.ntmps - (v0 :: vals).toArray.size) undef).getD 0 undef = v0
            rw [Array.getD_eq_getD_getElem?, Array.getElem?_append_left (by simp)]
            simp
          rw [hv0] at hsr2
          refine ⟨by rw [hp1.1], v, r1, g2, hs1.trans b3, b1, hsr2, fn, hfn, fun hsz => ?_, fun hsz => ?_⟩
          · have hu1 := r2 hsz
            subst hu1
            have hl1 := b4.1
            match vs, hl1, b4 with
            | [x], _, b4 => exact ⟨x, rfl, b4.2 0 x v rfl rfl⟩
          · exact ⟨us.toArray, r3 hsz, show VL g2.im g2.io vs us.toArray.toList by simpa using b4⟩
        · cases hk2
      · cases hk2
    · cases hk2
  cases ex with
  | nrm =>
    cases e' <;> simp [ExR] at he
    exact hret hk
  | ret =>
    cases e' <;> simp [ExR] at he
    exact hret hk
  | ex i => cases hk
  | pan x => cases hk

/-- the heap's view of a call that sees values alone -/
theorem heap_of_pure {f : FuncId} {args : List V} {h : Heap} {r : Res} (hp : ∀ im io vals w, ImOk im w → VL im io args vals → Calls P f vals.toArray w (PurePost P f im io w r)) {g : G} {vals : List Value} {w : World} (hh : Hinv g h w) (hns : ∀ β s, g.ow β ≠ some (.slot s)) (hv : VL g.im g.io args vals) :
    Calls P f vals.toArray w (HeapPost P f g w r h) := by
  refine (hp g.im g.io vals w (fun p v h => (hh.im p v h).1) hv).mono ?_
  rintro e w' ⟨hb, im', m1, m2, m3, hr⟩
  refine ⟨{ im := im', io := g.io, ow := g.ow }, ⟨m1, fun _ _ h => h, fun p v hp => (m3 p v hp).imp id .inl, fun _ _ h => h, hb.os, hb.tape, hb.output, hb.size, fun β hβ _ => hb.block β hβ⟩, ⟨fun b x hx => ?_, hh.io, fun p v hp => ⟨m2 p v hp, ?_⟩, fun β hβ => Nat.lt_of_lt_of_le (hh.ow β hβ) hb.size⟩, hns, hr⟩
  · obtain ⟨β, h1, h2, h3⟩ := hh.hp b x hx
    exact ⟨β, h1, h2, h3.keep m1 (fun _ _ h => h) (hb.block β (hh.ow β (by rw [h2]; simp)))⟩
  · rcases m3 p v hp with h1 | h1
    · exact (hh.im p v h1).2
    · cases ho : g.ow p.block with
      | none => rfl
      | some o => have := hh.ow p.block (by rw [ho]; simp); omega

def resFree : Res → Bool
  | .ret vs => V.free.freeL vs
  | .pan v => v.free
theorem RR.free {f : FuncId} {im : Im} {io io' : Io} {r : Res} {e : Ending} (h : RR P f im io r e) (hf : resFree r = true) : RR P f im io' r e := by
  cases r with
  | ret vs =>
    cases e with
    | returned v =>
      obtain ⟨fn, h1, h2, h3⟩ := h
      refine ⟨fn, h1, fun hs => ?_, fun hs => ?_⟩
      · obtain ⟨x, rfl, hvr⟩ := h2 hs
        exact ⟨x, rfl, hvr.free (freeL_mem hf x (by simp))⟩
      · obtain ⟨c, h4, h5⟩ := h3 hs
        exact ⟨c, h4, h5.free hf⟩
    | _ => exact h.elim
  | pan x =>
    cases e with
    | panicked ch =>
      obtain ⟨v, h1, h2⟩ := h
      exact ⟨v, h1, h2.free hf⟩
    | _ => exact h.elim


/-- functions that are taken by what they answer: they do -/
def ExtOk (P : Program) (ext : Ext) : Prop := ∀ f e args vs, ext f = some e → e args = some vs → (∃ fn, P.funcs[f]? = some fn ∧ fn.body.isNone = false ∧ (fn.name == "runtime.NumGoroutine") = false) ∧
  ∀ im io vals w, ImOk im w → VL im io args vals → Calls P f vals.toArray w (PurePost P f im io w (.ret vs))

/-- what a pure call answers does not hang on the heap -/
theorem callF_loc {ext : Ext} : ∀ n, RecLoc gc (callF P keep gc (textDraws P) ext n)
  | 0 => fun f args r h' hg hx => by cases hx
  | n + 1 => fun f args r h' hg hx h => by
    unfold callF at hx ⊢
    cases hxt : ext f with
    | some e =>
      simp only [hxt] at hx ⊢
      cases hv : e args with
      | some vs => simp only [hv] at hx ⊢; cases hx; rfl
      | none => simp [hv] at hx
    | none =>
      simp only [hxt] at hx ⊢
      cases hfn : P.funcs[f]? with
      | none => simp [hfn] at hx
      | some fn =>
        simp only [hfn] at hx ⊢
        cases hb : fn.body with
        | none => simp [hb] at hx
        | some c =>
          simp only [hb, hg, if_true] at hx ⊢
          split at hx
          · cases hx
          · rename_i hc
            rw [if_neg hc]
            cases hmu : mutF P f with
            | some es =>
              simp only [hmu] at hx
              split at hx
              · split at hx
                · rename_i hcc; exact absurd hcc.2 (by simp)
                · cases hx
              · cases hx
            | none =>
            simp only [hmu] at hx ⊢
            split at hx
            · rename_i hfr
              rw [if_pos hfr]
              split at hx
              · rename_i vs h2 hrun
                split at hx
                · rename_i hv; rw [if_pos hv]; cases hx; rfl
                · cases hx
              · rename_i v h2 hrun
                split at hx
                · rename_i hv; rw [if_pos hv]; cases hx; rfl
                · cases hx
              · cases hx
            · cases hx

/-- WHAT L ANSWERS OF A CALL, IS SO -/
theorem callF_sound {ext : Ext} (hnat : NatOk P) (hdr : P.follows .mixedOrders = true) (hext : ExtOk P ext) (hmx : ∀ f, (ext f).isSome = true → mutF P f = none) : ∀ n, RecOk P gc (callF P keep gc (textDraws P) ext n)
  | 0 => ⟨hnat, fun f args h r hx => (by cases hx), fun f args h r h' _ hx => (by cases hx), fun f args h r h' _ _ hx => (by cases hx), fun f e sz l b args h l' b' vs h' _ hx => (by cases hx)⟩
  | n + 1 => by
    have ih := callF_sound hnat hdr hext hmx n
    have ihl := callF_loc (P := P) (gc := gc) (keep := keep) (ext := ext) n
    have key : ∀ f args h r h', mutF P f = none → ext f = none → callF P keep gc (textDraws P) ext (n + 1) f args h = some (r, h') → ∃ fn c, P.funcs[f]? = some fn ∧ fn.body = some c ∧ ¬ fn.ntmps < args.length ∧ fn.name ≠ "runtime.NumGoroutine" ∧
        (if gc f then h' = h ∧ V.free.freeL args = true ∧ resFree r = true ∧ ∃ h2, exec P (callF P keep gc (textDraws P) ext n) keep gc (loopx n) (textDraws P) c (args.map S.v ++ List.replicate (fn.ntmps - args.length) .un) [] (fun e F h => match e with
          | .nrm | .ret => (match resx P F h fn.results.toList with | some (vs, _, h) => some (Res.ret vs, h) | none => none)
          | .pan v => some (Res.pan v, h)
          | _ => none) = some (r, h2)
         else exec P (callF P keep gc (textDraws P) ext n) keep gc (loopx n) (textDraws P) c (args.map S.v ++ List.replicate (fn.ntmps - args.length) .un) h (fun e F h => match e with
          | .nrm | .ret => (match resx P F h fn.results.toList with | some (vs, _, h) => some (Res.ret vs, h) | none => none)
          | .pan v => some (Res.pan v, h)
          | _ => none) = some (r, h')) := by
      intro f args h r h' hmu hxt hx
      unfold callF at hx
      rw [hxt] at hx
      simp only at hx
      split at hx
      · cases hx
      · rename_i fn hfn
        split at hx
        · cases hx
        · rename_i c hc
          split at hx
          · cases hx
          · rename_i hcond
            refine ⟨fn, c, hfn, hc, fun h => hcond (.inl h), fun h => hcond (.inr h), ?_⟩
            simp only [hmu] at hx
            split at hx
            · rename_i hg
              rw [if_pos hg]
              split at hx
              · rename_i hfree
                split at hx
                · rename_i vs h2 hrun
                  split at hx
                  · rename_i hfv
                    cases hx
                    exact ⟨rfl, hfree, hfv, h2, hrun⟩
                  · cases hx
                · rename_i v h2 hrun
                  split at hx
                  · rename_i hfv
                    cases hx
                    exact ⟨rfl, hfree, hfv, h2, hrun⟩
                  · cases hx
                · cases hx
              · cases hx
            · rename_i hg
              rw [if_neg hg]
              exact hx
    have hex : ∀ f e args h r h', ext f = some e → callF P keep gc (textDraws P) ext (n + 1) f args h = some (r, h') → h' = h ∧ (∃ fn, P.funcs[f]? = some fn ∧ fn.body.isNone = false ∧ (fn.name == "runtime.NumGoroutine") = false) ∧ ∀ im io vals w, ImOk im w → VL im io args vals → Calls P f vals.toArray w (PurePost P f im io w r) := by
      intro f e args h r h' hxt hx
      unfold callF at hx
      rw [hxt] at hx
      simp only at hx
      split at hx
      · rename_i vs hv
        cases hx
        exact ⟨rfl, hext f e args vs hxt hv⟩
      · cases hx
    have hpure : ∀ f args h r h', mutF P f = none → gc f = true → callF P keep gc (textDraws P) ext (n + 1) f args h = some (r, h') → h' = h ∧ ∀ im io vals w, ImOk im w → VL im io args vals → Calls P f vals.toArray w (PurePost P f im io w r) := by
      intro f args h r h' hmu hg hx
      cases hxt : ext f with
      | some e => have := hex f e args h r h' hxt hx; exact ⟨this.1, this.2.2⟩
      | none =>
      obtain ⟨fn, c, hfn, hc, hlen, _, hrest⟩ := key f args h r h' hmu hxt hx
      rw [if_pos hg] at hrest
      obtain ⟨rfl, hfree, hfr, h2, hrun⟩ := hrest
      refine ⟨rfl, fun im io vals w him hv => ?_⟩
      have hh : Hinv { im := im, io := fun _ => none, ow := fun _ => none } [] w := ⟨by simp, by simp, fun p v hp => ⟨him p v hp, rfl⟩, by simp⟩
      refine (body_sound (keep := keep) ih ihl n hdr hfn hc hlen hrun (g := { im := im, io := fun _ => none, ow := fun _ => none }) hh (hv.free hfree)).mono ?_
      rintro e w' ⟨g', s1, s2, s3, s4⟩
      refine ⟨⟨s1.os, s1.tape, s1.output, s1.size, fun β hβ => s1.block β hβ rfl⟩, g'.im, s1.im, fun p v hp => (s2.im p v hp).1, fun p v hp => ?_, s4.free hfr⟩
      rcases s1.imn p v hp with h | h | h
      · exact .inl h
      · exact .inr h
      · exact absurd rfl h
    have keyfn : ∀ f args h r, ext f = none → callF P keep gc (textDraws P) ext (n + 1) f args h = some r → ∃ fn c, P.funcs[f]? = some fn ∧ fn.body = some c ∧ ¬ fn.ntmps < args.length ∧ fn.name ≠ "runtime.NumGoroutine" := by
      intro f args h r hxt hx
      unfold callF at hx
      rw [hxt] at hx
      simp only at hx
      split at hx
      · cases hx
      · rename_i fn hfn
        split at hx
        · cases hx
        · rename_i c hc
          split at hx
          · cases hx
          · rename_i hcond
            exact ⟨fn, c, hfn, hc, fun h => hcond (.inl h), fun h => hcond (.inr h)⟩
    refine ⟨hnat, fun f args h r hx => ?_, fun f args h r h' hmu hx g vals w hh hns hv => ?_, hpure, fun f e sz l b args h l' b' vs h' hmu hx g v0 vals w hh _ hsr hv => ?_⟩
    · obtain ⟨r, h'⟩ := r
      cases hxt : ext f with
      | some e => exact (hex f e args h r h' hxt hx).2.1
      | none =>
        obtain ⟨fn, c, hfn, hc, _, hname⟩ := keyfn f args h _ hxt hx
        exact ⟨fn, hfn, by rw [hc]; rfl, by simpa using hname⟩
    · cases hxt : ext f with
      | some e =>
        obtain ⟨rfl, _, hp⟩ := hex f e args h r h' hxt hx
        exact heap_of_pure hp hh hns hv
      | none =>
      by_cases hg : gc f = true
      · obtain ⟨rfl, hp⟩ := hpure f args h r h' hmu hg hx
        exact heap_of_pure hp hh hns hv
      · obtain ⟨fn, c, hfn, hc, hlen, _, hrest⟩ := key f args h r h' hmu hxt hx
        rw [if_neg hg] at hrest
        exact body_sound (keep := keep) ih ihl n hdr hfn hc hlen hrest hh hv
    · cases hxt : ext f with
      | some ex => exact absurd (hmx f (by rw [hxt]; rfl)) (by rw [hmu]; simp)
      | none =>
        obtain ⟨fn, c, hfn, hc, hlen, _⟩ := keyfn f _ h _ hxt hx
        unfold callF at hx
        simp only [hxt, hfn, hc, hmu] at hx
        split at hx
        · cases hx
        · split at hx
          · rename_i hcc
            exact mutbody_sound (keep := keep) ih ihl n hdr hfn hc (by simpa using hlen) hcc.1.2 (by rw [List.length_cons] at hx; exact hx) hh hsr hv
          · cases hx
end
end Go.L
/-! L: words for what a function comes to -/
namespace Go.L
variable {R : Type}
def bd {α : Type} (o : Option α) (k : α → Option R) : Option R := match o with | some a => k a | none => none
/-- the same, where the machine's own match has a last arm for all else (a stuck match of that kind is another term) -/
def bdS {α : Type} (o : Option α) (k : α → Option R) : Option R := match o with | some a => k a | _ => none
def bv (v : V) (k : Bool → Option R) : Option R := match v with | .bool b => k b | _ => none
def nv (v : V) : Option Nat := match v with | .int _ n => if 0 ≤ n then some n.toNat else none | _ => none
def slc (v : V) : Option (Nat × List (List V)) := match v with | .sl sz l _ => some (sz, l) | _ => none
def slk (v : V) (k : Nat → List (List V) → Bool → Option R) : Option R := match v with | .sl sz l x => k sz l x | _ => none
def one1 (vs : List V) (k : V → Option R) : Option R := match vs with | [v] => k v | _ => none
def cl (o : Option (Res × Heap)) (k : List V → Heap → Option R) (z : V → Heap → Option R) : Option R := match o with | some (.ret vs, h) => k vs h | some (.pan v, h) => z v h | none => none
def clS (o : Option (Res × Heap)) (k : List V → Option R) : Option R := match o with | some (.ret vs, _) => k vs | _ => none
def clH (o : Option (Res × Heap)) (k : List V → Heap → Option R) : Option R := match o with | some (.ret vs, h) => k vs h | _ => none
/-- a call of a function that writes to the slice that it is handed -/
def clm (o : Option (Res × Heap)) (sz : Nat) (k : List (List V) → List V → Heap → Option R) : Option R := match o with
  | some (.ret (.sl s2 l' _ :: rs), h2) => if s2 = sz then k l' rs h2 else none
  | _ => none
def mpK (v : V) (k : Nat → Option R) : Option R := match v with | .map b => k b | _ => none
def fnK (v : V) (k : Nat → List V → Option R) : Option R := match v with | .fn f c => k f c | _ => none
def ni (v : V) : Option Nat := match v with | .int .i64 n => if 0 ≤ n then some n.toNat else none | _ => none
def boxAt (o : Option HB) (k : Nat → List V → Option R) : Option R := match o with | some (.box n cs) => k n cs | _ => none
def mapAt (o : Option HB) (k : List (V × V) → Option R) : Option R := match o with | some (.map es) => k es | _ => none
def iptrK (v : V) (k : Nat → List V → Nat → Option R) : Option R := match v with | .iptr n cs o => k n cs o | _ => none
def gcw (args : List V) (o : Option (Res × Heap)) (h0 : Heap) : Option (Res × Heap) :=
  if V.free.freeL args then (match o with
    | some (.ret vs, _) => if V.free.freeL vs then some (.ret vs, h0) else none
    | some (.pan v, _) => if v.free then some (.pan v, h0) else none
    | none => none) else none
@[simp] theorem bd_some {α : Type} (a : α) (k : α → Option R) : bd (some a) k = k a := rfl
@[simp] theorem bd_none {α : Type} (k : α → Option R) : bd none k = none := rfl
@[simp] theorem bdS_some {α : Type} (a : α) (k : α → Option R) : bdS (some a) k = k a := rfl
@[simp] theorem bdS_none {α : Type} (k : α → Option R) : bdS none k = none := rfl
@[simp] theorem mpK_map (b : Nat) (k : Nat → Option R) : mpK (.map b) k = k b := rfl
@[simp] theorem fnK_fn (f : Nat) (c : List V) (k : Nat → List V → Option R) : fnK (.fn f c) k = k f c := rfl
@[simp] theorem ni_nat (n : Nat) : ni (.int .i64 (n : Int)) = some n := by simp [ni]
theorem ni_int {n : Int} (h : 0 ≤ n) : ni (.int .i64 n) = some n.toNat := by simp [ni, h]
@[simp] theorem bv_bool (b : Bool) (k : Bool → Option R) : bv (.bool b) k = k b := rfl
@[simp] theorem slc_sl (sz : Nat) (l : List (List V)) (x : Bool) : slc (.sl sz l x) = some (sz, l) := rfl
@[simp] theorem slk_sl (sz : Nat) (l : List (List V)) (x : Bool) (k : Nat → List (List V) → Bool → Option R) : slk (.sl sz l x) k = k sz l x := rfl
@[simp] theorem one1_one (v : V) (k : V → Option R) : one1 [v] k = k v := rfl
@[simp] theorem cl_ret (vs : List V) (h : Heap) (k : List V → Heap → Option R) (z : V → Heap → Option R) : cl (some (.ret vs, h)) k z = k vs h := rfl
@[simp] theorem clS_ret (vs : List V) (h : Heap) (k : List V → Option R) : clS (some (.ret vs, h)) k = k vs := rfl
@[simp] theorem clH_ret (vs : List V) (h : Heap) (k : List V → Heap → Option R) : clH (some (.ret vs, h)) k = k vs h := rfl
@[simp] theorem clm_ret (sz : Nat) (l : List (List V)) (x : Bool) (rs : List V) (h : Heap) (k : List (List V) → List V → Heap → Option R) : clm (some (.ret (.sl sz l x :: rs), h)) sz k = k l rs h := by simp [clm]
@[simp] theorem cl_pan (v : V) (h : Heap) (k : List V → Heap → Option R) (z : V → Heap → Option R) : cl (some (.pan v, h)) k z = z v h := rfl
@[simp] theorem nv_nat (k : IntKind) (n : Nat) : nv (.int k (n : Int)) = some n := by simp [nv]
theorem nv_int {k : IntKind} {n : Int} (h : 0 ≤ n) : nv (.int k n) = some n.toNat := by simp [nv, h]
theorem loopx_succ (n : Nat) (body : List V → Heap → (List V → Heap → Option R) → Option R) (st : List V) (h : Heap) : loopx (n + 1) body st h = body st h (loopx n body) := rfl
end Go.L
