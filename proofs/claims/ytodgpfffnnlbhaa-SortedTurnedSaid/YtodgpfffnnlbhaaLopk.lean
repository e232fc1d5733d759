import Derived.Test.YtodgpfffnnlbhaaLnat
import Derived.LoopN
/-! L: calls, and all operations -/
set_option linter.unusedVariables false
set_option linter.unusedSimpArgs false
namespace Go.L
open Go.RowKit

def ImOk (im : Im) (w : World) : Prop := ∀ p v, im p = some v → w.cell? p = some v
/-- what a call comes to -/
def RR (P : Program) (f : FuncId) (im : Im) (io : Io) : Res → Ending → Prop
  | .ret vs, .returned v => ∃ fn, P.funcs[f]? = some fn ∧ (fn.results.size = 1 → ∃ x, vs = [x] ∧ VR im io x v) ∧ (fn.results.size ≠ 1 → ∃ c, v = .tuple c ∧ VL im io vs c.toList)
  | .pan x, .panicked chain => ∃ v, chain = [{ v, recovered := false }] ∧ VR im io x v
  | _, _ => False
/-- a call that may see the heap -/
def HeapPost (P : Program) (f : FuncId) (g : G) (w : World) (r : Res) (h' : Heap) (e : Ending) (w' : World) : Prop :=
  ∃ g', Step g w g' w' ∧ Hinv g' h' w' ∧ (∀ β s, g'.ow β ≠ some (.slot s)) ∧ RR P f g'.im g'.io r e
/-- a call that sees values alone -/
def PurePost (P : Program) (f : FuncId) (im : Im) (io : Io) (w : World) (r : Res) (e : Ending) (w' : World) : Prop :=
  Below w.heap.size w w' ∧ ∃ im', (∀ p v, im p = some v → im' p = some v) ∧ ImOk im' w' ∧ (∀ p v, im' p = some v → im p = some v ∨ w.heap.size ≤ p.block) ∧ RR P f im' io r e
/-- a call that writes to the slice that it is handed first -/
def MutPost (P : Program) (f : FuncId) (e sz : Nat) (g : G) (w : World) (l' : List (List V)) (vs : List V) (v0 : Value) (h' : Heap) (en : Ending) (w' : World) : Prop :=
  ∃ g', Step g w g' w' ∧ Hinv g' h' w' ∧ SR g' w' #[] 0 (.own e sz l') v0 ∧ RR P f g'.im g'.io (.ret vs) en
structure RecOk (P : Program) (gc : FuncId → Bool) (rec : Rec) : Prop where
  nat : NatOk P
  fn : ∀ f args h r, rec f args h = some r → ∃ fn, P.funcs[f]? = some fn ∧ fn.body.isNone = false ∧ (fn.name == "runtime.NumGoroutine") = false
  heap : ∀ f args h r h', mutF P f = none → rec f args h = some (r, h') → ∀ g vals w, Hinv g h w → (∀ β s, g.ow β ≠ some (.slot s)) → VL g.im g.io args vals → Calls P f vals.toArray w (HeapPost P f g w r h')
  pure : ∀ f args h r h', mutF P f = none → gc f = true → rec f args h = some (r, h') → h' = h ∧ ∀ im io vals w, ImOk im w → VL im io args vals → Calls P f vals.toArray w (PurePost P f im io w r)
  mutc : ∀ f e sz l b args h l' b' vs h', mutF P f = some (e, sz) → rec f (.sl sz l b :: args) h = some (.ret (.sl sz l' b' :: vs), h') → ∀ g v0 vals w, Hinv g h w → (∀ β s, g.ow β = some (.slot s) → v0.ownBlock = some β) → SR g w #[] 0 (.own e sz l) v0 → VL g.im g.io args vals →
    Calls P f (v0 :: vals).toArray w (MutPost P f e sz g w l' vs v0 h')

theorem VR.simple {im im' : Im} {io io' : Io} {x : V} {y : Value} (h : VR im io x y) : x.simple = true → VR im' io' x y := by
  induction h with
  | int => exact fun _ => .int _ _
  | bool => exact fun _ => .bool _
  | str => exact fun _ => .str _
  | val _ h => exact fun _ => .val _ h
  | agg l c hl ho _ ih =>
    intro hs
    refine .agg l c hl ho fun i x y h1 h2 => ih i x y h1 h2 ?_
    have : ∀ (l : List V), V.simple.simpleL l = true → ∀ x ∈ l, x.simple = true := by
      intro l
      induction l with
      | nil => simp
      | cons a l ih =>
        intro h x hx
        simp only [V.simple.simpleL, Bool.and_eq_true] at h
        rcases List.mem_cons.1 hx with rfl | hx
        · exact h.1
        · exact ih h.2 x hx
    exact this l (by simpa [V.simple] using hs) x (List.mem_of_getElem? h1)
  | sl => exact fun h => by simp [V.simple] at h
  | ptr => exact fun h => by simp [V.simple] at h
  | iptr => exact fun h => by simp [V.simple] at h
  | map => exact fun h => by simp [V.simple] at h
  | row => exact fun h => by simp [V.simple] at h
  | rowN => exact fun h => by simp [V.simple] at h
  | rptr => exact fun h => by simp [V.simple] at h
  | fn => exact fun h => by simp [V.simple] at h
  | iface => exact fun h => by simp [V.simple] at h
  | yld => exact fun h => by simp [V.simple] at h
theorem simpleL_mem {l : List V} (h : V.simple.simpleL l = true) : ∀ x ∈ l, x.simple = true := by
  induction l with
  | nil => simp
  | cons a l ih =>
    intro x hx
    simp only [V.simple.simpleL, Bool.and_eq_true] at h
    rcases List.mem_cons.1 hx with rfl | hx
    · exact h.1
    · exact ih h.2 x hx
theorem VL.simple {im im' : Im} {io io' : Io} {l : List V} {c : List Value} (h : VL im io l c) (hs : V.simple.simpleL l = true) : VL im' io' l c :=
  ⟨h.1, fun i x y h1 h2 => (h.2 i x y h1 h2).simple (simpleL_mem hs x (List.mem_of_getElem? h1))⟩

section
variable {vc : Bool} {P : Program} {o : Oper} {a : Act} {g : G} {w : World} {F : List S} {h : Heap} {gc keep : FuncId → Bool} {rec : Rec}

/-- the callee's view: the caller's own is nobody's business -/
def G.hpOnly (g : G) : G := { g with ow := fun β => match g.ow β with | some (.hp b) => some (.hp b) | _ => none }
theorem hpOnly_hp {g : G} {β b : Nat} : g.hpOnly.ow β = some (.hp b) ↔ g.ow β = some (.hp b) := by
  show (match g.ow β with | some (.hp b) => some (Ow.hp b) | _ => none) = _ ↔ _
  split
  · rename_i h; rw [h]
  · rename_i h
    exact ⟨(fun h' => by cases h'), fun h' => absurd h' (h b)⟩
theorem hpOnly_none {g : G} {β : Nat} (h : g.ow β = none ∨ ∃ s, g.ow β = some (.slot s)) : g.hpOnly.ow β = none := by
  show (match g.ow β with | some (.hp b) => some (Ow.hp b) | _ => none) = _
  rcases h with h | ⟨s, h⟩ <;> rw [h]
theorem hpOnly_noslot (g : G) : ∀ β s, g.hpOnly.ow β ≠ some (.slot s) := fun β s => by
  show (match g.ow β with | some (.hp b) => some (Ow.hp b) | _ => none) ≠ _
  split <;> simp
theorem Hinv.hpOnly (hh : Hinv g h w) : Hinv g.hpOnly h w where
  hp b x hx := (hh.hp b x hx).keep (fun _ _ h => h) (fun _ _ h => h) fun β h2 => ⟨hpOnly_hp.2 h2, rfl⟩
  io := hh.io
  im p v hp := ⟨(hh.im p v hp).1, hpOnly_none (.inl (hh.im p v hp).2)⟩
  ow β hβ := hh.ow β fun h0 => hβ (hpOnly_none (.inl h0))

/-- back from a call -/
theorem call_back {g' : G} {w' : World} {h' : Heap} (hh : Hinv g h w) (hf : Finv g F a.tmps w) (hs : Step g.hpOnly w g' w') (hh' : Hinv g' h' w') (hns : ∀ β s, g'.ow β ≠ some (.slot s)) :
    ∃ g2, g2.im = g'.im ∧ g2.io = g'.io ∧ Hinv g2 h' w' ∧ Finv g2 F a.tmps w' ∧ Step g w g2 w' := by
  let g2 : G := { im := g'.im, io := g'.io, ow := fun β => match g.ow β with | some (.slot s) => some (.slot s) | _ => g'.ow β }
  have hslot : ∀ β s, g.ow β = some (.slot s) → g2.ow β = some (.slot s) := fun β s hβ => by
    show (match g.ow β with | some (.slot s) => some (Ow.slot s) | _ => g'.ow β) = _
    rw [hβ]
  have helse : ∀ β, (∀ s, g.ow β ≠ some (.slot s)) → g2.ow β = g'.ow β := fun β hβ => by
    show (match g.ow β with | some (.slot s) => some (Ow.slot s) | _ => g'.ow β) = _
    split
    · rename_i s h; exact absurd h (hβ s)
    · rfl
  have hsg : ∀ β s, g.ow β = some (.slot s) → g'.ow β = none ∧ w'.heap[β]? = w.heap[β]? := fun β s hβ => by
    have hlt := hh.ow β (by rw [hβ]; simp)
    have h0 : g.hpOnly.ow β = none := hpOnly_none (.inr ⟨s, hβ⟩)
    exact ⟨hs.ow β hlt h0, hs.block β hlt h0⟩
  refine ⟨g2, rfl, rfl, ⟨fun b x hx => ?_, hh'.io, fun p v hp => ?_, fun β hβ => ?_⟩, ?_, ⟨hs.im, hs.io, fun p v hp => ?_, fun β hβ h0 => ?_, hs.os, hs.tape, hs.output, hs.size, fun β hβ h0 => hs.block β hβ (hpOnly_none (.inl h0))⟩⟩
  · refine (hh'.hp b x hx).keep (fun _ _ h => h) (fun _ _ h => h) fun β h2 => ⟨?_, rfl⟩
    rw [helse β fun s hβ => by rw [(hsg β s hβ).1] at h2; cases h2]
    exact h2
  · obtain ⟨h1, h2⟩ := hh'.im p v hp
    refine ⟨h1, ?_⟩
    rw [helse p.block fun s hβ => ?_]
    · exact h2
    · rcases hs.imn p v hp with h3 | h3 | h3
      · have := (hh.im p v h3).2; rw [hβ] at this; cases this
      · have := hh.ow p.block (by rw [hβ]; simp); omega
      · exact h3 (hpOnly_none (.inr ⟨s, hβ⟩))
  · by_cases hsl : ∃ s, g.ow β = some (.slot s)
    · obtain ⟨s, hsl⟩ := hsl
      exact Nat.lt_of_lt_of_le (hh.ow β (by rw [hsl]; simp)) hs.size
    · rw [helse β fun s h => hsl ⟨s, h⟩] at hβ
      exact hh'.ow β hβ
  · exact hf.keep hs.im hs.io fun β s hβ => ⟨hslot β s hβ, (hsg β s hβ).2⟩
  · rcases hs.imn p v hp with h3 | h3 | h3
    · exact .inl h3
    · exact .inr (.inl h3)
    · exact .inr (.inr fun h0 => h3 (hpOnly_none (.inl h0)))
  · rw [helse β fun s h => by rw [h0] at h; cases h]
    exact hs.ow β hβ (hpOnly_none (.inl h0))

theorem below_step {w' : World} (hb : Below w.heap.size w w') : Step g w g w' :=
  ⟨fun _ _ h => h, fun _ _ h => h, fun _ _ h => .inl h, fun _ _ h => h, hb.os, hb.tape, hb.output, hb.size, fun β hβ _ => hb.block β hβ⟩
theorem Hinv.below {w' : World} (hh : Hinv g h w) (hb : Below w.heap.size w w') : Hinv g h w' :=
  hh.keep rfl rfl (fun β h0 hlt => ⟨h0, hb.block β hlt⟩) (fun β b h0 => ⟨h0, hb.block β (hh.ow β (by rw [h0]; simp))⟩) (fun β h0 => Nat.lt_of_lt_of_le (hh.ow β h0) hb.size)
theorem Finv.below {w' : World} (hh : Hinv g h w) (hf : Finv g F a.tmps w) (hb : Below w.heap.size w w') : Finv g F a.tmps w' :=
  hf.keep (fun _ _ h => h) (fun _ _ h => h) fun β s h0 => ⟨h0, hb.block β (hh.ow β (by rw [h0]; simp))⟩

theorem evB_sound (hh : Hinv g h w) (hf : Finv g F a.tmps w) {x : Operand} {v : V} (he : evB F h x = some v) : VR (fun p => w.cell? p) g.io v (a.eval x) := by
  have hm : ∀ p v, g.im p = some v → w.cell? p = some v := fun p v hp => (hh.im p v hp).1
  cases x with
  | tmp t =>
    simp only [evB] at he
    split at he
    · rename_i y hy
      have hrow : (∃ b sz lo hi, y = .row b sz lo hi) ∨ valB h y = some y := by
        cases y <;> first | exact .inl ⟨_, _, _, _, rfl⟩ | exact .inr rfl
      rcases hrow with ⟨b, sz, lo, hi, rfl⟩ | hvb
      · simp only [valB] at he
        cases hr : rowOf h b sz lo hi with
        | none => rw [hr] at he; cases he
        | some l =>
          rw [hr] at he
          cases he
          have hv : VR g.im g.io (.row b sz lo hi) (a.eval (.tmp t)) := by rw [← rt_eval hf t]; exact hf.getD hy
          exact rowVR hh hr hv
      rw [hvb] at he
      cases he
      rw [← rt_eval hf t]
      exact VR.mono hm (fun _ _ h => h) (hf.getD hy)
    · rename_i e sz l hx
      cases he
      obtain ⟨xs, h1, h2, h3, h4⟩ := hf.getD hx
      obtain ⟨A, cap, ad, hv, hc, hmm, hA, hAb, hr⟩ := own_read h1 h2 h3
      rw [← rt_eval hf t, hv]
      exact .sl sz l false A cap ad (fun k j => xs.getD (k * sz + j) undef) hA (by simp) hc hmm h2 (fun k es j x hk hj => (hr k es j x hk hj).1) (fun k es j x hk hj => (hr k es j x hk hj).2.2.mono hm (fun _ _ h => h))
    · cases he
  | const v => exact ofValue_sound he
  | func f => cases he; exact .fn f [] #[] rfl (by simp)
  | global n => cases he
theorem evBs_sound (hh : Hinv g h w) (hf : Finv g F a.tmps w) : ∀ {os : List Operand} {vs : List V}, evBs F h os = some vs → VL (fun p => w.cell? p) g.io vs (os.map a.eval)
  | [], vs, he => by cases he; exact .nil
  | o :: os, vs, he => by
    unfold evBs at he
    split at he
    · rename_i v r h1 h2
      cases he
      exact .cons (evB_sound hh hf h1) (evBs_sound hh hf h2)
    · cases he

theorem call_run {c : Call} {fo : Operand} {f : FuncId} {capv : Array Value} (ho : o.op = .call c) (hc : c.callee = .value fo) (hv : a.eval fo = .func (.func f) #[] capv) {fn : Func} (hfn : P.funcs[f]? = some fn) (hb : fn.body.isNone = false) (hn : (fn.name == "runtime.NumGoroutine") = false) :
    (execOp a.eval o).run P w = .ok (.enter f ((c.args.toList.map a.eval) ++ capv.toList).toArray) w := by
  have harr : c.args.map a.eval ++ capv = ((c.args.toList.map a.eval) ++ capv.toList).toArray := by
    apply Array.ext'; simp
  simp only [execOp, ho, resolve, hc, hv, Deferred.ofValue, Sem.run_bind, Sem.run_pure, Result.andThen_ok, invoke, callFunc, run_program, hfn, hn, hb, Bool.false_eq_true, if_false]
  rw [← harr]
  simp

/-- what a slot holds behind a call -/
theorem resK_sound {f : FuncId} {vs : List V} {g' : G} {w' : World} {v : Value} {d : Option Nat} {F : List S} {h : Heap} {R : Type} {K : List S → Heap → Option R} {r : R} (hr : RR P f g'.im g'.io (.ret vs) (.returned v)) (hs : resK P f d vs F h K = some r) :
    ∃ s, K (put F d s) h = some r ∧ (∀ k T, SR g' w' T k s v) ∧ lin s = false ∧ ∀ d sz i c, s ≠ .fp d sz i c := by
  obtain ⟨fn, hfn, h1, h2⟩ := hr
  unfold resK oneRes at hs
  rw [hfn] at hs
  simp only at hs
  split at hs
  · rename_i hsz
    obtain ⟨x, rfl, hx⟩ := h1 (by simpa using hsz)
    exact ⟨_, hs, fun _ _ => hx, rfl, by simp⟩
  · rename_i hsz
    exact ⟨_, hs, fun _ _ => h2 (by simpa using hsz), rfl, by simp⟩

theorem callx0_sound (hrec : RecOk P gc rec) {c : Call} {fo : Operand} {f : FuncId} {caps : List V} {capv : Array Value} {R : Type} {K : List S → Heap → Option R} {Z : V → List S → Heap → Option R} {r : R} (ho : o.op = .call c) (hc : c.callee = .value fo) (hv : a.eval fo = .func (.func f) #[] capv)
    (hcap : VL g.im g.io caps capv.toList) (hmu : mutF P f = none) (hx : callx0 P rec keep gc vc o f caps c.args.toList F h K Z = some r) (hh : Hinv g h w) (hf : Finv g F a.tmps w) {next : Act → World → Prop} {Q : Exit → Act → World → Prop}
    (hK : ∀ F' h' g' v w', K F' h' = some r → Hinv g' h' w' → Finv g' F' (a.put o.dst v).tmps w' → Step g w g' w' → next (a.put o.dst v) w')
    (hZ : ∀ x F' h' g' v w', Z x F' h' = some r → Hinv g' h' w' → VR g'.im g'.io x v → Finv g' F' a.tmps w' → Step g w g' w' → Q (.panic [{ v, recovered := false }]) a w') : o.wp P a w next Q := by
  unfold callx0 at hx
  split at hx
  · rename_i k e hnf
    split at hx
    · rename_i hce
      have hc0 : caps = [] := by simpa using hce
      subst hc0
      have hcv : capv = #[] := by
        have := hcap.1
        apply Array.ext'
        simpa using this.symm
      subst hcv
      obtain ⟨fn, hfn, hb, hn⟩ := hrec.nat.fn _ _ _ hnf
      unfold Oper.wp
      rw [call_run ho hc hv hfn hb hn, Oper.upon_enter]
      have := nat_sound (o := o) hrec.nat hnf hx hh hf
      rw [show (c.args.toList.map a.eval ++ (#[] : Array Value).toList) = c.args.toList.map a.eval from by simp]
      refine this.mono ?_
      rintro en w' ⟨v', F', g', rfl, h1, h2, h3, h4⟩
      exact hK F' h g' v' w' h1 h2 h3 h4
    · cases hx
  split at hx
  · split at hx
    · rename_i vs F1 h1 hev
      obtain ⟨g1, a1, a2, a3, a4⟩ := evEs_sound hh hf hev
      have hargs : VL g1.im g1.io (vs ++ caps) ((c.args.toList.map a.eval) ++ capv.toList) := a4.append (hcap.mono a3.im a3.io)
      split at hx
      · rename_i vs' h2 hcall
        obtain ⟨fn, hfn, hb, hn⟩ := hrec.fn _ _ _ _ hcall
        unfold Oper.wp
        rw [call_run ho hc hv hfn hb hn, Oper.upon_enter]
        refine (hrec.heap _ _ _ _ _ hmu hcall g1.hpOnly _ w a1.hpOnly (hpOnly_noslot g1) hargs).mono ?_
        rintro e w' ⟨g', s1, s2, s3, s4⟩
        obtain ⟨g2, e1, e2, b1, b2, b3⟩ := call_back a1 a2 s1 s2 s3
        cases e with
        | returned v =>
          rw [← e1, ← e2] at s4
          obtain ⟨s, hx', r1, r2, r3⟩ := resK_sound (w' := w') s4 hx
          exact hK _ _ g2 v w' hx' b1 (b2.put o.dst s v (fun k _ _ => r1 k _) (fun k e sz i c _ he => absurd he (r3 e sz i c))) (a3.trans b3)
        | panicked ch => exact s4.elim
        | outgrown => exact s4.elim
      · rename_i x h2 hcall
        obtain ⟨fn, hfn, hb, hn⟩ := hrec.fn _ _ _ _ hcall
        unfold Oper.wp
        rw [call_run ho hc hv hfn hb hn, Oper.upon_enter]
        refine (hrec.heap _ _ _ _ _ hmu hcall g1.hpOnly _ w a1.hpOnly (hpOnly_noslot g1) hargs).mono ?_
        rintro e w' ⟨g', s1, s2, s3, s4⟩
        obtain ⟨g2, e1, e2, b1, b2, b3⟩ := call_back a1 a2 s1 s2 s3
        cases e with
        | returned v => exact s4.elim
        | panicked ch =>
          obtain ⟨v, rfl, hvr⟩ := s4
          exact hZ x _ _ g2 v w' hx b1 (by rw [e1, e2]; exact hvr) b2 (a3.trans b3)
        | outgrown => exact s4.elim
      · cases hx
    · cases hx
  · split at hx
    · rename_i hgc
      split at hx
      · rename_i vs hev
        have hm : ∀ p v, g.im p = some v → w.cell? p = some v := fun p v hp => (hh.im p v hp).1
        have hargs : VL (fun p => w.cell? p) g.io (vs ++ caps) ((c.args.toList.map a.eval) ++ capv.toList) := (evBs_sound hh hf hev).append (hcap.mono hm (fun _ _ h => h))
        split at hx
        · rename_i vs' h2 hcall
          split at hx
          · rename_i hsim
            obtain ⟨fn, hfn, hb, hn⟩ := hrec.fn _ _ _ _ hcall
            obtain ⟨rfl, hp⟩ := hrec.pure _ _ _ _ _ hmu hgc hcall
            unfold Oper.wp
            rw [call_run ho hc hv hfn hb hn, Oper.upon_enter]
            refine (hp _ _ _ w (fun p v hp => hp) hargs).mono ?_
            rintro e w' ⟨hbel, im', _, _, _, s4⟩
            cases e with
            | returned v =>
              have s5 : RR P f g.im g.io (.ret vs') (.returned v) := by
                obtain ⟨fn, i1, i2, i3⟩ := s4
                refine ⟨fn, i1, fun hsz => ?_, fun hsz => ?_⟩
                · obtain ⟨x, rfl, hvr⟩ := i2 hsz
                  exact ⟨x, rfl, hvr.simple (simpleL_mem hsim x (by simp))⟩
                · obtain ⟨cc, i4, i5⟩ := i3 hsz
                  exact ⟨cc, i4, i5.simple hsim⟩
              obtain ⟨s, hx', r1, r2, r3⟩ := resK_sound (w' := w') s5 hx
              exact hK _ _ g v w' hx' (hh.below hbel) ((hf.below hh hbel).put o.dst s v (fun k _ _ => r1 k _) (fun k e sz i c _ he => absurd he (r3 e sz i c))) (below_step hbel)
            | panicked ch => exact s4.elim
            | outgrown => exact s4.elim
          · cases hx
        · rename_i x h2 hcall
          split at hx
          · rename_i hsim
            obtain ⟨fn, hfn, hb, hn⟩ := hrec.fn _ _ _ _ hcall
            obtain ⟨rfl, hp⟩ := hrec.pure _ _ _ _ _ hmu hgc hcall
            unfold Oper.wp
            rw [call_run ho hc hv hfn hb hn, Oper.upon_enter]
            refine (hp _ _ _ w (fun p v hp => hp) hargs).mono ?_
            rintro e w' ⟨hbel, im', _, _, _, s4⟩
            cases e with
            | returned v => exact s4.elim
            | panicked ch =>
              obtain ⟨v, rfl, hvr⟩ := s4
              exact hZ x _ _ g v w' hx (hh.below hbel) (hvr.simple hsim) (hf.below hh hbel) (below_step hbel)
            | outgrown => exact s4.elim
          · cases hx
        · cases hx
      · cases hx
    · cases hx
/-- .. that is handed a row of the heap -/
theorem callm_row_sound (hrec : RecOk P gc rec) {c : Call} {fo : Operand} {f : FuncId} {caps : List V} {capv : Array Value} {R : Type} {K : List S → Heap → Option R} {r : R} (ho : o.op = .call c) (hc : c.callee = .value fo) (hv : a.eval fo = .func (.func f) #[] capv)
    (hcap : VL g.im g.io caps capv.toList) {e sz s b : Nat} (hmu : mutF P f = some (e, sz)) {rest : List Operand} (hargs : c.args.toList = .tmp s :: rest) {vs : List V} {F1 : List S} {h1 : Heap} (hev : evEs vc F h rest = some (vs, F1, h1)) {l : List (List V)} (hF1 : F1[rt F s]? = some (.v (.row b sz 0 l.length)))
    (hb : h1[b]? = some (.row e sz l true)) {l' : List (List V)} {b' : Bool} {rs : List V} {h2 : Heap} (hcall : rec f (.sl sz l false :: (vs ++ caps)) (h1.set b .dead) = some (.ret (.sl sz l' b' :: rs), h2)) (hll : l'.length = l.length) (hx : resK P f o.dst rs F1 (h2.set b (.row e sz l' true)) K = some r) (hh : Hinv g h w) (hf : Finv g F a.tmps w) {next : Act → World → Prop} {Q : Exit → Act → World → Prop}
    (hK : ∀ F' h' g' v w', K F' h' = some r → Hinv g' h' w' → Finv g' F' (a.put o.dst v).tmps w' → Step g w g' w' → next (a.put o.dst v) w') : o.wp P a w next Q := by
  generalize hd : rt F s = d at hF1
  obtain ⟨g1, a1, a2, a3, a4⟩ := evEs_sound hh hf hev
  have hargv : VL g1.im g1.io (vs ++ caps) ((rest.map a.eval) ++ capv.toList) := a4.append (hcap.mono a3.im a3.io)
  have hv0s : a.eval (.tmp s) = a.tmps.getD d undef := by rw [← rt_eval hf s, hd]; rfl
  have hrow := a2.fr d _ hF1
  obtain ⟨v0, xs, hio, o4, o1, o2, o3, oz⟩ := a1.hp b _ hb
  have hown := own_of_row o1 (oz rfl)
  -- the slice that is handed on is the row's
  have hv0 : a.tmps.getD d undef = v0 := by
    have key : ∀ N v, VR g1.im g1.io (.row b sz 0 N) v → N = l.length → v = v0 := ?_
    · exact key _ _ hrow rfl
    intro N v hrow hN
    cases hrow with
    | row _ _ _ _ β o' cap u q0 q1 q2 q3 q4 =>
      rw [hio] at q0; injection q0 with q0
      obtain ⟨rfl, cur, _⟩ := tok_row o1 q0
      rcases q4 with h | ⟨_, h⟩
      · rw [h, hN]; simp
      · omega
    | rowN _ _ q0 =>
      rw [hio] at q0; injection q0 with q0
      rcases o1.2 with ⟨h, _⟩ | ⟨β, o', cap, cur, h, _⟩
      · exact h.symm
      · rw [h] at q0; simp [tok] at q0
  have hlow : ∀ β, g1.ow β ≠ none → β < w.heap.size := a1.ow
  have hblt := (List.getElem?_eq_some_iff.1 hb).1
  -- the callee's view
  let gm : G := { g1 with ow := fun β => match g1.ow β with | some (.hp b2) => if b2 = b then (if v0.ownBlock = some β then some (.slot 0) else none) else some (.hp b2) | _ => none }
  have gm_def : ∀ β, gm.ow β = (match g1.ow β with | some (.hp b2) => if b2 = b then (if v0.ownBlock = some β then some (Ow.slot 0) else none) else some (.hp b2) | _ => none) := fun _ => rfl
  have gm_hp : ∀ {β b2}, gm.ow β = some (.hp b2) ↔ g1.ow β = some (.hp b2) ∧ b2 ≠ b := fun {β b2} => by
    rw [gm_def]
    split
    · rename_i b3 h
      rw [h]
      split
      · rename_i e; subst e
        constructor
        · intro h; split at h <;> cases h
        · rintro ⟨h, hne⟩; cases h; exact absurd rfl hne
      · rename_i hne
        constructor
        · intro h; cases h; exact ⟨rfl, hne⟩
        · rintro ⟨h, _⟩; cases h; rfl
    · rename_i h
      exact ⟨fun h' => (by cases h'), fun h' => absurd h'.1 (h b2)⟩
  have gm_none : ∀ {β}, g1.ow β = none → gm.ow β = none := fun {β} h => by rw [gm_def, h]
  have gm_slot : ∀ {β s'}, gm.ow β = some (.slot s') → v0.ownBlock = some β := fun {β s'} h => by
    rw [gm_def] at h
    split at h
    · split at h
      · split at h
        · assumption
        · cases h
      · cases h
    · cases h
  have gm_own : ∀ {β}, v0.ownBlock = some β → gm.ow β = some (.slot 0) := fun {β} h => by
    rw [gm_def, o4 β h]
    simp [h]
  have gm_slot1 : ∀ {β s'}, g1.ow β = some (.slot s') → gm.ow β = none := fun {β s'} h => by rw [gm_def, h]
  have gm_old : ∀ {β}, g1.ow β = some (.hp b) → v0.ownBlock ≠ some β → gm.ow β = none := fun {β} h hne => by
    rw [gm_def, h]; simp [hne]
  have hhm : Hinv gm (h1.set b .dead) w := ⟨fun b2 x hx => by
      rw [List.getElem?_set] at hx
      split at hx
      · first
          | (cases hx; trivial)
          | (split at hx
             · cases hx; trivial
             · cases hx)
      · rename_i hne
        exact (a1.hp b2 x hx).keep (fun _ _ h => h) (fun _ _ h => h) fun β k2 => ⟨gm_hp.2 ⟨k2, fun e => hne e.symm⟩, rfl⟩,
    fun b2 β h => by rw [List.length_set]; exact a1.io b2 β h, fun p v hp => ⟨(a1.im p v hp).1, gm_none (a1.im p v hp).2⟩, fun β hβ => a1.ow β fun h0 => hβ (gm_none h0)⟩
  have hsr : SR gm w #[] 0 (.own e sz l) v0 := ⟨xs, hown, o2, o3, fun β hβ => gm_own hβ⟩
  obtain ⟨fn, hfn, hbd, hn⟩ := hrec.fn _ _ _ _ hcall
  unfold Oper.wp
  rw [call_run ho hc hv hfn hbd hn, Oper.upon_enter]
  rw [hargs, List.map_cons, hv0s, hv0, List.cons_append]
  refine (hrec.mutc f e sz l false (vs ++ caps) (h1.set b .dead) l' b' rs h2 hmu hcall gm v0 _ w hhm (fun β s' h => gm_slot h) hsr hargv).mono ?_
  rintro en w' ⟨g', t1, t2, t3, t4⟩
  cases en with
  | panicked ch => exact t4.elim
  | outgrown => exact t4.elim
  | returned v =>
    obtain ⟨ys, q1, q2, q3, q4⟩ := t3
    let g2 : G := { im := g'.im, io := g'.io, ow := fun β => match g1.ow β with | some (.slot s) => some (.slot s) | some (.hp b2) => if b2 = b then some (.hp b) else (match g'.ow β with | some (.hp b) => some (.hp b) | _ => none) | none => (match g'.ow β with | some (.hp b) => some (.hp b) | _ => none) }
    have g2_def : ∀ β, g2.ow β = (match g1.ow β with | some (.slot s) => some (.slot s) | some (.hp b2) => if b2 = b then some (.hp b) else (match g'.ow β with | some (.hp b) => some (.hp b) | _ => none) | none => (match g'.ow β with | some (.hp b) => some (Ow.hp b) | _ => none)) := fun _ => rfl
    have g2_slot : ∀ {β s'}, g1.ow β = some (.slot s') → g2.ow β = some (.slot s') := fun {β s'} h => by rw [g2_def, h]
    have g2_b : ∀ {β}, g1.ow β = some (.hp b) → g2.ow β = some (.hp b) := fun {β} h => by rw [g2_def, h]; simp
    have g2_else : ∀ {β}, (∀ s', g1.ow β ≠ some (.slot s')) → g1.ow β ≠ some (.hp b) → g2.ow β = (match g'.ow β with | some (.hp b) => some (Ow.hp b) | _ => none) := fun {β} h hb => by
      rw [g2_def]
      split
      · rename_i s' h'; exact absurd h' (h s')
      · rename_i b2 h'
        rw [if_neg (by rintro rfl; exact hb h')]
      · rfl
    -- what the callee calls the heap's was so, or is new
    have hnone : ∀ {β}, β < w.heap.size → gm.ow β = none → g'.ow β = none := fun {β} hlt h0 => t1.ow β hlt h0
    have nob : ∀ {β b2}, g'.ow β = some (.hp b2) → (∀ s', g1.ow β ≠ some (.slot s')) ∧ g1.ow β ≠ some (.hp b) := fun {β b2} hb2 => by
      refine ⟨fun s' hs' => ?_, fun hs' => ?_⟩
      · have hlt := hlow β (by rw [hs']; simp)
        rw [hnone hlt (gm_slot1 hs')] at hb2; cases hb2
      · have hlt := hlow β (by rw [hs']; simp)
        by_cases hβ : v0.ownBlock = some β
        · rw [q4 β hβ] at hb2; cases hb2
        · rw [hnone hlt (gm_old hs' hβ)] at hb2; cases hb2
    have hst : Step g1 w g2 w' := ⟨t1.im, t1.io, fun p v hp => ?_, fun β hβ h0 => ?_, t1.os, t1.tape, t1.output, t1.size, fun β hβ h0 => t1.block β hβ (gm_none h0)⟩
    rotate_left
    · rcases t1.imn p v hp with h3 | h3 | h3
      · exact .inl h3
      · exact .inr (.inl h3)
      · exact .inr (.inr fun h0 => h3 (gm_none h0))
    · rw [g2_else (fun s' h => by rw [h0] at h; cases h) (by rw [h0]; simp)]
      rw [t1.ow β hβ (gm_none h0)]
    have hio2 : g'.io b = some (tok v0) := t1.io b _ hio
    have hb2lt : b < h2.length := t2.io b _ hio2
    have hh2 : Hinv g2 (h2.set b (.row e sz l' true)) w' := ⟨fun b2 x hx => ?_, fun b2 β h => by rw [List.length_set]; exact t2.io b2 β h, fun p v hp => ?_, fun β hβ => ?_⟩
    rotate_left
    · rw [List.getElem?_set] at hx
      split at hx
      · rename_i e0; subst e0
        have hx' : some (HB.row e sz l' true) = some x := by
          first
            | exact hx
            | (rw [if_pos hb2lt] at hx; exact hx)
        cases hx'
        exact ⟨v0, ys, hio2, fun β hβ => g2_b (o4 β hβ), rowAt_own q1, q2, q3, fun _ => zOk_own q1⟩
      · refine (t2.hp b2 x hx).keep (fun _ _ h => h) (fun _ _ h => h) fun β k2 => ⟨?_, rfl⟩
        rw [g2_else (nob k2).1 (nob k2).2, k2]
    · obtain ⟨k1, k2⟩ := t2.im p v hp
      refine ⟨k1, ?_⟩
      have key : g1.ow p.block = none ∨ (g1.ow p.block ≠ none ∧ p.block < w.heap.size) := by
        cases h : g1.ow p.block with
        | none => exact .inl rfl
        | some x => exact .inr ⟨by simp, hlow _ (by rw [h]; simp)⟩
      rcases key with h0 | ⟨h0, hlt⟩
      · rw [g2_else (fun s' h => by rw [h0] at h; cases h) (by rw [h0]; simp), k2]
      · rcases t1.imn p v hp with h3 | h3 | h3
        · exact absurd (a1.im p v h3).2 h0
        · omega
        · by_cases hsl : ∃ s', g1.ow p.block = some (.slot s')
          · obtain ⟨s', hs'⟩ := hsl
            exact absurd (gm_slot1 hs') h3
          · by_cases hbb : g1.ow p.block = some (.hp b)
            · by_cases hβ : v0.ownBlock = some p.block
              · rw [q4 _ hβ] at k2; cases k2
              · exact absurd (gm_old hbb hβ) h3
            · rw [g2_else (fun s' h => hsl ⟨s', h⟩) hbb, k2]
    · by_cases hg1 : g1.ow β = none
      · rw [g2_else (fun s' h => by rw [hg1] at h; cases h) (by rw [hg1]; simp)] at hβ
        exact t2.ow β fun h0 => hβ (by rw [h0])
      · exact Nat.lt_of_lt_of_le (hlow β hg1) t1.size
    have hf2 : Finv g2 F1 a.tmps w' := a2.keep t1.im t1.io fun β s' hβ => ⟨g2_slot hβ, t1.block β (hlow β (by rw [hβ]; simp)) (gm_slot1 hβ)⟩
    obtain ⟨sR, hx', r1, r2, r3⟩ := resK_sound (w' := w') (g' := g2) t4 hx
    exact hK _ _ g2 v w' hx' hh2 (hf2.put o.dst sR v (fun k _ _ => r1 k _) (fun k e sz i c _ he => absurd he (r3 e sz i c))) (a3.trans hst)
theorem callx_sound (hrec : RecOk P gc rec) {c : Call} {fo : Operand} {f : FuncId} {caps : List V} {capv : Array Value} {R : Type} {K : List S → Heap → Option R} {Z : V → List S → Heap → Option R} {r : R} (ho : o.op = .call c) (hc : c.callee = .value fo) (hv : a.eval fo = .func (.func f) #[] capv)
    (hcap : VL g.im g.io caps capv.toList) (hx : callx P rec keep gc vc o f caps c.args.toList F h K Z = some r) (hh : Hinv g h w) (hf : Finv g F a.tmps w) {next : Act → World → Prop} {Q : Exit → Act → World → Prop}
    (hK : ∀ F' h' g' v w', K F' h' = some r → Hinv g' h' w' → Finv g' F' (a.put o.dst v).tmps w' → Step g w g' w' → next (a.put o.dst v) w')
    (hZ : ∀ x F' h' g' v w', Z x F' h' = some r → Hinv g' h' w' → VR g'.im g'.io x v → Finv g' F' a.tmps w' → Step g w g' w' → Q (.panic [{ v, recovered := false }]) a w') : o.wp P a w next Q := by
  unfold callx at hx
  split at hx
  case h_2 hmu => exact callx0_sound hrec ho hc hv hcap hmu hx hh hf hK hZ
  case h_1 e sz hmu =>
  unfold callm at hx
  split at hx
  case h_2 => cases hx
  rename_i s rest hargs
  split at hx
  case h_2 => cases hx
  rename_i vs F1 h1 hev
  split at hx
  case h_3 => cases hx
  case h_2 b0 s1 lo hi hF1 =>
    split at hx
    · rename_i e1 s3 l hb0
      split at hx
      · rename_i hcond
        obtain ⟨⟨rfl, rfl, rfl⟩, rfl, rfl⟩ := hcond
        split at hx
        · rename_i s2 l' b' rs h2 hcall
          split at hx
          · rename_i hs2
            obtain ⟨rfl, hll⟩ := hs2
            exact callm_row_sound hrec ho hc hv hcap hmu hargs hev hF1 hb0 hcall hll hx hh hf hK
          · cases hx
        · cases hx
      · cases hx
    · cases hx
  rename_i e1 s1 l hF1
  split at hx
  case isFalse => cases hx
  rename_i hcond
  obtain ⟨⟨rfl, rfl⟩, hdst⟩ := hcond
  split at hx
  case h_2 => cases hx
  rename_i s2 l' b' rs h2 hcall
  split at hx
  case isFalse => cases hx
  rename_i hs2
  subst hs2
  generalize hd : rt F s = d at hF1 hdst hx
  obtain ⟨g1, a1, a2, a3, a4⟩ := evEs_sound hh hf hev
  have hargv : VL g1.im g1.io (vs ++ caps) ((rest.map a.eval) ++ capv.toList) := a4.append (hcap.mono a3.im a3.io)
  obtain ⟨v0, hv0⟩ : ∃ v0, a.tmps.getD d undef = v0 := ⟨_, rfl⟩
  have hv0s : a.eval (.tmp s) = v0 := by rw [← rt_eval hf s, hd]; exact hv0
  have hown := a2.fr d _ hF1
  rw [hv0] at hown
  obtain ⟨xs, o1, o2, o3, o4⟩ := hown
  have hlow : ∀ β, g1.ow β ≠ none → β < w.heap.size := a1.ow
  -- the callee's view
  let gm : G := { g1 with ow := fun β => match g1.ow β with | some (.hp b) => some (.hp b) | some (.slot _) => if v0.ownBlock = some β then some (.slot 0) else none | none => none }
  have gm_hp : ∀ {β b}, gm.ow β = some (.hp b) ↔ g1.ow β = some (.hp b) := fun {β b} => by
    show (match g1.ow β with | some (.hp b) => some (Ow.hp b) | some (.slot _) => if v0.ownBlock = some β then some (.slot 0) else none | none => none) = _ ↔ _
    split
    · rename_i h; rw [h]
    · rename_i h; rw [h]; split <;> simp
    · rename_i h; rw [h]
  have gm_none : ∀ {β}, g1.ow β = none → gm.ow β = none := fun {β} h => by
    show (match g1.ow β with | some (.hp b) => some (Ow.hp b) | some (.slot _) => if v0.ownBlock = some β then some (.slot 0) else none | none => none) = _
    rw [h]
  have gm_other : ∀ {β s'}, g1.ow β = some (.slot s') → v0.ownBlock ≠ some β → gm.ow β = none := fun {β s'} h hne => by
    show (match g1.ow β with | some (.hp b) => some (Ow.hp b) | some (.slot _) => if v0.ownBlock = some β then some (.slot 0) else none | none => none) = _
    rw [h]
    simp [hne]
  have gm_slot : ∀ {β s'}, gm.ow β = some (.slot s') → v0.ownBlock = some β := fun {β s'} h => by
    have h' : (match g1.ow β with | some (.hp b) => some (Ow.hp b) | some (.slot _) => if v0.ownBlock = some β then some (.slot 0) else none | none => none) = some (.slot s') := h
    split at h'
    · cases h'
    · split at h'
      · assumption
      · cases h'
    · cases h'
  have gm_own : ∀ {β}, v0.ownBlock = some β → gm.ow β = some (.slot 0) := fun {β} h => by
    show (match g1.ow β with | some (.hp b) => some (Ow.hp b) | some (.slot _) => if v0.ownBlock = some β then some (.slot 0) else none | none => none) = _
    rw [o4 β h]
    simp [h]
  have hhm : Hinv gm h1 w := ⟨fun b x hx => (a1.hp b x hx).keep (fun _ _ h => h) (fun _ _ h => h) fun β k2 => ⟨gm_hp.2 k2, rfl⟩, a1.io, fun p v hp => ⟨(a1.im p v hp).1, gm_none (a1.im p v hp).2⟩, fun β hβ => a1.ow β fun h0 => hβ (gm_none h0)⟩
  have hsr : SR gm w #[] 0 (.own e1 s2 l) v0 := ⟨xs, o1, o2, o3, fun β hβ => gm_own hβ⟩
  obtain ⟨fn, hfn, hb, hn⟩ := hrec.fn _ _ _ _ hcall
  unfold Oper.wp
  rw [call_run ho hc hv hfn hb hn, Oper.upon_enter]
  rw [hargs, List.map_cons, hv0s, List.cons_append]
  refine (hrec.mutc f e1 s2 l false (vs ++ caps) h1 l' b' rs h2 hmu hcall gm v0 _ w hhm (fun β s' h => gm_slot h) hsr hargv).mono ?_
  rintro en w' ⟨g', t1, t2, t3, t4⟩
  cases en with
  | panicked ch => exact t4.elim
  | outgrown => exact t4.elim
  | returned v =>
    obtain ⟨ys, q1, q2, q3, q4⟩ := t3
    let g2 : G := { im := g'.im, io := g'.io, ow := fun β => match g1.ow β with | some (.slot s) => some (.slot s) | _ => (match g'.ow β with | some (.hp b) => some (.hp b) | _ => none) }
    have g2_slot : ∀ {β s'}, g1.ow β = some (.slot s') → g2.ow β = some (.slot s') := fun {β s'} h => by
      show (match g1.ow β with | some (.slot s) => some (Ow.slot s) | _ => (match g'.ow β with | some (.hp b) => some (.hp b) | _ => none)) = _
      rw [h]
    have g2_else : ∀ {β}, (∀ s', g1.ow β ≠ some (.slot s')) → g2.ow β = (match g'.ow β with | some (.hp b) => some (Ow.hp b) | _ => none) := fun {β} h => by
      show (match g1.ow β with | some (.slot s) => some (Ow.slot s) | _ => (match g'.ow β with | some (.hp b) => some (.hp b) | _ => none)) = _
      split
      · rename_i s' h'; exact absurd h' (h s')
      · rfl
    have noslot : ∀ {β b}, g'.ow β = some (.hp b) → ∀ s', g1.ow β ≠ some (.slot s') := fun {β b} hb s' hs' => by
      by_cases hβ : v0.ownBlock = some β
      · rw [q4 β hβ] at hb; cases hb
      · have hlt := hlow β (by rw [hs']; simp)
        rw [t1.ow β hlt (gm_other hs' hβ)] at hb; cases hb
    have hst : Step g1 w g2 w' := ⟨t1.im, t1.io, fun p v hp => ?_, fun β hβ h0 => ?_, t1.os, t1.tape, t1.output, t1.size, fun β hβ h0 => t1.block β hβ (gm_none h0)⟩
    rotate_left
    · rcases t1.imn p v hp with h3 | h3 | h3
      · exact .inl h3
      · exact .inr (.inl h3)
      · exact .inr (.inr fun h0 => h3 (gm_none h0))
    · rw [g2_else fun s' h => by rw [h0] at h; cases h]
      rw [t1.ow β hβ (gm_none h0)]
    have hh2 : Hinv g2 h2 w' := ⟨fun b x hx => ?_, t2.io, fun p v hp => ?_, fun β hβ => ?_⟩
    rotate_left
    · refine (t2.hp b x hx).keep (fun _ _ h => h) (fun _ _ h => h) fun β k2 => ⟨?_, rfl⟩
      rw [g2_else (noslot k2), k2]
    · obtain ⟨k1, k2⟩ := t2.im p v hp
      refine ⟨k1, ?_⟩
      by_cases hsl : ∃ s', g1.ow p.block = some (.slot s')
      · obtain ⟨s', hs'⟩ := hsl
        rcases t1.imn p v hp with h3 | h3 | h3
        · have := (a1.im p v h3).2; rw [hs'] at this; cases this
        · have := hlow p.block (by rw [hs']; simp); omega
        · by_cases hβ : v0.ownBlock = some p.block
          · rw [q4 _ hβ] at k2; cases k2
          · exact absurd (gm_other hs' hβ) h3
      · rw [g2_else fun s' h => hsl ⟨s', h⟩, k2]
    · by_cases hsl : ∃ s', g1.ow β = some (.slot s')
      · obtain ⟨s', hs'⟩ := hsl
        exact Nat.lt_of_lt_of_le (hlow β (by rw [hs']; simp)) t1.size
      · rw [g2_else fun s' h => hsl ⟨s', h⟩] at hβ
        exact t2.ow β fun h0 => hβ (by rw [h0])
    have hf2 : Finv g2 (F1.set d (.own e1 s2 l')) a.tmps w' := by
      refine ⟨by rw [List.length_set]; exact a2.len, fun s' d' sz i c' hs' => ?_, fun s' x hs' => ?_⟩
      · rw [List.getElem?_set] at hs'
        split at hs'
        · split at hs' <;> simp at hs'
        · obtain ⟨x, hx1, hx2⟩ := a2.fp s' d' sz i c' hs'
          by_cases hdd : d = d'
          · subst hdd
            exact ⟨_, by rw [List.getElem?_set_self (List.getElem?_eq_some_iff.1 hx1).1], rfl⟩
          · exact ⟨x, by rw [List.getElem?_set_ne hdd]; exact hx1, hx2⟩
      · rw [List.getElem?_set] at hs'
        split at hs'
        · rename_i hds
          subst hds
          split at hs'
          · cases hs'
            rw [hv0]
            exact ⟨ys, q1, q2, q3, fun β hβ => g2_slot (o4 β hβ)⟩
          · cases hs'
        · rename_i hds
          refine (a2.fr s' x hs').keep2 t1.im t1.io fun hl β hβ => ⟨g2_slot hβ, ?_⟩
          have hne : v0.ownBlock ≠ some β := fun hc => by
            have := o4 β hc
            rw [hβ] at this
            cases this
            exact hds rfl
          exact t1.block β (hlow β (by rw [hβ]; simp)) (gm_other hβ hne)
    obtain ⟨sR, hx', r1, r2, r3⟩ := resK_sound (w' := w') (g' := g2) t4 hx
    exact hK _ _ g2 v w' hx' hh2 (hf2.put o.dst sR v (fun k _ _ => r1 k _) (fun k e sz i c _ he => absurd he (r3 e sz i c))) (a3.trans hst)

end
end Go.L
/-! L: every operation -/
set_option linter.unusedVariables false
set_option linter.unusedSimpArgs false
namespace Go.L
open Go.RowKit
section
variable {vc : Bool} {P : Program} {o : Oper} {a : Act} {g : G} {w : World} {F : List S} {h : Heap} {gc keep : FuncId → Bool} {rec : Rec}

theorem fin {F' : List S} {h' : Heap} {R : Type} {K : List S → Heap → Option R} {r : R} (hd : Done P o a g w F' h') (hk : K F' h' = some r) {next : Act → World → Prop} {Q : Exit → Act → World → Prop}
    (hK : ∀ F' h' g' v w', K F' h' = some r → Hinv g' h' w' → Finv g' F' (a.put o.dst v).tmps w' → Step g w g' w' → next (a.put o.dst v) w') : o.wp P a w next Q := by
  obtain ⟨v, w', g', hrun, h1, h2, h3⟩ := hd
  unfold Oper.wp
  rcases hrun with hr | ⟨hr, rfl⟩
  · rw [hr]; exact hK _ _ g' v w' hk h1 h2 h3
  · rw [hr]; exact hK _ _ g' undef w' hk h1 h2 h3

set_option maxHeartbeats 1000000 in
theorem opx_sound (hrec : RecOk P gc rec) {R : Type} {K : List S → Heap → Option R} {Z : V → List S → Heap → Option R} {r : R} (hx : opx P rec keep gc vc o F h K Z = some r) (hh : Hinv g h w) (hf : Finv g F a.tmps w) {next : Act → World → Prop} {Q : Exit → Act → World → Prop}
    (hK : ∀ F' h' g' v w', K F' h' = some r → Hinv g' h' w' → Finv g' F' (a.put o.dst v).tmps w' → Step g w g' w' → next (a.put o.dst v) w')
    (hZ : ∀ x F' h' g' v w', Z x F' h' = some r → Hinv g' h' w' → VR g'.im g'.io x v → Finv g' F' a.tmps w' → Step g w g' w' → Q (.panic [{ v, recovered := false }]) a w') : o.wp P a w next Q := by
  unfold opx at hx
  cases ho : o.op with
  | move x =>
    simp only [ho] at hx
    obtain ⟨F', h', hk, hd⟩ := done_move (P := P) (x := x) (by simp [execOp, ho]) hh hf hx
    exact fin hd hk hK
  | assign x =>
    simp only [ho] at hx
    obtain ⟨F', h', hk, hd⟩ := done_move (P := P) (x := x) (by simp [execOp, ho]) hh hf hx
    exact fin hd hk hK
  | pick c x y =>
    simp only [ho] at hx
    split at hx
    · exact fin (done_pick ho (by assumption) (by assumption) (by assumption) hh hf) hx hK
    · rename_i t p h1 h2 h3
      split at hx
      · rename_i ht; subst ht
        exact fin (done_pick1 ho h1 (by simpa using h2) hh hf) hx hK
      · cases hx
    · rename_i t p h1 h2 h3
      split at hx
      · cases hx
      · rename_i ht
        have ht' : t = false := by simpa using ht
        subst ht'
        exact fin (done_pick1 ho h1 (by simpa using h3) hh hf) hx hK
    · cases hx
  | alloc e =>
    simp only [ho] at hx
    split at hx
    · exact fin (done_alloc ho (by assumption) hh hf) hx hK
    · cases hx
  | box e x =>
    simp only [ho] at hx
    split at hx
    · split at hx
      · exact fin (done_box ho (by assumption) (by assumption) hh hf) hx hK
      · cases hx
    · cases hx
  | build t ps =>
    simp only [ho] at hx
    split at hx
    · rename_i vs F1 h1 he
      split at hx
      · rename_i cs hb
        unfold bldV at hb
        split at hb
        · rename_i z pl hz hp
          exact fin (done_build ho he hz hp hb hh hf) hx hK
        · cases hb
      · cases hx
    · cases hx
  | buildSlice t n ps =>
    simp only [ho] at hx
    split at hx
    · rename_i vs F1 h1 e sz he hez
      split at hx
      · rename_i sz' l hb
        unfold bslV at hb
        split at hb
        · rename_i e2 sz2 z hez2 hz
          rw [hez] at hez2; cases hez2
          split at hb
          · rename_i hc
            split at hb
            · rename_i l2 hl
              cases hb
              exact fin (done_buildSlice ho he hez hz hc hl hh hf) hx hK
            · cases hb
          · cases hb
        · cases hb
      · cases hx
    · cases hx
  | load t x =>
    simp only [ho] at hx
    split at hx
    · rename_i n hn
      obtain ⟨cs, m, c, hp, hx⟩ := placex_spec hx
      split at hx
      · rename_i hc
        split at hx
        · exact fin (done_load ho hp hn hc (by assumption) hh hf) hx hK
        · cases hx
      · cases hx
    · cases hx
  | store t x y =>
    simp only [ho] at hx
    split at hx
    · rename_i v F1 h1 n he hn
      split at hx
      · rename_i hl
        obtain ⟨F2, h2, hw, hx⟩ := writex_spec hx
        exact fin (done_store ho he hn hl hw hh hf) hx hK
      · cases hx
    · cases hx
  | nilCheck x =>
    simp only [ho] at hx
    obtain ⟨F', h', hk, hd⟩ := done_plus (P := P) (k := 0) (x := x) (fun q hq => nilCheck_run ho hq) hh hf hx
    exact fin hd hk hK
  | binOp op t x y t' =>
    simp only [ho] at hx
    split at hx
    · split at hx
      · exact fin (done_binOpN ho (by assumption) (by assumption) (by assumption) hh hf) hx hK
      · cases hx
    · cases hx
  | unOp op t x =>
    simp only [ho] at hx
    split at hx
    · split at hx
      · exact fin (done_unOp ho (by assumption) (by assumption) hh hf) hx hK
      · cases hx
    · cases hx
  | convert s d x =>
    simp only [ho] at hx
    split at hx
    · rename_i hcs
      split at hx
      · rename_i sz l hl
        cases hu : u8s l with
        | none => simp [hu] at hx
        | some ns =>
          simp only [hu, Option.map_some] at hx
          exact fin (done_convertS ho hcs hl hu hh hf) hx hK
      · cases hx
    split at hx
    · split at hx
      · exact fin (done_convert ho (by assumption) (by assumption) hh hf) hx hK
      · cases hx
    · cases hx
  | makeFunc fn first caps =>
    simp only [ho] at hx
    cases fn with
    | func f =>
      simp only at hx
      split at hx
      · split at hx
        · exact fin (done_makeFunc ho (by assumption) (by assumption) hh hf) hx hK
        · cases hx
      · cases hx
    | _ => cases hx
  | makeMap t r' =>
    simp only [ho] at hx
    cases r' with
    | none => exact fin (done_makeMap ho hh hf) hx hK
    | some _ => cases hx
  | makeSlice t l c =>
    simp only [ho] at hx
    split at hx
    · rename_i n m e sz z hn hm he hz
      split at hx
      · rename_i hc
        obtain ⟨rfl, hlt, hzl⟩ := hc
        exact fin (done_makeSlice ho hn hm he hz hlt hzl hh hf) hx hK
      · cases hx
    · cases hx
  | slice t x lo hi mx =>
    simp only [ho] at hx
    split at hx
    · rename_i e sz y F1 h1 he hev
      split at hx
      · rename_i len hlen
        split at hx
        · rename_i p q m hp hq hm
          split at hx
          · rename_i z hz
            cases y with
            | sl sz' l ex =>
              cases hlen
              simp only [sliceP] at hz
              split at hz
              · rename_i hc
                cases hz
                obtain ⟨c1, c2, c3, c4, c5⟩ := hc
                exact fin (done_slice ho he hev c3 hp hq hm c1 c2 c4 c5 hh hf) hx hK
              · cases hz
            | row rr sz' u v =>
              cases hlen
              simp only [sliceP] at hz
              split at hz
              · rename_i hc
                cases hz
                obtain ⟨⟨c1, c2, rfl⟩, rfl⟩ := hc
                cases mx with
                | none => exact fin (done_slice_row ho he hev hp hq c1 c2 hh hf) hx hK
                | some ym =>
                  simp only [optM] at hm
                  cases hn : evN F1 ym <;> rw [hn] at hm <;> cases hm
              · cases hz
            | _ => cases hlen
          · cases hx
        · cases hx
      · cases hx
    · cases hx
  | fieldAddr s x k =>
    simp only [ho] at hx
    split at hx
    · rename_i off n ag hfa
      obtain ⟨F', h', hk, hd⟩ := done_plus (P := P) (k := off) (x := x) (fun q hq => fieldAddr_run ho hfa hq) hh hf hx
      exact fin hd hk hK
    · cases hx
  | field s x k =>
    simp only [ho] at hx
    split at hx
    · split at hx
      · split at hx
        · exact fin (done_field ho (by assumption) (by assumption) (by assumption) (by assumption) hh hf) hx hK
        · cases hx
      · cases hx
    · cases hx
  | indexAddr t x i =>
    simp only [ho] at hx
    split at hx
    · rename_i len sz ha
      split at hx
      · rename_i n hn
        split at hx
        · rename_i hlt
          obtain ⟨F', h', hk, hd⟩ := done_plus (P := P) (k := n * sz) (x := x) (fun q hq => indexArr_run ho ha hf hn hlt hq) hh hf hx
          exact fin hd hk hK
        · cases hx
      · cases hx
    split at hx
    · rename_i n e sz hn he
      cases x with
      | tmp s =>
        obtain ⟨F', h', hk, hd⟩ := done_index ho hn he hh hf hx
        exact fin hd hk hK
      | _ => cases hx
    · cases hx
  | lookup t m k ok =>
    simp only [ho] at hx
    split at hx
    · split at hx
      · split at hx
        · split at hx
          · split at hx
            · have hd := done_lookup (g := g) (w := w) (a := a) ho (by assumption) (by assumption) (by assumption) (by assumption) (by assumption) (by assumption) (by assumption) (by assumption) (by assumption) (by assumption) hh hf
              split at hx
              · rename_i hok
                rw [hok] at hd
                exact fin hd hx hK
              · rename_i hok
                rw [show ok = false from by simpa using hok] at hd
                exact fin hd hx hK
            · cases hx
          · cases hx
        · cases hx
      · cases hx
    · cases hx
  | mapUpdate t m k x =>
    simp only [ho] at hx
    split at hx
    · split at hx
      · split at hx
        · split at hx
          · exact fin (done_mapUpdate (.inl ho) (by assumption) (by assumption) (by assumption) (by assumption) (by assumption) (by assumption) (by assumption) (by assumption) hh hf) hx hK
          · cases hx
        · cases hx
      · cases hx
    · cases hx
  | insert t m k x =>
    simp only [ho] at hx
    split at hx
    · split at hx
      · split at hx
        · split at hx
          · exact fin (done_mapUpdate (.inr ho) (by assumption) (by assumption) (by assumption) (by assumption) (by assumption) (by assumption) (by assumption) (by assumption) hh hf) hx hK
          · cases hx
        · cases hx
      · cases hx
    · cases hx
  | extract x i =>
    simp only [ho] at hx
    cases x with
    | tmp t =>
      simp only at hx
      split at hx
      · split at hx
        · exact fin (done_extract ho (by assumption) (by assumption) hh hf) hx hK
        · cases hx
      · cases hx
    | _ => cases hx
  | call c =>
    simp only [ho] at hx
    cases hc : c.callee with
    | value fo =>
      simp only [hc] at hx
      cases fo with
      | func f => exact callx_sound hrec (capv := #[]) ho hc rfl .nil hx hh hf hK hZ
      | tmp t =>
        simp only at hx
        split at hx
        · rename_i f caps ht
          split at hx
          · rename_i hok
            rw [callv_eq _ _ _ _ _ hok] at hx
            have hv : VR g.im g.io (.fn f caps) (a.eval (.tmp t)) := hf.getD ht
            generalize hev : a.eval (.tmp t) = fv at hv
            cases hv with
            | fn _ _ cv hl hcv => exact callx_sound hrec (capv := cv) ho hc hev ⟨by simpa using hl, fun i x y h1 h2 => hcv i x y h1 (by simpa using h2)⟩ hx hh hf hK hZ
          · cases hx
        · cases hx
      | _ => cases hx
    | invoke rcv m => simp only [hc] at hx; cases hx
    | builtin b =>
      simp only [hc] at hx
      unfold bltx at hx
      split at hx
      · rename_i t x hts has
        split at hx
        · rename_i e hu
          split at hx
          · exact fin (done_len ho hc hts has hu (by assumption) hh hf) hx hK
          · cases hx
        · rename_i hu
          split at hx
          · exact fin (done_len_str ho hc hts has hu (by assumption) hh hf) hx hK
          · cases hx
        · rename_i k e hu
          split at hx
          · split at hx
            · exact fin (done_len_map ho hc hts has hu (by assumption) (by assumption) hh hf) hx hK
            · cases hx
          · cases hx
        · cases hx
      · rename_i t t' s y hts has
        split at hx
        · rename_i e sz sz' news x he hy hs
          split at hx
          · rename_i hcond
            obtain ⟨rfl, hsz⟩ := hcond
            split at hx
            · rename_i yv
              split at hx
              · split at hx
                · rename_i z h' hz
                  cases yv with
                  | row b sz1 lo hi =>
                    simp only [appP] at hz
                    split at hz
                    · rename_i e1 sz2 l zz hb
                      split at hz
                      · rename_i hcd
                        cases hz
                        obtain ⟨⟨rfl, rfl, rfl⟩, ⟨c1, c2⟩, c3⟩ := hcd
                        exact fin (done_append_row ho hc hts has (rt_eval hf _) he hy hsz hs hb c1 c2 c3 hh hf) hx hK
                      · cases hz
                    · cases hz
                  | sl s1 l1 b1 =>
                    simp only [appP] at hz
                    split at hz
                    · cases hz
                      exact fin (done_append_sl ho hc hts has (rt_eval hf _) he hy hsz hs rfl (by assumption) hh hf) hx hK
                    · cases hz
                  | _ => cases hz
                · cases hx
              · split at hx
                · exact fin (done_append ho hc hts has (rt_eval hf _) he hy hsz hs (by assumption) hh hf) hx hK
                · cases hx
            · split at hx
              · exact fin (done_append ho hc hts has (rt_eval hf _) he hy hsz hs (by assumption) hh hf) hx hK
              · cases hx
          · cases hx
        · cases hx
      · rename_i t t' y hts has
        split at hx
        · rename_i e sz sz' news he hy
          split at hx
          · rename_i hcond
            obtain ⟨rfl, hsz⟩ := hcond
            split at hx
            · exact fin (done_append_nil ho hc hts has he hy hsz (by assumption) hh hf) hx hK
            · cases hx
          · cases hx
        · cases hx
      · split at hx
        · split at hx
          · exact fin (done_mm (mx := false) ho hc (by assumption) (by assumption) hh hf) hx hK
          · cases hx
        · cases hx
      · split at hx
        · split at hx
          · exact fin (done_mm (mx := true) ho hc (by assumption) (by assumption) hh hf) hx hK
          · cases hx
        · cases hx
      · cases hx
  | makeInterface t x =>
    simp only [ho] at hx
    split at hx
    · cases hx
    · rename_i hi
      split at hx
      · exact fin (done_makeIface ho (by simpa using hi) (by assumption) (by assumption) hh hf) hx hK
      · cases hx
  | typeAssert x xt t ok =>
    simp only [ho] at hx
    split at hx
    · split at hx
      · exact fin (done_typeAssert ho (by assumption) (by assumption) hh hf) hx hK
      · cases hx
    · cases hx
  | panic x =>
    simp only [ho] at hx
    split at hx
    · rename_i t v F1 h1 he
      obtain ⟨g1, a1, a2, a3, a4⟩ := evE_sound hh hf he
      generalize hev : a.eval x = xv at a4
      cases a4 with
      | iface _ _ y hy =>
        have hrun : (execOp a.eval o).run P w = .halt (.panic (.iface t y)) w := by simp [execOp, ho, hev, Instr.panic]
        unfold Oper.wp
        rw [hrun, Oper.upon_panic]
        exact hZ _ _ _ g1 _ w hx a1 (.iface t v y hy) a2 a3
    · cases hx
  | _ => simp only [ho] at hx; cases hx
end
end Go.L
/-! L: what it answers, is so -/
set_option linter.unusedVariables false
set_option linter.unusedSimpArgs false
namespace Go.L
open Go.RowKit

/-- slots but those are as they were -/
def Pres (ms : List Nat) (a a' : Act) : Prop := a'.defers = a.defers ∧ a'.tmps.size = a.tmps.size ∧ ∀ s, s ∉ ms → a'.tmps.getD s undef = a.tmps.getD s undef
theorem Pres.refl (ms : List Nat) (a : Act) : Pres ms a a := ⟨rfl, rfl, fun _ _ => rfl⟩
theorem Pres.trans {ms : List Nat} {a b c : Act} (h : Pres ms a b) (k : Pres ms b c) : Pres ms a c := ⟨k.1.trans h.1, k.2.1.trans h.2.1, fun s hs => (k.2.2 s hs).trans (h.2.2 s hs)⟩
theorem Pres.sub {ms ms' : List Nat} {a b : Act} (h : Pres ms a b) (hs : ∀ s ∈ ms, s ∈ ms') : Pres ms' a b := ⟨h.1, h.2.1, fun s hn => h.2.2 s fun hm => hn (hs s hm)⟩
theorem Pres.put {ms : List Nat} (a : Act) (d : Option Nat) (v : Value) (hd : ∀ k, d = some k → k ∈ ms) : Pres ms a (a.put d v) := by
  cases d with
  | none => exact .refl _ _
  | some k => exact ⟨rfl, by simp [Act.put], fun s hs => getD_set_ne (by rintro rfl; exact hs (hd _ rfl))⟩

/-- how a code may end -/
def ExR (g : G) : Ex → Exit → Prop
  | .nrm, .normal => True
  | .ex i, .exit j => i = j
  | .ret, .ret => True
  | .pan x, .panic ch => ∃ v, ch = [{ v, recovered := false }] ∧ VR g.im g.io x v
  | _, _ => False

section
variable {vc : Bool} {P : Program} {gc keep : FuncId → Bool} {rec : Rec} {R : Type} {r : R}

theorem bltx_min {o : Oper} {ts : List TypeId} {args : List Operand} {F : List S} {h : Heap} {K : List S → Heap → Option R} : bltx P vc o .min ts args F h K = (match evBs F h args with | some vs => (match mm false vs with | some v => K (put F o.dst (.v v)) h | none => none) | none => none) := by
  unfold bltx; rfl
theorem bltx_max {o : Oper} {ts : List TypeId} {args : List Operand} {F : List S} {h : Heap} {K : List S → Heap → Option R} : bltx P vc o .max ts args F h K = (match evBs F h args with | some vs => (match mm true vs with | some v => K (put F o.dst (.v v)) h | none => none) | none => none) := by
  unfold bltx; rfl
theorem mm_two {mx : Bool} {vs : List V} {v : V} (h : mm mx vs = some v) : ∃ k p q, vs = [.int k p, .int k q] := by
  unfold mm at h
  split at h
  · split at h
    · rename_i hk; subst hk; exact ⟨_, _, _, rfl⟩
    · cases h
  · cases h
theorem opx_ints {o : Oper} {a : Act} {g : G} {w : World} {F : List S} {h : Heap} {K : List S → Heap → Option R} {Z : V → List S → Heap → Option R} (hx : opx P rec keep gc vc o F h K Z = some r) (hf : Finv g F a.tmps w) : ∀ x ∈ TR.asserted P o.op, TR.isInt (a.eval x) = true := by
  have hint : ∀ x k n, evV F x = some (.int k n) → TR.isInt (a.eval x) = true := fun x k n he => by
    have := evV_sound hf he
    generalize a.eval x = v at this
    cases this; rfl
  have hint2 : ∀ (os : List Operand) (vs : List V), evBs F h os = some vs → (∃ k p q, vs = [.int k p, .int k q]) → ∀ x ∈ os, TR.isInt (a.eval x) = true := fun os vs he hv x hx => by
    obtain ⟨k, p, q, rfl⟩ := hv
    obtain ⟨i, hi⟩ := List.mem_iff_getElem?.1 hx
    have hlen : os.length = 2 := by
      have : ∀ {os : List Operand} {vs : List V}, evBs F h os = some vs → os.length = vs.length := by
        intro os
        induction os with
        | nil => intro vs h; cases h; rfl
        | cons o os ih =>
          intro vs h; unfold evBs at h; split at h
          · cases h; simp [ih (by assumption)]
          · cases h
      simpa using this he
    have hlt := (List.getElem?_eq_some_iff.1 hi).1
    have : i = 0 ∨ i = 1 := by omega
    rcases this with rfl | rfl
    · obtain ⟨y, hy, hv⟩ := evBs_ints he hf 0 k p rfl
      rw [hi] at hy; cases hy; rw [hv]; rfl
    · obtain ⟨y, hy, hv⟩ := evBs_ints he hf 1 k q rfl
      rw [hi] at hy; cases hy; rw [hv]; rfl
  intro x hm
  unfold TR.asserted at hm
  split at hm
  · rename_i op t y z t' ho
    split at hm
    · rename_i hi
      obtain ⟨k, hu⟩ := TR.intT_spec hi
      unfold opx at hx
      simp only [ho] at hx
      split at hx
      · rename_i p q hp hq
        split at hx
        · rename_i v hb
          rw [bopN_int hu] at hb
          unfold bop at hb
          rw [hu] at hb
          split at hb <;> rename_i e1 <;> first | (cases e1; done) | skip
          · have hm' := (List.mem_filter.1 hm).1
            rcases List.mem_cons.1 hm' with rfl | hm'
            · exact hint _ _ _ hp
            · rcases List.mem_cons.1 hm' with rfl | hm'
              · exact hint _ _ _ hq
              · cases hm'
          · cases hb
        · cases hx
      · cases hx
    · cases hm
  · rename_i s d y ho
    split at hm
    · rename_i hi
      rw [Bool.and_eq_true] at hi
      obtain ⟨k, hu⟩ := TR.intT_spec hi.1
      obtain ⟨k', hu'⟩ := TR.intT_spec hi.2
      unfold opx at hx
      have hcs : cvtS P s d = false := by unfold cvtS; rw [hu, hu']
      simp only [ho, hcs, Bool.false_eq_true, if_false] at hx
      split at hx
      · rename_i p hp
        split at hx
        · rename_i v hb
          unfold cvt at hb
          rw [hu, hu'] at hb
          split at hb <;> rename_i e1 e2 <;> first | (cases e1; done) | skip
          · have hm' := (List.mem_filter.1 hm).1
            rcases List.mem_cons.1 hm' with rfl | hm'
            · exact hint _ _ _ hp
            · cases hm'
          · cases hb
        · cases hx
      · cases hx
    · cases hm
  · rename_i args ts ho
    unfold opx at hx
    simp only [ho] at hx
    rw [bltx_min] at hx
    split at hx
    · rename_i vs hv
      split at hx
      · rename_i v hmm
        exact hint2 _ vs hv (mm_two hmm) x (List.mem_filter.1 hm).1
      · cases hx
    · cases hx
  · rename_i args ts ho
    unfold opx at hx
    simp only [ho] at hx
    rw [bltx_max] at hx
    split at hx
    · rename_i vs hv
      split at hx
      · rename_i v hmm
        exact hint2 _ vs hv (mm_two hmm) x (List.mem_filter.1 hm).1
      · cases hx
    · cases hx
  · cases hm

/-- a list of operations, with the asserts ahead of each or without -/
def lst (P : Program) (as : Bool) (l : List Oper) : List Oper := if as then TR.withAsserts P l else l

theorem wp_asserts {all : Array Oper} {Q : Exit → Act → World → Prop} {o : Oper} {a : Act} {w : World} {rest : List Oper} : ∀ (xs : List Operand), (∀ x ∈ xs, (TR.isInt (a.eval x) || !Region.wanted o (yielded all a.tmps)) = true) → wpList P all Q rest a w → wpList P all Q (xs.map (TR.assertOp o) ++ rest) a w
  | [], _, h => h
  | x :: xs, hx, h => TR.wpList_assert (hx x (by simp)) (wp_asserts xs (fun y hy => hx y (by simp [hy])) h)

theorem opsx_sound (hrec : RecOk P gc rec) (as : Bool) (all : Array Oper) {Z : V → List S → Heap → Option R} {K : List S → Heap → Option R} {Q : Exit → Act → World → Prop} (ms : List Nat) : ∀ (l : List Oper) (F : List S) (h : Heap) (g : G) (a : Act) (w : World),
    opsx P rec keep gc vc all Z l F h K = some r → Hinv g h w → Finv g F a.tmps w → (∀ o ∈ l, ∀ d, o.dst = some d → d ∈ ms) →
    (∀ F' h' g' a' w', K F' h' = some r → Hinv g' h' w' → Finv g' F' a'.tmps w' → Step g w g' w' → Pres ms a a' → Q .normal a' w') →
    (∀ x F' h' g' a' v w', Z x F' h' = some r → Hinv g' h' w' → VR g'.im g'.io x v → Finv g' F' a'.tmps w' → Step g w g' w' → Pres ms a a' → Q (.panic [{ v, recovered := false }]) a' w') →
    wpList P all Q (lst P as l) a w
  | [], F, h, g, a, w, hx, hh, hf, hms, hK, hZ => by
    have : lst P as [] = [] := by unfold lst; cases as <;> rfl
    rw [this]
    exact hK F h g a w hx hh hf (.refl _ _) (.refl _ _)
  | o :: l, F, h, g, a, w, hx, hh, hf, hms, hK, hZ => by
    -- the rest, behind this one
    have hrest : ∀ F' h' g' v w', opsx P rec keep gc vc all Z l F' h' K = some r → Hinv g' h' w' → Finv g' F' (a.put o.dst v).tmps w' → Step g w g' w' → wpList P all Q (lst P as l) (a.put o.dst v) w' := fun F' h' g' v w' hx' hh' hf' hs' => by
      have hp := Pres.put (ms := ms) a o.dst v (fun k hk => hms o (by simp) k hk)
      exact opsx_sound hrec as all ms l F' h' g' _ w' hx' hh' hf' (fun o' ho' => hms o' (by simp [ho'])) (fun F2 h2 g2 a2 w2 k1 k2 k3 k4 k5 => hK F2 h2 g2 a2 w2 k1 k2 k3 (hs'.trans k4) (hp.trans k5))
        (fun x F2 h2 g2 a2 u w2 k1 k2 k3 k4 k5 k6 => hZ x F2 h2 g2 a2 u w2 k1 k2 k3 k4 (hs'.trans k5) (hp.trans k6))
    have hlst : lst P as (o :: l) = (if as then (TR.asserted P o.op).map (TR.assertOp o) else []) ++ (o :: lst P as l) := by
      unfold lst; cases as <;> simp [TR.withAsserts]
    -- it is done
    have hdo : ∀ F, opx P rec keep gc vc o F h (fun F h => opsx P rec keep gc vc all Z l F h K) Z = some r → Finv g F a.tmps w → Region.wanted o (yielded all a.tmps) = true → wpList P all Q (lst P as (o :: l)) a w := fun F hx hf hw => by
      rw [hlst]
      have hmain : wpList P all Q (o :: lst P as l) a w := by
        unfold wpList
        rw [if_pos hw]
        left
        exact opx_sound hrec hx hh hf hrest (fun x F' h' g' v w' k1 k2 k3 k4 k5 => hZ x F' h' g' a v w' k1 k2 k3 k4 k5 (.refl _ _))
      cases as with
      | false => exact hmain
      | true => exact wp_asserts _ (fun x hxm => by rw [opx_ints hx hf x hxm]; rfl) hmain
    -- it is passed over
    have hskip : ∀ F, opsx P rec keep gc vc all Z l (put F o.dst .sk) h K = some r → Finv g F a.tmps w → Region.wanted o (yielded all a.tmps) = false → wpList P all Q (lst P as (o :: l)) a w := fun F hx hf hw => by
      rw [hlst]
      have hmain : wpList P all Q (o :: lst P as l) a w := by
        unfold wpList
        rw [if_neg (by rw [hw]; simp)]
        exact hrest _ _ g undef w hx hh (hf.put o.dst .sk undef (fun k _ _ => rfl) (fun k e sz i c _ he => by cases he)) (.refl _ _)
      cases as with
      | false => exact hmain
      | true => exact wp_asserts _ (fun x hxm => by rw [hw]; simp) hmain
    unfold opsx at hx
    simp only [force_eq] at hx
    split at hx
    · rename_i hg
      exact hdo F hx hf (by simp [Region.wanted, hg])
    · rename_i j want hg
      split at hx
      · rename_i d hd
        split at hx
        · rename_i b hb
          have hbv : VR g.im g.io (.bool b) (a.eval (.tmp d)) := hf.getD hb
          have hlt : d < a.tmps.size := by rw [← hf.len]; exact (List.getElem?_eq_some_iff.1 hb).1
          have hval : a.tmps[d]? = some (.bool b) := by
            generalize hev : a.eval (.tmp d) = v at hbv
            cases hbv
            rw [Array.getElem?_eq_getElem hlt]
            have : a.tmps.getD d undef = .bool b := hev
            rw [Array.getD_eq_getD_getElem?, Array.getElem?_eq_getElem hlt] at this
            exact congrArg some this
          have hy : yielded all a.tmps j = some b := by
            unfold yielded
            rw [hd]
            simp [hval]
          have hw : Region.wanted o (yielded all a.tmps) = (some b == some want) := by simp [Region.wanted, hg, hy]
          have hset : F.set d (.v (.bool b)) = F := by
            apply List.ext_getElem?
            intro i
            rw [List.getElem?_set]
            split
            · rename_i e; subst e
              rw [hb, if_pos (List.getElem?_eq_some_iff.1 hb).1]
            · rfl
          cases b with
          | true =>
            simp only [if_true] at hx
            rw [hset] at hx
            cases want with
            | true => exact hdo F (by simpa using hx) hf (by rw [hw]; rfl)
            | false => exact hskip F (by simpa using hx) hf (by rw [hw]; rfl)
          | false =>
            simp only [Bool.false_eq_true, if_false] at hx
            rw [hset] at hx
            cases want with
            | true => exact hskip F (by simpa using hx) hf (by rw [hw]; rfl)
            | false => exact hdo F (by simpa using hx) hf (by rw [hw]; rfl)
        · rename_i hb
          have hsk : a.eval (.tmp d) = undef := hf.getD hb
          have hlt : d < a.tmps.size := by rw [← hf.len]; exact (List.getElem?_eq_some_iff.1 hb).1
          have hy : yielded all a.tmps j = none := by
            unfold yielded
            rw [hd]
            have : a.tmps[d]? = some undef := by
              rw [Array.getElem?_eq_getElem hlt]
              have : a.tmps.getD d undef = undef := hsk
              rw [Array.getD_eq_getD_getElem?, Array.getElem?_eq_getElem hlt] at this
              exact congrArg some this
            simp [this, undef]
          exact hskip F hx hf (by simp [Region.wanted, hg, hy])
        · cases hx
      · cases hx
end
end Go.L
