import Derived.Test.YtodgpfffnnlbhaaLopk
import Derived.Test.YtodgpfffnnlbhaaLin
/-! L: calls that are put off, rounds of a loop over a function -/
set_option linter.unusedVariables false
set_option linter.unusedSimpArgs false
namespace Go.L
open Go.RowKit
/-- a round is what it is told to be -/
def RyOk (P : Program) (ry : Ry) : Prop := ∀ b vs h t h', ry b vs h = some (t, h') → ∀ g l vals w, Hinv g h w → (∀ β s, g.ow β ≠ some (.slot s)) → g.io b = some l → VL g.im g.io vs vals →
  ∃ fn tmps as bd, (Instr.yield l vals.toArray).run P w = .ok (.round l fn tmps as bd) w ∧ RoundIn Fence.wide 0 P l fn tmps as bd w (fun e w' => ∃ g', Step g w g' w' ∧ Hinv g' h' w' ∧ (∀ β s, g'.ow β ≠ some (.slot s)) ∧ e = .returned (.bool t))
theorem ryOk_none (P : Program) : RyOk P (fun _ _ _ => none) := fun b vs h t h' hx => by cases hx
/-- what is put off -/
def DfR (g : G) : Df → Deferred → Prop
  | .call f vs, d => ∃ cap as, d = { target := .fn (.func f) cap, args := as } ∧ VL g.im g.io vs (as.toList ++ cap.toList)
  | .mark b, d => ∃ β, d = { target := .collected β, args := #[] } ∧ g.io b = some β
theorem DfR.mono {g g' : G} (him : ∀ p v, g.im p = some v → g'.im p = some v) (hio : ∀ b β, g.io b = some β → g'.io b = some β) {x : Df} {d : Deferred} (h : DfR g x d) : DfR g' x d := by
  cases x with
  | call f vs => obtain ⟨cap, as, e, h⟩ := h; exact ⟨cap, as, e, h.mono him hio⟩
  | mark b => obtain ⟨β, e, h⟩ := h; exact ⟨β, e, hio _ _ h⟩
/-- all that is put off, ahead of what was -/
def DR (g : G) : List Df → List Deferred → List Deferred → Prop
  | [], l, base => l = base
  | x :: D, l, base => ∃ d r, l = d :: r ∧ DfR g x d ∧ DR g D r base
theorem DR.mono {g g' : G} (him : ∀ p v, g.im p = some v → g'.im p = some v) (hio : ∀ b β, g.io b = some β → g'.io b = some β) {base : List Deferred} : ∀ {D : List Df} {l : List Deferred}, DR g D l base → DR g' D l base
  | [], _, h => h
  | x :: D, _, ⟨d, r, e, h1, h2⟩ => ⟨d, r, e, h1.mono him hio, h2.mono him hio⟩
theorem DR.step {g g' : G} {w w' : World} (hs : Step g w g' w') {base l : List Deferred} {D : List Df} (h : DR g D l base) : DR g' D l base := h.mono hs.im hs.io
theorem DR.append {g : G} {base l l' : List Deferred} : ∀ {D D' : List Df}, DR g D' l' l → DR g D l base → DR g (D' ++ D) l' base
  | D, [], h', h => by cases h'; exact h
  | D, x :: D', ⟨d, r, e, h1, h2⟩, h => ⟨d, r, e, h1, DR.append h2 h⟩
theorem put_defers (a : Act) (d : Option Tmp) (v : Value) : (a.put d v).defers = a.defers := by cases d <;> rfl
section
variable {vc : Bool} {P : Program} {gc keep : FuncId → Bool} {rec : Rec} {ry : Ry} {R : Type} {r : R} {o : Oper} {a : Act} {g : G} {w : World} {F : List S} {h : Heap} {ro : Option Nat} {n : Nat}
theorem evF_sound (hf : Finv g F a.tmps w) {fo : Operand} {f : FuncId} {caps : List V} (he : evF F fo = some (f, caps)) : ∃ capv, a.eval fo = .func (.func f) #[] capv ∧ VL g.im g.io caps capv.toList := by
  unfold evF at he
  split at he
  · cases he
    exact ⟨#[], rfl, .nil⟩
  · split at he
    · rename_i f' caps' ht
      cases he
      have hv := hf.getD ht
      generalize a.eval _ = v at hv ⊢
      change VR g.im g.io (.fn f caps) v at hv
      cases hv with
      | fn _ _ c hl hc => exact ⟨c, rfl, ⟨by simpa using hl, fun i x y h1 h2 => hc i x y h1 (by simpa using h2)⟩⟩
    · cases he
  · cases he
theorem round_WF {l f tmps as bd} {R : Ending → World → Prop} (h : RoundIn Fence.wide 0 P l f tmps as bd w R) : RoundIn (WF ro) n P l f tmps as bd w R := by
  obtain ⟨h1, h2⟩ := h
  refine ⟨trivial, fun c cs _ => ?_⟩
  have := h2 c cs (room_wide _)
  have e : Machine.fenced P (WF ro) = Machine.fenced P Fence.wide := by cases ro <;> rfl
  rw [e]
  exact this
theorem yield_run {c : Call} {t : Nat} {l : Nat} (ho : o.op = .call c) (hc : c.callee = .value (.tmp t)) (hv : a.eval (.tmp t) = .func (.yield l) #[] #[]) : (execOp a.eval o).run P w = (Instr.yield l (c.args.toList.map a.eval).toArray).run P w := by
  have harr : c.args.map a.eval = (c.args.toList.map a.eval).toArray := by apply Array.ext'; simp
  simp only [execOp, ho, resolve, hc, hv, Deferred.ofValue, Sem.run_bind, Sem.run_pure, Result.andThen_ok, invoke, harr]
  simp
theorem opy_sound (hrec : RecOk P gc rec) (hry : RyOk P ry) (hro : ro = none ∨ ∀ c, o.op ≠ .defer c) {D : List Df} {base : List Deferred} {K Z} (hx : opy P rec keep gc vc ry o F h D K Z = some r) (hh : Hinv g h w) (hf : Finv g F a.tmps w) (hD : DR g D a.defers base)
    {next : Act → World → Prop} {Q : Exit → Act → World → Prop}
    (hK : ∀ F' h' D' g' a' v w', K F' h' D' = some r → Hinv g' h' w' → Finv g' F' a'.tmps w' → Step g w g' w' → DR g' D' a'.defers base → a'.tmps = (a.put o.dst v).tmps → next a' w')
    (hZ : ∀ x F' h' D' g' v w', Z x F' h' D' = some r → Hinv g' h' w' → VR g'.im g'.io x v → Finv g' F' a.tmps w' → Step g w g' w' → DR g' D' a.defers base → Q (.panic [{ v, recovered := false }]) a w') : o.wpIn (WF ro) n P a w next Q := by
  have hold : opx P rec keep gc vc o F h (fun F h => K F h D) (fun v F h => Z v F h D) = some r → (∀ c, o.op ≠ .defer c) → o.wpIn (WF ro) n P a w next Q := fun hx hd =>
    op_wpIn hd (opx_sound hrec hx hh hf (fun F' h' g' v w' k1 k2 k3 k4 => hK F' h' D g' _ v w' k1 k2 k3 k4 (by rw [put_defers]; exact hD.step k4) rfl)
      (fun x F' h' g' v w' k1 k2 k3 k4 k5 => hZ x F' h' D g' v w' k1 k2 k3 k4 k5 (hD.step k5)))
  unfold opy at hx
  split at hx
  · rename_i c ho
    rcases hro with rfl | hro
    case inr => exact absurd ho (hro c)
    split at hx
    · rename_i fo hc
      split at hx
      · rename_i f caps hfo
        split at hx
        · rename_i vs F1 h1 hev
          obtain ⟨capv, hfv, hcap⟩ := evF_sound hf hfo
          obtain ⟨g1, a1, a2, a3, a4⟩ := evEs_sound hh hf hev
          refine ⟨fun f _ => WF_fn _ f, ?_⟩
          have hrun : (o.semAt (WF none).round a.eval).run P w = .ok (.defer { target := .fn (.func f) capv, args := c.args.map a.eval }) w := by
            show (execOp a.eval o).run P w = _
            simp only [execOp, ho, resolve, hc, hfv, Deferred.ofValue, Sem.run_bind, Sem.run_pure, Result.andThen_ok]
            simp
          rw [hrun, Oper.uponIn_defer]
          refine hK _ _ _ g1 _ undef w hx a1 ?_ a3 ?_ ?_
          · have : ({ a with defers := { target := .fn (.func f) capv, args := c.args.map a.eval } :: a.defers }.put o.dst undef).tmps = (a.put o.dst undef).tmps := by cases o.dst <;> rfl
            rw [this]
            exact a2.put o.dst .sk undef (fun k _ _ => rfl) (fun k e sz i c _ he => by cases he)
          · rw [put_defers]
            refine ⟨_, _, rfl, ⟨capv, _, rfl, ?_⟩, hD.step a3⟩
            have := a4.append (hcap.mono a3.im a3.io)
            simpa using this
          · cases o.dst <;> rfl
        · cases hx
      · cases hx
    · cases hx
  · rename_i c ho
    have hnd : ∀ c, o.op ≠ .defer c := fun c hc => by rw [ho] at hc; cases hc
    split at hx
    · rename_i t hc
      split at hx
      · rename_i b hb
        split at hx
        · rename_i vs F1 h1 hev
          split at hx
          · rename_i tb h2 hcall
            obtain ⟨g1, a1, a2, a3, a4⟩ := evEs_sound hh hf hev
            have hyv : VR g.im g.io (.yld b) (a.eval (.tmp t)) := hf.getD hb
            obtain ⟨l, hl, hlio⟩ : ∃ l, a.eval (.tmp t) = .func (.yield l) #[] #[] ∧ g.io b = some l := by
              generalize a.eval (.tmp t) = v at hyv
              cases hyv with
              | yld _ l h => exact ⟨l, rfl, h⟩
            obtain ⟨fn, tmps, as, bd, hy, hround⟩ := hry b vs h1 tb h2 hcall g1.hpOnly l _ w a1.hpOnly (hpOnly_noslot g1) (a3.io _ _ hlio) a4
            refine ⟨fun f _ => WF_fn _ f, ?_⟩
            rw [Oper.semAt_eq _ _ _ hnd, yield_run ho hc hl, hy, Oper.uponIn_round]
            refine ⟨fun h => by simp [WF, Fence.wide] at h, (round_WF hround).mono ?_⟩
            rintro e w' ⟨g', s1, s2, s3, rfl⟩
            obtain ⟨g2, e1, e2, b1, b2, b3⟩ := call_back a1 a2 s1 s2 s3
            refine hK _ _ _ g2 _ (.bool tb) w' hx b1 (b2.put o.dst _ _ (fun k _ _ => .bool tb) (fun k e sz i c _ he => by cases he)) (a3.trans b3) ?_ rfl
            rw [put_defers]
            exact hD.step (a3.trans b3)
          · cases hx
        · cases hx
      · exact hold hx hnd
    · exact hold hx hnd
  · rename_i h1 h2
    exact hold hx (fun c hc => h1 c hc)
/-- slots but those are as they were -/
def Prs (ms : List Nat) (a a' : Act) : Prop := a'.tmps.size = a.tmps.size ∧ ∀ s, s ∉ ms → a'.tmps.getD s undef = a.tmps.getD s undef
theorem Prs.refl (ms : List Nat) (a : Act) : Prs ms a a := ⟨rfl, fun _ _ => rfl⟩
theorem Prs.trans {ms : List Nat} {a b c : Act} (h : Prs ms a b) (k : Prs ms b c) : Prs ms a c := ⟨k.1.trans h.1, fun s hs => (k.2 s hs).trans (h.2 s hs)⟩
theorem Prs.sub {ms ms' : List Nat} {a b : Act} (h : Prs ms a b) (hs : ∀ s ∈ ms, s ∈ ms') : Prs ms' a b := ⟨h.1, fun s hn => h.2 s fun hm => hn (hs s hm)⟩
theorem Pres.prs {ms : List Nat} {a b : Act} (h : Pres ms a b) : Prs ms a b := h.2
theorem Prs.put {ms : List Nat} (a : Act) (d : Option Nat) (v : Value) (hd : ∀ k, d = some k → k ∈ ms) {a' : Act} (ha : a'.tmps = (a.put d v).tmps) : Prs ms a a' := by
  have := (Pres.put (ms := ms) a d v hd).prs
  exact ⟨by rw [ha]; exact this.1, fun s hs => by rw [ha]; exact this.2 s hs⟩
theorem opsy_sound (hrec : RecOk P gc rec) (hry : RyOk P ry) (all : Array Oper) {base : List Deferred} {Z : V → List S → Heap → List Df → Option R} {K : List S → Heap → List Df → Option R} {Q : Exit → Act → World → Prop} (ms : List Nat) : ∀ (l : List Oper) (F : List S) (h : Heap) (D : List Df) (g : G) (a : Act) (w : World),
    (ro = none ∨ ∀ o ∈ l, ∀ c, o.op ≠ .defer c) →
    opsy P rec keep gc vc ry all Z l F h D K = some r → Hinv g h w → Finv g F a.tmps w → DR g D a.defers base → (∀ o ∈ l, ∀ d, o.dst = some d → d ∈ ms) →
    (∀ F' h' D' g' a' w', K F' h' D' = some r → Hinv g' h' w' → Finv g' F' a'.tmps w' → Step g w g' w' → Prs ms a a' → DR g' D' a'.defers base → Q .normal a' w') →
    (∀ x F' h' D' g' a' v w', Z x F' h' D' = some r → Hinv g' h' w' → VR g'.im g'.io x v → Finv g' F' a'.tmps w' → Step g w g' w' → Prs ms a a' → DR g' D' a'.defers base → Q (.panic [{ v, recovered := false }]) a' w') →
    wpListIn (WF ro) n P all Q l a w
  | [], F, h, D, g, a, w, hro, hx, hh, hf, hD, hms, hK, hZ => hK F h D g a w hx hh hf (.refl _ _) (.refl _ _) hD
  | o :: l, F, h, D, g, a, w, hro, hx, hh, hf, hD, hms, hK, hZ => by
    have hrest : ∀ F' h' D' g' a' v w', opsy P rec keep gc vc ry all Z l F' h' D' K = some r → Hinv g' h' w' → Finv g' F' a'.tmps w' → Step g w g' w' → DR g' D' a'.defers base → a'.tmps = (a.put o.dst v).tmps → wpListIn (WF ro) n P all Q l a' w' := fun F' h' D' g' a' v w' hx' hh' hf' hs' hD' ha' => by
      have hp : Prs ms a a' := Prs.put a o.dst v (fun k hk => hms o (by simp) k hk) ha'
      exact opsy_sound hrec hry all ms l F' h' D' g' _ w' (hro.imp id fun h o' ho' => h o' (by simp [ho'])) hx' hh' hf' hD' (fun o' ho' => hms o' (by simp [ho'])) (fun F2 h2 D2 g2 a2 w2 k1 k2 k3 k4 k5 k6 => hK F2 h2 D2 g2 a2 w2 k1 k2 k3 (hs'.trans k4) (hp.trans k5) k6)
        (fun x F2 h2 D2 g2 a2 u w2 k1 k2 k3 k4 k5 k6 k7 => hZ x F2 h2 D2 g2 a2 u w2 k1 k2 k3 k4 (hs'.trans k5) (hp.trans k6) k7)
    have hdo : ∀ F, opy P rec keep gc vc ry o F h D (fun F h D => opsy P rec keep gc vc ry all Z l F h D K) Z = some r → Finv g F a.tmps w → Region.wanted o (yielded all a.tmps) = true → wpListIn (WF ro) n P all Q (o :: l) a w := fun F hx hf hw => by
      unfold wpListIn
      rw [if_pos hw]
      exact opy_sound hrec hry (hro.imp id fun h => h o (by simp)) hx hh hf hD hrest (fun x F' h' D' g' v w' k1 k2 k3 k4 k5 k6 => hZ x F' h' D' g' a v w' k1 k2 k3 k4 k5 (.refl _ _) k6)
    have hskip : ∀ F, opsy P rec keep gc vc ry all Z l (put F o.dst .sk) h D K = some r → Finv g F a.tmps w → Region.wanted o (yielded all a.tmps) = false → wpListIn (WF ro) n P all Q (o :: l) a w := fun F hx hf hw => by
      unfold wpListIn
      rw [if_neg (by rw [hw]; simp)]
      exact ⟨fun f _ => WF_fn _ f, hrest _ _ _ g _ undef w hx hh (hf.put o.dst .sk undef (fun k _ _ => rfl) (fun k e sz i c _ he => by cases he)) (.refl _ _) (by rw [put_defers]; exact hD) rfl⟩
    unfold opsy at hx
    simp only [force_eq] at hx
    split at hx
    · rename_i hg
      exact hdo F hx hf (by simp [Region.wanted, hg])
    · rename_i j want hg
      split at hx
      · rename_i d hd
        split at hx
        · rename_i b hb
          have hbv : VR g.im g.io (.bool b) (a.eval (.tmp d)) := hf.getD hb
          have hlt : d < a.tmps.size := by rw [← hf.len]; exact (List.getElem?_eq_some_iff.1 hb).1
          have hval : a.tmps[d]? = some (.bool b) := by
            generalize hev : a.eval (.tmp d) = v at hbv
            cases hbv
            rw [Array.getElem?_eq_getElem hlt]
            have : a.tmps.getD d undef = .bool b := hev
            rw [Array.getD_eq_getD_getElem?, Array.getElem?_eq_getElem hlt] at this
            exact congrArg some this
          have hy : yielded all a.tmps j = some b := by
            unfold yielded
            rw [hd]
            simp [hval]
          have hw : Region.wanted o (yielded all a.tmps) = (some b == some want) := by simp [Region.wanted, hg, hy]
          have hset : F.set d (.v (.bool b)) = F := by
            apply List.ext_getElem?
            intro i
            rw [List.getElem?_set]
            split
            · rename_i e; subst e
              rw [hb, if_pos (List.getElem?_eq_some_iff.1 hb).1]
            · rfl
          cases b with
          | true =>
            simp only [if_true] at hx
            rw [hset] at hx
            cases want with
            | true => exact hdo F (by simpa using hx) hf (by rw [hw]; rfl)
            | false => exact hskip F (by simpa using hx) hf (by rw [hw]; rfl)
          | false =>
            simp only [Bool.false_eq_true, if_false] at hx
            rw [hset] at hx
            cases want with
            | true => exact hskip F (by simpa using hx) hf (by rw [hw]; rfl)
            | false => exact hdo F (by simpa using hx) hf (by rw [hw]; rfl)
        · rename_i hb
          have hsk : a.eval (.tmp d) = undef := hf.getD hb
          have hlt : d < a.tmps.size := by rw [← hf.len]; exact (List.getElem?_eq_some_iff.1 hb).1
          have hy : yielded all a.tmps j = none := by
            unfold yielded
            rw [hd]
            have : a.tmps[d]? = some undef := by
              rw [Array.getElem?_eq_getElem hlt]
              have : a.tmps.getD d undef = undef := hsk
              rw [Array.getD_eq_getD_getElem?, Array.getElem?_eq_getElem hlt] at this
              exact congrArg some this
            simp [this, undef]
          exact hskip F hx hf (by simp [Region.wanted, hg, hy])
        · cases hx
      · cases hx
end
end Go.L
