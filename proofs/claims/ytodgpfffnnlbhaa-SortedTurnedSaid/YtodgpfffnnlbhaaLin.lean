import Derived.Test.YtodgpfffnnlbhaaLsem
import Derived.TacticsIn
import Derived.OrdersIn
import Derived.LoopNIn
import Derived.RangeFuncLeaves
import Derived.RangeFuncCalls
import Derived.RangeFuncRecord
import Derived.RecoverIn
import Derived.Scope
/-! What is shown of code in a frame of a call holds in a frame of a round, too. -/
set_option linter.unusedVariables false
namespace Go.L
/-- nothing is forbidden; which round the frame is of -/
def WF (r : Option Nat) : Fence := { Fence.wide with round := r }
theorem WF_none : WF none = Fence.wide := rfl
theorem WF_in (r : Option Nat) (l : Nat) : (WF r).inRound l = WF (some l) := rfl
theorem WF_fn (r : Option Nat) (f : FuncId) : (WF r).fn f := trivial
theorem WF_room (r : Option Nat) (n : Nat) : (WF r).room n := fun _ h => by simp [WF, Fence.wide] at h
theorem WF_depth (r : Option Nat) : (WF r).depth.isSome = true → 1 ≤ 0 := fun h => by simp [WF, Fence.wide] at h
section
variable {P : Program} {ro : Option Nat} {n : Nat}
theorem callsIn_WF {f : FuncId} {args : Array Value} {w : World} {R : Ending → World → Prop} (h : Calls P f args w R) : CallsIn (WF ro) n P f args w R := by
  have h1 : CallsIn Fence.wide n P f args w R := callsIn_wide.2 h
  cases ro with
  | none => exact h1
  | some l => exact h1.inRound l
theorem calls_of_WF {f : FuncId} {args : Array Value} {w : World} {R : Ending → World → Prop} (h : CallsIn (WF ro) n P f args w R) : Calls P f args w R := by
  cases ro with
  | none => exact callsIn_wide.1 h
  | some l => exact callsIn_wide.1 (CallsIn.outOfRound (F := Fence.wide) (l := l) h)
theorem rowsIn_WF {row : String} {args : Array Value} {w : World} {R : Value → World → Prop} (h : Rows P row args w R) : RowsIn (WF ro) n P row args w R := fun c cs _ => by
  obtain ⟨v, w', r, s⟩ := h c cs
  have s' := stepsIn_wide.2 s
  have : Machine.fenced P (WF ro) = Machine.fenced P Fence.wide := by cases ro <;> rfl
  exact ⟨v, w', r, by rw [this]; exact s'⟩
theorem op_wpIn {o : Oper} {a : Act} {w : World} {K : Act → World → Prop} {Q : Exit → Act → World → Prop} (hd : ∀ c, o.op ≠ .defer c) (h : o.wp P a w K Q) : o.wpIn (WF ro) n P a w K Q := by
  refine ⟨fun f _ => WF_fn ro f, ?_⟩
  rw [Oper.semAt_eq _ _ _ hd]
  unfold Oper.wp at h
  have hn : (WF ro).depth.isSome = true → 1 ≤ n := fun h => by simp [WF, Fence.wide] at h
  generalize (execOp a.eval o).run P w = r at h
  cases r with
  | ok x w' =>
    cases x <;> simp only [Oper.upon] at h <;> first | exact h | exact ⟨hn, callsIn_WF h⟩ | exact ⟨hn, rowsIn_WF h⟩
  | halt x w' => cases x <;> simp only [Oper.upon] at h <;> exact h
theorem noDf_spec {ops : List Oper} (h : noDf ops = true) {o : Oper} (ho : o ∈ ops) : ∀ c, o.op ≠ .defer c := fun c hc => by
  have := List.all_eq_true.1 h o ho
  rw [hc] at this
  cases this
variable {ops : Array Oper} {Q : Exit → Act → World → Prop}
theorem wpOp_In (hd : noDf ops.toList = true) (hQ : ¬ LetsOut Q) {i : Nat} {K K' : Act → World → Prop} (hk : ∀ a w, K a w → K' a w) {a : Act} {w : World} (h : wpOp P ops Q i K a w) : wpOpIn (WF ro) n P ops Q i K' a w := by
  unfold wpOp at h
  unfold wpOpIn
  cases ho : ops[i]? with
  | none => rw [ho] at h; exact hk _ _ h
  | some o =>
    rw [ho] at h
    simp only at h ⊢
    have hm : o ∈ ops.toList := by
      have := Array.mem_of_getElem? ho
      simpa using this
    split at h
    · rename_i hw
      rw [if_pos hw]
      rcases h with h | ⟨_, h⟩
      · exact op_wpIn (noDf_spec hd hm) (Oper.wp_mono hk h)
      · exact absurd h hQ
    · rename_i hw
      rw [if_neg hw]
      exact ⟨fun f _ => WF_fn ro f, hk _ _ h⟩
theorem wpAny_In (hd : noDf ops.toList = true) (hQ : ¬ LetsOut Q) {md : Region.Mode} : ∀ (fuel : Nat) (listed : Array Bool) (a : Act) (w : World), wpAny P md ops Q fuel listed a w → wpAnyIn (WF ro) n P md ops Q fuel listed a w
  | 0, listed, a, w, h => h
  | fuel + 1, listed, a, w, h => ⟨h.1, fun i hi => wpOp_In hd hQ (fun a w h => wpAny_In hd hQ fuel _ a w h) (h.2 i hi)⟩
theorem region_any_In {id : Nat} {a : Act} {w : World} (hm : P.follows .mixedOrders = true) (hd : noDf ops.toList = true) (hQ : ¬ LetsOut Q)
    (h : wpAny P .any ops Q ops.size (Array.replicate ops.size false) a { w with drawn := w.drawn + 1 }) : (Code.region id ops true).wpIn (WF ro) n P Q a w :=
  wpIn_region_any hm (wpAny_In hd hQ _ _ _ _ h)
theorem scope_In {c : Code} {a : Act} {w : World} (h : c.wpIn (WF ro) n P (Exit.noGoto Q) a w) : (Code.scope c).wpIn (WF ro) n P Q a w := by
  intro b k cs hro hb hr
  have hs1 : StepsIn (Machine.fenced P (WF ro)) P (lone (b.atR a (.code (.scope c) :: k)) cs w) (lone (b.atR a (.code c :: .inScope c :: k)) cs w) :=
    .one (fenced_calm hb hr rfl) (step_lone_go (by simp [stepG, stepG.exec, Frame.atR]))
  have hs2 : ∀ a w, StepsIn (Machine.fenced P (WF ro)) P (lone (b.atR a (.inScope c :: k)) cs w) (lone (b.atR a k) cs w) := fun a w =>
    .one (fenced_calm hb hr rfl) (step_lone_go (by simp [stepG, stepG.exec, Frame.atR]))
  obtain ⟨e, a₁, w₁, hq, harr⟩ := h b (.inScope c :: k) cs hro hb hr
  cases e with
  | normal => exact ⟨.normal, a₁, w₁, hq, hs1.trans (StepsIn.trans harr (hs2 _ _))⟩
  | exit id =>
    refine ⟨.exit id, a₁, w₁, hq, .of_steps hs1 ⟨fun k' hk => harr.1 k' (by simpa [exitTo] using hk), fun hr hk => harr.2 hr (by simpa [exitTo] using hk)⟩⟩
  | goto l => exact hq.elim
  | ret => exact ⟨.ret, a₁, w₁, hq, .of_steps (b := b) (k := k) (cs := cs) (e := .ret) hs1 harr⟩
  | panic ch => exact ⟨.panic ch, a₁, w₁, hq, .of_steps (b := b) (k := k) (cs := cs) (e := .panic ch) hs1 harr⟩
  | outgrown => exact ⟨_, a₁, w₁, hq, .of_steps (b := b) (k := k) (cs := cs) (e := .outgrown) hs1 harr⟩
end
end Go.L
