/-
  The law HistoryBefore (reaper/reaperlaw19): for all arguments it returns true and writes nothing that was there. No condition.
-/
import Derived.Test.YtodgpfffnnlbhaaRows
import Derived.WalkKit
import Derived.ProofKit
import Derived.OpenShut
import Derived.ShutString
import Derived.ChangeOld
import Derived.Below
import Derived.Test.YtodgpfffnnlbhaaLend
import Derived.Test.YtodgpfffnnlbhaaHbef
import Derived.Test.YtodgpfffnnlbhaaLopen3
namespace Go.Proofs.Ytodgpfffnnlbhaa.historyBefore
open Go.ChangeShapes Go.WideShapes Go.ChangeAt Go.RowKit
open Go.ChangeMaps (open_string shut_string)
open Go.L Go.Rp Go.Proofs.Try
set_option linter.unusedVariables false

theorem own : ownKnob Try.prog.godebug = none := by kernel_rfl
theorem laidOut : laidOutB Try.prog = true := by kernel_rfl

theorem walk (a0 : Sp) (a1 : Sp) (a2 : Sp) (w : World) (w0 : SpWf a0) (w1 : SpWf a1) (w2 : SpWf a2) :
    Calls Try.prog 11 #[.agg a0.cs.toArray, .agg a1.cs.toArray, .agg a2.cs.toArray] w fun e w' => e = .returned (.bool true) ∧ Below w.heap.size w w' := by
  refine walk_of_call (n := 101) (f := 11) (args := [.agg a0.v, .agg a1.v, .agg a2.v]) (by kernel_rfl) (by kernel_rfl) (before_law_call a0 a1 a2) ?_
  exact .cons (span_ok a0) (.cons (span_ok a1) (.cons (span_ok a2) .nil))

set_option maxRecDepth 100000 in
theorem lifted (os : Os) (started : os.Started) (H : Type) (enc : TypeId × Value → H) :
    ReturnsInHanded {} Try.checked os 11 .any (Rows.historyBeforeSpec.pre6 enc Try.prog Try.f11 Rows.historyBeforeRow.domain false) (Rows.historyBeforeSpec.post enc Try.prog Try.f11 false true false false) := by
  refine returnsInHanded_of_change (C := Try.checked) own started (by kernel_rfl) Try.func11
    (ChangeSpec.witness6 (enc := enc) (C := Try.checked) false ⟨#[], #[.agg #[.int .i64 0, .int .i64 0, .int .u8 0, .int .i32 0, .int .u8 0, .int .i32 0, .int .i64 0, .int .i64 0], .agg #[.int .i64 0, .int .i64 0, .int .u8 0, .int .i32 0, .int .u8 0, .int .i32 0, .int .i64 0, .int .i64 0], .agg #[.int .i64 0, .int .i64 0, .int .u8 0, .int .i32 0, .int .u8 0, .int .i32 0, .int .i64 0, .int .i64 0]], []⟩ 8 (by kernel_rfl) (by kernel_rfl) (by kernel_rfl) (by kernel_rfl)) ?_
  intro W base args ds gs before hval0 hW hcnd _
  have hval : ∀ (j : Nat) t v, Try.f11.params[j]? = some t → args[j]? = some v → Value.okWide Try.prog W .any base t v := hval0
  have hW' := hW
  obtain ⟨p, q, hA0, hV, rfl, hfz, hnd⟩ := hW
  have hA : DataW.TrodAll enc Try.prog W 0 (fun _ => true) true Try.f11.params.toList args.toList ds p := hA0
  rw [Try.params11] at hA hval
  obtain ⟨v0, vs0, d0, ds0, p0, q0, hargs, rfl, rfl, h0, r0⟩ := trodAll_cons hA
  obtain ⟨v1, vs1, d1, ds1, p1, q1, rfl, rfl, rfl, h1, r1⟩ := trodAll_cons r0
  obtain ⟨v2, vs2, d2, ds2, p2, q2, rfl, rfl, rfl, h2, r2⟩ := trodAll_cons r1
  obtain ⟨rfl, rfl, rfl⟩ := trodAll_nil r2
  obtain rfl : args = #[v0, v1, v2] := by cases args; simp_all
  obtain ⟨rfl, rfl⟩ := trodVars_none hV
  have k0 := h0
  have lt0 : ∀ x ∈ p0, x.block < W.heap.size := by obtain ⟨m, hm⟩ := k0; exact DataW.trod_lt m _ _ _ hm
  obtain ⟨a0, rfl, w0⟩ : ∃ a : Sp, v0 = .agg a.cs.toArray ∧ SpWf a := by
    obtain ⟨fuel, hf⟩ := h0
    exact span_open Try.underlying54 (hval 0 54 v0 rfl rfl) (by kernel_rfl) hf
  have k1 := h1
  have lt1 : ∀ x ∈ p1, x.block < W.heap.size := by obtain ⟨m, hm⟩ := k1; exact DataW.trod_lt m _ _ _ hm
  obtain ⟨a1, rfl, w1⟩ : ∃ a : Sp, v1 = .agg a.cs.toArray ∧ SpWf a := by
    obtain ⟨fuel, hf⟩ := h1
    exact span_open Try.underlying54 (hval 1 54 v1 rfl rfl) (by kernel_rfl) hf
  have k2 := h2
  have lt2 : ∀ x ∈ p2, x.block < W.heap.size := by obtain ⟨m, hm⟩ := k2; exact DataW.trod_lt m _ _ _ hm
  obtain ⟨a2, rfl, w2⟩ : ∃ a : Sp, v2 = .agg a.cs.toArray ∧ SpWf a := by
    obtain ⟨fuel, hf⟩ := h2
    exact span_open Try.underlying54 (hval 2 54 v2 rfl rfl) (by kernel_rfl) hf
  clear hA0 hval0
  refine (walk a0 a1 a2 W w0 w1 w2).mono fun e W' ⟨he, bel⟩ => ?_
  subst he
  exact ⟨_, rfl, _, _, _, [], _, [], hW', trodAll_mk1 (shut_bool Try.underlying4 _), (trodAll_cons_mk (Below.trod laidOut (by kernel_rfl) (of_decide_eq_true (by kernel_rfl)) k0 bel lt0) (trodAll_cons_mk (Below.trod laidOut (by kernel_rfl) (of_decide_eq_true (by kernel_rfl)) k1 bel lt1) (trodAll_cons_mk (Below.trod laidOut (by kernel_rfl) (of_decide_eq_true (by kernel_rfl)) k2 bel lt2) trodAll_mk0))), rfl, bel.frame _, fun h => by cases h⟩

theorem over : Rows.historyBeforeRow.holds Try.pinned (OpenSpec.ofChange Rows.historyBeforeSpec) :=
  OpenClaim.holds_of_wide 11 Try.f11 rfl rfl rfl rfl rfl rfl rfl ⟨rfl, rfl, rfl, rfl, rfl⟩ rfl rfl rfl rfl rfl (by kernel_rfl) Try.func11 (by kernel_rfl)
    (of_decide_eq_true (by kernel_rfl)) (by unfold Func.isWrapper; first | (rw [if_pos (by decide +kernel)]; kernel_rfl) | (rw [if_neg (by decide +kernel)]; exact ⟨rfl, rfl⟩))
    (fun os started H enc _ => lifted os started H enc)

/-- THE STATEMENT -/
theorem proved : Rows.HistoryBeforeSaid := over
#print axioms proved
end Go.Proofs.Ytodgpfffnnlbhaa.historyBefore
