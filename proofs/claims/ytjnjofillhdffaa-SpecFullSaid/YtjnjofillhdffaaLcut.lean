import Derived.Test.YtjnjofillhdffaaLfin
/-! L: a function's code, cut in two: its front for whatever rest, and its rest from a frame -/
set_option linter.unusedVariables false
namespace Go.L
/-- what follows so many steps -/
def seqR : Nat → Code → Code
  | 0, c => c
  | n + 1, .seq _ b => seqR n b
  | _, c => c
/-- so many steps, and then that -/
def replR : Nat → Code → Code → Code
  | 0, _, t => t
  | n + 1, .seq a b, t => .seq a (replR n b t)
  | _, _, t => t
theorem replR_seqR : ∀ (n : Nat) (c : Code), replR n c (seqR n c) = c
  | 0, c => rfl
  | n + 1, c => by
    cases c with
    | seq a b => simp [replR, seqR, replR_seqR n b]
    | _ => rfl
def bodyF (fn : Func) : Code := fn.body.getD .skip
/-- a call's end -/
def endX (P : Program) (fn : Func) : Ex → List S → Heap → Option (Res × Heap) := fun e F h => match e with
  | .nrm | .ret => (match resx P F h fn.results.toList with | some (vs, _, h) => some (.ret vs, h) | none => none)
  | .pan v => some (.pan v, h)
  | _ => none
/-- the rest of a function, from a frame -/
def tailT (P : Program) (keep gc : FuncId → Bool) (draws : Array Oper → Bool) (rec : Rec) (n : Nat) (fn : Func) (t : Code) (F : List S) (h : Heap) : Option (Res × Heap) := exec P rec keep gc (loopx n) draws t F h (endX P fn)
theorem callF_cut {P : Program} {keep gc : FuncId → Bool} {draws : Array Oper → Bool} {ext : Ext} {n f : Nat} {args : List V} {h : Heap} {fn : Func} (k : Nat) (hext : ext f = none) (hf : P.funcs[f]? = some fn) (hb : fn.body = some (bodyF fn)) (hl : ¬ (fn.ntmps < args.length ∨ fn.name = "runtime.NumGoroutine")) (hm : mutF P f = none) (hg : gc f = true) :
    callF P keep gc draws ext (n + 1) f args h = gcw args (exec P (callF P keep gc draws ext n) keep gc (loopx n) draws (replR k (bodyF fn) (seqR k (bodyF fn))) (args.map S.v ++ List.replicate (fn.ntmps - args.length) S.un) [] (endX P fn)) h := by
  rw [replR_seqR]
  unfold callF gcw
  simp only [hext, hf, hb, if_neg hl, hm, hg, if_true]
  rfl
end Go.L
