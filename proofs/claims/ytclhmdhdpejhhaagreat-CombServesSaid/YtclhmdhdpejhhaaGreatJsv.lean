/-
  The law CombServes (reaper/reaperlaw16): for all arguments it returns true and writes nothing that was there. No condition.
-/import Derived.Test.YtclhmdhdpejhhaaGreatRows
import Derived.ProofKit
import Derived.OpenShut
import Derived.ShutString
import Derived.ChangeOld
import Derived.Test.YtclhmdhdpejhhaaGreatJsv16
namespace Go.Proofs.YtclhmdhdpejhhaaGreat.combServes
open Go.ChangeShapes Go.WideShapes Go.ChangeAt Go.RowKit
open Go.ChangeMaps (open_string shut_string)
open Go.L Go.Rp Go.Proofs.Tryz
set_option linter.unusedVariables false
theorem own : ownKnob Tryz.prog.godebug = none := by kernel_rfl
theorem laidOut : laidOutB Tryz.prog = true := by kernel_rfl
theorem walk (a0 : Option Addr) (len0 cap0 : Nat) (z0 : List Int) (a1 : Int) (a2 : Int) (a3 : Int) (a4 : Option Addr) (len4 cap4 : Nat) (z4 : List Int) (w : World) (w0 : zcz .u8 w a0 len0 cap0 z0) (hl0 : len0 <= 140737488355328) (w1 : (Lit.int .u8 a1).wf = true) (w2 : (Lit.int .u8 a2).wf = true) (w3 : (Lit.int .u8 a3).wf = true) (w4 : zcz .u8 w a4 len4 cap4 z4) (hl4 : len4 <= 140737488355328) :
    Calls Tryz.prog 10 #[.slice a0 len0 cap0, .int .u8 a1, .int .u8 a2, .int .u8 a3, .slice a4 len4 cap4] w fun e w' => e = .returned (.bool true) /\ Below w.heap.size w w' := by
 refine zht (n := 1001) (f := 10) (args := [.sl 1 ((z0.take len0).map (Qs .u8)) false, .int .u8 a1, .int .u8 a2, .int .u8 a3, .sl 1 ((z4.take len4).map (Qs .u8)) false]) (by kernel_rfl) (by kernel_rfl)
  (zij (z0.take len0) false (fun x hx => by have := zgo (zi2 (zqz w0) len0) x hx; omega) a1 a2 a3 (by have := zm4 w1; omega) (by have := zm4 w2; omega) (by have := zm4 w3; omega) (z4.take len4) false (fun x hx => by have := zgo (zi2 (zqz w4) len4) x hx; omega)) ?_
 exact .cons (zqy w0) (.cons (.int _ _) (.cons (.int _ _) (.cons (.int _ _) (.cons (zqy w4) .nil))))
set_option maxRecDepth 100000 in
theorem lifted (os : Os) (started : os.Started) (H : Type) (enc : TypeId × Value -> H) :
    ReturnsInHanded {} Tryz.checked os 10 .any (Rows.combServesSpec.pre6 enc Tryz.prog Tryz.f10 Rows.combServesRow.domain false) (Rows.combServesSpec.post enc Tryz.prog Tryz.f10 false true false false) := by
 refine returnsInHanded_of_change_sized (C := Tryz.checked) own started (by kernel_rfl) Tryz.func10
  (ChangeSpec.witness6 (enc := enc) (C := Tryz.checked) false ⟨#[], #[.slice none 0 0, .int .u8 0, .int .u8 0, .int .u8 0, .slice none 0 0], []⟩ 8 (by kernel_rfl) (by kernel_rfl) (by kernel_rfl) (by kernel_rfl)) ?_
 intro W base args ds gs before hval0 hW hcnd hsz0 _;have hval : ∀ (j : Nat) t v, Tryz.f10.params[j]? = some t -> args[j]? = some v -> Value.okWide Tryz.prog W .any base t v := hval0;have hW' := hW;obtain ⟨p, q, hA0, hV, rfl, hfz, hnd⟩ := hW;have hA : DataW.TrodAll enc Tryz.prog W 0 (fun _ => true) true Tryz.f10.params.toList args.toList ds p := hA0;have hsz : (DataW.weightsEach Tryz.prog (Tryz.f10.params.toList ++ Rows.combServesSpec.plain.varTypes Tryz.prog) (ds ++ gs)).all (· <= reachBytes) = true := hsz0;clear hsz0;rw [Tryz.params10] at hA hval hsz;obtain ⟨v0, vs0, d0, ds0, p0, q0, hargs, rfl, rfl, h0, r0⟩ := trodAll_cons hA;obtain ⟨v1, vs1, d1, ds1, p1, q1, rfl, rfl, rfl, h1, r1⟩ := trodAll_cons r0;obtain ⟨v2, vs2, d2, ds2, p2, q2, rfl, rfl, rfl, h2, r2⟩ := trodAll_cons r1;obtain ⟨v3, vs3, d3, ds3, p3, q3, rfl, rfl, rfl, h3, r3⟩ := trodAll_cons r2;obtain ⟨v4, vs4, d4, ds4, p4, q4, rfl, rfl, rfl, h4, r4⟩ := trodAll_cons r3;obtain ⟨rfl, rfl, rfl⟩ := trodAll_nil r4;obtain rfl : args = #[v0, v1, v2, v3, v4] := by cases args; simp_all
 obtain ⟨rfl, rfl⟩ := trodVars_none hV;obtain ⟨a0, len0, cap0, rfl⟩ := okWide_slice Tryz.underlying22 (hval 0 22 v0 rfl rfl);have k0 := h0;have lt0 : ∀ x ∈ p0, x.block < W.heap.size := by obtain ⟨m, hm⟩ := k0; exact DataW.trod_lt m _ _ _ hm
 obtain ⟨z0, w0⟩ : ∃ zs, zcz .u8 W a0 len0 cap0 zs := by
  obtain ⟨fuel, hf⟩ := h0;rcases open_ints Tryz.underlying22 Tryz.underlying5 (by kernel_rfl) hf with ⟨hcs, _⟩ | ⟨x, l, c, zs, hcs, _, hl, hm, hz, _, hcell, hwz⟩
  . simp [Value.cells] at hcs;obtain ⟨rfl, rfl, rfl⟩ := hcs;exact ⟨[], .inl ⟨rfl, rfl, rfl, rfl⟩⟩
  . simp [Value.cells] at hcs;obtain ⟨rfl, rfl, rfl⟩ := hcs;exact ⟨zs, .inr ⟨_, rfl, hl, hm, by simpa using hz, hcell, hwz⟩⟩
 have hl0 : len0 <= 140737488355328 := by
  obtain ⟨fuel, hf⟩ := k0;exact zde hsz (j := 0) (t := 22) rfl rfl Tryz.underlying22 (of_decide_eq_true (by kernel_rfl)) hf
 obtain ⟨a1, rfl, rfl, rfl, w1⟩ := open_int Tryz.underlying5 (hval 1 5 v1 rfl rfl) h1;obtain ⟨a2, rfl, rfl, rfl, w2⟩ := open_int Tryz.underlying5 (hval 2 5 v2 rfl rfl) h2;obtain ⟨a3, rfl, rfl, rfl, w3⟩ := open_int Tryz.underlying5 (hval 3 5 v3 rfl rfl) h3;obtain ⟨a4, len4, cap4, rfl⟩ := okWide_slice Tryz.underlying22 (hval 4 22 v4 rfl rfl);have k4 := h4;have lt4 : ∀ x ∈ p4, x.block < W.heap.size := by obtain ⟨m, hm⟩ := k4; exact DataW.trod_lt m _ _ _ hm
 obtain ⟨z4, w4⟩ : ∃ zs, zcz .u8 W a4 len4 cap4 zs := by
  obtain ⟨fuel, hf⟩ := h4;rcases open_ints Tryz.underlying22 Tryz.underlying5 (by kernel_rfl) hf with ⟨hcs, _⟩ | ⟨x, l, c, zs, hcs, _, hl, hm, hz, _, hcell, hwz⟩
  . simp [Value.cells] at hcs;obtain ⟨rfl, rfl, rfl⟩ := hcs;exact ⟨[], .inl ⟨rfl, rfl, rfl, rfl⟩⟩
  . simp [Value.cells] at hcs;obtain ⟨rfl, rfl, rfl⟩ := hcs;exact ⟨zs, .inr ⟨_, rfl, hl, hm, by simpa using hz, hcell, hwz⟩⟩
 have hl4 : len4 <= 140737488355328 := by
  obtain ⟨fuel, hf⟩ := k4;exact zde hsz (j := 4) (t := 22) rfl rfl Tryz.underlying22 (of_decide_eq_true (by kernel_rfl)) hf
 clear hA0 hval0;refine (walk a0 len0 cap0 z0 a1 a2 a3 a4 len4 cap4 z4 W w0 hl0 w1 w2 w3 w4 hl4).mono fun e W' ⟨he, bel⟩ => ?_;subst he;exact ⟨_, rfl, _, _, _, [], _, [], hW', trodAll_mk1 (shut_bool Tryz.underlying4 _), (trodAll_cons_mk (Below.trod laidOut (by kernel_rfl) (of_decide_eq_true (by kernel_rfl)) k0 bel lt0) (trodAll_cons_mk (shut_int Tryz.underlying5 w1) (trodAll_cons_mk (shut_int Tryz.underlying5 w2) (trodAll_cons_mk (shut_int Tryz.underlying5 w3) (trodAll_cons_mk (Below.trod laidOut (by kernel_rfl) (of_decide_eq_true (by kernel_rfl)) k4 bel lt4) trodAll_mk0))))), rfl, bel.frame _, fun h => by cases h⟩
theorem over : Rows.combServesRow.holds Tryz.pinned (OpenSpec.ofChange Rows.combServesSpec) :=
 OpenClaim.holds_of_wide 10 Tryz.f10 rfl rfl rfl rfl rfl rfl rfl ⟨rfl, rfl, rfl, rfl, rfl⟩ rfl rfl rfl rfl rfl (by kernel_rfl) Tryz.func10 (by kernel_rfl)
  (of_decide_eq_true (by kernel_rfl)) (by unfold Func.isWrapper; first | (rw [if_pos (by decide +kernel)]; kernel_rfl) | (rw [if_neg (by decide +kernel)]; exact ⟨rfl, rfl⟩))
  (fun os started H enc _ => lifted os started H enc)
theorem proved : Rows.CombServesSaid := over
#print axioms proved
end Go.Proofs.YtclhmdhdpejhhaaGreat.combServes
