/-
  The law ObjectDoes (reaper/reaperlaw12): for all arguments it returns true and writes nothing that was there. No condition.
-/import Derived.Test.YtclhmdhdpejhhaaGreatRows
import Derived.ProofKit
import Derived.OpenShut
import Derived.ShutString
import Derived.ChangeOld
import Derived.Test.YtclhmdhdpejhhaaGreatJdo16
namespace Go.Proofs.YtclhmdhdpejhhaaGreat.objectDoes
open Go.ChangeShapes Go.WideShapes Go.ChangeAt Go.RowKit
open Go.ChangeMaps (open_string shut_string)
open Go.L Go.Rp Go.Proofs.Tryz
set_option linter.unusedVariables false
theorem own : ownKnob Tryz.prog.godebug = none := by kernel_rfl
theorem laidOut : laidOutB Tryz.prog = true := by kernel_rfl
theorem walk (a0 : Int) (a1 : Int) (a2 : Int) (a3 : Option Addr) (len3 cap3 : Nat) (l3 : List De) (a4 : Option Addr) (len4 cap4 : Nat) (z4 : List Int) (w : World) (w0 : (Lit.int .u8 a0).wf = true) (w1 : (Lit.int .i64 a1).wf = true) (w2 : (Lit.int .u8 a2).wf = true) (w3 : IsDeeds w a3 len3 cap3 l3) (hl3 : ∀ d ∈ l3, d.bits.length <= 140737488355328 /\ d.ops.length <= 140737488355328) (w4 : zgW .u8 w a4 len4 cap4 z4) (hl4 : len4 <= 140737488355328) :
    Calls Tryz.prog 6 #[.int .u8 a0, .int .i64 a1, .int .u8 a2, .slice a3 len3 cap3, .slice a4 len4 cap4] w fun e w' => e = .returned (.bool true) /\ Below w.heap.size w w' := by
 refine zgV (n := 6002) (f := 6) (args := [.int .u8 a0, .int .i64 a1, .int .u8 a2, .sl 3 (l3.map De.w) false, .sl 1 ((z4.take len4).map (Xc .u8)) false]) (by kernel_rfl) (by kernel_rfl)
  (zmE a0 a1 a2 l3 false _ false (by have := ziJ w0; omega) (by have := ziJ w2; omega) (fun d hd => ⟨⟨by have := ziK (w3.wf d hd).1 d.bits.length; rwa [XJ] at this, fun o ho => by have := ziJ ((w3.wf d hd).2 o ho).1; omega, hl3 d hd⟩, (by have := ziJ (w3.wfk d hd); omega), fun o ho => by have := ztM ((w3.wf d hd).2 o ho).2; omega⟩) (ziK (ztO w4) len4)) ?_
 exact .cons (.int _ _) (.cons (.int _ _) (.cons (.int _ _) (.cons w3.vr (.cons (ztN w4) .nil))))
set_option maxRecDepth 100000 in
theorem lifted (os : Os) (started : os.Started) (H : Type) (enc : TypeId × Value -> H) :
    ReturnsInHanded {} Tryz.checked os 6 .any (Rows.objectDoesSpec.pre6 enc Tryz.prog Tryz.f6 Rows.objectDoesRow.domain false) (Rows.objectDoesSpec.post enc Tryz.prog Tryz.f6 false true false false) := by
 refine returnsInHanded_of_change_sized (C := Tryz.checked) own started (by kernel_rfl) Tryz.func6
  (ChangeSpec.witness6 (enc := enc) (C := Tryz.checked) false ⟨#[], #[.int .u8 0, .int .i64 0, .int .u8 0, .slice none 0 0, .slice none 0 0], []⟩ 8 (by kernel_rfl) (by kernel_rfl) (by kernel_rfl) (by kernel_rfl)) ?_
 intro W base args ds gs before hval0 hW hcnd hsz0 _;have hval : ∀ (j : Nat) t v, Tryz.f6.params[j]? = some t -> args[j]? = some v -> Value.okWide Tryz.prog W .any base t v := hval0;have hW' := hW;obtain ⟨p, q, hA0, hV, rfl, hfz, hnd⟩ := hW;have hA : DataW.TrodAll enc Tryz.prog W 0 (fun _ => true) true Tryz.f6.params.toList args.toList ds p := hA0;have hsz : (DataW.weightsEach Tryz.prog (Tryz.f6.params.toList ++ Rows.objectDoesSpec.plain.varTypes Tryz.prog) (ds ++ gs)).all (· <= reachBytes) = true := hsz0;clear hsz0;rw [Tryz.params6] at hA hval hsz;obtain ⟨v0, vs0, d0, ds0, p0, q0, hargs, rfl, rfl, h0, r0⟩ := trodAll_cons hA;obtain ⟨v1, vs1, d1, ds1, p1, q1, rfl, rfl, rfl, h1, r1⟩ := trodAll_cons r0;obtain ⟨v2, vs2, d2, ds2, p2, q2, rfl, rfl, rfl, h2, r2⟩ := trodAll_cons r1;obtain ⟨v3, vs3, d3, ds3, p3, q3, rfl, rfl, rfl, h3, r3⟩ := trodAll_cons r2;obtain ⟨v4, vs4, d4, ds4, p4, q4, rfl, rfl, rfl, h4, r4⟩ := trodAll_cons r3;obtain ⟨rfl, rfl, rfl⟩ := trodAll_nil r4;obtain rfl : args = #[v0, v1, v2, v3, v4] := by cases args; simp_all
 obtain ⟨rfl, rfl⟩ := trodVars_none hV;obtain ⟨a0, rfl, rfl, rfl, w0⟩ := open_int Tryz.underlying5 (hval 0 5 v0 rfl rfl) h0;obtain ⟨a1, rfl, rfl, rfl, w1⟩ := open_int Tryz.underlying3 (hval 1 3 v1 rfl rfl) h1;obtain ⟨a2, rfl, rfl, rfl, w2⟩ := open_int Tryz.underlying5 (hval 2 5 v2 rfl rfl) h2;obtain ⟨a3, len3, cap3, rfl⟩ := okWide_slice Tryz.underlying40 (hval 3 40 v3 rfl rfl);have k3 := h3;have lt3 : ∀ x ∈ p3, x.block < W.heap.size := by obtain ⟨m, hm⟩ := k3; exact DataW.trod_lt m _ _ _ hm
 obtain ⟨l3, w3, hl3⟩ : ∃ l, IsDeeds W a3 len3 cap3 l /\ ∀ d ∈ l, d.bits.length <= 140737488355328 /\ d.ops.length <= 140737488355328 := by
  obtain ⟨fuel, hf⟩ := h3;obtain ⟨l, h1, h2⟩ := zlr Tryz.underlying40 (by kernel_rfl) (by kernel_rfl) hf;exact ⟨l, h1, h2 _ fun n hn => Z2 (of_decide_eq_true (Zn.1 hsz n (DataW.weights_mem_each (j := 3) rfl rfl n hn))) (by decide)⟩
 obtain ⟨a4, len4, cap4, rfl⟩ := okWide_slice Tryz.underlying22 (hval 4 22 v4 rfl rfl);have k4 := h4;have lt4 : ∀ x ∈ p4, x.block < W.heap.size := by obtain ⟨m, hm⟩ := k4; exact DataW.trod_lt m _ _ _ hm
 obtain ⟨z4, w4⟩ : ∃ zs, zgW .u8 W a4 len4 cap4 zs := by
  obtain ⟨fuel, hf⟩ := h4;rcases open_ints Tryz.underlying22 Tryz.underlying5 (by kernel_rfl) hf with ⟨hcs, _⟩ | ⟨x, l, c, zs, hcs, _, hl, hm, hz, _, hcell, hwz⟩
  . simp [Value.cells] at hcs;obtain ⟨rfl, rfl, rfl⟩ := hcs;exact ⟨[], .inl ⟨rfl, rfl, rfl, rfl⟩⟩
  . simp [Value.cells] at hcs;obtain ⟨rfl, rfl, rfl⟩ := hcs;exact ⟨zs, .inr ⟨_, rfl, hl, hm, by simpa using hz, hcell, hwz⟩⟩
 have hl4 : len4 <= 140737488355328 := by
  obtain ⟨fuel, hf⟩ := k4;exact ziP hsz (j := 4) (t := 22) rfl rfl Tryz.underlying22 (of_decide_eq_true (by kernel_rfl)) hf
 clear hA0 hval0;refine (walk a0 a1 a2 a3 len3 cap3 l3 a4 len4 cap4 z4 W w0 w1 w2 w3 hl3 w4 hl4).mono fun e W' ⟨he, bel⟩ => ?_;subst he;exact ⟨_, rfl, _, _, _, [], _, [], hW', trodAll_mk1 (shut_bool Tryz.underlying4 _), (trodAll_cons_mk (shut_int Tryz.underlying5 w0) (trodAll_cons_mk (shut_int Tryz.underlying3 w1) (trodAll_cons_mk (shut_int Tryz.underlying5 w2) (trodAll_cons_mk (Below.trod laidOut (by kernel_rfl) (of_decide_eq_true (by kernel_rfl)) k3 bel lt3) (trodAll_cons_mk (Below.trod laidOut (by kernel_rfl) (of_decide_eq_true (by kernel_rfl)) k4 bel lt4) trodAll_mk0))))), rfl, bel.frame _, fun h => by cases h⟩
theorem over : Rows.objectDoesRow.holds Tryz.pinned (OpenSpec.ofChange Rows.objectDoesSpec) :=
 OpenClaim.holds_of_wide 6 Tryz.f6 rfl rfl rfl rfl rfl rfl rfl ⟨rfl, rfl, rfl, rfl, rfl⟩ rfl rfl rfl rfl rfl (by kernel_rfl) Tryz.func6 (by kernel_rfl)
  (of_decide_eq_true (by kernel_rfl)) (by unfold Func.isWrapper; first | (rw [if_pos (by decide +kernel)]; kernel_rfl) | (rw [if_neg (by decide +kernel)]; exact ⟨rfl, rfl⟩))
  (fun os started H enc _ => lifted os started H enc)
theorem proved : Rows.ObjectDoesSaid := over
#print axioms proved
end Go.Proofs.YtclhmdhdpejhhaaGreat.objectDoes
