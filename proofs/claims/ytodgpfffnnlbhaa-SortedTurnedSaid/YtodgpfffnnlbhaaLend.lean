import Derived.Test.YtodgpfffnnlbhaaLset
/-! from what L answers of a law to what the law does -/
set_option linter.unusedVariables false
namespace Go.Proofs.Try
open Go.L Go.RowKit

theorem pure_mut_all : pureL.all (fun f => (mutF prog f).isNone) = true := by kernel_rfl
theorem pure_mut {f : Nat} (h : pureS f = true) : mutF prog f = none := by
  unfold pureS at h
  have := List.all_eq_true.1 pure_mut_all f (List.contains_iff_mem.1 h)
  simpa using this
/-- L answers 'true': the law returns true, and writes nothing that was there -/
theorem walk_of_call {n f : Nat} {args : List V} {vals : Array Value} {w : World} (hp : pureS f = true) (h1 : oneRes prog f = true) (h : call n f args [] = some (.ret [.bool true], []))
    (hv : VL (fun p => w.cell? p) (fun _ => none) args vals.toList) : Calls prog f vals w (fun e w' => e = .returned (.bool true) ∧ Below w.heap.size w w') := by
  obtain ⟨-, key⟩ := (call_ok n).pure f args [] _ _ (pure_mut hp) hp h
  have := key (fun p => w.cell? p) (fun _ => none) vals.toList w (fun p v h => h) hv
  rw [Array.toArray_toList] at this
  refine this.mono ?_
  rintro e w' ⟨hb, im', -, -, -, hr⟩
  cases e with
  | returned v =>
    obtain ⟨fn, hfn, h2, -⟩ := hr
    unfold oneRes at h1
    rw [hfn] at h1
    obtain ⟨x, hx, hvr⟩ := h2 (by simpa using h1)
    cases hx
    cases hvr
    exact ⟨rfl, hb⟩
  | panicked ch => exact hr.elim
  | outgrown => exact hr.elim

/-- a slice of integers that came in, as a value -/
def intsV (k : IntKind) (l : List Int) : V := .sl 1 (l.map fun n => [.int k n]) false
theorem intsV_free (k : IntKind) (l : List Int) : (intsV k l).free = true := by
  have : ∀ l : List Int, V.free.freeLL (l.map fun n => [V.int k n]) = true := fun l => by
    induction l with
    | nil => rfl
    | cons n l ih => simp [V.free.freeLL, V.free.freeL, V.free, ih]
  simpa [intsV, V.free] using this l
theorem intsV_ok {k : IntKind} {w : World} {A : Option Addr} {len cap : Nat} {zs : List Int} (hA : len = 0 ∨ ∃ x, A = some x ∧ ∀ i, i < len → w.cell? (x.add i) = some (.int k (zs.getD i 0))) (hl : len ≤ cap) (hm : cap ≤ maxLen) (hz : len ≤ zs.length) :
    VR (fun p => w.cell? p) (fun _ => none) (intsV k (zs.take len)) (.slice A len cap) := by
  have hlen : ((zs.take len).map fun n => [V.int k n]).length = len := by simp; omega
  have key : ∀ ad, (len = 0 ∨ A = some ad) → (∀ i, i < len → w.cell? (ad.add i) = some (.int k (zs.getD i 0))) → VR (fun p => w.cell? p) (fun _ => none) (intsV k (zs.take len)) (.slice A len cap) := fun ad h0 hc => by
    have hget : ∀ (j : Nat) es, ((zs.take len).map fun n => [V.int k n])[j]? = some es → j < len ∧ es = [.int k (zs.getD j 0)] := fun j es hj => by
      have hjl := (List.getElem?_eq_some_iff.1 hj).1
      rw [hlen] at hjl
      refine ⟨hjl, ?_⟩
      rw [List.getElem?_map, List.getElem?_take, if_pos hjl] at hj
      rw [List.getD_eq_getElem?_getD]
      cases hz : zs[j]? with
      | none => rw [hz] at hj; cases hj
      | some n => rw [hz] at hj; cases hj; rfl
    have := VR.sl (im := fun p => w.cell? p) (io := fun _ => none) 1 ((zs.take len).map fun n => [V.int k n]) false A cap ad (fun j _ => .int k (zs.getD j 0))
      (h0.imp (fun h => List.eq_nil_of_length_eq_zero (by rw [hlen]; exact h)) id) (by simp) (by rw [hlen]; exact hl) hm
      (fun es hes => by
        obtain ⟨j, hj⟩ := List.mem_iff_getElem?.1 hes
        obtain ⟨_, rfl⟩ := hget j es hj
        exact ⟨rfl, fun x hx => by rw [List.mem_singleton] at hx; subst hx; rfl⟩)
      (fun j es i x hj hi => by
        obtain ⟨hlt, rfl⟩ := hget j es hj
        have hi0 : i = 0 := by have := (List.getElem?_eq_some_iff.1 hi).1; simpa using this
        subst hi0
        rw [Nat.mul_one, Nat.add_zero]
        exact hc j hlt)
      (fun j es i x hj hi => by
        obtain ⟨hlt, rfl⟩ := hget j es hj
        have hi0 : i = 0 := by have := (List.getElem?_eq_some_iff.1 hi).1; simpa using this
        subst hi0
        cases hi
        exact .int _ _)
    rw [hlen] at this
    exact this
  rcases hA with h0 | ⟨x, rfl, hc⟩
  · exact key ⟨0, 0, none⟩ (.inl h0) (fun i hi => by omega)
  · exact key x (.inr rfl) hc
/-- numbers that fit their kind -/
theorem wf_u8 {n : Int} (h : (Lit.int .u8 n).wf = true) : 0 ≤ n ∧ n ≤ 255 := by
  simp [Lit.wf, IntKind.min, IntKind.max, IntKind.signed, IntKind.bits] at h
  omega
theorem wf_i32 {n : Int} (h : (Lit.int .i32 n).wf = true) : -2147483648 ≤ n ∧ n ≤ 2147483647 := by
  simp [Lit.wf, IntKind.min, IntKind.max, IntKind.signed, IntKind.bits] at h
  omega
theorem wf_i16 {n : Int} (h : (Lit.int .i16 n).wf = true) : -32768 ≤ n ∧ n ≤ 32767 := by
  simp [Lit.wf, IntKind.min, IntKind.max, IntKind.signed, IntKind.bits] at h
  omega
theorem wf_i64 {n : Int} (h : (Lit.int .i64 n).wf = true) : -9223372036854775808 ≤ n ∧ n ≤ 9223372036854775807 := by
  simp [Lit.wf, IntKind.min, IntKind.max, IntKind.signed, IntKind.bits] at h
  omega
theorem small_of {zs : List Int} (h : ∀ n ∈ zs, (Lit.int .u8 n).wf = true) (k : Nat) : small (zs.take k) = true := by
  unfold small
  rw [List.all_eq_true]
  intro x hx
  have := wf_u8 (h x (List.mem_of_mem_take hx))
  simp [this.1, this.2]
/-- a slice of integers that came in -/
def IsRowL (k : IntKind) (w : World) (a : Option Addr) (len cap : Nat) (zs : List Int) : Prop :=
  (a = none ∧ len = 0 ∧ cap = 0 ∧ zs = []) ∨
  ∃ x, a = some x ∧ len ≤ cap ∧ cap ≤ maxLen ∧ zs.length = cap ∧ (∀ i, i < zs.length → w.cell? (x.add i) = some (.int k (zs.getD i 0))) ∧ ∀ n ∈ zs, (Lit.int k n).wf = true
theorem row_ok {k : IntKind} {w : World} {a : Option Addr} {len cap : Nat} {zs : List Int} (h : IsRowL k w a len cap zs) : VR (fun p => w.cell? p) (fun _ => none) (.sl 1 ((zs.take len).map (intV k)) false) (.slice a len cap) := by
  rcases h with ⟨rfl, rfl, rfl, rfl⟩ | ⟨x, rfl, h1, h2, h3, h4, _⟩
  · exact intsV_ok (zs := []) (.inl rfl) (Nat.le_refl _) (by unfold maxLen; omega) (Nat.le_refl _)
  · exact intsV_ok (.inr ⟨x, rfl, fun i hi => h4 i (by omega)⟩) h1 h2 (by omega)
theorem row_wf {k : IntKind} {w : World} {a : Option Addr} {len cap : Nat} {zs : List Int} (h : IsRowL k w a len cap zs) : ∀ n ∈ zs, (Lit.int k n).wf = true := by
  rcases h with ⟨rfl, rfl, rfl, rfl⟩ | ⟨x, rfl, h1, h2, h3, h4, h5⟩
  · intro n hn; cases hn
  · exact h5
end Go.Proofs.Try
