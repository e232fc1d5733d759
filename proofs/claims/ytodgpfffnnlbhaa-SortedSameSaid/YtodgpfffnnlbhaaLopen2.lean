import Derived.Test.YtodgpfffnnlbhaaLopen
import Derived.Test.YtodgpfffnnlbhaaOw
import Derived.SizedLaws
/-! arguments that came in: slices of operations -/
set_option linter.unusedVariables false
namespace Go.L
open Go.ChangeShapes Go.WideShapes Go.Rp
/-- a slice of what is laid as integers that came in -/
structure IsRs {α : Type} (c : α → List Value) (W : α → Prop) (n : Nat) (w : World) (a : Option Addr) (len cap : Nat) (l : List α) : Prop where
  hlen : l.length = len
  hle : len ≤ cap
  hmax : cap ≤ maxLen
  wf : ∀ s ∈ l, W s
  rd : ∀ (k : Nat) s, l[k]? = some s → ∃ ad, a = some ad ∧ ∀ (j : Nat) u, (c s)[j]? = some u → w.cell? (ad.add (k * n + j)) = some u
theorem IsRs.vr {α : Type} {v : α → List V} {c : α → List Value} {W : α → Prop} {n : Nat} (he : Enc v c n) {w : World} {a : Option Addr} {len cap : Nat} {l : List α} (h : IsRs c W n w a len cap l) : VR (fun p => w.cell? p) (fun _ => none) (.sl n (l.map v) false) (.slice a len cap) := by
  have := he.vr (im := fun p => w.cell? p) (io := fun _ => none) (l := l) (A := a) (cap := cap) (fun k s hs => h.rd k s hs) (by rw [h.hlen]; exact h.hle) h.hmax
  rwa [h.hlen] at this
theorem IsRs.len {α : Type} {c : α → List Value} {W : α → Prop} {n : Nat} {w : World} {a : Option Addr} {len cap : Nat} {l : List α} (h : IsRs c W n w a len cap l) : l.length ≤ maxLen := by
  rw [h.hlen]; exact Nat.le_trans h.hle h.hmax
section
variable {H : Type} {enc : TypeId × Value → H} {P : Program} {w : World} {held : Bool}
theorem rows_open {α : Type} {c : α → List Value} {W : α → Prop} {ks : List IntKind} (hof : ∀ cs, Fits ks cs → ∃ s, cs = c s ∧ W s) {t e : TypeId} (ht : P.underlying t = some (.slice e)) (hk : iks P 12 e = some ks) (hc : P.cellsOf e = ks.length) {fuel : Nat} {a : Option Addr} {len cap : Nat} {x : DataW H × List MemPlace}
    (h : DataW.trod enc P w 0 (fun _ => true) held fuel t [.slice a len cap] = some x) : ∃ l, IsRs c W ks.length w a len cap l := by
  rcases Deep.open_slice ht h with ⟨h1, _⟩ | ⟨ad, len', cap', m, n, D, Pl, h1, _, hle, hm, hmm, _, hx⟩
  · simp at h1
    obtain ⟨rfl, rfl, rfl⟩ := h1
    exact ⟨[], rfl, Nat.le_refl _, by unfold maxLen; omega, fun s hs => (by cases hs), fun k s hs => (by simp at hs)⟩
  · simp at h1
    obtain ⟨rfl, rfl, rfl⟩ := h1
    have key : ∀ i, i < len → ∃ s : α, W s ∧ ∀ (j : Nat) u, (c s)[j]? = some u → w.cell? (ad.add (i * ks.length + j)) = some u := fun i hi => by
      obtain ⟨cs, hcs, htr⟩ := hx i (by rw [hmm]; simp; omega)
      obtain ⟨s, rfl, hw⟩ := hof _ (iks_open 12 e _ hk htr)
      refine ⟨s, hw, fun j u hu => ?_⟩
      rw [hc] at hcs
      obtain ⟨_, hlen, hget⟩ := World.cells?_some hcs
      have hj : j < ks.length := by have := (List.getElem?_eq_some_iff.1 hu).1; rw [hlen] at this; exact this
      have := hget j hj
      rw [hu] at this
      rw [← this, Deep.add_add]
    obtain ⟨l, hl, hp⟩ := lists_of len key
    exact ⟨l, hl, hle, hm, fun s hs => by obtain ⟨i, hi⟩ := List.mem_iff_getElem?.1 hs; exact (hp i s hi).1, fun k s hs => ⟨ad, rfl, (hp k s hs).2⟩⟩
end
/-- an operation's cells -/
def ocs (o : O) : List Value := [.int .u8 o.k, .int .i32 o.v]
def OWf (o : O) : Prop := (Lit.int .u8 o.k).wf = true ∧ (Lit.int .i32 o.v).wf = true
theorem encO : Enc O.w ocs 2 := Enc.ofInts (fun o : O => [(.u8, o.k), (.i32, o.v)]) (by decide) (fun _ => rfl)
theorem op_of {cs : List Value} (h : Fits [.u8, .i32] cs) : ∃ o : O, cs = ocs o ∧ OWf o := by
  obtain ⟨a, r, rfl, w1, h⟩ := h.cons
  obtain ⟨b, r, rfl, w2, h⟩ := h.cons
  obtain rfl := h.empty
  exact ⟨⟨a, b⟩, rfl, w1, w2⟩
abbrev IsOps := IsRs ocs OWf 2
theorem ops_open {H : Type} {enc : TypeId × Value → H} {P : Program} {w : World} {held : Bool} {t e : TypeId} (ht : P.underlying t = some (.slice e)) (hk : iks P 12 e = some [.u8, .i32]) (hc : P.cellsOf e = 2) {fuel : Nat} {a : Option Addr} {len cap : Nat} {x : DataW H × List MemPlace}
    (h : DataW.trod enc P w 0 (fun _ => true) held fuel t [.slice a len cap] = some x) : ∃ l, IsOps w a len cap l := rows_open (fun _ => op_of) ht hk hc h
theorem ops_wf {w : World} {a : Option Addr} {len cap : Nat} {l : List O} (h : IsOps w a len cap l) : (∀ x ∈ l, 0 ≤ x.k) ∧ (∀ x ∈ l, -2147483648 ≤ x.v ∧ x.v < 2147483648) := by
  refine ⟨fun x hx => ?_, fun x hx => ?_⟩
  · have h1 := (h.wf x hx).1
    simp [Lit.wf] at h1
    have e : IntKind.u8.min = 0 := rfl
    omega
  · have h1 := (h.wf x hx).2
    simp [Lit.wf] at h1
    have e : IntKind.i32.min = -2147483648 := rfl
    have e2 : IntKind.i32.max = 2147483647 := rfl
    omega
theorem slice_sized {H : Type} {enc : TypeId × Value → H} {P : Program} {w : World} {base : Nat} {spare : Nat → Bool} {held : Bool} {ts : List TypeId} {ds : List (DataW H)} (hsz : (DataW.weightsEach P ts ds).all (· ≤ reachBytes) = true) {j : Nat} {t e : TypeId} {d : DataW H} {pl : List MemPlace} {a : Option Addr} {len cap fuel : Nat}
    (ht : ts[j]? = some t) (hd : ds[j]? = some d) (hu : P.underlying t = some (.slice e)) (hb : 1 ≤ P.bytesOf e) (h : DataW.trod enc P w base spare held fuel t [.slice a len cap] = some (d, pl)) : len ≤ 140737488355328 := by
  rcases Deep.open_slice hu h with ⟨h1, _⟩ | ⟨ad, len', cap', m, n, D, Pl, h1, _, hle, hm, hmm, hx, _⟩
  · simp at h1; omega
  · simp at h1
    obtain ⟨rfl, rfl, rfl⟩ := h1
    cases hx
    have h2 := sized_slice hsz ht hd hu
    simp only [List.length_map, List.length_range, reachBytes] at h2
    have h3 : len * 1 ≤ (len + (m - len)) * P.bytesOf e := Nat.mul_le_mul (by omega) hb
    omega
end Go.L
