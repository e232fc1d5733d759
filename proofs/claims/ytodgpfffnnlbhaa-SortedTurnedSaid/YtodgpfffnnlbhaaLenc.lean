import Derived.Test.YtodgpfffnnlbhaaMem2
import Derived.Test.YtodgpfffnnlbhaaLfin
import Derived.KernelRfl
/-! L: how data lies in cells, and as values -/
set_option linter.unusedVariables false
namespace Go.L
open Go.Rp Go.RowKit
/-- how data lies in cells -/
structure Enc {α : Type} (v : α → List V) (c : α → List Value) (sz : Nat) : Prop where
  pos : 0 < sz
  lv : ∀ x, (v x).length = sz
  lc : ∀ x, (c x).length = sz
  one : ∀ x, ∀ a ∈ v x, a.one = true
  to : ∀ x (j : Nat) a u, (v x)[j]? = some a → (c x)[j]? = some u → ∀ im io y, VR im io a y → y = u
  fro : ∀ x (j : Nat) a u, (v x)[j]? = some a → (c x)[j]? = some u → ∀ im io, VR im io a u
theorem Enc.ofInts {α : Type} {sz : Nat} (ns : α → List (IntKind × Int)) (hp : 0 < sz) (h : ∀ x, (ns x).length = sz) : Enc (fun x => (ns x).map fun p => V.int p.1 p.2) (fun x => (ns x).map fun p => Value.int p.1 p.2) sz where
  pos := hp
  lv := fun x => by rw [List.length_map, h]
  lc := fun x => by rw [List.length_map, h]
  one := fun x a ha => by obtain ⟨p, _, rfl⟩ := List.mem_map.1 ha; rfl
  to := fun x j a u h1 h2 im io y hv => by
    rw [List.getElem?_map] at h1 h2
    cases hj : (ns x)[j]? with
    | none => rw [hj] at h1; cases h1
    | some p => rw [hj] at h1 h2; cases h1; cases h2; cases hv; rfl
  fro := fun x j a u h1 h2 im io => by
    rw [List.getElem?_map] at h1 h2
    cases hj : (ns x)[j]? with
    | none => rw [hj] at h1; cases h1
    | some p => rw [hj] at h1 h2; cases h1; cases h2; exact .int _ _
def intV (k : IntKind) (n : Int) : List V := [.int k n]
def _root_.Go.Rp.Sp.v (s : Sp) : List V := [.int .i64 s.th, .int .i64 s.sq, .int .u8 s.op.k, .int .i32 s.op.v, .int .u8 s.res.c, .int .i32 s.res.v, .int .i64 s.fr, .int .i64 s.to]
def _root_.Go.Rp.Ap.v (s : Ap) : List V := [.int .i64 s.th, .int .i64 s.sq, .int .u8 s.op.k, .int .i32 s.op.v, .int .u8 s.res.c, .int .i32 s.res.v, .int .i64 s.b]
theorem encI (k : IntKind) : Enc (intV k) (fun n => [Value.int k n]) 1 := Enc.ofInts (fun n => [(k, n)]) (by decide) (fun _ => rfl)
theorem encSp : Enc Sp.v Sp.cs 8 := Enc.ofInts (fun s : Sp => [(.i64, s.th), (.i64, s.sq), (.u8, s.op.k), (.i32, s.op.v), (.u8, s.res.c), (.i32, s.res.v), (.i64, s.fr), (.i64, s.to)]) (by decide) (fun _ => rfl)
theorem encAp : Enc Ap.v Ap.cs 7 := Enc.ofInts (fun s : Ap => [(.i64, s.th), (.i64, s.sq), (.u8, s.op.k), (.i32, s.op.v), (.u8, s.res.c), (.i32, s.res.v), (.i64, s.b)]) (by decide) (fun _ => rfl)

section
variable {α : Type} {v : α → List V} {c : α → List Value} {sz : Nat} {im : Im} {io : Io} {w : World}
theorem Enc.rd (he : Enc v c sz) {l : List α} {s1 : Nat} {x : Bool} {y : Value} (h : VR im io (.sl s1 (l.map v) x) y) (hi : ImOk im w) : ∃ A cap, y = .slice A l.length cap ∧ (l.length ≤ cap ∧ cap ≤ maxLen) ∧ TR.RdL w w.heap.size c sz A l := by
  cases h with
  | sl _ _ _ A cap ad ys hA hx hc hm hs hi' hv =>
    refine ⟨A, cap, by simp, ⟨by simpa using hc, hm⟩, fun k a hk => ?_⟩
    have hk' : (l.map v)[k]? = some (v a) := by rw [List.getElem?_map, hk]; rfl
    have hsz : s1 = sz := by have := (hs _ (List.mem_of_getElem? hk')).1; rw [he.lv] at this; exact this.symm
    subst hsz
    have hne : A = some ad := hA.resolve_left (by rintro e; rw [e] at hk'; cases hk')
    have hcell : ∀ (j : Nat) u, (c a)[j]? = some u → w.cell? (ad.add (k * s1 + j)) = some u := fun j u hu => by
      obtain ⟨b, hb⟩ : ∃ b, (v a)[j]? = some b := ⟨_, List.getElem?_eq_getElem (by rw [he.lv, ← he.lc a]; exact (List.getElem?_eq_some_iff.1 hu).1)⟩
      have h1 := hi _ _ (hi' k _ j b hk' hb)
      rw [he.to a j b u hb hu _ _ _ (hv k _ j b hk' hb)] at h1
      exact h1
    refine ⟨ad, hne, ?_, hcell⟩
    have h0 := lt_of_cell (hcell 0 _ (List.getElem?_eq_getElem (by rw [he.lc]; exact he.pos)))
    rwa [TR.block_add] at h0
theorem Enc.vr (he : Enc v c sz) {l : List α} {A : Option Addr} {cap : Nat} (h : ∀ (k : Nat) a, l[k]? = some a → ∃ ad, A = some ad ∧ ∀ (j : Nat) u, (c a)[j]? = some u → im (ad.add (k * sz + j)) = some u) (hc : l.length ≤ cap) (hm : cap ≤ maxLen) :
    VR im io (.sl sz (l.map v) false) (.slice A l.length cap) := by
  have hget : ∀ (k : Nat) es, (l.map v)[k]? = some es → ∃ a, l[k]? = some a ∧ es = v a := fun k es hk => by
    rw [List.getElem?_map] at hk
    cases hl : l[k]? with
    | none => rw [hl] at hk; cases hk
    | some a => rw [hl] at hk; cases hk; exact ⟨a, rfl, rfl⟩
  have hu : ∀ (a : α) (j : Nat) b, (v a)[j]? = some b → ∃ u, (c a)[j]? = some u := fun a j b hb => ⟨_, List.getElem?_eq_getElem (by rw [he.lc, ← he.lv a]; exact (List.getElem?_eq_some_iff.1 hb).1)⟩
  have := VR.sl (im := im) (io := io) sz (l.map v) false A cap (A.getD ⟨0, 0, none⟩) (fun k j => ((l[k]?.bind fun a => (c a)[j]?)).getD .nilFunc)
    (by
      cases l with
      | nil => exact .inl rfl
      | cons a l => obtain ⟨ad, rfl, _⟩ := h 0 a rfl; exact .inr rfl)
    (by simp) (by simpa using hc) hm
    (fun es hes => by
      obtain ⟨a, _, rfl⟩ := List.mem_map.1 hes
      exact ⟨he.lv a, he.one a⟩)
    (fun k es j b hk hb => by
      obtain ⟨a, ha, rfl⟩ := hget k es hk
      obtain ⟨u, hu⟩ := hu a j b hb
      obtain ⟨ad, rfl, hcl⟩ := h k a ha
      simp only [ha, Option.bind_some, hu, Option.getD_some]
      exact hcl j u hu)
    (fun k es j b hk hb => by
      obtain ⟨a, ha, rfl⟩ := hget k es hk
      obtain ⟨u, hu⟩ := hu a j b hb
      simp only [ha, Option.bind_some, hu, Option.getD_some]
      exact he.fro a j b u hb hu im io)
  rwa [List.length_map] at this
/-- what a call laid, and what was there -/
def imNew (im : Im) (B : Nat) (w' : World) : Im := fun p => if B ≤ p.block then w'.cell? p else im p
theorem imNew_ext (hi : ImOk im w) (w' : World) : ∀ p v, im p = some v → imNew im w.heap.size w' p = some v := fun p v h => by
  have := lt_of_cell (hi p v h)
  unfold imNew
  rw [if_neg (by omega)]
  exact h
theorem imNew_ok (hi : ImOk im w) {w' : World} (hb : Below w.heap.size w w') : ImOk (imNew im w.heap.size w') w' := fun p v h => by
  unfold imNew at h
  split at h
  · exact h
  · have := hi p v h
    rw [hb.cell (lt_of_cell this)]
    exact this
theorem imNew_new (im : Im) (B : Nat) (w' : World) : ∀ p v, imNew im B w' p = some v → im p = some v ∨ B ≤ p.block := fun p v h => by
  unfold imNew at h
  split at h
  · exact .inr (by assumption)
  · exact .inl h
theorem Enc.own (he : Enc v c sz) {l : List α} {T : TypeId} {B n : Nat} {y : Value} {w' : World} (hn : n = l.length) (h : w'.ownsRow B T sz y n (l.flatMap c)) : VR (imNew im B w') io (.sl sz (l.map v) false) y := by
  subst hn
  obtain ⟨hlen, ⟨rfl, h0⟩ | ⟨g, cap, cur, rfl, hg, hcur, hnc, hcm, hsz, htk⟩⟩ := h
  · obtain rfl : l = [] := List.eq_nil_of_length_eq_zero h0
    exact he.vr (l := []) (fun k a hk => by simp at hk) (by simp) (by unfold maxLen; omega)
  · refine he.vr (fun k a hk => ?_) hnc hcm
    have hr := TR.RdL.of_own (w := w') (B := w'.heap.size) he.lc (A := some ⟨g, 0, none⟩) (base := B) (e := T) (cap := cap) ⟨hlen, .inr ⟨g, cap, cur, rfl, hg, hcur, hnc, hcm, hsz, htk⟩⟩ (Nat.le_refl _)
    obtain ⟨ad, h1, _, h2⟩ := hr k a hk
    cases h1
    refine ⟨_, rfl, fun j u hu => ?_⟩
    unfold imNew
    rw [if_pos (by rw [TR.block_add]; exact hg)]
    exact h2 j u hu
end
/-- data out of cells -/
def decAll {α : Type} (d : List V → Option α) : List (List V) → Option (List α)
  | [] => some []
  | es :: l => match d es, decAll d l with | some x, some r => some (x :: r) | _, _ => none
theorem decAll_of {α : Type} {v : α → List V} {d : List V → Option α} (hd : ∀ es x, d es = some x → es = v x) : ∀ {l : List (List V)} {r : List α}, decAll d l = some r → l = r.map v
  | [], r, h => by cases h; rfl
  | es :: l, r, h => by
    unfold decAll at h
    split at h
    · rename_i x r' h1 h2
      cases h
      rw [hd _ _ h1, decAll_of hd h2]; rfl
    · cases h
theorem decAll_map {α : Type} {v : α → List V} {d : List V → Option α} (hd : ∀ x, d (v x) = some x) : ∀ l : List α, decAll d (l.map v) = some l
  | [] => rfl
  | x :: l => by simp only [List.map_cons, decAll, hd, decAll_map hd l]
def decI (k : IntKind) : List V → Option Int
  | [.int k' n] => if k' = k then some n else none
  | _ => none
theorem decI_of (k : IntKind) : ∀ es x, decI k es = some x → es = intV k x := fun es x h => by
  unfold decI at h
  split at h
  · split at h
    · rename_i hk; cases h; subst hk; rfl
    · cases h
  · cases h
theorem decI_v (k : IntKind) (x : Int) : decI k (intV k x) = some x := by simp [decI, intV]
def decSp : List V → Option Sp
  | [.int k1 a, .int k2 b, .int k3 c, .int k4 d, .int k5 e, .int k6 f, .int k7 g, .int k8 h] =>
    if (k1 = .i64 ∧ k2 = .i64 ∧ k3 = .u8 ∧ k4 = .i32) ∧ k5 = .u8 ∧ k6 = .i32 ∧ k7 = .i64 ∧ k8 = .i64 then some ⟨a, b, ⟨c, d⟩, ⟨e, f⟩, g, h⟩ else none
  | _ => none
theorem decSp_of : ∀ es x, decSp es = some x → es = Sp.v x := fun es x h => by
  unfold decSp at h
  split at h
  · split at h
    · rename_i hk; cases h; obtain ⟨⟨rfl, rfl, rfl, rfl⟩, rfl, rfl, rfl, rfl⟩ := hk; rfl
    · cases h
  · cases h
theorem decSp_v (x : Sp) : decSp (Sp.v x) = some x := by simp [decSp, Sp.v]

theorem vl2 {im : Im} {io : Io} {a b : V} {l : List Value} (h : VL im io [a, b] l) : ∃ x y, l = [x, y] ∧ VR im io a x ∧ VR im io b y := by
  obtain ⟨hl, h⟩ := h
  match l, hl with
  | [x, y], _ => exact ⟨x, y, rfl, h 0 _ _ rfl rfl, h 1 _ _ rfl rfl⟩
theorem vl4 {im : Im} {io : Io} {a b c d : V} {l : List Value} (h : VL im io [a, b, c, d] l) : ∃ x y z u, l = [x, y, z, u] ∧ VR im io a x ∧ VR im io b y ∧ VR im io c z ∧ VR im io d u := by
  obtain ⟨hl, h⟩ := h
  match l, hl with
  | [x, y, z, u], _ => exact ⟨x, y, z, u, rfl, h 0 _ _ rfl rfl, h 1 _ _ rfl rfl, h 2 _ _ rfl rfl, h 3 _ _ rfl rfl⟩
theorem vl_two {im : Im} {io : Io} {a b : V} {x y : Value} (h1 : VR im io a x) (h2 : VR im io b y) : VL im io [a, b] [x, y] := ⟨rfl, fun i p q hp hq => by
  match i with
  | 0 => cases hp; cases hq; exact h1
  | 1 => cases hp; cases hq; exact h2
  | i + 2 => cases hp⟩
def fnOk (P : Program) (f : FuncId) (one : Bool) : Bool := match P.funcs[f]? with
  | some fn => !fn.body.isNone && !(fn.name == "runtime.NumGoroutine") && ((fn.results.size == 1) == one)
  | none => false
theorem fnOk_ex {P : Program} {f : FuncId} {one : Bool} (h : fnOk P f one = true) : ∃ fn, P.funcs[f]? = some fn ∧ fn.body.isNone = false ∧ (fn.name == "runtime.NumGoroutine") = false ∧ (fn.results.size == 1) = one := by
  unfold fnOk at h
  split at h
  · rename_i fn hf
    simp only [Bool.and_eq_true, Bool.not_eq_true', beq_iff_eq] at h
    exact ⟨fn, hf, h.1.1, h.1.2, h.2⟩
  · cases h
end Go.L

namespace Go.Proofs.Try
def small (l : List Int) : Bool := l.all fun x => decide (0 ≤ x) && decide (x ≤ 255)
theorem small_len {l : List Int} (h : small l = true) : ∀ x ∈ l, 0 ≤ x ∧ x ≤ 255 := by
  unfold small at h
  rw [List.all_eq_true] at h
  exact fun x hx => by simpa using h x hx
end Go.Proofs.Try
