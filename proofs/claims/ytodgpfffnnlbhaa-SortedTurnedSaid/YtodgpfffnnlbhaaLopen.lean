import Derived.Test.YtodgpfffnnlbhaaLend
import Derived.Test.YtodgpfffnnlbhaaLenc
import Derived.Deep.Slices
import Derived.ChangeSlices
import Derived.ChangeArms
/-! arguments that came in: structs of integers, and slices of them -/
set_option linter.unusedVariables false
namespace Go.L
open Go.ChangeShapes Go.WideShapes Go.Rp
/-- the kinds of a type's cells, where they are all integers -/
def iks (P : Program) : Nat → TypeId → Option (List IntKind)
  | 0, _ => none
  | d + 1, t => match P.underlying t with
    | some (.int k) => some [k]
    | some (.struct fs) => (match fs.toList.foldlM (fun (acc : List IntKind) f => if f.offset = acc.length then (match iks P d f.type with | some ks => if P.cellsOf f.type = ks.length then some (acc ++ ks) else none | none => none) else none) [] with
      | some ks => if P.cellsOf t = ks.length then some ks else none
      | none => none)
    | _ => none
/-- integers that fit their kinds -/
def Fits (ks : List IntKind) (cs : List Value) : Prop := cs.length = ks.length ∧ ∀ (i : Nat) k, ks[i]? = some k → ∃ n, cs[i]? = some (.int k n) ∧ (Lit.int k n).wf = true
theorem Fits.nil : Fits [] [] := ⟨rfl, fun i k h => by simp at h⟩
theorem Fits.append {ks ks' : List IntKind} {cs cs' : List Value} (h : Fits ks cs) (h' : Fits ks' cs') : Fits (ks ++ ks') (cs ++ cs') := by
  refine ⟨by rw [List.length_append, List.length_append, h.1, h'.1], fun i k hi => ?_⟩
  rw [List.getElem?_append] at hi ⊢
  rw [h.1]
  split
  · rename_i hlt; rw [if_pos hlt] at hi; exact h.2 i k hi
  · rename_i hlt; rw [if_neg hlt] at hi; exact h'.2 _ k hi
theorem Fits.cons {k : IntKind} {ks : List IntKind} {cs : List Value} (h : Fits (k :: ks) cs) : ∃ n r, cs = .int k n :: r ∧ (Lit.int k n).wf = true ∧ Fits ks r := by
  obtain ⟨n, hn, hw⟩ := h.2 0 k rfl
  cases cs with
  | nil => simp at hn
  | cons v r =>
    simp at hn
    subst hn
    exact ⟨n, r, rfl, hw, by have := h.1; simp at this; exact this, fun i k hi => by simpa using h.2 (i + 1) k (by simpa using hi)⟩
theorem Fits.empty {cs : List Value} (h : Fits [] cs) : cs = [] := List.eq_nil_of_length_eq_zero h.1
section
variable {H : Type} {enc : TypeId × Value → H} {P : Program} {w : World} {base : Nat} {spare : Nat → Bool} {held : Bool}
theorem iks_open : ∀ (d : Nat) (t : TypeId) (ks : List IntKind), iks P d t = some ks → ∀ {n : Nat} {cs : List Value} {x : DataW H × List MemPlace}, DataW.trod enc P w base spare held n t cs = some x → Fits ks cs
  | 0, t, ks, h, n, cs, x, _ => by cases h
  | d + 1, t, ks, h, n, cs, x, hx => by
    unfold iks at h
    split at h
    · rename_i k ht
      cases h
      obtain ⟨m, rfl, _, hw⟩ := DataW.trod_int ht hx
      exact ⟨rfl, fun i k hi => by
        match i, hi with
        | 0, hi => cases hi; exact ⟨m, rfl, hw⟩
        | i + 1, hi => simp at hi⟩
    · rename_i fs ht
      split at h
      · rename_i ks' hf
        split at h
        · rename_i hc
          cases h
          obtain ⟨xs, m, _, _, hl, hlen, hfs⟩ := DataW.trod_struct ht hx
          have key : ∀ (l : List Field) (pre : List Field) (acc ks : List IntKind), fs.toList = pre ++ l → l.foldlM (fun (acc : List IntKind) f => if f.offset = acc.length then (match iks P d f.type with | some ks => if P.cellsOf f.type = ks.length then some (acc ++ ks) else none | none => none) else none) acc = some ks →
              Fits acc (cs.take acc.length) → Fits ks (cs.take ks.length) := fun l => by
            induction l with
            | nil => intro pre acc ks _ h hacc; simp at h; subst h; exact hacc
            | cons f l ih =>
              intro pre acc ks hpre h hacc
              rw [List.foldlM_cons] at h
              cases hstep : (if f.offset = acc.length then (match iks P d f.type with | some ks => if P.cellsOf f.type = ks.length then some (acc ++ ks) else none | none => none) else none : Option (List IntKind)) with
              | none => rw [hstep] at h; cases h
              | some acc' =>
                rw [hstep] at h
                split at hstep
                · rename_i hoff
                  split at hstep
                  · rename_i kf hkf
                    split at hstep
                    · rename_i hcf
                      cases hstep
                      have hfi : fs[pre.length]? = some f := by
                        rw [← Array.getElem?_toList, hpre]
                        simp
                      have htr := hfs pre.length f hfi
                      obtain ⟨y, hy⟩ : ∃ y, xs[pre.length]? = some y := ⟨_, List.getElem?_eq_getElem (by
                        rw [hlen]
                        have := congrArg List.length hpre
                        simp at this
                        omega)⟩
                      rw [hy] at htr
                      have hfit := iks_open d f.type kf hkf htr
                      refine ih (pre ++ [f]) (acc ++ kf) ks (by rw [hpre]; simp) h ?_
                      rw [hoff, hcf] at hfit
                      have := hacc.append hfit
                      rw [List.length_append, List.take_add]
                      exact this
                    · cases hstep
                  · cases hstep
                · cases hstep
          have := key fs.toList [] [] ks rfl hf (by simpa using Fits.nil)
          rwa [List.take_of_length_le (by rw [hl, hc]; exact Nat.le_refl _)] at this
        · cases h
      · cases h
    · cases h
end
/-- a span that came in -/
structure SpWf (s : Sp) : Prop where
  th : (Lit.int .i64 s.th).wf = true
  sq : (Lit.int .i64 s.sq).wf = true
  k : (Lit.int .u8 s.op.k).wf = true
  v : (Lit.int .i32 s.op.v).wf = true
  rc : (Lit.int .u8 s.res.c).wf = true
  rv : (Lit.int .i32 s.res.v).wf = true
  fr : (Lit.int .i64 s.fr).wf = true
  to : (Lit.int .i64 s.to).wf = true
theorem span_of {cs : List Value} (h : Fits [.i64, .i64, .u8, .i32, .u8, .i32, .i64, .i64] cs) : ∃ s : Sp, cs = s.cs ∧ SpWf s := by
  obtain ⟨a, r, rfl, w1, h⟩ := h.cons
  obtain ⟨b, r, rfl, w2, h⟩ := h.cons
  obtain ⟨c, r, rfl, w3, h⟩ := h.cons
  obtain ⟨d, r, rfl, w4, h⟩ := h.cons
  obtain ⟨e, r, rfl, w5, h⟩ := h.cons
  obtain ⟨f, r, rfl, w6, h⟩ := h.cons
  obtain ⟨g, r, rfl, w7, h⟩ := h.cons
  obtain ⟨i, r, rfl, w8, h⟩ := h.cons
  obtain rfl := h.empty
  exact ⟨⟨a, b, ⟨c, d⟩, ⟨e, f⟩, g, i⟩, rfl, w1, w2, w3, w4, w5, w6, w7, w8⟩
/-- a slice of spans that came in -/
structure IsSps (w : World) (a : Option Addr) (len cap : Nat) (l : List Sp) : Prop where
  hlen : l.length = len
  hle : len ≤ cap
  hmax : cap ≤ maxLen
  wf : ∀ s ∈ l, SpWf s
  rd : ∀ (k : Nat) s, l[k]? = some s → ∃ ad, a = some ad ∧ ∀ (j : Nat) u, (Sp.cs s)[j]? = some u → w.cell? (ad.add (k * 8 + j)) = some u
theorem IsSps.vr {w : World} {a : Option Addr} {len cap : Nat} {l : List Sp} (h : IsSps w a len cap l) : VR (fun p => w.cell? p) (fun _ => none) (.sl 8 (l.map Sp.v) false) (.slice a len cap) := by
  have := encSp.vr (im := fun p => w.cell? p) (io := fun _ => none) (l := l) (A := a) (cap := cap) (fun k s hs => h.rd k s hs) (by rw [h.hlen]; exact h.hle) h.hmax
  rwa [h.hlen] at this
theorem lists_of {α : Type} {p : Nat → α → Prop} : ∀ (n : Nat), (∀ i, i < n → ∃ x, p i x) → ∃ l : List α, l.length = n ∧ ∀ (i : Nat) x, l[i]? = some x → p i x
  | 0, _ => ⟨[], rfl, fun i x h => by simp at h⟩
  | n + 1, h => by
    obtain ⟨l, hl, hp⟩ := lists_of n (fun i hi => h i (by omega))
    obtain ⟨x, hx⟩ := h n (by omega)
    refine ⟨l ++ [x], by simp [hl], fun i y hy => ?_⟩
    rw [List.getElem?_append] at hy
    split at hy
    · exact hp i y hy
    · rename_i hi
      have hlt := (List.getElem?_eq_some_iff.1 hy).1
      simp at hlt
      have h0 : i - l.length = 0 := by omega
      rw [h0] at hy
      simp at hy
      subst hy
      obtain rfl : i = n := by omega
      exact hx
section
variable {H : Type} {enc : TypeId × Value → H} {P : Program} {w : World} {held : Bool}
theorem spans_open {t e : TypeId} (ht : P.underlying t = some (.slice e)) (hk : iks P 12 e = some [.i64, .i64, .u8, .i32, .u8, .i32, .i64, .i64]) (hc : P.cellsOf e = 8) {fuel : Nat} {a : Option Addr} {len cap : Nat} {x : DataW H × List MemPlace}
    (h : DataW.trod enc P w 0 (fun _ => true) held fuel t [.slice a len cap] = some x) : ∃ l, IsSps w a len cap l := by
  rcases Deep.open_slice ht h with ⟨h1, _⟩ | ⟨ad, len', cap', m, n, D, Pl, h1, _, hle, hm, hmm, _, hx⟩
  · simp at h1
    obtain ⟨rfl, rfl, rfl⟩ := h1
    exact ⟨[], rfl, Nat.le_refl _, by unfold maxLen; omega, fun s hs => (by cases hs), fun k s hs => (by simp at hs)⟩
  · simp at h1
    obtain ⟨rfl, rfl, rfl⟩ := h1
    have key : ∀ i, i < len → ∃ s : Sp, SpWf s ∧ ∀ (j : Nat) u, (Sp.cs s)[j]? = some u → w.cell? (ad.add (i * 8 + j)) = some u := fun i hi => by
      obtain ⟨cs, hcs, htr⟩ := hx i (by rw [hmm]; simp; omega)
      obtain ⟨s, rfl, hw⟩ := span_of (iks_open 12 e _ hk htr)
      refine ⟨s, hw, fun j u hu => ?_⟩
      rw [hc] at hcs
      obtain ⟨_, hlen, hget⟩ := World.cells?_some hcs
      have hj : j < 8 := by have := (List.getElem?_eq_some_iff.1 hu).1; rw [hlen] at this; exact this
      have := hget j hj
      rw [hu] at this
      rw [← this, Deep.add_add]
    obtain ⟨l, hl, hp⟩ := lists_of len key
    exact ⟨l, hl, hle, hm, fun s hs => by obtain ⟨i, hi⟩ := List.mem_iff_getElem?.1 hs; exact (hp i s hi).1, fun k s hs => ⟨ad, rfl, (hp k s hs).2⟩⟩
end
section
variable {H : Type} {enc : TypeId × Value → H} {P : Program} {w w' : World} {held : Bool} {spare : Nat → Bool}
/-- an operation that came in -/
theorem op_open {t : TypeId} {fs : Array Field} (ht : P.underlying t = some (.struct fs)) {v : Value} {r : Reach} {b base fuel : Nat} {x : DataW H × List MemPlace} (hok : Value.okWide P w' r b t v) (hk : iks P 12 t = some [.u8, .i32]) (h : DataW.trod enc P w base spare held fuel t v.cells.toList = some x) :
    ∃ a : O, v = .agg #[.int .u8 a.k, .int .i32 a.v] ∧ (Lit.int .u8 a.k).wf = true ∧ (Lit.int .i32 a.v).wf = true := by
  obtain ⟨cs, rfl, _⟩ := okWide_struct ht hok
  have hf := iks_open 12 t _ hk h
  obtain ⟨k, r, h1, w1, hf⟩ := hf.cons
  obtain ⟨v, r, rfl, w2, hf⟩ := hf.cons
  obtain rfl := hf.empty
  refine ⟨⟨k, v⟩, ?_, w1, w2⟩
  congr 1
  exact Array.toList_inj.1 h1
end
theorem op_ok {im : Im} {io : Io} (a : O) : VR im io (.agg [.int .u8 a.k, .int .i32 a.v]) (.agg #[.int .u8 a.k, .int .i32 a.v]) := .agg _ _ rfl (fun x hx => by simp at hx; rcases hx with rfl | rfl <;> rfl) (fun i x y h1 h2 => by
  match i with
  | 0 => cases h1; cases h2; exact .int _ _
  | 1 => cases h1; cases h2; exact .int _ _
  | i + 2 => cases h1)
end Go.L
