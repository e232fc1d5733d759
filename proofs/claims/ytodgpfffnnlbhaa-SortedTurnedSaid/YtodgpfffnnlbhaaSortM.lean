import Derived.Test.YtodgpfffnnlbhaaSortL
/-! a stable sort of numbers that rise, of lists alone -/
namespace Go.Rp
/-- numbers that rise -/
def Mono (p : Nat → Int) : Prop := ∀ i j, i < j → p i < p j
/-- k numbers from place lo on -/
def rng (p : Nat → Int) (lo k : Nat) : List Int := (List.range' lo k).map p
section
variable {p : Nat → Int}
theorem rng_succ (lo k : Nat) : rng p lo (k + 1) = rng p lo k ++ [p (lo + k)] := by
  unfold rng; rw [List.range'_concat, List.map_append]; simp
theorem rng_cons (lo k : Nat) : rng p lo (k + 1) = p lo :: rng p (lo + 1) k := by
  unfold rng; rw [List.range'_succ, List.map_cons]
theorem rng_len (lo k : Nat) : (rng p lo k).length = k := by simp [rng]
theorem rng_add (lo : Nat) : ∀ (k j : Nat), rng p lo (k + j) = rng p lo k ++ rng p (lo + k) j
  | k, 0 => by simp [rng]
  | k, j + 1 => by rw [← Nat.add_assoc, rng_succ, rng_add lo k j, rng_succ (lo + k) j, List.append_assoc, Nat.add_assoc]
theorem rng_mem {lo k : Nat} {x : Int} : x ∈ rng p lo k ↔ ∃ i, lo ≤ i ∧ i < lo + k ∧ p i = x := by
  unfold rng
  rw [List.mem_map]
  constructor
  · rintro ⟨j, hj, rfl⟩
    have := List.mem_range'_1.1 hj
    exact ⟨j, by omega, by omega, rfl⟩
  · rintro ⟨i, h1, h2, rfl⟩
    exact ⟨i, List.mem_range'_1.2 (by omega), rfl⟩
theorem rng_sub {lo k a l : Nat} {x : Int} (h1 : lo ≤ a) (h2 : a + l ≤ lo + k) (h : x ∈ rng p a l) : x ∈ rng p lo k := by
  obtain ⟨i, a1, a2, a3⟩ := rng_mem.1 h
  exact rng_mem.2 ⟨i, by omega, by omega, a3⟩
variable {K : Int → Int}
/-- .. sorted -/
def sR (K : Int → Int) (p : Nat → Int) (lo : Nat) : Nat → List Int
  | 0 => []
  | k + 1 => insD K (sR K p lo k).reverse (p (lo + k)) []
theorem sR_perm (lo : Nat) : ∀ k, (sR K p lo k).Perm (rng p lo k)
  | 0 => .refl _
  | k + 1 => by
    unfold sR
    refine (insD_perm _ _ _).trans ?_
    rw [List.reverse_reverse, rng_succ]
    exact (sR_perm lo k).append_right _
theorem sR_len (lo k : Nat) : (sR K p lo k).length = k := by rw [(sR_perm lo k).length_eq, rng_len]
theorem sR_mem {lo k : Nat} {x : Int} : x ∈ sR K p lo k ↔ ∃ i, lo ≤ i ∧ i < lo + k ∧ p i = x := by rw [(sR_perm lo k).mem_iff, rng_mem]
theorem sR_lt (hp : Mono p) {lo i j : Nat} {x y : Int} (hx : x ∈ sR K p lo i) (hy : y ∈ sR K p (lo + i) j) : x < y := by
  obtain ⟨a, a1, a2, rfl⟩ := sR_mem.1 hx
  obtain ⟨b, b1, b2, rfl⟩ := sR_mem.1 hy
  exact hp a b (by omega)
theorem sR_sd (hp : Mono p) (lo : Nat) : ∀ k, Sd K (sR K p lo k)
  | 0 => .nil
  | k + 1 => by
    unfold sR
    refine insD_sd _ _ _ (by simpa using sR_sd hp lo k) (fun y hy => ?_) (by simp)
    obtain ⟨i, h1, h2, rfl⟩ := sR_mem.1 (List.mem_reverse.1 hy)
    exact hp _ _ h2
theorem sR_unique (hp : Mono p) {lo k : Nat} {C : List Int} (h : C.Perm (rng p lo k)) (hs : Sd K C) : C = sR K p lo k := sd_unique (h.trans (sR_perm lo k).symm) hs (sR_sd hp lo k)
theorem sR_join (hp : Mono p) {lo i j : Nat} {C : List Int} (h : C.Perm (sR K p lo i ++ sR K p (lo + i) j)) (hs : Sd K C) : C = sR K p lo (i + j) := by
  refine sR_unique hp (h.trans ?_) hs
  rw [rng_add]
  exact (sR_perm lo i).append (sR_perm (lo + i) j)
/-- parts of bs, each sorted (f parts at most) -/
def chunks (K : Int → Int) (p : Nat → Int) (bs : Nat) : Nat → Nat → Nat → List Int
  | 0, _, _ => []
  | f + 1, lo, len => if len ≤ bs then sR K p lo len else sR K p lo bs ++ chunks K p bs f (lo + bs) (len - bs)
theorem chunks_len {bs : Nat} (hb : 0 < bs) : ∀ (f lo len : Nat), len ≤ f → (chunks K p bs f lo len).length = len
  | 0, lo, len, h => by simp [chunks]; omega
  | f + 1, lo, len, h => by
    unfold chunks
    split
    · exact sR_len lo len
    · rw [List.length_append, sR_len, chunks_len hb f _ _ (by omega)]; omega
theorem chunks_fuel {bs : Nat} (hb : 0 < bs) : ∀ (f g lo len : Nat), len ≤ f → len ≤ g → chunks K p bs f lo len = chunks K p bs g lo len
  | 0, 0, lo, len, _, _ => rfl
  | 0, g + 1, lo, len, h, _ => by
    obtain rfl : len = 0 := by omega
    simp [chunks, sR]
  | f + 1, 0, lo, len, _, h => by
    obtain rfl : len = 0 := by omega
    simp [chunks, sR]
  | f + 1, g + 1, lo, len, h, k => by
    unfold chunks
    split
    · rfl
    · rw [chunks_fuel hb f g _ _ (by omega) (by omega)]
theorem chunks_le {bs : Nat} (f lo len : Nat) (h : len ≤ bs) (hf : 0 < f) : chunks K p bs f lo len = sR K p lo len := by
  cases f with
  | zero => omega
  | succ f => unfold chunks; rw [if_pos h]
theorem chunks_gt {bs : Nat} (hb : 0 < bs) (f lo len : Nat) (h : bs < len) (hf : len ≤ f) : chunks K p bs f lo len = sR K p lo bs ++ chunks K p bs f (lo + bs) (len - bs) := by
  cases f with
  | zero => omega
  | succ f =>
    have := chunks_fuel (K := K) (p := p) hb f (f + 1) (lo + bs) (len - bs) (by omega) (by omega)
    rw [← this]
    conv => lhs; unfold chunks
    rw [if_neg (by omega)]
/-- a list that rises, as numbers by places -/
def atP (l : List Int) (B : Int) (i : Nat) : Int := match l[i]? with | some x => x | none => B + (i : Int)
theorem atP_mono {l : List Int} {B : Int} (hl : l.Pairwise (· < ·)) (hB : ∀ x ∈ l, x < B) : Mono (atP l B) := by
  intro i j hij
  unfold atP
  cases hj : l[j]? with
  | some y =>
    have hjl := (List.getElem?_eq_some_iff.1 hj).1
    rw [List.getElem?_eq_getElem (show i < l.length by omega)]
    have := List.pairwise_iff_getElem.1 hl i j (by omega) hjl hij
    rw [List.getElem?_eq_getElem hjl] at hj
    rw [← Option.some.inj hj]
    exact this
  | none =>
    cases hi : l[i]? with
    | some x =>
      have := hB x (List.mem_of_getElem? hi)
      simp only; omega
    | none => simp only; omega
theorem atP_rng (l : List Int) (B : Int) : rng (atP l B) 0 l.length = l := by
  apply List.ext_getElem?
  intro i
  unfold rng
  rw [List.getElem?_map]
  by_cases hi : i < l.length
  · rw [List.getElem?_range' hi, List.getElem?_eq_getElem hi]
    simp only [Option.map_some, Nat.zero_add, Nat.one_mul]
    unfold atP
    rw [List.getElem?_eq_getElem hi]
  · rw [List.getElem?_eq_none (by simp; omega), List.getElem?_eq_none (by omega)]
    rfl
end
end Go.Rp
