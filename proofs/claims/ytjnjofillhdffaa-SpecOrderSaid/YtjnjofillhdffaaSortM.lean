import Derived.Test.YtjnjofillhdffaaSortL
/-! a stable sort of the numbers from lo on, of lists alone -/
namespace Go.Rp
/-- k numbers from lo on -/
def rng (lo k : Nat) : List Int := (List.range' lo k).map Int.ofNat
theorem rng_succ (lo k : Nat) : rng lo (k + 1) = rng lo k ++ [((lo + k : Nat) : Int)] := by
  unfold rng; rw [List.range'_concat, List.map_append]; simp
theorem rng_cons (lo k : Nat) : rng lo (k + 1) = (lo : Int) :: rng (lo + 1) k := by
  unfold rng; rw [List.range'_succ, List.map_cons]; rfl
theorem rng_len (lo k : Nat) : (rng lo k).length = k := by simp [rng]
theorem rng_add (lo : Nat) : ∀ (k j : Nat), rng lo (k + j) = rng lo k ++ rng (lo + k) j
  | k, 0 => by simp [rng]
  | k, j + 1 => by rw [← Nat.add_assoc, rng_succ, rng_add lo k j, rng_succ (lo + k) j, List.append_assoc, Nat.add_assoc]
theorem rng_mem {lo k : Nat} {x : Int} : x ∈ rng lo k ↔ (lo : Int) ≤ x ∧ x < ((lo + k : Nat) : Int) := by
  unfold rng
  rw [List.mem_map]
  constructor
  · rintro ⟨j, hj, rfl⟩
    have := List.mem_range'_1.1 hj
    simp; omega
  · rintro ⟨h1, h2⟩
    exact ⟨x.toNat, List.mem_range'_1.2 (by omega), by simp; omega⟩
section
variable {K : Int → Int}
/-- .. sorted -/
def sR (K : Int → Int) (lo : Nat) : Nat → List Int
  | 0 => []
  | k + 1 => insD K (sR K lo k).reverse ((lo + k : Nat) : Int) []
theorem sR_perm (lo : Nat) : ∀ k, (sR K lo k).Perm (rng lo k)
  | 0 => .refl _
  | k + 1 => by
    unfold sR
    refine (insD_perm _ _ _).trans ?_
    rw [List.reverse_reverse, rng_succ]
    exact (sR_perm lo k).append_right _
theorem sR_len (lo k : Nat) : (sR K lo k).length = k := by rw [(sR_perm lo k).length_eq, rng_len]
theorem sR_mem {lo k : Nat} {x : Int} : x ∈ sR K lo k ↔ (lo : Int) ≤ x ∧ x < ((lo + k : Nat) : Int) := by rw [(sR_perm lo k).mem_iff, rng_mem]
theorem sR_sd (lo : Nat) : ∀ k, Sd K (sR K lo k)
  | 0 => .nil
  | k + 1 => by
    unfold sR
    refine insD_sd _ _ _ (by simpa using sR_sd lo k) (fun y hy => ?_) (by simp)
    exact (sR_mem.1 (List.mem_reverse.1 hy)).2
theorem sR_unique {lo k : Nat} {C : List Int} (h : C.Perm (rng lo k)) (hs : Sd K C) : C = sR K lo k := sd_unique (h.trans (sR_perm lo k).symm) hs (sR_sd lo k)
theorem sR_join {lo i j : Nat} {C : List Int} (h : C.Perm (sR K lo i ++ sR K (lo + i) j)) (hs : Sd K C) : C = sR K lo (i + j) := by
  refine sR_unique (h.trans ?_) hs
  rw [rng_add]
  exact (sR_perm lo i).append (sR_perm (lo + i) j)
theorem ordL_eq : ∀ n : Nat, ordL K n = sR K 0 n
  | 0 => rfl
  | n + 1 => by unfold ordL sR; rw [ordL_eq n, Nat.zero_add]
/-- parts of bs, each sorted (f parts at most) -/
def chunks (K : Int → Int) (bs : Nat) : Nat → Nat → Nat → List Int
  | 0, _, _ => []
  | f + 1, lo, len => if len ≤ bs then sR K lo len else sR K lo bs ++ chunks K bs f (lo + bs) (len - bs)
theorem chunks_len {bs : Nat} (hb : 0 < bs) : ∀ (f lo len : Nat), len ≤ f → (chunks K bs f lo len).length = len
  | 0, lo, len, h => by simp [chunks]; omega
  | f + 1, lo, len, h => by
    unfold chunks
    split
    · exact sR_len lo len
    · rw [List.length_append, sR_len, chunks_len hb f _ _ (by omega)]; omega
theorem chunks_fuel {bs : Nat} (hb : 0 < bs) : ∀ (f g lo len : Nat), len ≤ f → len ≤ g → chunks K bs f lo len = chunks K bs g lo len
  | 0, 0, lo, len, _, _ => rfl
  | 0, g + 1, lo, len, h, _ => by
    obtain rfl : len = 0 := by omega
    simp [chunks, sR]
  | f + 1, 0, lo, len, _, h => by
    obtain rfl : len = 0 := by omega
    simp [chunks, sR]
  | f + 1, g + 1, lo, len, h, k => by
    unfold chunks
    split
    · rfl
    · rw [chunks_fuel hb f g _ _ (by omega) (by omega)]
theorem chunks_le {bs : Nat} (f lo len : Nat) (h : len ≤ bs) (hf : 0 < f) : chunks K bs f lo len = sR K lo len := by
  cases f with
  | zero => omega
  | succ f => unfold chunks; rw [if_pos h]
theorem chunks_gt {bs : Nat} (hb : 0 < bs) (f lo len : Nat) (h : bs < len) (hf : len ≤ f) : chunks K bs f lo len = sR K lo bs ++ chunks K bs f (lo + bs) (len - bs) := by
  cases f with
  | zero => omega
  | succ f =>
    have := chunks_fuel (K := K) hb f (f + 1) (lo + bs) (len - bs) (by omega) (by omega)
    rw [← this]
    conv => lhs; unfold chunks
    rw [if_neg (by omega)]
end
end Go.Rp
