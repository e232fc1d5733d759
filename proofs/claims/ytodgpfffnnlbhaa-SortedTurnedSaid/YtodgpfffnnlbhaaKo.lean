import Derived.Test.YtodgpfffnnlbhaaKw
import Derived.Test.YtodgpfffnnlbhaaKy
/-! words for the laws of layer 11: slices of numbers that are looked at, rows that stay, one operation -/
set_option linter.unusedVariables false
set_option linter.unusedSimpArgs false
namespace Go.Proofs.Try
open Go.L Go.Rp Go.Sk
set_option maxRecDepth 100000
/-- the value r is a slice of these numbers -/
def Sees (h : Heap) (r : V) (l : List Int) : Prop := (∃ sz, slcH h r = some (sz, l.map (intV .i32))) ∧ ∀ (i : Nat) (x : Int), l[i]? = some x → ∃ p, idxP 1 i r = some p ∧ cellsP h p = some ([.int .i32 x], 1, 0)
theorem RowI.sees {h : Heap} {b : Nat} {L : List Int} (r : RowI h b .i32 21 L) {lo hi : Nat} (h1 : lo ≤ hi) (h2 : hi ≤ L.length) : Sees h (.row b 1 lo hi) ((L.take hi).drop lo) := by
  refine ⟨⟨1, r.slcP h1 h2⟩, fun i x hx => ?_⟩
  rw [List.getElem?_drop] at hx
  have hi' : lo + i < hi := by
    have := (List.getElem?_eq_some_iff.1 hx).1
    rw [List.length_take] at this
    omega
  rw [List.getElem?_take_of_lt hi'] at hx
  obtain ⟨a, c⟩ := r.getP hi' hx
  exact ⟨_, a, c⟩
theorem sees_nil (h : Heap) : Sees h (.sl 0 [] true) [] := ⟨⟨0, rfl⟩, fun i x hx => by simp at hx⟩
theorem SlI.sees {h : Heap} {lo : Nat} {r : V} {l : List Int} (s : SlI h lo r l) : Sees h r l := by
  rcases s with ⟨rfl, rfl⟩ | ⟨b, z, _, rfl, hz⟩
  · exact sees_nil h
  · have := RowI.sees (L := l) ⟨z, hz⟩ (Nat.zero_le l.length) (Nat.le_refl _)
    rwa [List.take_length, List.drop_zero] at this
theorem SlI.keep {h h' : Heap} {lo : Nat} {r : V} {l : List Int} (s : SlI h lo r l) (hk : ∀ (b : Nat) (l : List (List V)) (z : Bool), h[b]? = some (HB.row 21 1 l z) → h'[b]? = some (HB.row 21 1 l z)) : SlI h' lo r l := by
  rcases s with e | ⟨b, z, h1, h2, hz⟩
  · exact .inl e
  · exact .inr ⟨b, z, h1, h2, hk _ _ _ hz⟩
/-- what is left of a slice without its first -/
theorem SlI.tail {h : Heap} {lo : Nat} {r : V} {x : Int} {l : List Int} (s : SlI h lo r (x :: l)) : ∃ r', lenP r = some (l.length + 1) ∧ sliceP 1 1 (l.length + 1) none true r = some r' ∧ Sees h r' l := by
  rcases s with ⟨_, e⟩ | ⟨b, z, _, rfl, hz⟩
  · cases e
  · refine ⟨.row b 1 1 (l.length + 1), rfl, ?_, ?_⟩
    · simpa using sliceP_row (r := b) (sz := 1) (u := 0) (v := l.length + 1) (show 1 ≤ l.length + 1 by omega) (by omega) true
    · have := RowI.sees (L := x :: l) (lo := 1) (hi := l.length + 1) ⟨z, hz⟩ (by omega) (Nat.le_refl _)
      rwa [show l.length + 1 = (x :: l).length from rfl, List.take_length] at this
theorem rSame_loop (n : Nat) {h : Heap} {a b : V} {l : List Int} (ha : Sees h a l) (hb : Sees h b l) (hl : l.length < lim) : ∀ (d i M : Nat) (v0 : V), i + d = l.length → d < M → loopx M (rSame_l2 n a b) [v0, .int .i64 (i : Int)] h = some (.ret [.bool true], h) := by
  obtain ⟨⟨sa, hsa⟩, ga⟩ := ha
  intro d
  induction d with
  | zero =>
    intro i M v0 h1 h2
    obtain ⟨M, rfl⟩ : ∃ M', M = M' + 1 := ⟨M - 1, by omega⟩
    obtain rfl : i = l.length := by omega
    rw [loopx_succ]
    unfold rSame_l2
    rw [hsa, bd_some]
    simp only [gv, List.getD_cons_zero, List.getD_cons_succ, List.length_map, bop_i64_lss, bd_some, bv_bool]
    rw [if_neg (by simp)]
  | succ d ih =>
    intro i M v0 h1 h2
    obtain ⟨M, rfl⟩ : ∃ M', M = M' + 1 := ⟨M - 1, by omega⟩
    obtain ⟨x, hx⟩ : ∃ x, l[i]? = some x := ⟨_, List.getElem?_eq_getElem (by omega)⟩
    obtain ⟨p, p1, p2⟩ := ga i x hx
    obtain ⟨q, q1, q2⟩ := hb.2 i x hx
    have hlt : decide ((i : Int) < (l.length : Int)) = true := by simp; omega
    have key : ∀ next, rSame_l2 n a b [v0, .int .i64 (i : Int)] h next = next [v0, .int .i64 ((i + 1 : Nat) : Int)] h := by
      intro next
      unfold rSame_l2
      rw [hsa, bd_some]
      simp only [gv, List.getD_cons_zero, List.getD_cons_succ, List.length_map, bop_i64_lss, bd_some, bv_bool, hlt, if_true, nv_nat, bdS_some, p1, p2, q1, q2, bd3_some, Nat.zero_add, Nat.le_refl, Nat.reduceLT, and_self, List.getElem?_cons_zero, bop_i32_neq, bop_i64_add, step64 (show i < lim by omega)]
      rw [if_neg (by simp)]
    rw [loopx_succ, key]
    exact ih (i + 1) M v0 (by omega) (by omega)
theorem rSame_call (n : Nat) {h : Heap} {a b : V} {l : List Int} (ha : Sees h a l) (hb : Sees h b l) (hl : l.length < lim) (hn : l.length < n) : call (n + 1) 23 [a, b] h = some (.ret [.bool true], h) := by
  refine (rSame_eq n a b h).trans ?_
  unfold rSame
  obtain ⟨sa, hsa⟩ := ha.1
  obtain ⟨sb, hsb⟩ := hb.1
  rw [hsa, bd_some, hsb, bd_some, if_neg (by simp)]
  exact rSame_loop n ha hb hl l.length 0 n (.bool false) (by omega) hn
/-- rows stay -/
theorem SkAt.box {h : Heap} {s : Nat} {ts : List Tw} {most : Int} {N : Nx} (S : SkAt h s ts most N) : ∀ b ∈ skB s ts, ∃ n cs, h[b]? = some (.box n cs) := fun b hb => by
  unfold skB at hb
  rw [← nds_bs s (ts.length : Int) most] at hb
  obtain ⟨x, hx, rfl⟩ := List.mem_map.1 hb
  exact ⟨_, _, S.rep.at_ x hx⟩
theorem BitsAt.box {h : Heap} {c : Nat} {cb : Option Nat} {bits : List Bool} (hb : BitsAt h c cb bits) : ∃ cs, h[c]? = some (.box 1 cs) := by
  cases cb with
  | none => exact ⟨_, hb.2⟩
  | some b => obtain ⟨_, lo, l, z, h2, _⟩ := hb; exact ⟨_, h2⟩
theorem Did.keepRow {h h' : Heap} {s : Nat} {ts ts' : List Tw} {most : Int} {c : Nat} {cb : Option Nat} {bits bits' : List Bool} {tb : Nat} {told : List R} (D : Did h h' s ts ts' most c cb bits' tb told) (S : ∃ N, SkAt h s ts most N) (B : BitsAt h c cb bits) {b e sz : Nat} {l : List (List V)} {z : Bool} (hb : h[b]? = some (.row e sz l z)) : h'[b]? = some (.row e sz l z) := by
  refine (D.frm.old b (lt_of_at hb) fun hm => ?_).trans hb
  obtain ⟨N, S⟩ := S
  rcases List.mem_cons.1 hm with e2 | hm
  · obtain ⟨cs, hc⟩ := B.box
    rw [← e2, hb] at hc
    cases hc
  · obtain ⟨n, cs, hc⟩ := S.box b hm
    rw [hb] at hc
    cases hc
theorem RowR.keep' {h h' : Heap} {b : Nat} {l : List R} (r : RowR h b l) (hk : ∀ (l : List (List V)) (z : Bool), h[b]? = some (HB.row 34 2 l z) → h'[b]? = some (HB.row 34 2 l z)) : RowR h' b l := by
  obtain ⟨z, hz⟩ := r
  exact ⟨z, hk _ _ hz⟩
/-- one operation -/
theorem doneO_one (o : O) (most : Int) (st : St) : doneO [o] most st = ((stp most st o).1, [(stp most st o).2]) := by
  have h : sPuts [o] ++ others [o] = [0] := by
    by_cases hk : o.k = 1
    · have h1 : puts [o] = [0] := by simp [puts, putsTo, oAt, hk]
      have h2 : others [o] = [] := by simp [others, restTo, oAt, hk]
      rw [h2, List.append_nil]
      have := sPuts_perm [o]
      rw [h1] at this
      exact List.perm_singleton.1 this
    · have h1 : puts [o] = [] := by simp [puts, putsTo, oAt, hk]
      have h2 : others [o] = [0] := by simp [others, restTo, oAt, hk]
      have := sPuts_perm [o]
      rw [h1] at this
      rw [h2, List.perm_nil.1 this]
      rfl
  unfold doneO
  rw [h]
  rfl
theorem all_mem (os : List O) : ∀ (n k : Nat), k < n → (k : Int) ∈ putsTo os n ∨ (k : Int) ∈ restTo os n
  | 0, k, h => by omega
  | n + 1, k, h => by
    simp only [putsTo, restTo]
    by_cases e : k = n
    · subst e
      by_cases h1 : (oAt os (k : Int)).k = 1
      · rw [if_pos h1]; exact .inl (List.mem_append_right _ (List.mem_singleton.2 rfl))
      · rw [if_neg h1, if_neg h1]; exact .inr (List.mem_append_right _ (List.mem_singleton.2 rfl))
    · rcases all_mem os n k (by omega) with h | h
      · left; split
        · exact List.mem_append_left _ h
        · exact h
      · right; split
        · exact h
        · exact List.mem_append_left _ h
theorem order_all (os : List O) (k : Nat) (hk : k < os.length) : (k : Int) ∈ sPuts os ++ others os := by
  rcases all_mem os os.length k hk with h | h
  · exact List.mem_append_left _ ((sPuts_perm os).mem_iff.2 h)
  · exact List.mem_append_right _ h
theorem others_nodup (os : List O) : (others os).Nodup := by
  have : ∀ n : Nat, (restTo os n).Pairwise (· < ·) := fun n => by
    induction n with
    | zero => exact .nil
    | succ n ih =>
      simp only [restTo]
      split
      · exact ih
      · refine List.pairwise_append.2 ⟨ih, List.pairwise_singleton .., fun a ha b hb => ?_⟩
        rw [List.mem_singleton.1 hb]
        exact (restTo_mem os _ a ha).2.1
  exact (this os.length).imp fun h => by omega
theorem order_mem (os : List O) : ∀ x ∈ sPuts os ++ others os, 0 ≤ x ∧ x < (os.length : Int) := fun x hx => by
  rcases List.mem_append.1 hx with h | h
  · exact ⟨(sPuts_mem os x h).1, (sPuts_mem os x h).2.1⟩
  · have := restTo_mem os _ x h; exact ⟨this.1, this.2.1⟩
end Go.Proofs.Try
