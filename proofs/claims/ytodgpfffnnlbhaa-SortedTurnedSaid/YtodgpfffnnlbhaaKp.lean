import Derived.Test.YtodgpfffnnlbhaaKb
import Derived.Test.YtodgpfffnnlbhaaKl
import Derived.Test.YtodgpfffnnlbhaaSo1
import Derived.Test.YtodgpfffnnlbhaaOw
/-! sorted by contract: those that put, sorted by what they put, and all others -/
set_option linter.unusedVariables false
set_option linter.unusedSimpArgs false
namespace Go.Proofs.Try
open Go.L Go.Rp Go.Sk
set_option maxRecDepth 100000
/-- an operation at a place -/
def oAt (os : List O) (x : Int) : O := os.getD x.toNat ⟨0, 0⟩
theorem oAt_some {os : List O} {k : Nat} {x : O} (h : os[k]? = some x) : oAt os (k : Int) = x := by
  unfold oAt; rw [Int.toNat_natCast, List.getD_eq_getElem?_getD, h]; rfl
def keyV (os : List O) (x : Int) : Int := (oAt os x).v
theorem putKey_call (n : Nat) (o : O) (h : Heap) : call (n + 1) 61 [.agg (O.w o)] h = some (.ret [.int .i32 o.v], h) := by
  refine (putKey_eq n o.k o.v h).trans ?_
  exact gcw_ret (by simp) (by simp)
theorem ow_cut (x : O) : List.take 2 (List.drop 0 (O.w x)) = O.w x := rfl
theorem by_cmp (os : List O) (lb : Bool) (H : Heap) : CmpOk 4 (.fn 81 [.iptr 1 [.fn 61 []] 0, .iptr 1 [.sl 2 (os.map O.w) lb] 0]) H (keyV os) (fun x => 0 ≤ x ∧ x < (os.length : Int)) where
  ex := by
    refine ⟨_, _, rfl, by kernel_rfl, by kernel_rfl, fun n hn x y hx hy => ?_⟩
    obtain ⟨m, rfl⟩ : ∃ m, n = (m + 3) + 1 := ⟨n - 4, by omega⟩
    obtain ⟨i, rfl⟩ : ∃ i : Nat, x = (i : Int) := ⟨x.toNat, (Int.toNat_of_nonneg hx.1).symm⟩
    obtain ⟨j, rfl⟩ : ∃ j : Nat, y = (j : Int) := ⟨y.toNat, (Int.toNat_of_nonneg hy.1).symm⟩
    obtain ⟨a, ha⟩ : ∃ a, os[i]? = some a := ⟨_, List.getElem?_eq_getElem (by omega)⟩
    obtain ⟨b, hb⟩ : ∃ b, os[j]? = some b := ⟨_, List.getElem?_eq_getElem (by omega)⟩
    have hav : (os.map O.w)[i]? = some (O.w a) := by rw [get_os, ha]; rfl
    have hbv : (os.map O.w)[j]? = some (O.w b) := by rw [get_os, hb]; rfl
    refine ⟨cmpV (keyV os (i : Int)) (keyV os (j : Int)), ?_, ?_⟩
    · refine (byCmp_eq (m + 3) (i : Int) (j : Int) (os.map O.w) lb H).trans ?_
      unfold byCmp
      have e1 : ∀ (u : O) (h : Heap), call (m + 3) 61 [.agg (O.w u)] h = some (.ret [.int .i32 u.v], h) := fun u h => putKey_call (m + 2) u h
      have e2 : ∀ (u v : Int) (h : Heap), call (m + 3) 82 [.int .i32 u, .int .i32 v] h = some (.ret [.int .i64 (cmpV u v)], h) := fun u v h => compare_call (m + 1) u v h
      have fi : nv (V.int .i64 (i : Int)) = some i := nv_nat _ _
      have fj : nv (V.int .i64 (j : Int)) = some j := nv_nat _ _
      rw [fi, bdS_some, idxP_sl hav, bd_some]
      first
        | rw [cellsP_iptr, bd3_some, if_pos (by decide), ow_cut, e1, clS_ret, one1_one, fj, bdS_some, idxP_sl hbv, bd_some, cellsP_iptr, bd3_some, if_pos (by decide), ow_cut, e1, clS_ret, one1_one, e2, clH_ret, one1_one]
          rw [show keyV os (i : Int) = a.v from by unfold keyV; rw [oAt_some ha], show keyV os (j : Int) = b.v from by unfold keyV; rw [oAt_some hb]]
        | (simp only [esP, ow_cut]
           rw [e1, clS_ret, one1_one, fj, bdS_some, idxP_sl hbv, bd_some]
           simp only [esP, ow_cut]
           rw [e1, clS_ret, one1_one, e2, clH_ret, one1_one]
           rw [show keyV os (i : Int) = a.v from by unfold keyV; rw [oAt_some ha], show keyV os (j : Int) = b.v from by unfold keyV; rw [oAt_some hb]])
    · unfold cmpV
      split
      · rename_i h; exact ⟨fun _ => h, fun _ => by omega⟩
      · rename_i h; split <;> exact ⟨fun e => by omega, fun e => absurd e h⟩
/-- the places of those that put, and of all others -/
def putsTo (os : List O) : Nat → List Int
  | 0 => []
  | k + 1 => if (oAt os (k : Int)).k = 1 then putsTo os k ++ [(k : Int)] else putsTo os k
def restTo (os : List O) : Nat → List Int
  | 0 => []
  | k + 1 => if (oAt os (k : Int)).k = 1 then restTo os k else restTo os k ++ [(k : Int)]
theorem putsTo_mem (os : List O) : ∀ (n : Nat) (x : Int), x ∈ putsTo os n → 0 ≤ x ∧ x < (n : Int) ∧ (oAt os x).k = 1
  | 0, x, h => by cases h
  | n + 1, x, h => by
    simp only [putsTo] at h
    split at h
    · rename_i hk
      rcases List.mem_append.1 h with h | h
      · have := putsTo_mem os n x h; omega
      · rw [List.mem_singleton] at h; subst h; exact ⟨by omega, by omega, hk⟩
    · have := putsTo_mem os n x h; omega
theorem restTo_mem (os : List O) : ∀ (n : Nat) (x : Int), x ∈ restTo os n → 0 ≤ x ∧ x < (n : Int) ∧ (oAt os x).k ≠ 1
  | 0, x, h => by cases h
  | n + 1, x, h => by
    simp only [restTo] at h
    split at h
    · have := restTo_mem os n x h; omega
    · rename_i hk
      rcases List.mem_append.1 h with h | h
      · have := restTo_mem os n x h; omega
      · rw [List.mem_singleton] at h; subst h; exact ⟨by omega, by omega, hk⟩
theorem putsTo_up (os : List O) : ∀ n : Nat, (putsTo os n).Pairwise (· < ·)
  | 0 => .nil
  | n + 1 => by
    simp only [putsTo]
    split
    · refine List.pairwise_append.2 ⟨putsTo_up os n, List.pairwise_singleton .., fun a ha b hb => ?_⟩
      rw [List.mem_singleton] at hb; subst hb
      exact (putsTo_mem os n a ha).2.1
    · exact putsTo_up os n
theorem puts_len (os : List O) : ∀ n : Nat, (putsTo os n).length + (restTo os n).length = n
  | 0 => rfl
  | n + 1 => by
    have := puts_len os n
    simp only [putsTo, restTo]
    split
    · rw [List.length_append, List.length_cons, List.length_nil]; omega
    · rw [List.length_append, List.length_cons, List.length_nil]; omega
def puts (os : List O) : List Int := putsTo os os.length
def others (os : List O) : List Int := restTo os os.length
/-- those that put, sorted -/
def sPuts (os : List O) : List Int := sR (keyV os) (atP (puts os) (os.length : Int)) 0 (puts os).length
theorem sPuts_perm (os : List O) : (sPuts os).Perm (puts os) := by
  have := sR_perm (K := keyV os) (p := atP (puts os) (os.length : Int)) 0 (puts os).length
  rwa [atP_rng] at this
theorem sPuts_len (os : List O) : (sPuts os).length = (puts os).length := (sPuts_perm os).length_eq
theorem sPuts_sd (os : List O) : Sd (keyV os) (sPuts os) := sR_sd (atP_mono (putsTo_up os _) fun x hx => (putsTo_mem os _ x hx).2.1) 0 _
theorem by_call (n : Nat) {h : Heap} {b : Nat} (os : List O) (lb : Bool) (hb : h[b]? = some (.row 3 1 (iL (puts os)) true)) (hl : 4 * os.length + 100 < lim) (hn : 2 * os.length + 50 ≤ n) :
    call (n + 1) 60 [.sl 2 (os.map O.w) lb, .row b 1 0 (puts os).length, .fn 61 []] h = some (.ret [.row b 1 0 (puts os).length], (h.set b .dead).set b (.row 3 1 (iL (sPuts os)) true)) := by
  have hlen := puts_len os os.length
  have hpl : (puts os).length ≤ os.length := by unfold puts; omega
  have hs := sort_call (p := atP (puts os) (os.length : Int)) (H := h.set b .dead) (atP_mono (putsTo_up os _) fun x hx => (putsTo_mem os _ x hx).2.1) (by_cmp os lb (h.set b .dead)) n (puts os).length (fun x hx => by
    rw [atP_rng] at hx
    have := putsTo_mem os _ x hx
    exact ⟨this.1, this.2.1⟩) (by omega) (by omega)
  rw [atP_rng] at hs
  refine (srtBy_eq n (os.map O.w) lb b (puts os).length h).trans ?_
  unfold srtBy
  rw [hb]
  simp only [rwT]
  rw [if_pos (by rw [iL_len]; refine ⟨⟨?_, ?_, ?_⟩, ?_, ?_⟩ <;> first | trivial | rfl), hs]
  simp only [clr]
  rw [if_pos (And.intro (by first | trivial | rfl) (by rw [iL_len, iL_len]; exact sPuts_len os))]
  rfl
theorem bsl_int (x : Int) : bslV prog 43 1 [(0, .int .i64 x)] = some (1, [[.int .i64 x]]) := by kernel_rfl
theorem app_int (l : List Int) (x : Int) (h : l.length + 1 < lim) : app 3 1 (S.own 3 1 (iL l)) [[.int .i64 x]] = some (iL (l ++ [x])) := by
  simp only [app]
  rw [if_pos (by refine ⟨?_, ?_, by simpa using h⟩ <;> first | trivial | rfl)]
  simp [iL, intV]
theorem ow_0 (x : O) : (setR [V.int .u8 0, V.int .i32 0] 0 (O.w x))[0]? = some (.int .u8 x.k) := rfl
theorem bop_u8_eql' (a b : Int) : bop prog .eql 5 (.int .u8 a) (.int .u8 b) = some (.bool (a == b)) := by kernel_rfl
/-- what parted leaves -/
def partH (h : Heap) (os : List O) : Heap := h ++ [.row 3 1 (iL (sPuts os)) true, .row 3 1 (iL (others os)) true]
theorem parted_loop (n : Nat) (h : Heap) (os : List O) (lb : Bool) (hl : 4 * os.length + 100 < lim) (hn : 2 * os.length + 50 ≤ n) : ∀ (d k M : Nat), k + d = os.length → d < M →
    loopx M (parted_l0 (n + 1) (os.map O.w) lb) [.sl 1 (iL (putsTo os k)) false, .sl 1 (iL (restTo os k)) false, .int .i64 (k : Int)] h = some (.ret [.row h.length 1 0 (puts os).length, .row (h.length + 1) 1 0 (others os).length], partH h os) := by
  intro d
  induction d with
  | zero =>
    intro k M h1 h2
    obtain ⟨M, rfl⟩ : ∃ M', M = M' + 1 := ⟨M - 1, by omega⟩
    obtain rfl : k = os.length := by omega
    have hb := by_call n (h := h ++ [.row 3 1 (iL (puts os)) true]) (b := h.length) os lb List.getElem?_concat_length hl hn
    have hset : ((h ++ [HB.row 3 1 (iL (puts os)) true]).set h.length .dead).set h.length (.row 3 1 (iL (sPuts os)) true) = h ++ [.row 3 1 (iL (sPuts os)) true] := by
      rw [List.set_set, List.set_append_right _ _ (Nat.le_refl _), Nat.sub_self]; rfl
    rw [hset] at hb
    rw [loopx_succ]
    unfold parted_l0
    simp only [gv, List.getD_cons_zero, List.getD_cons_succ, List.length_map, bop_i64_lss, bd_some, bv_bool]
    rw [if_neg (by simp)]
    rw [show lsl (V.sl 1 (iL (putsTo os os.length)) false) = iL (puts os) from rfl, show lsl (V.sl 1 (iL (restTo os os.length)) false) = iL (others os) from rfl, iL_len, iL_len, hb, cl_ret, one1_one]
    simp [partH]
  | succ d ih =>
    intro k M h1 h2
    obtain ⟨M, rfl⟩ : ∃ M', M = M' + 1 := ⟨M - 1, by omega⟩
    obtain ⟨x, hx⟩ : ∃ x, os[k]? = some x := ⟨_, List.getElem?_eq_getElem (by omega)⟩
    have hxv : (os.map O.w)[k]? = some (O.w x) := by rw [get_os, hx]; rfl
    have hlt : decide ((k : Int) < (os.length : Int)) = true := by simp; omega
    have hpl := puts_len os k
    have hox := oAt_some hx
    have IH := ih (k + 1) M (by omega) (by omega)
    rw [loopx_succ]
    have key : ∀ next, parted_l0 (n + 1) (os.map O.w) lb [.sl 1 (iL (putsTo os k)) false, .sl 1 (iL (restTo os k)) false, .int .i64 (k : Int)] h next = next [.sl 1 (iL (putsTo os (k + 1))) false, .sl 1 (iL (restTo os (k + 1))) false, .int .i64 ((k + 1 : Nat) : Int)] h := by
      intro next
      unfold parted_l0
      simp only [gv, List.getD_cons_zero, List.getD_cons_succ, List.length_map, bop_i64_lss, bd_some, bv_bool, hlt, if_true, nv_nat, bdS_some, idxP_sl hxv, cellsP_iptr, bd3_some, Nat.zero_add, Nat.le_refl, Nat.reduceLT, and_self, ow_cut, show (O.w x).length = 2 from rfl, ow_0, bop_u8_eql', bsl_int, bop_i64_add, step64 (show k < lim by omega)]
      rw [show lsl (V.sl 1 (iL (putsTo os k)) false) = iL (putsTo os k) from rfl, show lsl (V.sl 1 (iL (restTo os k)) false) = iL (restTo os k) from rfl]
      by_cases hk : x.k = 1
      · rw [if_pos (by simp [hk]), app_int _ _ (by omega), bd_some]
        simp only [putsTo, restTo, hox, hk, if_true]
      · rw [if_neg (by simp [hk]), app_int _ _ (by omega), bd_some]
        simp only [putsTo, restTo, hox, hk, if_false]
    rw [key]
    exact IH
theorem parted_call (n : Nat) (h : Heap) (os : List O) (lb : Bool) (hl : 4 * os.length + 100 < lim) (hn : 2 * os.length + 50 ≤ n) :
    call (n + 2) 34 [.sl 2 (os.map O.w) lb] h = some (.ret [.row h.length 1 0 (puts os).length, .row (h.length + 1) 1 0 (others os).length], partH h os) := by
  refine (parted_eq (n + 1) (os.map O.w) lb h).trans ?_
  unfold parted
  exact parted_loop n h os lb hl hn os.length 0 (n + 1) (by omega) (by omega)
end Go.Proofs.Try
