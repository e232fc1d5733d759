import Derived.Test.YtodgpfffnnlbhaaKc
import Derived.Test.YtodgpfffnnlbhaaKt
/-! skip by contract: what lies there; paths -/
set_option linter.unusedVariables false
set_option linter.unusedSimpArgs false
namespace Go.Sk
open Go.L
/-- what a node leads to, on all levels -/
def nexts (f : Nat → V) : List V := (List.range 8).map f
theorem nexts_len (f : Nat → V) : (nexts f).length = 8 := by simp [nexts]
theorem nexts_get (f : Nat → V) {k : Nat} (h : k < 8) : (nexts f)[k]? = some (f k) := by
  unfold nexts
  rw [List.getElem?_map, List.getElem?_range h]; rfl
theorem nexts_set (f : Nat → V) {k : Nat} (h : k < 8) (x : V) : (nexts f).set k x = nexts (fun j => if j = k then x else f j) := by
  apply List.ext_getElem?
  intro j
  rw [List.getElem?_set]
  by_cases hj : j < 8
  · rw [nexts_get _ hj, nexts_get _ hj]
    by_cases e : k = j
    · rw [if_pos e, if_pos (by rw [nexts_len]; omega), if_pos e.symm]
    · rw [if_neg e, if_neg (Ne.symm e)]
  · rw [List.getElem?_eq_none (by rw [nexts_len]; omega), List.getElem?_eq_none (by rw [nexts_len]; omega), if_neg (by omega)]
/-- the head, or a tower: its block, its value and height, what else is in it -/
structure Nd where
  b : Nat
  v : Int
  ht : Int
  post : List V
def Nd.cells (x : Nd) (N : Nx) : List V := [.int .i32 x.v, .int .i64 x.ht] ++ (nexts (N x.b) ++ x.post)
def NodeAt (h : Heap) (N : Nx) (x : Nd) : Prop := h[x.b]? = some (.box (10 + x.post.length) (x.cells N))
theorem Nd.get0 (x : Nd) (N : Nx) : (x.cells N)[0]? = some (.int .i32 x.v) := rfl
theorem Nd.get1 (x : Nd) (N : Nx) : (x.cells N)[1]? = some (.int .i64 x.ht) := rfl
theorem Nd.get (x : Nd) (N : Nx) {k : Nat} (h : k < 8) : (x.cells N)[2 + k]? = some (N x.b k) := by
  unfold Nd.cells
  rw [List.getElem?_append_right (by simp), show 2 + k - [V.int .i32 x.v, .int .i64 x.ht].length = k by simp, List.getElem?_append_left (by rw [nexts_len]; exact h), nexts_get _ h]
theorem Nd.set (x : Nd) (N : Nx) {k : Nat} (h : k < 8) (y : V) : setR (x.cells N) (2 + k) [y] = x.cells (updN N x.b k y) := by
  show (x.cells N).set (2 + k) y = _
  unfold Nd.cells
  rw [List.set_append_right _ _ (by simp), show 2 + k - [V.int .i32 x.v, .int .i64 x.ht].length = k by simp, List.set_append_left _ _ (by rw [nexts_len]; exact h), nexts_set _ h]
  congr 3
  funext j
  unfold updN
  by_cases e : j = k
  · rw [if_pos e, if_pos ⟨rfl, e⟩]
  · rw [if_neg e, if_neg (fun hh => e hh.2)]
/-- nodes that lie there -/
structure Rep (h : Heap) (ns : List Nd) (N : Nx) : Prop where
  at_ : ∀ x ∈ ns, NodeAt h N x
  nd : (ns.map Nd.b).Nodup
  one : ∀ x ∈ ns, ∀ k, V.cells (N x.b k) = [N x.b k]
theorem Rep.inj {h : Heap} {ns : List Nd} {N : Nx} (r : Rep h ns N) {x y : Nd} (hx : x ∈ ns) (hy : y ∈ ns) (e : x.b = y.b) : x = y := by
  obtain ⟨i, hi⟩ := List.mem_iff_getElem?.1 hx
  obtain ⟨j, hj⟩ := List.mem_iff_getElem?.1 hy
  have h1 : (ns.map Nd.b)[i]? = some x.b := by rw [List.getElem?_map, hi]; rfl
  have h2 : (ns.map Nd.b)[j]? = some y.b := by rw [List.getElem?_map, hj]; rfl
  have := (List.getElem?_inj (List.getElem?_eq_some_iff.1 h1).1 r.nd).1 (h1.trans (by rw [e, h2]))
  subst this
  rw [hi] at hj
  exact Option.some.inj hj
theorem Rep.read {h : Heap} {ns : List Nd} {N : Nx} (r : Rep h ns N) {x : Nd} (hx : x ∈ ns) (o : Nat) : cellsP h (.ptr x.b o) = some (x.cells N, 10 + x.post.length, o) := cellsP_box (r.at_ x hx) o
theorem Rep.write {h : Heap} {ns : List Nd} {N : Nx} (r : Rep h ns N) {x : Nd} (hx : x ∈ ns) {k : Nat} (hk : k < 8) (y : V) (hy : V.cells y = [y]) :
    writeB h [y] (.ptr x.b (2 + k)) = some (x.b, .box (10 + x.post.length) (x.cells (updN N x.b k y))) ∧ Rep (h.set x.b (.box (10 + x.post.length) (x.cells (updN N x.b k y)))) ns (updN N x.b k y) := by
  have hb := r.at_ x hx
  refine ⟨?_, ⟨fun z hz => ?_, r.nd, fun z hz j => ?_⟩⟩
  · rw [writeB_box hb (by simp; omega), x.set N hk]
  · by_cases e : z.b = x.b
    · have := r.inj hz hx e
      subst this
      exact set_at (lt_of_at hb) _
    · unfold NodeAt
      rw [List.getElem?_set_ne (Ne.symm e)]
      have := r.at_ z hz
      unfold NodeAt at this
      rw [this]
      have e2 : updN N x.b k y z.b = N z.b := by
        funext j
        unfold updN
        rw [if_neg (fun hh => e hh.1)]
      unfold Nd.cells
      rw [e2]
  · unfold updN
    split
    · exact hy
    · exact r.one z hz j
theorem Rep.keep {h h' : Heap} {ns : List Nd} {N : Nx} (r : Rep h ns N) (hk : ∀ x ∈ ns, h'[x.b]? = h[x.b]?) : Rep h' ns N := ⟨fun x hx => (hk x hx).trans (r.at_ x hx), r.nd, r.one⟩
/-- a path: a block on each level -/
def pathV (P : Nat → Nat) : List V := (List.range 8).map fun k => .ptr (P k) 0
theorem pathV_len (P : Nat → Nat) : (pathV P).length = 8 := by simp [pathV]
theorem pathV_get (P : Nat → Nat) {k : Nat} (h : k < 8) : (pathV P)[k]? = some (.ptr (P k) 0) := by
  unfold pathV
  rw [List.getElem?_map, List.getElem?_range h]; rfl
theorem pathV_set (P : Nat → Nat) {k : Nat} (h : k < 8) (b : Nat) : (pathV P).set k (.ptr b 0) = pathV (fun j => if j = k then b else P j) := by
  have e : ∀ Q : Nat → Nat, pathV Q = nexts (fun j => .ptr (Q j) 0) := fun Q => rfl
  rw [e, e, nexts_set _ h]
  congr 1
  funext j
  split <;> rfl
/-- towers as nodes -/
def ndT (t : Tw) : Nd := ⟨t.b, t.v, t.ht, []⟩
def ndH (s : Nat) (many most : Int) : Nd := ⟨s, 0, 0, [.int .i64 many, .int .i64 most]⟩
/-- pointers once a tower is tied in, level by level -/
def putN (N : Nx) (u : Nat) (P : Nat → Nat) : Nat → Nx
  | 0 => N
  | k + 1 => updN (updN (putN N u P k) u k (putN N u P k (P k) k)) (P k) k (.ptr u 0)
theorem putN_ge (N : Nx) (u : Nat) (P : Nat → Nat) : ∀ K b k, K ≤ k → putN N u P K b k = N b k
  | 0, b, k, h => rfl
  | K + 1, b, k, h => by
    simp only [putN, updN]
    rw [if_neg (by omega), if_neg (by omega)]
    exact putN_ge N u P K b k (by omega)
theorem putN_lt (N : Nx) (u : Nat) (P : Nat → Nat) (hu : ∀ k, P k ≠ u) : ∀ K k, k < K → putN N u P K u k = N (P k) k ∧ putN N u P K (P k) k = .ptr u 0 ∧ ∀ b, b ≠ u → b ≠ P k → putN N u P K b k = N b k
  | 0, k, h => by omega
  | K + 1, k, h => by
    rcases Nat.lt_or_ge k K with hk | hk
    · obtain ⟨a1, a2, a3⟩ := putN_lt N u P hu K k hk
      have hne : ∀ b, putN N u P (K + 1) b k = putN N u P K b k := fun b => by
        simp only [putN, updN]
        rw [if_neg (by omega), if_neg (by omega)]
      exact ⟨by rw [hne, a1], by rw [hne, a2], fun b h1 h2 => by rw [hne, a3 b h1 h2]⟩
    · obtain rfl : k = K := by omega
      refine ⟨?_, ?_, fun b h1 h2 => ?_⟩
      · simp only [putN, updN]
        rw [if_neg (fun e => hu k e.1.symm), if_pos (by simp), putN_ge _ _ _ _ _ _ (Nat.le_refl _)]
      · simp only [putN, updN]
        rw [if_pos (by simp)]
      · simp only [putN, updN]
        rw [if_neg (fun e => h2 e.1), if_neg (fun e => h1 e.1), putN_ge _ _ _ _ _ _ (Nat.le_refl _)]
end Go.Sk
namespace Go.Proofs.Try
open Go.L Go.Rp Go.Sk
set_option maxRecDepth 100000
theorem bop_tw_ptr (h : Heap) (b : Nat) : bopH prog h .neq 68 (V.ptr b 0) (V.val (.pointer none)) = some (.bool true) := by kernel_rfl
theorem bop_tw_nil (h : Heap) : bopH prog h .neq 68 (V.val (.pointer none)) (V.val (.pointer none)) = some (.bool false) := by kernel_rfl
theorem bop_tw_ptr' (h : Heap) (b : Nat) : bopH prog h .eql 68 (V.ptr b 0) (V.val (.pointer none)) = some (.bool false) := by kernel_rfl
theorem bop_tw_nil' (h : Heap) : bopH prog h .eql 68 (V.val (.pointer none)) (V.val (.pointer none)) = some (.bool true) := by kernel_rfl
theorem bop_sk_nil (h : Heap) (b : Nat) : bopH prog h .eql 26 (V.ptr b 0) (V.val (.pointer none)) = some (.bool false) := by kernel_rfl
theorem bop_tw_eql {h : Heap} {t o n m : Nat} {cs ds : List V} (ht : h[t]? = some (.box n cs)) (ho : h[o]? = some (.box m ds)) : bopH prog h .eql 68 (V.ptr t 0) (V.ptr o 0) = some (.bool (t == o && 0 == 0)) := by
  have e : bopH prog h .eql 68 (V.ptr t 0) (V.ptr o 0) = (match h[t]?, h[o]? with | some (.box ..), some (.box ..) => some (.bool (neg .eql (t == o && 0 == 0))) | _, _ => none) := by kernel_rfl
  rw [e, ht, ho]
  rfl
theorem further_call (n : Nat) {h : Heap} {ns : List Nd} {N : Nx} (r : Rep h ns N) {x y : Nd} (hx : x ∈ ns) (hy : y ∈ ns) : ∃ b, call (n + 1) 65 [.ptr x.b 0, .ptr y.b 0] h = some (.ret [.bool b], h) := by
  rw [further_eq]
  unfold further
  rw [bop_tw_eql (r.at_ x hx) (r.at_ y hy), bd_some, bv_bool]
  split
  · exact ⟨_, rfl⟩
  · rw [r.read hx, bd3_some, if_pos (by omega), x.get1, bd_some, bop_i64_eql, bd_some, bv_bool]
    split
    · exact ⟨_, rfl⟩
    · rw [r.read hy, bd3_some, if_pos (by omega), y.get1, bd_some, bop_i64_eql, bd_some, bv_bool]
      split
      · exact ⟨_, rfl⟩
      · rw [r.read hx, bd3_some, if_pos (by omega), x.get0, bd_some, r.read hy, bd3_some, if_pos (by omega), y.get0, bd_some, bop_i32_geq, bd_some]
        exact ⟨_, rfl⟩
theorem tall_call (n : Nat) (h : Heap) (v k : Int) : call (n + 1) 44 [.int .i32 v, .int .i64 k] h = some (.ret [.ptr h.length 0], h ++ [.box 10 ([.int .i32 v, .int .i64 (max 1 (min k 8))] ++ nexts (fun _ => nilP))]) := by
  rw [tall_eq]
  unfold tall
  have e : (if (1 : Int) < (if 8 < k then 8 else k) then (if 8 < k then 8 else k) else 1) = max 1 (min k 8) := by
    by_cases h1 : 8 < k
    · simp only [if_pos h1]; omega
    · simp only [if_neg h1]; split <;> omega
  rw [e]
  rfl
theorem nv_int (k : IntKind) (a : Nat) : nv (V.int k (a : Int)) = some a := nv_nat _ _
theorem addP_ptr (k b o : Nat) : addP k (.ptr b o) = some (.ptr b (o + k)) := rfl
theorem lcs_agg (l : List V) : lcs (V.agg l) = l := rfl
theorem setR_one (cs : List V) (o : Nat) (y : V) : setR cs o [y] = cs.set o y := rfl
theorem begin_loop (n : Nat) (s : Nat) (h : Heap) (r0 : List V) (hr : r0.length = 8) : ∀ (d k M : Nat) (cs : List V), k + d = 8 → d < M → cs.length = 8 → (∀ j, j < k → cs[j]? = some (.ptr s 0)) →
    loopx M (skipBegin_l0 n s) [.agg r0, .agg cs, .int .i64 (k : Int)] h = some (.ret [.agg (pathV (fun _ => s))], h) := by
  intro d
  induction d with
  | zero =>
    intro k M cs h1 h2 h3 h4
    obtain ⟨M, rfl⟩ : ∃ M', M = M' + 1 := ⟨M - 1, by omega⟩
    obtain rfl : k = 8 := by omega
    have hcs : cs = pathV (fun _ => s) := by
      apply List.ext_getElem?
      intro j
      by_cases hj : j < 8
      · rw [h4 j hj, pathV_get _ hj]
      · rw [List.getElem?_eq_none (by omega), List.getElem?_eq_none (by rw [pathV_len]; omega)]
    subst hcs
    rw [loopx_succ]
    unfold skipBegin_l0
    have hl : ((pathV (fun _ => s)).drop 0 |>.take 8) = pathV (fun _ => s) := by rw [List.drop_zero, List.take_of_length_le (by rw [pathV_len]; exact Nat.le_refl _)]
    simp only [gv, List.getD_cons_zero, List.getD_cons_succ, bop_i64_lss, bd_some, bv_bool, lcs_agg, hl, pathV_len]
    rw [if_neg (by decide), if_pos (by first | trivial | rfl), if_pos (by omega)]
    have : setR r0 0 (pathV (fun _ => s)) = pathV (fun _ => s) := by
      rw [setR_eq (by rw [pathV_len]; omega), List.take_zero, List.nil_append, pathV_len, List.drop_of_length_le (by omega), List.append_nil]
    rw [this, hl]
  | succ d ih =>
    intro k M cs h1 h2 h3 h4
    obtain ⟨M, rfl⟩ : ∃ M', M = M' + 1 := ⟨M - 1, by omega⟩
    have hlt : decide ((k : Int) < 8) = true := by simp; omega
    have key : ∀ next, skipBegin_l0 n s [.agg r0, .agg cs, .int .i64 (k : Int)] h next = next [.agg r0, .agg (cs.set k (.ptr s 0)), .int .i64 ((k + 1 : Nat) : Int)] h := by
      intro next
      unfold skipBegin_l0
      simp only [gv, List.getD_cons_zero, List.getD_cons_succ, bop_i64_lss, bd_some, bv_bool, lcs_agg, hlt, if_true, nv_int]
      rw [if_pos (by omega), if_pos (by first | exact ⟨trivial, by omega⟩ | omega), bop_i64_add, bd_some, step64 (show k < lim by unfold lim; omega), Nat.mul_one, setR_one]
    rw [loopx_succ, key]
    refine ih (k + 1) M _ (by omega) (by omega) (by rw [List.length_set]; exact h3) fun j hj => ?_
    rw [List.getElem?_set]
    split
    · rename_i e; rw [if_pos (by omega)]
    · exact h4 j (by omega)
theorem begin_call (n : Nat) (h : Heap) (s : Nat) (hn : 8 < n) : call (n + 1) 41 [.ptr s 0] h = some (.ret [.agg (pathV (fun _ => s))], h) := by
  rw [skipBegin_eq]
  unfold skipBegin
  exact begin_loop n s h _ rfl 8 0 n _ (by omega) hn rfl (fun j h => by omega)
/-- put: level by level -/
theorem put_loop (n : Nat) {ns : List Nd} (u : Nd) (hu : u ∈ ns) (P : Nat → Nat) (hP : ∀ k, k < 8 → ∃ x ∈ ns, x.b = P k) (hne : ∀ k, P k ≠ u.b) (N : Nx) (T : Nat) (hT : T ≤ 8) (r0 : List V) (hr : r0.length = 8) : ∀ (d k M : Nat) (h : Heap), k + d = T → d < M → Rep h ns (putN N u.b P k) →
    ∃ h', loopx M (pathPut_l4 n u.b (.int .i64 (T : Int))) [.agg (pathV (fun j => if j < k then u.b else P j)), .agg r0, .int .i64 (k : Int)] h = some (.ret [.agg (pathV (fun j => if j < T then u.b else P j))], h') ∧ Rep h' ns (putN N u.b P T) ∧ h'.length = h.length ∧ ∀ i, (∀ x ∈ ns, x.b ≠ i) → h'[i]? = h[i]? := by
  intro d
  induction d with
  | zero =>
    intro k M h h1 h2 hr'
    obtain ⟨M, rfl⟩ : ∃ M', M = M' + 1 := ⟨M - 1, by omega⟩
    obtain rfl : k = T := by omega
    refine ⟨h, ?_, hr', rfl, fun _ _ => rfl⟩
    rw [loopx_succ]
    unfold pathPut_l4
    have hlt : decide ((k : Int) < (k : Int)) = false := by simp
    have hl : ∀ Q, ((pathV Q).drop 0 |>.take 8) = pathV Q := fun Q => by rw [List.drop_zero, List.take_of_length_le (by rw [pathV_len]; exact Nat.le_refl _)]
    simp only [gv, List.getD_cons_zero, List.getD_cons_succ, bop_i64_lss, bd_some, bv_bool, lcs_agg, hlt, Bool.false_eq_true, if_false, hl, pathV_len]
    rw [if_pos (by first | trivial | rfl), if_pos (by omega)]
    have : ∀ Q, setR r0 0 (pathV Q) = pathV Q := fun Q => by
      rw [setR_eq (by rw [pathV_len]; omega), List.take_zero, List.nil_append, pathV_len, List.drop_of_length_le (by omega), List.append_nil]
    rw [this, hl]
  | succ d ih =>
    intro k M h h1 h2 hr'
    obtain ⟨M, rfl⟩ : ∃ M', M = M' + 1 := ⟨M - 1, by omega⟩
    have hk : k < 8 := by omega
    obtain ⟨x, hx, hxb⟩ := hP k hk
    have hlt : decide ((k : Int) < (T : Int)) = true := by simp; omega
    have hone := hr'.one x hx k
    rw [hxb] at hone
    obtain ⟨w1, r1⟩ := hr'.write hu hk (putN N u.b P k (P k) k) hone
    obtain ⟨w2, r2⟩ := r1.write hx hk (.ptr u.b 0) rfl
    rw [hxb] at w2 r2
    have hg : (pathV (fun j => if j < k then u.b else P j))[k]? = some (.ptr (P k) 0) := by rw [pathV_get _ hk, if_neg (by omega)]
    have hrd : cellsP h (.ptr (P k) (2 + k)) = some (x.cells (putN N u.b P k), 10 + x.post.length, 2 + k) := by rw [← hxb]; exact hr'.read hx _
    have hgx : (x.cells (putN N u.b P k))[2 + k]? = some (putN N u.b P k (P k) k) := by rw [x.get _ hk, hxb]
    obtain ⟨h', e, b1, b2, b3⟩ := ih (k + 1) M _ (by omega) (by omega) r2
    have hset : (pathV (fun j => if j < k then u.b else P j)).set k (.ptr u.b 0) = pathV (fun j => if j < k + 1 then u.b else P j) := by
      rw [pathV_set _ hk]
      congr 1
      funext j
      by_cases e1 : j = k
      · rw [if_pos e1, if_pos (by omega)]
      · rw [if_neg e1]
        by_cases e2 : j < k
        · rw [if_pos e2, if_pos (by omega)]
        · rw [if_neg e2, if_neg (by omega)]
    refine ⟨h', ?_, b1, by rw [b2, List.length_set, List.length_set], fun i hi => ?_⟩
    · rw [loopx_succ]
      have key : ∀ next, pathPut_l4 n u.b (.int .i64 (T : Int)) [.agg (pathV (fun j => if j < k then u.b else P j)), .agg r0, .int .i64 (k : Int)] h next = next [.agg (pathV (fun j => if j < k + 1 then u.b else P j)), .agg r0, .int .i64 ((k + 1 : Nat) : Int)] ((h.set u.b (.box (10 + u.post.length) (u.cells (updN (putN N u.b P k) u.b k (putN N u.b P k (P k) k))))).set (P k) (.box (10 + x.post.length) (x.cells (updN (updN (putN N u.b P k) u.b k (putN N u.b P k (P k) k)) (P k) k (.ptr u.b 0))))) := by
        intro next
        unfold pathPut_l4
        simp only [gv, List.getD_cons_zero, List.getD_cons_succ, bop_i64_lss, bd_some, bv_bool, lcs_agg, hlt, if_true, nv_int, addP_ptr, Nat.mul_one, Nat.zero_add, hg, hrd, bd3_some, hgx, hone, List.length_cons, List.length_nil, w1, w2, bd2_some, setR_one, hset, bop_i64_add, step64 (show k < lim by unfold lim; omega)]
        rw [if_pos hk, if_pos (by omega), if_pos hk, if_pos (by omega), if_pos hk, if_pos hk, if_pos (by omega), if_pos hk, if_pos hk, if_pos (by first | exact ⟨trivial, by omega⟩ | omega)]
      rw [key]
      exact e
    · rw [b3 i hi, List.getElem?_set_ne (by rw [← hxb]; exact hi x hx), List.getElem?_set_ne (hi u hu)]
/-- put -/
theorem put_call (n : Nat) {h : Heap} {ns : List Nd} {N : Nx} (r : Rep h ns N) (u : Nd) (hu : u ∈ ns) {T : Nat} (hut : u.ht = (T : Int)) (hT : T ≤ 8) (P : Nat → Nat) (hP : ∀ k, k < 8 → ∃ x ∈ ns, x.b = P k) (hne : ∀ k, P k ≠ u.b) (hn : 8 < n) :
    ∃ h', call (n + 1) 43 [.agg (pathV P), .ptr u.b 0] h = some (.ret [.agg (pathV (fun j => if j < T then u.b else P j))], h') ∧ Rep h' ns (putN N u.b P T) ∧ h'.length = h.length ∧ ∀ i, (∀ x ∈ ns, x.b ≠ i) → h'[i]? = h[i]? := by
  obtain ⟨h', e, b1, b2, b3⟩ := put_loop n u hu P hP hne N T hT [V.val (.pointer none), V.val (.pointer none), V.val (.pointer none), V.val (.pointer none), V.val (.pointer none), V.val (.pointer none), V.val (.pointer none), V.val (.pointer none)] rfl T 0 n h (by omega) (by omega) r
  refine ⟨h', ?_, b1, b2, b3⟩
  rw [pathPut_eq]
  unfold pathPut
  rw [if_pos (by first | rfl | exact pathV_len P), r.read hu, bd3_some, if_pos (by omega), u.get1, bd_some, hut]
  have e0 : (fun j => if j < 0 then u.b else P j) = P := by funext j; rw [if_neg (by omega)]
  rw [e0] at e
  exact e
/-- a list that skips lies there -/
def nds (s : Nat) (many most : Int) (ts : List Tw) : List Nd := ndH s many most :: ts.map ndT
structure SkAt (h : Heap) (s : Nat) (ts : List Tw) (most : Int) (N : Nx) : Prop where
  rep : Rep h (nds s (ts.length : Int) most ts) N
  lk : Linked s ts N
  up : Rise ts
  ht : ∀ t ∈ ts, 1 ≤ t.ht ∧ t.ht ≤ 8
theorem nds_bs (s : Nat) (many most : Int) (ts : List Tw) : (nds s many most ts).map Nd.b = s :: ts.map Tw.b := by
  unfold nds
  rw [List.map_cons, List.map_map]
  rfl
theorem node_pos {s : Nat} {many most : Int} {ts : List Tw} {i : Nat} (hi : i ≤ ts.length) : ∃ x ∈ nds s many most ts, x.b = posB s ts i := by
  cases i with
  | zero => exact ⟨_, List.mem_cons_self .., rfl⟩
  | succ i =>
    obtain ⟨t, ht⟩ : ∃ t, ts[i]? = some t := ⟨_, List.getElem?_eq_getElem (by omega)⟩
    exact ⟨ndT t, List.mem_cons_of_mem _ (List.mem_map_of_mem (List.mem_of_getElem? ht)), by simp only [posB, getD_some ht]; rfl⟩
theorem onlev_down {ts : List Tw} {k k' i : Nat} (h : k' ≤ k) (ho : OnLev ts k i) : OnLev ts k' i := by
  cases i with
  | zero => trivial
  | succ i => obtain ⟨t, ht, hk⟩ := ho; exact ⟨t, ht, by omega⟩
theorem on_same1 : @pathOn_l61 = @pathOn_l18 := rfl
theorem on_same2 : @pathOn_l95 = @pathOn_l18 := rfl
theorem on_walk (n : Nat) {h : Heap} {s : Nat} {ts : List Tw} {many most : Int} {N : Nx} (r : Rep h (nds s many most ts) N) (lk : Linked s ts N) (up : Rise ts) (v : Int) {k : Nat} (hk : k < 8) (cs r0 : List V) (hcs : cs.length = 8) (last : V) (next3 : List V → Heap → Option (Res × Heap)) (sv0 sv1 : V) : ∀ (d i M : Nat), i + d = ts.length + 1 → d < M + 1 → i ≤ upTo ts v → OnLev ts k i → 0 < M →
    loopx M (pathOn_l18 n v [sv0, sv1, last, .int .i64 (k : Int)] next3) [.agg cs, .agg r0, .ptr (posB s ts i) 0, nx k (ts.drop i)] h = next3 [.agg (cs.set k (.ptr (posB s ts (lastP ts k (upTo ts v))) 0)), .agg r0, .ptr (posB s ts (lastP ts k (upTo ts v))) 0, .int .i64 (IntKind.i64.wrap ((k : Int) - 1))] h := by
  intro d
  induction d using Nat.strongRecOn with
  | _ d ih =>
  intro i M h1 h2 h3 h4 hM
  obtain ⟨M, rfl⟩ : ∃ M', M = M' + 1 := ⟨M - 1, by omega⟩
  have hul := upTo_le ts v
  have hend : (∀ m t, i ≤ m → m < upTo ts v → ts[m]? = some t → ¬ k < t.ht) → lastP ts k (upTo ts v) = i := fun hn => lastP_of h4 _ h3 hul hn
  rw [loopx_succ]
  rcases fst_drop (k := k) (ts := ts) i with ⟨f1, f2⟩ | ⟨m, t, f1, f2, f3, f4, f5⟩
  · have hl := hend fun m t a1 a2 a3 => f2 m t a1 a3
    have hnx : nx k (ts.drop i) = V.val (.pointer none) := by unfold nx; rw [f1]; rfl
    rw [hl, hnx]
    have key : ∀ next21, pathOn_l18 n v [sv0, sv1, last, .int .i64 (k : Int)] next3 [.agg cs, .agg r0, .ptr (posB s ts i) 0, .val (.pointer none)] h next21 = next3 [.agg (cs.set k (.ptr (posB s ts i) 0)), .agg r0, .ptr (posB s ts i) 0, .int .i64 (IntKind.i64.wrap ((k : Int) - 1))] h := by
      intro next21
      unfold pathOn_l18
      simp only [gv, List.getD_cons_zero, List.getD_cons_succ, bop_tw_nil, bd_some, bv_bool, Bool.false_eq_true, if_false, nv_int, lcs_agg, V.cells, List.length_cons, List.length_nil, Nat.mul_one, setR_one, bop_i64_sub]
      rw [if_pos hk, if_pos (by first | trivial | rfl), if_pos (by first | exact ⟨trivial, by omega⟩ | omega)]
    rw [key]
  · have hnx : nx k (ts.drop i) = V.ptr t.b 0 := by unfold nx; rw [f4]
    have hmem : ndT t ∈ nds s many most ts := List.mem_cons_of_mem _ (List.mem_map_of_mem (List.mem_of_getElem? f2))
    have hrd := r.read hmem
    have hrd0 : ∀ o, cellsP h (.ptr t.b o) = some ((ndT t).cells N, 10, o) := fun o => hrd o
    have hml := (List.getElem?_eq_some_iff.1 f2).1
    rw [hnx]
    by_cases hv : t.v ≤ v
    · have hmu : m < upTo ts v := (upTo_iff up v f2).2 hv
      have hgx : ((ndT t).cells N)[2 + k]? = some (nx k (ts.drop (m + 1))) := by
        rw [(ndT t).get _ hk]
        have := lk.tw m t k f2 hk
        rw [if_pos f3] at this
        rw [← this]; rfl
      have hp : posB s ts (m + 1) = t.b := by simp only [posB, getD_some f2]
      have IH := ih (ts.length + 1 - (m + 1)) (by omega) (m + 1) M (by omega) (by omega) (by omega) ⟨t, f2, f3⟩ (by omega)
      rw [hp] at IH
      have key : ∀ next21, pathOn_l18 n v [sv0, sv1, last, .int .i64 (k : Int)] next3 [.agg cs, .agg r0, .ptr (posB s ts i) 0, .ptr t.b 0] h next21 = next21 [.agg cs, .agg r0, .ptr t.b 0, nx k (ts.drop (m + 1))] h := by
        intro next21
        unfold pathOn_l18
        simp only [gv, List.getD_cons_zero, List.getD_cons_succ, bop_tw_ptr, bd_some, bv_bool, if_true, addP_ptr, Nat.zero_add, Nat.add_zero, Nat.mul_one, hrd0, bd3_some, Nd.get0, bop_i32_leq, nv_int, hgx, lcs_agg]
        rw [if_pos (by omega), if_pos (by exact decide_eq_true hv), if_pos hk, if_pos (by omega)]
      rw [key]
      exact IH
    · have hmu : ¬ m < upTo ts v := fun h => hv ((upTo_iff up v f2).1 h)
      have hl := hend fun m' t' a1 a2 a3 => f5 m' t' a1 (by omega) a3
      rw [hl]
      have key : ∀ next21, pathOn_l18 n v [sv0, sv1, last, .int .i64 (k : Int)] next3 [.agg cs, .agg r0, .ptr (posB s ts i) 0, .ptr t.b 0] h next21 = next3 [.agg (cs.set k (.ptr (posB s ts i) 0)), .agg r0, .ptr (posB s ts i) 0, .int .i64 (IntKind.i64.wrap ((k : Int) - 1))] h := by
        intro next21
        unfold pathOn_l18
        simp only [gv, List.getD_cons_zero, List.getD_cons_succ, bop_tw_ptr, bd_some, bv_bool, if_true, addP_ptr, Nat.zero_add, Nat.add_zero, Nat.mul_one, hrd0, bd3_some, Nd.get0, bop_i32_leq, nv_int, lcs_agg, V.cells, List.length_cons, List.length_nil, setR_one, bop_i64_sub]
        rw [if_pos (by omega), if_neg (by exact fun e => hv (of_decide_eq_true e)), if_pos hk, if_pos (by first | exact ⟨trivial, by omega⟩ | omega)]
      rw [key]
theorem path_full (Q : Nat → Nat) (r0 : List V) (hr : r0.length = 8) : (((setR r0 0 ((pathV Q).drop 0 |>.take 8))).drop 0 |>.take 8) = pathV Q := by
  have hl : ((pathV Q).drop 0 |>.take 8) = pathV Q := by rw [List.drop_zero, List.take_of_length_le (by rw [pathV_len]; exact Nat.le_refl _)]
  have : setR r0 0 (pathV Q) = pathV Q := by
    rw [setR_eq (by rw [pathV_len]; omega), List.take_zero, List.nil_append, pathV_len, List.drop_of_length_le (by omega), List.append_nil]
  rw [hl, this, hl]
theorem path_take (Q : Nat → Nat) : ((pathV Q).drop 0 |>.take 8) = pathV Q := by rw [List.drop_zero, List.take_of_length_le (by rw [pathV_len]; exact Nat.le_refl _)]
/-- on -/
theorem on_loop (n : Nat) {h : Heap} {s : Nat} {ts : List Tw} {many most : Int} {N : Nx} (r : Rep h (nds s many most ts) N) (lk : Linked s ts N) (up : Rise ts) (v : Int) (Q : Nat → Nat) (hQ : ∀ k, k < 8 → Q k ≤ upTo ts v ∧ OnLev ts k (Q k)) (r0 : List V) (hr : r0.length = 8) (hn : ts.length < n) : ∀ (c M : Nat) (last : V), c ≤ 8 → c < M →
    ((last = .val (.pointer none) ∧ c = 8) ∨ ∃ i, last = .ptr (posB s ts i) 0 ∧ i ≤ upTo ts v ∧ OnLev ts c i) →
    loopx M (pathOn_l0 (n + 1) v) [.agg (pathV (fun k => if c ≤ k then posB s ts (lastP ts k (upTo ts v)) else posB s ts (Q k))), .agg r0, last, .int .i64 ((c : Int) - 1)] h = some (.ret [.agg (pathV (fun k => posB s ts (lastP ts k (upTo ts v))))], h) := by
  intro c
  induction c with
  | zero =>
    intro M last h1 h2 h3
    obtain ⟨M, rfl⟩ : ∃ M', M = M' + 1 := ⟨M - 1, by omega⟩
    rw [loopx_succ]
    unfold pathOn_l0
    have hlt : decide ((((0 : Nat) : Int) - 1) ≥ 0) = false := by decide
    have e : (fun k => if 0 ≤ k then posB s ts (lastP ts k (upTo ts v)) else posB s ts (Q k)) = fun k => posB s ts (lastP ts k (upTo ts v)) := by funext k; rw [if_pos (Nat.zero_le _)]
    simp only [gv, List.getD_cons_zero, List.getD_cons_succ, bop_i64_geq, bd_some, bv_bool, hlt, Bool.false_eq_true, if_false, lcs_agg, e, path_full _ r0 hr]
    simp only [path_take, pathV_len]
    rw [if_pos (by first | trivial | rfl), if_pos (by omega)]
  | succ k ih =>
    intro M last h1 h2 h3
    obtain ⟨M, rfl⟩ : ∃ M', M = M' + 1 := ⟨M - 1, by omega⟩
    have hk : k < 8 := by omega
    have hul := upTo_le ts v
    have hge : decide ((((k + 1 : Nat) : Int) - 1) ≥ 0) = true := by simp
    have hki : (((k + 1 : Nat) : Int) - 1) = (k : Int) := by omega
    have hwr : IntKind.i64.wrap ((k : Int) - 1) = (k : Int) - 1 := by rw [w64] <;> omega
    obtain ⟨q1, q2⟩ := hQ k hk
    have hpk : (pathV (fun j => if k + 1 ≤ j then posB s ts (lastP ts j (upTo ts v)) else posB s ts (Q j)))[k]? = some (.ptr (posB s ts (Q k)) 0) := by rw [pathV_get _ hk, if_neg (by omega)]
    have hstep : (pathV (fun j => if k + 1 ≤ j then posB s ts (lastP ts j (upTo ts v)) else posB s ts (Q j))).set k (.ptr (posB s ts (lastP ts k (upTo ts v))) 0) = pathV (fun j => if k ≤ j then posB s ts (lastP ts j (upTo ts v)) else posB s ts (Q j)) := by
      rw [pathV_set _ hk]
      congr 1
      funext j
      by_cases e1 : j = k
      · rw [if_pos e1, if_pos (by omega), e1]
      · rw [if_neg e1]
        by_cases e2 : k + 1 ≤ j
        · rw [if_pos e2, if_pos (by omega)]
        · rw [if_neg e2, if_neg (by omega)]
    have hon : OnLev ts k (lastP ts k (upTo ts v)) := lastP_on ts k _ hul
    have IH := ih M (.ptr (posB s ts (lastP ts k (upTo ts v))) 0) (by omega) (by omega) (.inr ⟨_, rfl, lastP_le ts k _, hon⟩)
    have walk : ∀ i, i ≤ upTo ts v → OnLev ts k i → ∀ lst, loopx (n + 1) (pathOn_l18 (n + 1) v [.agg (pathV (fun j => if k + 1 ≤ j then posB s ts (lastP ts j (upTo ts v)) else posB s ts (Q j))), .agg r0, lst, .int .i64 (k : Int)] (loopx M (pathOn_l0 (n + 1) v))) [.agg (pathV (fun j => if k + 1 ≤ j then posB s ts (lastP ts j (upTo ts v)) else posB s ts (Q j))), .agg r0, .ptr (posB s ts i) 0, nx k (ts.drop i)] h = some (.ret [.agg (pathV (fun k => posB s ts (lastP ts k (upTo ts v))))], h) := fun i hi hi2 lst => by
      rw [on_walk (n + 1) r lk up v hk _ r0 (pathV_len _) lst _ _ _ (ts.length + 1 - i) i (n + 1) (by omega) (by omega) hi hi2 (by omega), hstep, hwr]
      exact IH
    have rdQ : ∀ i, i ≤ upTo ts v → OnLev ts k i → ∃ cs m, cellsP h (.ptr (posB s ts i) (2 + k)) = some (cs, m, 2 + k) ∧ 2 + k + 1 ≤ m ∧ cs[2 + k]? = some (nx k (ts.drop i)) := fun i hi hi2 => by
      obtain ⟨x, hx, hxb⟩ := node_pos (s := s) (many := many) (most := most) (ts := ts) (i := i) (by omega)
      refine ⟨x.cells N, 10 + x.post.length, by rw [← hxb]; exact r.read hx _, by omega, ?_⟩
      rw [x.get _ hk, hxb, lk.at_ hk hi2]
    obtain ⟨cs, m, c1, c2, c3⟩ := rdQ (Q k) q1 q2
    rw [loopx_succ, hki]
    rcases h3 with ⟨rfl, h8⟩ | ⟨i, rfl, i1, i2⟩
    · have key : ∀ next, pathOn_l0 (n + 1) v [.agg (pathV (fun j => if k + 1 ≤ j then posB s ts (lastP ts j (upTo ts v)) else posB s ts (Q j))), .agg r0, .val (.pointer none), .int .i64 (k : Int)] h next = loopx (n + 1) (pathOn_l18 (n + 1) v [.agg (pathV (fun j => if k + 1 ≤ j then posB s ts (lastP ts j (upTo ts v)) else posB s ts (Q j))), .agg r0, .val (.pointer none), .int .i64 (k : Int)] next) [.agg (pathV (fun j => if k + 1 ≤ j then posB s ts (lastP ts j (upTo ts v)) else posB s ts (Q j))), .agg r0, .ptr (posB s ts (Q k)) 0, nx k (ts.drop (Q k))] h := by
        intro next
        unfold pathOn_l0
        simp only [gv, List.getD_cons_zero, List.getD_cons_succ, bop_i64_geq, bd_some, bv_bool]
        rw [if_pos (decide_eq_true (Int.natCast_nonneg k)), bop_tw_nil', bd_some, bv_bool, if_pos rfl]
        simp only [nv_int, bd_some, lcs_agg, Nat.mul_one, hpk, addP_ptr, Nat.zero_add, Nat.add_zero, c1, bd3_some, c3]
        rw [if_pos hk, if_pos (by omega), if_pos hk, if_pos (by omega)]
      rw [key]
      exact walk (Q k) q1 q2 _
    · have i2' := onlev_down (k' := k) (by omega) i2
      obtain ⟨ds, m', d1, d2, d3⟩ := rdQ i i1 i2'
      obtain ⟨x, hx, hxb⟩ := node_pos (s := s) (many := many) (most := most) (ts := ts) (i := Q k) (by omega)
      obtain ⟨y, hy, hyb⟩ := node_pos (s := s) (many := many) (most := most) (ts := ts) (i := i) (by omega)
      obtain ⟨b, hb⟩ := further_call n r hx hy
      rw [hxb, hyb] at hb
      have key : ∀ next, pathOn_l0 (n + 1) v [.agg (pathV (fun j => if k + 1 ≤ j then posB s ts (lastP ts j (upTo ts v)) else posB s ts (Q j))), .agg r0, .ptr (posB s ts i) 0, .int .i64 (k : Int)] h next = loopx (n + 1) (pathOn_l18 (n + 1) v [.agg (pathV (fun j => if k + 1 ≤ j then posB s ts (lastP ts j (upTo ts v)) else posB s ts (Q j))), .agg r0, .ptr (posB s ts i) 0, .int .i64 (k : Int)] next) [.agg (pathV (fun j => if k + 1 ≤ j then posB s ts (lastP ts j (upTo ts v)) else posB s ts (Q j))), .agg r0, .ptr (posB s ts (if b then Q k else i)) 0, nx k (ts.drop (if b then Q k else i))] h := by
        intro next
        unfold pathOn_l0
        simp only [gv, List.getD_cons_zero, List.getD_cons_succ, bop_i64_geq, bd_some, bv_bool]
        rw [if_pos (decide_eq_true (Int.natCast_nonneg k)), bop_tw_ptr', bd_some, bv_bool, if_neg (by decide)]
        simp only [nv_int, bd_some, lcs_agg, Nat.mul_one, hpk]
        rw [if_pos hk, if_pos (by omega), hb, cl_ret, one1_one, bv_bool]
        cases b with
        | true =>
          rw [if_pos rfl]
          simp only [nv_int, bd_some, lcs_agg, Nat.mul_one, hpk, addP_ptr, Nat.zero_add, Nat.add_zero, c1, bd3_some, c3, if_true, on_same1]
          rw [if_pos hk, if_pos (by omega), if_pos hk, if_pos (by omega)]
        | false =>
          rw [if_neg (by decide)]
          simp only [nv_int, bd_some, lcs_agg, Nat.mul_one, addP_ptr, Nat.zero_add, Nat.add_zero, d1, bd3_some, d3, Bool.false_eq_true, if_false, on_same2]
          rw [if_pos hk, if_pos (by omega)]
      rw [key]
      cases b with
      | true => exact walk (Q k) q1 q2 _
      | false => exact walk i i1 i2' _
theorem on_call (n : Nat) {h : Heap} {s : Nat} {ts : List Tw} {many most : Int} {N : Nx} (r : Rep h (nds s many most ts) N) (lk : Linked s ts N) (up : Rise ts) (v : Int) (Q : Nat → Nat) (hQ : ∀ k, k < 8 → Q k ≤ upTo ts v ∧ OnLev ts k (Q k)) (hn : ts.length + 8 < n) :
    call (n + 2) 42 [.agg (pathV (fun k => posB s ts (Q k))), .int .i32 v] h = some (.ret [.agg (pathV (fun k => posB s ts (lastP ts k (upTo ts v))))], h) := by
  rw [show n + 2 = (n + 1) + 1 from rfl, pathOn_eq]
  unfold pathOn
  rw [if_pos (pathV_len _)]
  have e := on_loop n r lk up v Q hQ [V.val (.pointer none), V.val (.pointer none), V.val (.pointer none), V.val (.pointer none), V.val (.pointer none), V.val (.pointer none), V.val (.pointer none), V.val (.pointer none)] rfl (by omega) 8 (n + 1) (.val (.pointer none)) (by omega) (by omega) (.inl ⟨rfl, rfl⟩)
  have e0 : pathV (fun k => if 8 ≤ k then posB s ts (lastP ts k (upTo ts v)) else posB s ts (Q k)) = pathV (fun k => posB s ts (Q k)) := by
    unfold pathV
    apply List.map_congr_left
    intro k hk
    have := List.mem_range.1 hk
    simp only
    rw [if_neg (by omega)]
  rw [e0] at e
  exact e
end Go.Proofs.Try
