import Derived.Test.YtodgpfffnnlbhaaKu
/-! skip by contract: Level, Items -/
set_option linter.unusedVariables false
set_option linter.unusedSimpArgs false
namespace Go.Sk
open Go.L
/-- values on a level -/
def lvV (k : Nat) (ts : List Tw) : List Int := (ts.filter fun t => decide (k < t.ht)).map Tw.v
theorem lvV_step {k : Nat} {ts : List Tw} {i m : Nat} {t : Tw} (h1 : i ≤ m) (h2 : ts[m]? = some t) (h3 : k < t.ht) (h5 : ∀ m' t', i ≤ m' → m' < m → ts[m']? = some t' → ¬ k < t'.ht) : lvV k (ts.drop i) = t.v :: lvV k (ts.drop (m + 1)) := by
  obtain ⟨d, rfl⟩ : ∃ d, m = i + d := ⟨m - i, by omega⟩
  induction d generalizing i with
  | zero =>
    have hi := (List.getElem?_eq_some_iff.1 h2).1
    rw [Nat.add_zero] at h2 hi
    rw [List.drop_eq_getElem_cons hi]
    rw [List.getElem?_eq_getElem hi] at h2
    rw [Option.some.inj h2]
    simp [lvV, h3]
  | succ d ih =>
    have hm := (List.getElem?_eq_some_iff.1 h2).1
    have hi : i < ts.length := by omega
    have hn := h5 i ts[i] (Nat.le_refl _) (by omega) (List.getElem?_eq_getElem hi)
    have hst : lvV k (ts.drop i) = lvV k (ts.drop (i + 1)) := by
      unfold lvV
      rw [List.drop_eq_getElem_cons hi, List.filter_cons, if_neg (by simpa using hn)]
    have := ih (i := i + 1) (by omega) (by rw [show i + 1 + d = i + (d + 1) by omega]; exact h2) (fun m' t' a b c => h5 m' t' (by omega) (by omega) c)
    rw [show i + 1 + d + 1 = i + (d + 1) + 1 by omega] at this
    rw [hst, this]
theorem lvV_none {k : Nat} {ts : List Tw} {i : Nat} (h : ∀ m t, i ≤ m → ts[m]? = some t → ¬ k < t.ht) : lvV k (ts.drop i) = [] := by
  unfold lvV
  rw [List.map_eq_nil_iff, List.filter_eq_nil_iff]
  intro t ht
  obtain ⟨m, hm⟩ := List.mem_iff_getElem?.1 ht
  rw [List.getElem?_drop] at hm
  simpa using h (i + m) t (by omega) hm
end Go.Sk
namespace Go.Proofs.Try
open Go.L Go.Rp Go.Sk
set_option maxRecDepth 100000
/-- numbers that are gathered -/
def OutAt (h : Heap) (c : Nat) (ob : Option Nat) (l : List Int) : Prop := match ob with
  | none => l = [] ∧ h[c]? = some (.box 1 [.sl 0 [] true])
  | some b => b ≠ c ∧ ∃ z, h[c]? = some (.box 1 [.row b 1 0 l.length]) ∧ h[b]? = some (.row 21 1 (l.map (intV .i32)) z)
/-- numbers as a slice that may be nil -/
def SlI (h : Heap) (lo : Nat) (r : V) (l : List Int) : Prop := (r = .sl 0 [] true ∧ l = []) ∨ ∃ b z, lo ≤ b ∧ r = .row b 1 0 l.length ∧ h[b]? = some (.row 21 1 (l.map (intV .i32)) z)
theorem lv_nodf : noDfC (rfAs (bodyF f40)) = true ∧ noDfC (rfBd (bodyF f40)) = true := ⟨by kernel_rfl, by kernel_rfl⟩
theorem lv_cond : ((mutF prog 84).isNone && (noDfC (rfAs (bodyF f40)) && noDfC (rfBd (bodyF f40)))) = true := by kernel_rfl
def lvFr (y0 y1 y4 : Option V) (x5 : Nat) (y7 y8 y9 y10 y11 y12 y13 y14 y15 y16 y17 y18 y19 : Option V) : List (Option V) := [y0, y1, none, none, y4, some (V.ptr x5 0), none, y7, y8, y9, y10, y11, y12, y13, y14, y15, y16, y17, y18, y19, none, none, none, none, none, none, none, none, none]
/-- the loop of Level -/
noncomputable def lvLoop (D : Nat) (fr : List (Option V)) (st : LSt) : HB := .loop D true fr [20] (rfAs (bodyF f40)) (rfBd (bodyF f40)) st
theorem rnd_at_v (n : Nat) {h : Heap} {b D : Nat} {vc : Bool} {fr : List (Option V)} {ps : List Nat} {ca cb : Code} (hb : h[b]? = some (.loop D vc fr ps ca cb .ready)) (ys : List V) (hl : ys.length = ps.length) (h1 : noDfC ca = true) (h2 : noDfC cb = true) : rnd n b ys h = roundE prog (call n) keepS pureS n (L.textDraws prog) vc fr ps ca cb b ys h := by
  unfold rnd L.roundX
  rw [hb]
  simp only [lpR]
  rw [if_pos ⟨hl, h1, h2⟩]
section
variable {y0 y1 y4 y7 y8 y9 y10 y11 y12 y13 y14 y15 y16 y17 y18 y19 : Option V}
theorem lv_round (n : Nat) {h : Heap} {b D x5 : Nat} (hb : h[b]? = some (lvLoop D (lvFr y0 y1 y4 x5 y7 y8 y9 y10 y11 y12 y13 y14 y15 y16 y17 y18 y19) .ready)) (z : V) : rnd n b [z] h = skipLevel_r n x5 b z h :=
  (rnd_at_v n hb [z] rfl lv_nodf.1 lv_nodf.2).trans (skipLevel_r_eq n y0 y1 y4 x5 y7 y8 y9 y10 y11 y12 y13 y14 y15 y16 y17 y18 y19 b z h)
/-- while Level's loop is on -/
structure LvAt (h hh : Heap) (k : Int) (s : Nat) (l : List Int) (fr : List (Option V)) : Prop where
  len : h.length + 6 ≤ hh.length
  old : ∀ i, i < h.length → hh[i]? = h[i]?
  p0 : hh[h.length]? = some (.box 1 [.ptr s 0])
  p1 : hh[h.length + 1]? = some (.box 1 [.int .i64 k])
  out : ∃ ob, OutAt hh (h.length + 2) ob l ∧ ∀ b, ob = some b → h.length + 6 ≤ b
  df : hh[h.length + 4]? = some .defb
  lp : hh[h.length + 5]? = some (lvLoop (h.length + 4) fr .ready)
theorem bsl_i32 (x : Int) : bslV prog 39 1 [(0, .int .i32 x)] = some (1, [[.int .i32 x]]) := by kernel_rfl
theorem set_back2 {α : Type} (h : List α) (b : Nat) (y z : α) (hb : h[b]? = some z) : (h.set b y).set b z = h := by
  rw [List.set_set]
  apply List.ext_getElem?
  intro i
  rw [List.getElem?_set]
  split
  · rename_i e; subst e; rw [if_pos (List.getElem?_eq_some_iff.1 hb).1, hb]
  · rfl
theorem lv_step (n : Nat) {h hh : Heap} {k : Int} {s : Nat} {l : List Int} (L : LvAt h hh k s l (lvFr y0 y1 y4 (h.length + 2) y7 y8 y9 y10 y11 y12 y13 y14 y15 y16 y17 y18 y19)) {x : Nd} {N : Nx} (hx : NodeAt h N x) (hl : l.length + 1 < lim) :
    ∃ hh', rnd n (h.length + 5) [.ptr x.b 0] hh = some (true, hh') ∧ LvAt h hh' k s (l ++ [x.v]) (lvFr y0 y1 y4 (h.length + 2) y7 y8 y9 y10 y11 y12 y13 y14 y15 y16 y17 y18 y19) := by
  rw [lv_round n L.lp]
  have hlen := L.len
  have hxb : x.b < h.length := lt_of_at hx
  unfold skipLevel_r
  rw [L.lp]
  simp only [lvLoop, lpR]
  generalize hbusy : HB.loop (h.length + 4) true (lvFr y0 y1 y4 (h.length + 2) y7 y8 y9 y10 y11 y12 y13 y14 y15 y16 y17 y18 y19) [20] (rfAs (bodyF f40)) (rfBd (bodyF f40)) .busy = B
  obtain ⟨G, hG⟩ : ∃ G, G = hh.set (h.length + 5) B := ⟨_, rfl⟩
  rw [← hG]
  have hGl : G.length = hh.length := by rw [hG, List.length_set]
  have hGo : ∀ i, i ≠ h.length + 5 → G[i]? = hh[i]? := fun i hi => by rw [hG, List.getElem?_set_ne (Ne.symm hi)]
  have hGb : G[h.length + 5]? = some B := by rw [hG]; exact set_at (by omega) _
  have hGx : cellsP G (.ptr x.b 0) = some (x.cells N, 10 + x.post.length, 0) := by
    refine cellsP_box ?_ 0
    rw [hGo _ (by omega), L.old _ hxb]
    exact hx
  obtain ⟨ob, O, hob⟩ := L.out
  have fin : ∀ (G2 : Heap) (v : V) (b' : Nat) (z : Bool), G2.length = G.length + 1 → b' = G.length → v = .row b' 1 0 (l.length + 1) → G2[b']? = some (.row 21 1 ((l ++ [x.v]).map (intV .i32)) z) → (∀ i, i < h.length + 6 → G2[i]? = G[i]?) →
      ∃ hh', lpB (((G2.set (h.length + 2) (.box 1 [v]))[h.length + 5]?)) (fun eD eV eF eP eA eB => some (true, (G2.set (h.length + 2) (.box 1 [v])).set (h.length + 5) (HB.loop eD eV eF eP eA eB .ready))) = some (true, hh') ∧ LvAt h hh' k s (l ++ [x.v]) (lvFr y0 y1 y4 (h.length + 2) y7 y8 y9 y10 y11 y12 y13 y14 y15 y16 y17 y18 y19) := fun G2 v b' z e1 e2 e3 e4 e5 => by
    have hb5 : (G2.set (h.length + 2) (.box 1 [v]))[h.length + 5]? = some B := by rw [List.getElem?_set_ne (by omega), e5 _ (by omega)]; exact hGb
    rw [hb5, ← hbusy]
    simp only [lpB]
    have hoth : ∀ i, i ≠ h.length + 5 → i ≠ h.length + 2 → ((G2.set (h.length + 2) (.box 1 [v])).set (h.length + 5) (HB.loop (h.length + 4) true (lvFr y0 y1 y4 (h.length + 2) y7 y8 y9 y10 y11 y12 y13 y14 y15 y16 y17 y18 y19) [20] (rfAs (bodyF f40)) (rfBd (bodyF f40)) .ready))[i]? = G2[i]? := fun i h1 h2 => by
      rw [List.getElem?_set_ne (Ne.symm h1), List.getElem?_set_ne (Ne.symm h2)]
    refine ⟨_, rfl, ⟨by rw [List.length_set, List.length_set]; omega, fun i hi => ?_, ?_, ?_, ⟨some b', ⟨by omega, z, ?_, ?_⟩, fun b hb => by cases hb; omega⟩, ?_, ?_⟩⟩
    · rw [hoth i (by omega) (by omega), e5 i (by omega), hGo i (by omega), L.old i hi]
    · rw [hoth _ (by omega) (by omega), e5 _ (by omega), hGo _ (by omega), L.p0]
    · rw [hoth _ (by omega) (by omega), e5 _ (by omega), hGo _ (by omega), L.p1]
    · rw [List.getElem?_set_ne (by omega), set_at (by omega), e3, List.length_append]; rfl
    · rw [hoth _ (by omega) (by omega)]; exact e4
    · rw [hoth _ (by omega) (by omega), e5 _ (by omega), hGo _ (by omega), L.df]
    · exact set_at (by rw [List.length_set]; omega) _
  have hx0 : (x.cells N)[0]? = some (.int .i32 x.v) := x.get0 N
  cases ob with
  | none =>
    obtain ⟨rfl, hc⟩ := O
    have hc' : G[h.length + 2]? = some (.box 1 [.sl 0 [] true]) := by rw [hGo _ (by omega)]; exact hc
    have happ : appP 21 1 G [[.int .i32 x.v]] (.sl 0 [] true) = some (.row G.length 1 0 1, G ++ [.row 21 1 [[.int .i32 x.v]] true]) := rfl
    have hw : writeB (G ++ [.row 21 1 [[.int .i32 x.v]] true]) [.row G.length 1 0 1] (.ptr (h.length + 2) 0) = some (h.length + 2, .box 1 [.row G.length 1 0 1]) := by
      rw [writeB_box (n := 1) (cs := [.sl 0 [] true]) (by rw [List.getElem?_append_left (by omega)]; exact hc') (by simp)]; rfl
    rw [cellsP_box hc', bd3_some, if_pos (by decide)]
    simp only [List.getElem?_cons_zero, bd_some]
    rw [addP_ptr, bd_some, Nat.add_zero, addP_ptr, bd_some, Nat.add_zero, hGx, bd3_some, if_pos (by omega), hx0, bd_some, bsl_i32, bd_some, happ, bd2_some]
    simp only [V.cells, List.length_cons, List.length_nil, Nat.zero_add, if_true]
    rw [hw, bd2_some]
    exact fin _ _ G.length true (by simp) rfl rfl (by rw [List.getElem?_concat_length]; rfl) (fun i hi => by rw [List.getElem?_append_left (by omega)])
  | some b0 =>
    obtain ⟨o1, z, hc, hr⟩ := O
    have hb0 := hob b0 rfl
    have hc' : G[h.length + 2]? = some (.box 1 [.row b0 1 0 l.length]) := by rw [hGo _ (by omega)]; exact hc
    have hr' : G[b0]? = some (.row 21 1 (l.map (intV .i32)) z) := by rw [hGo _ (by omega)]; exact hr
    have hb0l := lt_of_at hr'
    have happ : appP 21 1 G [[.int .i32 x.v]] (.row b0 1 0 l.length) = some (.row G.length 1 0 (l.length + 1), G.set b0 .dead ++ [.row 21 1 (l.map (intV .i32) ++ [[.int .i32 x.v]]) (z && 0 == 0)]) := by
      simp only [appP, hr']
      rw [if_pos (by refine ⟨⟨?_, ?_, ?_⟩, ⟨Nat.zero_le _, by simp⟩, by simp; omega⟩ <;> first | trivial | rfl), List.drop_zero, List.take_of_length_le (by simp)]
      simp
    have hw : writeB (G.set b0 .dead ++ [.row 21 1 (l.map (intV .i32) ++ [[.int .i32 x.v]]) (z && 0 == 0)]) [.row G.length 1 0 (l.length + 1)] (.ptr (h.length + 2) 0) = some (h.length + 2, .box 1 [.row G.length 1 0 (l.length + 1)]) := by
      rw [writeB_box (n := 1) (cs := [.row b0 1 0 l.length]) (by rw [List.getElem?_append_left (by rw [List.length_set]; omega), List.getElem?_set_ne (by omega)]; exact hc') (by simp)]; rfl
    rw [cellsP_box hc', bd3_some, if_pos (by decide)]
    simp only [List.getElem?_cons_zero, bd_some]
    rw [addP_ptr, bd_some, Nat.add_zero, addP_ptr, bd_some, Nat.add_zero, hGx, bd3_some, if_pos (by omega), hx0, bd_some, bsl_i32, bd_some, happ, bd2_some]
    simp only [V.cells, List.length_cons, List.length_nil, Nat.zero_add, if_true]
    rw [hw, bd2_some]
    refine fin _ _ G.length (z && 0 == 0) (by simp) rfl rfl ?_ (fun i hi => by rw [List.getElem?_append_left (by rw [List.length_set]; omega), List.getElem?_set_ne (by omega)])
    have : G.length = (G.set b0 .dead).length := by rw [List.length_set]
    rw [this, List.getElem?_concat_length, List.map_append]
    rfl
theorem lv_loop (n : Nat) {h : Heap} {s : Nat} {ts : List Tw} {most : Int} {N : Nx} (S : SkAt h s ts most N) {k : Nat} (hk : k < 8) (hlim : ts.length < lim) : ∀ (d i M : Nat) (hh : Heap) (l : List Int), i + d = ts.length + 1 → d < M + 1 → 0 < M → l.length ≤ i → LvAt h hh ((k + 1 : Nat) : Int) s l (lvFr y0 y1 y4 (h.length + 2) y7 y8 y9 y10 y11 y12 y13 y14 y15 y16 y17 y18 y19) →
    ∃ hh', loopx M (skipLvI_l18 n (h.length + 5) (h.length + 1)) [nx k (ts.drop i)] hh = some (.ret [], hh') ∧ LvAt h hh' ((k + 1 : Nat) : Int) s (l ++ lvV k (ts.drop i)) (lvFr y0 y1 y4 (h.length + 2) y7 y8 y9 y10 y11 y12 y13 y14 y15 y16 y17 y18 y19) := by
  intro d
  induction d using Nat.strongRecOn with
  | _ d ih =>
  intro i M hh l h1 h2 hM hli L
  obtain ⟨M, rfl⟩ : ∃ M', M = M' + 1 := ⟨M - 1, by omega⟩
  rcases fst_drop (k := k) (ts := ts) i with ⟨f1, f2⟩ | ⟨m, t, f1, f2, f3, f4, f5⟩
  · have hnx : nx k (ts.drop i) = V.val (.pointer none) := by unfold nx; rw [f1]; rfl
    refine ⟨hh, ?_, by rw [lvV_none f2, List.append_nil]; exact L⟩
    rw [loopx_succ, hnx]
    unfold skipLvI_l18
    simp only [gv, List.getD_cons_zero, bop_tw_nil, bd_some, bv_bool]
    rw [if_neg (by decide)]
  · have hnx : nx k (ts.drop i) = V.ptr t.b 0 := by unfold nx; rw [f4]
    have hmem : ndT t ∈ nds s (ts.length : Int) most ts := List.mem_cons_of_mem _ (List.mem_map_of_mem (List.mem_of_getElem? f2))
    have hml := (List.getElem?_eq_some_iff.1 f2).1
    obtain ⟨hh1, r1, L1⟩ := lv_step n L (x := ndT t) (S.rep.at_ _ hmem) (by omega)
    obtain ⟨hh2, e, L2⟩ := ih (ts.length + 1 - (m + 1)) (by omega) (m + 1) M hh1 (l ++ [t.v]) (by omega) (by omega) (by omega) (by simp; omega) L1
    refine ⟨hh2, ?_, ?_⟩
    · have htb : t.b < h.length := lt_of_at (S.rep.at_ _ hmem)
      have hrd : cellsP hh1 (.ptr t.b (2 + k)) = some ((ndT t).cells N, 10, 2 + k) := by
        refine cellsP_box ?_ _
        rw [L1.old _ htb]
        exact S.rep.at_ _ hmem
      have hgx : ((ndT t).cells N)[2 + k]? = some (nx k (ts.drop (m + 1))) := by
        rw [(ndT t).get _ hk]
        have := S.lk.tw m t k f2 hk
        rw [if_pos f3] at this
        rw [← this]; rfl
      have hw : IntKind.i64.wrap (((k + 1 : Nat) : Int) - 1) = (k : Int) := by rw [w64] <;> omega
      have r1' : rnd n (h.length + 5) [.ptr t.b 0] hh = some (true, hh1) := r1
      have key : ∀ next, skipLvI_l18 n (h.length + 5) (h.length + 1) [.ptr t.b 0] hh next = next [nx k (ts.drop (m + 1))] hh1 := by
        intro next
        unfold skipLvI_l18
        simp only [gv, List.getD_cons_zero, bop_tw_ptr, bd_some, bv_bool, if_true, r1', bd2_some]
        rw [cellsP_box L1.p1, bd3_some, if_pos (by decide)]
        simp only [List.getElem?_cons_zero, bd_some, bop_i64_sub, hw, addP_ptr, Nat.zero_add, nv_int, Nat.mul_one, hrd, bd3_some, hgx]
        rw [if_pos hk, if_pos (by omega)]
      rw [loopx_succ, hnx, key]
      exact e
    · rw [lvV_step f1 f2 f3 f5, show l ++ t.v :: lvV k (ts.drop (m + 1)) = (l ++ [t.v]) ++ lvV k (ts.drop (m + 1)) by simp]
      exact L2
end
/-- Level: the values of those that are high enough -/
theorem level_call (n : Nat) {h : Heap} {s : Nat} {ts : List Tw} {most : Int} {N : Nx} (S : SkAt h s ts most N) {k : Nat} (hk : k < 8) (hlim : ts.length < lim) (hn : ts.length + 2 < n) :
    ∃ h' r, call (n + 2) 40 [.ptr s 0, .int .i64 ((k + 1 : Nat) : Int)] h = some (.ret [r], h') ∧ SlI h' h.length r (lvV k ts) ∧ h.length ≤ h'.length ∧ ∀ i, i < h.length → h'[i]? = h[i]? := by
  have he := skipLevel_eq (n + 1) s ((k + 1 : Nat) : Int) h
  have hlv : call (n + 1) 64 [.ptr s 0, .int .i64 ((k + 1 : Nat) : Int)] h = some (.ret [.fn 84 [.ptr h.length 0, .ptr (h.length + 1) 0]], h ++ [.box 1 [.ptr s 0], .box 1 [.int .i64 ((k + 1 : Nat) : Int)]]) := by
    refine (skipLv_eq n s _ h).trans ?_
    unfold skipLv
    simp
  have h1 : decide (((k + 1 : Nat) : Int) < 1) = false := by simp; omega
  have h8 : decide (((k + 1 : Nat) : Int) > 8) = false := by simp; omega
  rw [he]
  unfold skipLevel
  rw [bop_sk_nil, bd_some, bv_bool, if_neg (by decide), if_neg (by rw [h1]; decide), if_neg (by rw [h8]; decide), hlv, cl_ret, one1_one]
  simp only [fnK_fn]
  rw [if_pos lv_cond]
  simp only [List.length_append, List.length_cons, List.length_nil, List.append_assoc, List.cons_append, List.nil_append, Nat.add_assoc, Nat.zero_add, Nat.reduceAdd]
  have hS : ∀ (T : List HB) i, (h ++ T)[h.length + i]? = T[i]? := fun T i => by rw [List.getElem?_append_right (by omega), Nat.add_sub_cancel_left]
  obtain ⟨HS, hHS⟩ : ∃ HS : Heap, HS = h ++ [HB.box 1 [V.ptr s 0], HB.box 1 [V.int IntKind.i64 ((k + 1 : Nat) : Int)], HB.box 1 [V.sl 0 [] true], HB.row 21 1 [] true, HB.defb, lvLoop (h.length + 4) (lvFr (some (V.ptr s 0)) (some (V.int IntKind.i64 ((k + 1 : Nat) : Int))) (some (V.row (h.length + 3) 1 0 0)) (h.length + 2) (some (V.ptr s 0)) (some (V.bool false)) (some (V.bool false)) (some (V.int IntKind.i64 ((k + 1 : Nat) : Int))) (some (V.bool (decide (((k + 1 : Nat) : Int) < 1)))) (some (V.bool (decide (((k + 1 : Nat) : Int) < 1)))) (some (V.bool false)) (some (V.int IntKind.i64 ((k + 1 : Nat) : Int))) (some (V.bool (decide (((k + 1 : Nat) : Int) > 8)))) (some (V.bool false)) (some (V.ptr s 0)) (some (V.int IntKind.i64 ((k + 1 : Nat) : Int))) (some (V.fn 84 [V.ptr h.length 0, V.ptr (h.length + 1) 0]))) .ready] := ⟨_, rfl⟩
  have hS0 : ∀ (T : List HB), (h ++ T)[h.length]? = T[0]? := fun T => hS T 0
  have L0 : LvAt h HS ((k + 1 : Nat) : Int) s [] _ := ⟨by rw [hHS]; simp, fun i hi => by rw [hHS, List.getElem?_append_left hi], by rw [hHS, hS0]; rfl, by rw [hHS, hS]; rfl, ⟨none, ⟨rfl, by rw [hHS, hS]; rfl⟩, fun b hb => by cases hb⟩, by rw [hHS, hS]; rfl, by rw [hHS, hS]; rfl⟩
  obtain ⟨hh', e, L⟩ := lv_loop n S hk hlim (ts.length + 1) 0 n HS [] (by omega) (by omega) (by omega) (by simp) L0
  rw [List.drop_zero, List.nil_append] at L
  have hit : call (n + 1) 84 [.yld (h.length + 5), .ptr h.length 0, .ptr (h.length + 1) 0] HS = some (.ret [], hh') := by
    refine (skipLvI_eq n _ _ _ HS).trans ?_
    unfold skipLvI
    have hw : IntKind.i64.wrap (((k + 1 : Nat) : Int) - 1) = (k : Int) := by rw [w64] <;> omega
    have hsl : s < h.length := lt_of_at S.hb
    have hrd : cellsP HS (.ptr s (2 + k)) = some ((ndH s (ts.length : Int) most).cells N, 12, 2 + k) := by
      refine cellsP_box ?_ _
      rw [L0.old _ hsl]
      exact S.hb
    have hg : ((ndH s (ts.length : Int) most).cells N)[2 + k]? = some (nx k (ts.drop 0)) := by
      rw [(ndH s (ts.length : Int) most).get _ hk]
      exact congrArg some (S.lk.hd k hk)
    rw [cellsP_box L0.p0, bd3_some, if_pos (by decide)]
    simp only [List.getElem?_cons_zero, bd_some]
    rw [cellsP_box L0.p1, bd3_some, if_pos (by decide)]
    simp only [List.getElem?_cons_zero, bd_some, bop_i64_sub, hw, addP_ptr, Nat.zero_add, Nat.add_zero, nv_int, Nat.mul_one, hrd, bd3_some, hg]
    rw [if_pos hk, if_pos (by omega)]
    exact e
  have hhl := L.len
  have hHS' := hHS
  simp only [lvLoop, lvFr] at hHS'
  rw [← hHS', hit]
  simp only [clN]
  have hlp := L.lp
  rw [hlp]
  simp only [lvLoop, lpE]
  obtain ⟨ob, O, hob⟩ := L.out
  have hdf : (hh'.set (h.length + 5) HB.dead)[h.length + 4]? = some .defb := by rw [List.getElem?_set_ne (by omega)]; exact L.df
  have hrest : ∀ i, i ≠ h.length + 5 → i ≠ h.length + 4 → ((hh'.set (h.length + 5) HB.dead).set (h.length + 4) HB.dead)[i]? = hh'[i]? := fun i a b => by rw [List.getElem?_set_ne (Ne.symm b), List.getElem?_set_ne (Ne.symm a)]
  have hout : ∀ v, hh'[h.length + 2]? = some (.box 1 [v]) → cellsP (hh'.set (h.length + 5) HB.dead) (.ptr (h.length + 2) 0) = some ([v], 1, 0) := fun v hv => cellsP_box (by rw [List.getElem?_set_ne (by omega)]; exact hv) 0
  cases ob with
  | none =>
    obtain ⟨hnil, hc⟩ := O
    rw [hout _ hc, bd3_some, if_pos (by decide)]
    simp only [List.getElem?_cons_zero, bd_some]
    rw [hdf]
    simp only [dfB]
    exact ⟨_, _, rfl, .inl ⟨rfl, hnil⟩, by rw [List.length_set, List.length_set]; omega, fun i hi => by rw [hrest i (by omega) (by omega), L.old i hi]⟩
  | some b =>
    obtain ⟨o1, z, hc, hr⟩ := O
    have hb := hob b rfl
    rw [hout _ hc, bd3_some, if_pos (by decide)]
    simp only [List.getElem?_cons_zero, bd_some]
    rw [hdf]
    simp only [dfB]
    exact ⟨_, _, rfl, .inr ⟨b, z, by omega, rfl, by rw [hrest b (by omega) (by omega)]; exact hr⟩, by rw [List.length_set, List.length_set]; omega, fun i hi => by rw [hrest i (by omega) (by omega), L.old i hi]⟩
theorem items_call (n : Nat) {h : Heap} {s : Nat} {ts : List Tw} {most : Int} {N : Nx} (S : SkAt h s ts most N) (hlim : ts.length < lim) (hn : ts.length + 2 < n) :
    ∃ h' r, call (n + 3) 21 [.ptr s 0] h = some (.ret [r], h') ∧ SlI h' h.length r (lvV 0 ts) ∧ h.length ≤ h'.length ∧ ∀ i, i < h.length → h'[i]? = h[i]? := by
  obtain ⟨h', r, e, a, b, c⟩ := level_call n S (k := 0) (by omega) hlim hn
  refine ⟨h', r, ?_, a, b, c⟩
  refine (skipItems_eq (n + 2) s h).trans ?_
  unfold skipItems
  rw [show (V.int IntKind.i64 1) = V.int .i64 ((0 + 1 : Nat) : Int) from rfl, e, cl_ret, one1_one]
end Go.Proofs.Try
