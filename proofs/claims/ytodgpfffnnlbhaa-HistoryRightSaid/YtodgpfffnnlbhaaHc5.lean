import Derived.Test.YtodgpfffnnlbhaaHc1
import Derived.Test.YtodgpfffnnlbhaaSrun
/-! history.Check by contract: right -/
set_option linter.unusedVariables false
set_option linter.unusedSimpArgs false
namespace Go.Proofs.Try
open Go.L Go.Rp
set_option maxRecDepth 100000
theorem bsl_o (x : O) : bslV prog 24 1 [(0, .agg (O.w x))] = some (2, [O.w x]) := by kernel_rfl
theorem app_os (e : Nat) (a : List O) (x : O) (h : a.length + 1 < lim) : app e 2 (.own e 2 (a.map O.w)) [O.w x] = some ((a ++ [x]).map O.w) := by
  simp [app, h]
theorem bop_res_eql (a b c d : Int) : bop prog .eql 34 (.agg [.int .u8 a, .int .i32 b]) (.agg [.int .u8 c, .int .i32 d]) = some (.bool (a == c && (b == d && true))) := by kernel_rfl
theorem bop_res_eq (r r' : R) : bop prog .eql 34 (.agg (R.w r)) (.agg (R.w r')) = some (.bool (decide (r = r'))) := by
  refine (bop_res_eql _ _ _ _).trans ?_
  congr 2
  obtain ⟨a, b⟩ := r
  obtain ⟨c, d⟩ := r'
  by_cases h1 : a = c <;> by_cases h2 : b = d <;> simp [h1, h2]
/-- what the operations of a log would be told -/
def toldOf (k m : Int) (log : List Ap) : List R := (run k m [] (log.map Ap.op)).2
/-- each was told what it would be told -/
def RightP (k m : Int) (log : List Ap) (l : List Sp) : Prop := ∀ (i : Nat) x r s, log[i]? = some x → (toldOf k m log)[i]? = some r → FirstS l (n4A x) s → r = x.res ∧ (s.to < 0 ∨ s.res = r)
theorem told_len (k m : Int) (log : List Ap) : (toldOf k m log).length = log.length := by
  unfold toldOf
  rw [(run_len k m (log.map Ap.op) []).2, List.length_map]
theorem right_ops (n : Nat) {h : Heap} {Ob M : Nat} {log : List Ap} {bl : Bool} {l : List Sp} {bs : Bool} {L : List (N4 × V)} (ho : OrdAt h Ob M log bl l bs L) (kd m : Int) (hkd : 0 ≤ kd) (hops : ∀ x ∈ log, 0 ≤ x.op.k) (hlim : log.length + 1 < lim) (hn : log.length + 5 ≤ n) : ∀ (d k N : Nat), k + d = log.length → d < N →
    loopx N (hRight_l5 n Ob kd m (.sl 7 (log.map Ap.v) bl) (7, log.map Ap.v)) [.sl 2 (((log.take k).map Ap.op).map O.w) false, .int .i64 (k : Int)] h = loopx n (hRight_l29 n Ob (.sl 2 ((toldOf kd m log).map R.w) false) (.sl 7 (log.map Ap.v) bl) (7, log.map Ap.v)) [.int .i64 ((0 : Nat) : Int)] h := by
  intro d
  induction d with
  | zero =>
    intro k N h1 h2
    obtain ⟨N, rfl⟩ : ∃ N', N = N' + 1 := ⟨N - 1, by omega⟩
    have hlt : decide ((k : Int) < (log.length : Int)) = false := by simp; omega
    have hk0 : log.take k = log := List.take_of_length_le (by omega)
    have hr := run_call n kd m 0 [] true 2 (log.map Ap.op) false h (.inr rfl) (.inl rfl) hkd (fun x hx => by obtain ⟨y, hy, rfl⟩ := List.mem_map.1 hx; exact hops y hy) (by simp; omega) (by simp; omega)
    have hr' : call n 79 [.int .u8 kd, .int .i64 m, .sl 0 [] true, .sl 2 ((log.map Ap.op).map O.w) false] h = some (.ret [.sl 1 ((run kd m [] (log.map Ap.op)).1.map (intV .i32)) false, .sl 2 ((toldOf kd m log).map R.w) false], h) := hr
    have key : ∀ next, hRight_l5 n Ob kd m (.sl 7 (log.map Ap.v) bl) (7, log.map Ap.v) [.sl 2 (((log.take k).map Ap.op).map O.w) false, .int .i64 (k : Int)] h next = loopx n (hRight_l29 n Ob (.sl 2 ((toldOf kd m log).map R.w) false) (.sl 7 (log.map Ap.v) bl) (7, log.map Ap.v)) [.int .i64 0] h := by
      intro next
      rw [hk0]
      simp only [hRight_l5, gv, List.getD_cons_zero, List.getD_cons_succ, List.length_map, bop_i64_lss, bd_some, bv_bool, hlt, Bool.false_eq_true, if_false, lsl]
      rw [hr', cl_ret]
      simp only [List.getElem?_cons_zero, List.getElem?_cons_succ, bd_some]
      rw [cellsP_box ho.o, bd3_some, if_pos (by decide)]
      simp only [List.getElem?_cons_zero, bd_some, slcH_sl]
    rw [loopx_succ, key]
    simp only [Int.natCast_zero]
  | succ d ih =>
    intro k N h1 h2
    obtain ⟨N, rfl⟩ : ∃ N', N = N' + 1 := ⟨N - 1, by omega⟩
    have hlt : decide ((k : Int) < (log.length : Int)) = true := by simp; omega
    obtain ⟨x, hx⟩ : ∃ x, log[k]? = some x := ⟨_, List.getElem?_eq_getElem (by omega)⟩
    have hxv : (log.map Ap.v)[k]? = some x.v := by rw [get_aps, hx]; rfl
    have hop : List.take 2 (List.drop 2 (setR [V.int .i64 0, V.int .i64 0, V.int .u8 0, V.int .i32 0, V.int .u8 0, V.int .i32 0, V.int .i64 0] 0 (List.take 7 (List.drop 0 x.v)))) = O.w x.op := rfl
    have htk : (log.take (k + 1)).map Ap.op = (log.take k).map Ap.op ++ [x.op] := by rw [List.take_add_one, hx]; simp
    have hle : ((log.take k).map Ap.op).length + 1 < lim := by simp; omega
    have IH := ih (k + 1) N (by omega) (by omega)
    have key : ∀ next, hRight_l5 n Ob kd m (.sl 7 (log.map Ap.v) bl) (7, log.map Ap.v) [.sl 2 (((log.take k).map Ap.op).map O.w) false, .int .i64 (k : Int)] h next = next [.sl 2 (((log.take (k + 1)).map Ap.op).map O.w) false, .int .i64 ((k + 1 : Nat) : Int)] h := by
      intro next
      simp only [hRight_l5, gv, List.getD_cons_zero, List.getD_cons_succ, List.length_map, bop_i64_lss, bd_some, bv_bool, hlt, if_true, nv_nat, bdS_some, idxP_sl hxv, cellsP_iptr, bd3_some, Nat.zero_add, Nat.le_refl, Nat.reduceLeDiff, Nat.reduceLT, and_self, ap_len, hop, bsl_o, lsl, app_os _ _ _ hle, bop_i64_add, step64 (show k < lim by omega)]
      rw [htk]
    rw [loopx_succ, key]
    exact IH
theorem right_loop (n : Nat) {h : Heap} {O M : Nat} {log : List Ap} {bl : Bool} {l : List Sp} {bs : Bool} {L : List (N4 × V)} (ho : OrdAt h O M log bl l bs L) (hL : LeadsTo L l) (hw : ∀ x ∈ log, ∃ s ∈ l, n4S s = n4A x) (kd m : Int) (hlim : log.length + 1 < lim) : ∀ (d k N : Nat), k + d = log.length → d < N →
    (∀ (i : Nat) x r s, i < k → log[i]? = some x → (toldOf kd m log)[i]? = some r → FirstS l (n4A x) s → r = x.res ∧ (s.to < 0 ∨ s.res = r)) →
    ((RightP kd m log l → loopx N (hRight_l29 (n + 2) O (.sl 2 ((toldOf kd m log).map R.w) false) (.sl 7 (log.map Ap.v) bl) (7, log.map Ap.v)) [.int .i64 (k : Int)] h = some (.ret [], h)) ∧
     (¬ RightP kd m log l → loopx N (hRight_l29 (n + 2) O (.sl 2 ((toldOf kd m log).map R.w) false) (.sl 7 (log.map Ap.v) bl) (7, log.map Ap.v)) [.int .i64 (k : Int)] h = some (.pan (.iface 56 (.int .u16 23)), h)))
  | _, _, 0, _, h2, _ => by omega
  | 0, k, N + 1, h1, _, hp => by
    have hlt : decide ((k : Int) < (log.length : Int)) = false := by simp; omega
    rw [loopx_succ]
    simp only [hRight_l29, gv, List.getD_cons_zero, List.length_map, bop_i64_lss, bd_some, bv_bool, hlt, Bool.false_eq_true, if_false]
    refine ⟨fun _ => by trivial, fun hn => absurd (fun i x r s hx hr hs => hp i x r s (by have := (List.getElem?_eq_some_iff.1 hx).1; omega) hx hr hs) hn⟩
  | d + 1, k, N + 1, h1, h2, hp => by
    have hlt : decide ((k : Int) < (log.length : Int)) = true := by simp; omega
    obtain ⟨x, hx⟩ : ∃ x, log[k]? = some x := ⟨_, List.getElem?_eq_getElem (by omega)⟩
    have hxv : (log.map Ap.v)[k]? = some x.v := by rw [get_aps, hx]; rfl
    obtain ⟨s, hs⟩ := firstS_ex (hw x (List.mem_of_getElem? hx))
    obtain ⟨r, hr⟩ : ∃ r, (toldOf kd m log)[k]? = some r := ⟨_, List.getElem?_eq_getElem (by rw [told_len]; omega)⟩
    have hrv : ((toldOf kd m log).map R.w)[k]? = some (R.w r) := by rw [get_rs, hr]; rfl
    have hres : List.take 2 (List.drop 4 (setR [V.int .i64 0, V.int .i64 0, V.int .u8 0, V.int .i32 0, V.int .u8 0, V.int .i32 0, V.int .i64 0] 0 (List.take 7 (List.drop 0 x.v)))) = R.w x.res := rfl
    have hto : (setR [V.int .i64 0, V.int .i64 0, V.int .u8 0, V.int .i32 0, V.int .u8 0, V.int .i32 0, V.int .i64 0, V.int .i64 0] 0 (V.cells (V.agg s.v)))[7]? = some (.int .i64 s.to) := rfl
    have hsr : List.take 2 (List.drop 4 (setR [V.int .i64 0, V.int .i64 0, V.int .u8 0, V.int .i32 0, V.int .u8 0, V.int .i32 0, V.int .i64 0, V.int .i64 0] 0 (V.cells (V.agg s.v)))) = R.w s.res := rfl
    have hcl : (V.cells (V.agg s.v)).length = 8 := rfl
    have hrw : List.take 2 (List.drop 0 (R.w r)) = R.w r := rfl
    have key : ∀ next, hRight_l29 (n + 2) O (.sl 2 ((toldOf kd m log).map R.w) false) (.sl 7 (log.map Ap.v) bl) (7, log.map Ap.v) [.int .i64 (k : Int)] h next =
        if r = x.res ∧ (s.to < 0 ∨ s.res = r) then next [.int .i64 ((k + 1 : Nat) : Int)] h else some (.pan (.iface 56 (.int .u16 23)), h) := by
      intro next
      simp only [hRight_l29, gv, List.getD_cons_zero, List.length_map, bop_i64_lss, bd_some, bv_bool, hlt, if_true, nv_nat, bdS_some, idxP_sl hxv, cellsP_iptr, bd3_some, Nat.zero_add, Nat.le_refl, Nat.reduceLeDiff, Nat.reduceLT, and_self, ap_len, ap_cells]
      rw [span_first n ho hL x hs, cl_ret, one1_one]
      simp only [hcl, if_true, Nat.le_refl, idxP_sl hrv, bd_some, cellsP_iptr, bd3_some, Nat.zero_add, Nat.reduceLT, and_self, hrw, hres, bop_res_eq, bv_bool, hto, hsr, bop_i64_lss, bop_i64_add, step64 (show k < lim by omega)]
      rw [must_call, must_call, must_call]
      by_cases e1 : r = x.res <;> by_cases e2 : s.to < 0 <;> by_cases e3 : s.res = r <;> simp [e1, e2, e3] <;> simp_all
    rw [loopx_succ, key]
    by_cases hb : r = x.res ∧ (s.to < 0 ∨ s.res = r)
    · rw [if_pos hb]
      refine right_loop n ho hL hw kd m hlim d (k + 1) N (by omega) (by omega) (fun i y q t hi hy hq ht => ?_)
      rcases Nat.lt_or_ge i k with hik | hik
      · exact hp i y q t hik hy hq ht
      · have : i = k := by omega
        subst this
        rw [hx] at hy; cases hy
        rw [hr] at hq; cases hq
        rw [ht.one hs]; exact hb
    · rw [if_neg hb]
      exact ⟨fun hR => absurd (hR k x r s hx hr hs) hb, fun _ => by trivial⟩
theorem right_call (n : Nat) {h : Heap} {O M : Nat} {log : List Ap} {bl : Bool} {l : List Sp} {bs : Bool} {L : List (N4 × V)} (ho : OrdAt h O M log bl l bs L) (hL : LeadsTo L l) (hw : ∀ x ∈ log, ∃ s ∈ l, n4S s = n4A x) (kd m : Int) (hkd : 0 ≤ kd) (hops : ∀ x ∈ log, 0 ≤ x.op.k) (hlim : log.length + 1 < lim) (hn : log.length + 5 ≤ n + 2) :
    (RightP kd m log l → Phase (call (n + 3) 59 [.ptr O 0, .int .u8 kd, .int .i64 m] h) 0 h) ∧ (¬ RightP kd m log l → Phase (call (n + 3) 59 [.ptr O 0, .int .u8 kd, .int .i64 m] h) 23 h) := by
  have he : call (n + 3) 59 [.ptr O 0, .int .u8 kd, .int .i64 m] h = loopx (n + 2) (hRight_l29 (n + 2) O (.sl 2 ((toldOf kd m log).map R.w) false) (.sl 7 (log.map Ap.v) bl) (7, log.map Ap.v)) [.int .i64 ((0 : Nat) : Int)] h := by
    refine (hRight_eq (n + 2) O kd m h).trans ?_
    unfold hRight
    simp only [cellsP_box ho.o, bd3_some, Nat.zero_add, Nat.reduceLeDiff, Nat.reduceLT, and_self, if_true, List.getElem?_cons_zero, bd_some, slcH_sl]
    exact right_ops (n + 2) ho kd m hkd hops hlim hn log.length 0 (n + 2) (by omega) (by omega)
  obtain ⟨i1, i2⟩ := right_loop n ho hL hw kd m hlim log.length 0 (n + 2) (by omega) (by omega) (fun i x r s hi => by omega)
  exact ⟨fun ht => ⟨h, by rw [he, i1 ht]; rfl, Nat.le_refl _, fun _ _ => rfl⟩, fun ht => ⟨h, by rw [he, i2 ht]; rfl, Nat.le_refl _, fun _ _ => rfl⟩⟩
end Go.Proofs.Try
/-! history.Check by contract: the names' places, last to first -/
set_option linter.unusedVariables false
set_option linter.unusedSimpArgs false
namespace Go.Proofs.Try
open Go.L Go.Rp
set_option maxRecDepth 100000
/-- the frame of Check in its loop -/
noncomputable def ckFr (y0 y1 y2 y3 y8 : Option V) (x9 : Nat) (y12 y13 y14 y15 y16 y17 y18 y19 : Option V) : List (Option V) := [y0, y1, y2, y3, none, none, none, none, y8, some (V.ptr x9 0), none, none, y12, y13, y14, y15, y16, y17, y18, y19, none, none, none, none, none, none, none, none, none, none, none, none, none, none, none, none, none, none, none]
theorem ck_nodf : noDfC (rfAs (bodyF f28)) = true ∧ noDfC (rfBd (bodyF f28)) = true := ⟨by kernel_rfl, by kernel_rfl⟩
/-- the loop of Check -/
noncomputable def ckLoop (D : Nat) (fr : List (Option V)) (s : LSt) : HB := .loop D false fr [20, 21] (rfAs (bodyF f28)) (rfBd (bodyF f28)) s
theorem rnd_at (n : Nat) {h : Heap} {b D : Nat} {fr : List (Option V)} {ps : List Nat} {ca cb : Code} (hb : h[b]? = some (.loop D false fr ps ca cb .ready)) (ys : List V) (hl : ys.length = ps.length) (h1 : noDfC ca = true) (h2 : noDfC cb = true) : rnd n b ys h = roundE prog (call n) keepS pureS n (L.textDraws prog) false fr ps ca cb b ys h := by
  unfold rnd L.roundX
  rw [hb]
  simp only [lpR]
  rw [if_pos ⟨hl, h1, h2⟩]
theorem round_eq (n : Nat) {h : Heap} {b D : Nat} {y0 y1 y2 y3 y8 : Option V} {x9 : Nat} {y12 y13 y14 y15 y16 y17 y18 y19 : Option V} (hb : h[b]? = some (ckLoop D (ckFr y0 y1 y2 y3 y8 x9 y12 y13 y14 y15 y16 y17 y18 y19) .ready)) (z20 z21 : V) : rnd n b [z20, z21] h = hCheck_r n x9 b z20 z21 h :=
  (rnd_at n hb [z20, z21] rfl ck_nodf.1 ck_nodf.2).trans (hCheck_r_eq n y0 y1 y2 y3 y8 x9 y12 y13 y14 y15 y16 y17 y18 y19 b z20 z21 h)
/-- a map leads to the first spans of those behind -/
def LeadsFrom (L : List (N4 × V)) (l : List Sp) (d : Nat) : Prop := ∀ m, lookV L m = (firstK (l.drop d) m).map fun k => .int .i64 ((k + d : Nat) : Int)
theorem LeadsFrom.step {L : List (N4 × V)} {l : List Sp} {d : Nat} {s : Sp} (h : LeadsFrom L l (d + 1)) (hs : l[d]? = some s) : LeadsFrom (updA L (n4S s) (.int .i64 (d : Int))) l d := by
  intro m
  have hd : d < l.length := (List.getElem?_eq_some_iff.1 hs).1
  have e : l.drop d = s :: l.drop (d + 1) := by
    rw [List.drop_eq_getElem_cons hd]
    rw [List.getElem?_eq_getElem hd] at hs
    cases hs; rfl
  rw [lookV_updA, e]
  unfold firstK
  rw [List.findIdx?_cons]
  by_cases hm : m = n4S s
  · subst hm; simp
  · have : ¬ n4S s = m := fun x => hm x.symm
    rw [if_neg hm, h m]
    simp only [this, decide_false, Bool.false_eq_true, if_false, firstK, Option.map_map]
    congr 1
    funext k
    simp only [Function.comp]
    congr 2
    omega
/-- what Check's loop stands on -/
structure CkAt (h : Heap) (O M b x9 x D : Nat) (log : List Ap) (bl : Bool) (l : List Sp) (bs : Bool) (y0 y1 y2 y3 y8 y12 y13 y14 y15 y16 y17 y18 y19 : Option V) : Prop where
  o : h[O]? = some (.box 3 [.sl 7 (log.map Ap.v) bl, .sl 8 (l.map Sp.v) bs, .map M])
  m : ∃ es, h[M]? = some (.map es)
  b : h[b]? = some (ckLoop D (ckFr y0 y1 y2 y3 y8 x9 y12 y13 y14 y15 y16 y17 y18 y19) .ready)
  t : h[x9]? = some (.box 1 [.ptr O 0])
  x : h[x]? = some (.box 1 [.sl 8 (l.map Sp.v) bs])
theorem set_back {α : Type} (h : List α) (b M : Nat) (x y z : α) (hb : h[b]? = some z) (hbM : b ≠ M) : ((h.set b x).set M y).set b z = h.set M y := by
  apply List.ext_getElem?
  intro i
  have hlt := (List.getElem?_eq_some_iff.1 hb).1
  simp only [List.getElem?_set, List.length_set]
  by_cases h1 : b = i
  · subst h1
    have hz : h[b] = z := by rw [List.getElem?_eq_getElem hlt] at hb; exact Option.some.inj hb
    simp [hlt, hz, Ne.symm hbM]
  · by_cases h2 : M = i
    · subst h2; simp [h1]
    · simp [h1, h2]
theorem round_call (n : Nat) {h : Heap} {O M b x9 x D : Nat} {log : List Ap} {bl : Bool} {l : List Sp} {bs : Bool} {y0 y1 y2 y3 y8 y12 y13 y14 y15 y16 y17 y18 y19 : Option V} (hc : CkAt h O M b x9 x D log bl l bs y0 y1 y2 y3 y8 y12 y13 y14 y15 y16 y17 y18 y19) (L : List (N4 × V)) (k : Int) (s : Sp) (hL : h[M]? = some (.map (asM N4.key L))) :
    rnd (n + 1) b [.int .i64 k, .agg s.v] h = some (true, h.set M (.map (asM N4.key (updA L (n4S s) (.int .i64 k))))) := by
  rw [round_eq (n + 1) hc.b]
  have hbM : b ≠ M := by intro e; have := hc.b; rw [e, hL] at this; cases this
  have hbO : b ≠ O := by intro e; have := hc.b; rw [e, hc.o] at this; cases this
  have hb9 : b ≠ x9 := by intro e; have := hc.b; rw [e, hc.t] at this; cases this
  have hlt := (List.getElem?_eq_some_iff.1 hc.b).1
  have hcl : (V.cells (V.agg s.v)).length = 8 := rfl
  have hsv : List.take 8 (List.drop 0 (setR [V.int .i64 0, V.int .i64 0, V.int .u8 0, V.int .i32 0, V.int .u8 0, V.int .i32 0, V.int .i64 0, V.int .i64 0] 0 (V.cells (V.agg s.v)))) = s.v := rfl
  unfold hCheck_r
  rw [if_pos hcl, if_pos (by rw [hcl]; exact Nat.le_refl 8), hc.b]
  simp only [ckLoop, lpR]
  generalize hbusy : HB.loop D false (ckFr y0 y1 y2 y3 y8 x9 y12 y13 y14 y15 y16 y17 y18 y19) [20, 21] (rfAs (bodyF f28)) (rfBd (bodyF f28)) .busy = B
  have h9 : (h.set b B)[x9]? = some (.box 1 [.ptr O 0]) := by rw [List.getElem?_set_ne hb9]; exact hc.t
  have hO : (h.set b B)[O]? = some (.box 3 [.sl 7 (log.map Ap.v) bl, .sl 8 (l.map Sp.v) bs, .map M]) := by rw [List.getElem?_set_ne hbO]; exact hc.o
  have hM : (h.set b B)[M]? = some (.map (asM N4.key L)) := by rw [List.getElem?_set_ne hbM]; exact hL
  have hB : ∀ y : HB, ((h.set b B).set M y)[b]? = some B := by intro y; rw [List.getElem?_set_ne (Ne.symm hbM), List.getElem?_set_self hlt]
  rw [cellsP_box h9, bd3_some, if_pos (by decide)]
  simp only [List.getElem?_cons_zero, bd_some]
  rw [show addP 0 (.ptr O 0) = some (.ptr O 0) from rfl, bd_some, show addP 2 (.ptr O 0) = some (.ptr O 2) from rfl, bd_some]
  rw [cellsP_box hO, bd3_some, if_pos (by decide)]
  simp only [List.getElem?_cons_succ, List.getElem?_cons_zero, bd_some]
  rw [hsv, ofSpan_call, clS_ret, one1_one]
  simp only [mpK, hM, mapAt_map, kds_n4, bd_some, findI_asM keq_n4, Nat.add_zero, Option.map_id']
  rw [if_pos (by first | exact ⟨(n4_one _).1, (n4_one _).2⟩ | exact ⟨rfl, rfl⟩)]
  rw [hB, ← hbusy]
  simp only [lpB]
  rw [upd_asM]
  exact congrArg (fun q => some (true, q)) (set_back h b M _ _ _ hc.b hbM)
end Go.Proofs.Try
/-! history.Check by contract: its loop -/
set_option linter.unusedVariables false
set_option linter.unusedSimpArgs false
namespace Go.Proofs.Try
open Go.L Go.Rp
set_option maxRecDepth 100000
theorem back_loop (n : Nat) {h : Heap} {O M b x9 x D : Nat} {log : List Ap} {bl : Bool} {l : List Sp} {bs : Bool} {y0 y1 y2 y3 y8 y12 y13 y14 y15 y16 y17 y18 y19 : Option V} (hc : CkAt h O M b x9 x D log bl l bs y0 y1 y2 y3 y8 y12 y13 y14 y15 y16 y17 y18 y19) (hlim : l.length < lim) :
    ∀ (d N : Nat) (L : List (N4 × V)), d ≤ l.length → d < N → LeadsFrom L l d →
    ∃ L', loopx N (hBackI_l5 (n + 1) b x) [.int .i64 ((d : Int) - 1)] (h.set M (.map (asM N4.key L))) = some (.ret [], h.set M (.map (asM N4.key L'))) ∧ LeadsTo L' l := by
  have hMb : M ≠ b := by intro e; obtain ⟨es, hm⟩ := hc.m; rw [e, hc.b] at hm; cases hm
  have hMO : M ≠ O := by intro e; obtain ⟨es, hm⟩ := hc.m; rw [e, hc.o] at hm; cases hm
  have hM9 : M ≠ x9 := by intro e; obtain ⟨es, hm⟩ := hc.m; rw [e, hc.t] at hm; cases hm
  have hMx : M ≠ x := by intro e; obtain ⟨es, hm⟩ := hc.m; rw [e, hc.x] at hm; cases hm
  have hMl : M < h.length := by obtain ⟨es, hm⟩ := hc.m; exact (List.getElem?_eq_some_iff.1 hm).1
  have hcs : ∀ y : List (V × V), CkAt (h.set M (.map y)) O M b x9 x D log bl l bs y0 y1 y2 y3 y8 y12 y13 y14 y15 y16 y17 y18 y19 := fun y =>
    ⟨by rw [List.getElem?_set_ne hMO]; exact hc.o, ⟨y, List.getElem?_set_self hMl⟩, by rw [List.getElem?_set_ne hMb]; exact hc.b, by rw [List.getElem?_set_ne hM9]; exact hc.t, by rw [List.getElem?_set_ne hMx]; exact hc.x⟩
  intro d
  induction d with
  | zero =>
    intro N L _ h2 hL
    obtain ⟨N, rfl⟩ : ∃ N', N = N' + 1 := ⟨N - 1, by omega⟩
    refine ⟨L, ?_, fun m => ?_⟩
    · have hge : decide ((((0 : Nat) : Int) - 1) ≥ 0) = false := by decide
      rw [loopx_succ]
      simp only [hBackI_l5, gv, List.getD_cons_zero, bop_i64_geq, hge, bd_some, bv_bool, Bool.false_eq_true, if_false]
    · have := hL m
      simpa using this
  | succ d ih =>
    intro N L h1 h2 hL
    obtain ⟨N, rfl⟩ : ∃ N', N = N' + 1 := ⟨N - 1, by omega⟩
    obtain ⟨s, hs⟩ : ∃ s, l[d]? = some s := ⟨_, List.getElem?_eq_getElem (by omega)⟩
    have hsv : (l.map Sp.v)[d]? = some s.v := by rw [get_sps, hs]; rfl
    obtain ⟨L', i1, i2⟩ := ih N (updA L (n4S s) (.int .i64 (d : Int))) (by omega) (by omega) (hL.step hs)
    refine ⟨L', ?_, i2⟩
    rw [← i1]
    have e0 : (((d + 1 : Nat) : Int) - 1) = (d : Int) := by omega
    have hge : decide ((d : Int) ≥ 0) = true := by simp
    have hw : IntKind.i64.wrap ((d : Int) - 1) = (d : Int) - 1 := by unfold lim at hlim; rw [w64] <;> omega
    have hcut : List.take 8 (List.drop 0 s.v) = s.v := rfl
    have hr := round_call n (hcs (asM N4.key L)) L (d : Int) s (List.getElem?_set_self hMl)
    rw [List.set_set] at hr
    have key : ∀ next, hBackI_l5 (n + 1) b x [.int .i64 (d : Int)] (h.set M (.map (asM N4.key L))) next = next [.int .i64 ((d : Int) - 1)] (h.set M (.map (asM N4.key (updA L (n4S s) (.int .i64 (d : Int)))))) := by
      intro next
      simp only [hBackI_l5, gv, List.getD_cons_zero, bop_i64_geq, hge, bd_some, bv_bool, if_true]
      rw [cellsP_box (hcs (asM N4.key L)).x, bd3_some, if_pos (by decide)]
      simp only [List.getElem?_cons_zero, bd_some, nv_nat, bdS_some, idxP_sl hsv]
      rw [cellsP_iptr, bd3_some, if_pos (by decide), hcut, hr]
      simp only [bd2, Bool.not_true, Bool.false_eq_true, if_false, bop_i64_sub, bd_some, hw]
    rw [e0, loopx_succ, key]
theorem backw_call (n : Nat) {h : Heap} {O M b x9 x D : Nat} {log : List Ap} {bl : Bool} {l : List Sp} {bs : Bool} {y0 y1 y2 y3 y8 y12 y13 y14 y15 y16 y17 y18 y19 : Option V} (hc : CkAt h O M b x9 x D log bl l bs y0 y1 y2 y3 y8 y12 y13 y14 y15 y16 y17 y18 y19) (hm : h[M]? = some (.map [])) (hlim : l.length < lim) (hn : l.length < n + 1) :
    ∃ L', call (n + 2) 75 [.yld b, .ptr x 0] h = some (.ret [], h.set M (.map (asM N4.key L'))) ∧ LeadsTo L' l := by
  have hw : IntKind.i64.wrap ((l.length : Int) - 1) = (l.length : Int) - 1 := by unfold lim at hlim; rw [w64] <;> omega
  have h0 : h.set M (.map (asM N4.key ([] : List (N4 × V)))) = h := by
    apply List.ext_getElem?
    intro i
    rw [List.getElem?_set]
    split
    · rename_i e
      subst e
      rw [if_pos (List.getElem?_eq_some_iff.1 hm).1, hm]; rfl
    · rfl
  obtain ⟨L', i1, i2⟩ := back_loop n hc hlim l.length (n + 1) [] (Nat.le_refl _) hn (fun m => by
    rw [List.drop_eq_nil_of_le (Nat.le_refl _)]; rfl)
  rw [h0] at i1
  refine ⟨L', ?_, i2⟩
  refine (hBackI_eq (n + 1) b x h).trans ?_
  unfold hBackI
  rw [cellsP_box hc.x, bd3_some, if_pos (by decide)]
  simp only [List.getElem?_cons_zero, bd_some, slcH_sl, List.length_map, hw]
  exact i1
end Go.Proofs.Try
/-! history.Check by contract -/
set_option linter.unusedVariables false
set_option linter.unusedSimpArgs false
namespace Go.Proofs.Try
open Go.L Go.Rp
set_option maxRecDepth 100000
theorem ck_cond : ((mutF prog 75).isNone && (noDfC (rfAs (bodyF f28)) && noDfC (rfBd (bodyF f28)))) = true := by kernel_rfl
/-- the end of Check: it gave up -/
theorem fin_pan (n : Nat) {g : Heap} {e D : Nat} (E : Int) (he : g[e]? = some (.box 1 [.int .u16 0])) (hD : g[D]? = some .defb) :
    dfB (g[D]?) (bd2 (dcl n 53 [.ptr e 0] (g.set D .dead) (some (.iface 56 (.int .u16 E)))) fun h44 b45 => if b45 then
      (bd3 (cellsP h44 (.ptr e 0)) fun cs47 m46 o48 => if (o48 + 1 ≤ m46 ∧ 0 < 1) then (bd (cs47)[o48]? fun v49 => some (Res.ret [v49], h44)) else none)
      else some (Res.pan (.iface 56 (.int .u16 E)), h44)) = some (.ret [.int .u16 E], (g.set D .dead).set e (.box 1 [.int .u16 E])) := by
  have hne : D ≠ e := by intro q; rw [q, he] at hD; cases hD
  have hel := (List.getElem?_eq_some_iff.1 he).1
  have he' : (g.set D .dead)[e]? = some (.box 1 [.int .u16 0]) := by rw [List.getElem?_set_ne hne]; exact he
  have hw : writeB (g.set D .dead) [.int .u16 E] (.ptr e 0) = some (e, .box 1 [.int .u16 E]) := by
    simp [writeB, he', setR]
  have he2 : ((g.set D .dead).set e (.box 1 [.int .u16 E]))[e]? = some (.box 1 [.int .u16 E]) := List.getElem?_set_self (by simpa using hel)
  rw [hD]
  simp only [dfB]
  rw [hRecP_eq]
  unfold hRecP
  rw [hw]
  simp only [bd2, if_true]
  rw [cellsP_box he2, bd3_some, if_pos (by decide)]
  rfl
/-- the end of Check: all is well -/
theorem fin_ret (n : Nat) {g : Heap} {e D : Nat} (he : g[e]? = some (.box 1 [.int .u16 0])) (hD : g[D]? = some .defb) :
    (bd2 (writeB g [.int .u16 0] (.ptr e 0)) fun b36 x37 => dfB (((g.set b36 x37))[D]?) (bd2 (dcl n 53 [.ptr e 0] (((g.set b36 x37)).set D .dead) none) fun h38 b39 =>
      (bd3 (cellsP h38 (.ptr e 0)) fun cs41 m40 o42 => if (o42 + 1 ≤ m40 ∧ 0 < 1) then (bd (cs41)[o42]? fun v43 => some (Res.ret [v43], h38)) else none))) = some (.ret [.int .u16 0], (g.set e (.box 1 [.int .u16 0])).set D .dead) := by
  have hne : e ≠ D := by intro q; rw [← q, he] at hD; cases hD
  have hel := (List.getElem?_eq_some_iff.1 he).1
  have hw : writeB g [.int .u16 0] (.ptr e 0) = some (e, .box 1 [.int .u16 0]) := by
    simp [writeB, he, setR]
  have hD2 : (g.set e (.box 1 [.int .u16 0]))[D]? = some .defb := by rw [List.getElem?_set_ne hne]; exact hD
  have he2 : ((g.set e (.box 1 [.int .u16 0])).set D .dead)[e]? = some (.box 1 [.int .u16 0]) := by rw [List.getElem?_set_ne (Ne.symm hne)]; exact List.getElem?_set_self hel
  rw [hw]
  simp only [bd2]
  rw [hD2]
  simp only [dfB]
  rw [hRec_eq]
  unfold hRec
  simp only [bd2]
  rw [cellsP_box he2, bd3_some, if_pos (by decide)]
  rfl
end Go.Proofs.Try
/-! history.Check by contract: all of it -/
set_option linter.unusedVariables false
set_option linter.unusedSimpArgs false
namespace Go.Proofs.Try
open Go.L Go.Rp
set_option maxRecDepth 100000
open Classical in
/-- what Check answers -/
noncomputable def verdict (k m : Int) (log : List Ap) (l : List Sp) : Int := if ¬ OnceP log then 20 else if ¬ WholeP log l then 21 else if ¬ TimelyP log l then 22 else if ¬ RightP k m log l then 23 else 0
/-- what lies there while Check is on -/
structure Good (h g : Heap) (log : List Ap) (bl : Bool) (l : List Sp) (bs : Bool) (L : List (N4 × V)) : Prop where
  len : h.length + 7 ≤ g.length
  e : g[h.length]? = some (.box 1 [.int .u16 0])
  ord : OrdAt g (h.length + 2) (h.length + 1) log bl l bs L
  t : g[h.length + 4]? = some (.box 1 [.ptr (h.length + 2) 0])
  d : g[h.length + 5]? = some .defb
  old : ∀ i, i < h.length → g[i]? = h[i]?
theorem Good.keep {h g g' : Heap} {log : List Ap} {bl : Bool} {l : List Sp} {bs : Bool} {L : List (N4 × V)} (hg : Good h g log bl l bs L) (h1 : g.length ≤ g'.length) (h2 : ∀ i, i < g.length → g'[i]? = g[i]?) : Good h g' log bl l bs L := by
  have hl := hg.len
  exact ⟨by omega, by rw [h2 _ (by omega)]; exact hg.e, hg.ord.keep h2, by rw [h2 _ (by omega)]; exact hg.t, by rw [h2 _ (by omega)]; exact hg.d, fun i hi => by rw [h2 _ (by omega)]; exact hg.old i hi⟩
theorem Good.ends {h g : Heap} {log : List Ap} {bl : Bool} {l : List Sp} {bs : Bool} {L : List (N4 × V)} (hg : Good h g log bl l bs L) (X Y : HB) : (h.length ≤ ((g.set (h.length + 5) X).set h.length Y).length ∧ ∀ i, i < h.length → ((g.set (h.length + 5) X).set h.length Y)[i]? = h[i]?) ∧ (h.length ≤ ((g.set h.length Y).set (h.length + 5) X).length ∧ ∀ i, i < h.length → ((g.set h.length Y).set (h.length + 5) X)[i]? = h[i]?) := by
  have hl := hg.len
  refine ⟨⟨by simp; omega, fun i hi => ?_⟩, ⟨by simp; omega, fun i hi => ?_⟩⟩ <;>
    rw [List.getElem?_set_ne (by omega), List.getElem?_set_ne (by omega)] <;> exact hg.old i hi
theorem check_run (n : Nat) (h : Heap) (kd m : Int) (log : List Ap) (bl : Bool) (l : List Sp) (bs : Bool) (hkd : 0 ≤ kd) (hops : ∀ x ∈ log, 0 ≤ x.op.k) (hlim : log.length + 1 < lim) (hlim2 : l.length < lim) (hn : log.length + 5 ≤ n) (hn2 : l.length + 2 ≤ n) :
    ∃ h', hCheck (n + 3) kd m (l.map Sp.v) bs (log.map Ap.v) bl h = some (.ret [.int .u16 (verdict kd m log l)], h') ∧ h.length ≤ h'.length ∧ ∀ i, i < h.length → h'[i]? = h[i]? := by
  have hback : ∀ H : Heap, call (n + 3) 54 [.sl 8 (l.map Sp.v) bs] H = some (.ret [.fn 75 [.ptr H.length 0]], H ++ [.box 1 [.sl 8 (l.map Sp.v) bs]]) := fun H => (hBack_eq (n + 2) _ _ _).trans rfl
  unfold hCheck
  rw [hback, cl_ret, one1_one]
  simp only [fnK_fn]
  rw [if_pos ck_cond]
  simp only [List.length_append, List.length_cons, List.length_nil, List.append_assoc, List.cons_append, List.nil_append, Nat.add_assoc, Nat.zero_add, Nat.reduceAdd]
  have hS : ∀ (T : List HB) i, (h ++ T)[h.length + i]? = T[i]? := fun T i => by rw [List.getElem?_append_right (by omega), Nat.add_sub_cancel_left]
  have hS0 : ∀ (T : List HB), (h ++ T)[h.length]? = T[0]? := fun T => hS T 0
  obtain ⟨HS, hHS⟩ : ∃ HS : Heap, HS = h ++ [HB.box 1 [.int .u16 0], .map [], .box 3 [.sl 7 (log.map Ap.v) bl, .sl 8 (l.map Sp.v) bs, .map (h.length + 1)], .box 1 [.sl 8 (l.map Sp.v) bs], .box 1 [.ptr (h.length + 2) 0], .defb, ckLoop (h.length + 5) (ckFr (some (.int .u8 kd)) (some (.int .i64 m)) (some (.sl 8 (l.map Sp.v) bs)) (some (.sl 7 (log.map Ap.v) bl)) (some (.ptr h.length 0)) (h.length + 4) (some (.fn 53 [.ptr h.length 0])) (some (.sl 7 (log.map Ap.v) bl)) (some (.sl 8 (l.map Sp.v) bs)) (some (.map (h.length + 1))) (some (.agg [.sl 7 (log.map Ap.v) bl, .sl 8 (l.map Sp.v) bs, .map (h.length + 1)])) (some (.ptr (h.length + 2) 0)) (some (.sl 8 (l.map Sp.v) bs)) (some (.fn 75 [.ptr (h.length + 3) 0]))) .ready] := ⟨_, rfl⟩
  have hlen : HS.length = h.length + 7 := by rw [hHS]; simp
  have hc : CkAt HS (h.length + 2) (h.length + 1) (h.length + 6) (h.length + 4) (h.length + 3) (h.length + 5) log bl l bs _ _ _ _ _ _ _ _ _ _ _ _ _ :=
    ⟨by rw [hHS, hS]; rfl, ⟨[], by rw [hHS, hS]; rfl⟩, by rw [hHS, hS]; rfl, by rw [hHS, hS]; rfl, by rw [hHS, hS]; rfl⟩
  obtain ⟨L, c1, c2⟩ := backw_call (n + 1) hc (by rw [hHS, hS]; rfl) hlim2 (by omega)
  have hb7 : (HS.set (h.length + 1) (.map (asM N4.key L)))[h.length + 6]? = HS[h.length + 6]? := List.getElem?_set_ne (by omega)
  have hgood : Good h ((HS.set (h.length + 1) (.map (asM N4.key L))).set (h.length + 6) .dead) log bl l bs L := by
    refine ⟨by simp [hlen], ?_, ⟨?_, ?_⟩, ?_, ?_, fun i hi => ?_⟩
    · rw [List.getElem?_set_ne (by omega), List.getElem?_set_ne (by omega), hHS, hS0]; rfl
    · rw [List.getElem?_set_ne (by omega), List.getElem?_set_ne (by omega)]; exact hc.o
    · rw [List.getElem?_set_ne (by omega)]; exact List.getElem?_set_self (by omega)
    · rw [List.getElem?_set_ne (by omega), List.getElem?_set_ne (by omega)]; exact hc.t
    · rw [List.getElem?_set_ne (by omega), List.getElem?_set_ne (by omega), hHS, hS]; rfl
    · rw [List.getElem?_set_ne (by omega), List.getElem?_set_ne (by omega), hHS, List.getElem?_append_left hi]
  have hl7 : (HS.set (h.length + 1) (.map (asM N4.key L)))[h.length + 6]? = some (ckLoop (h.length + 5) (ckFr (some (.int .u8 kd)) (some (.int .i64 m)) (some (.sl 8 (l.map Sp.v) bs)) (some (.sl 7 (log.map Ap.v) bl)) (some (.ptr h.length 0)) (h.length + 4) (some (.fn 53 [.ptr h.length 0])) (some (.sl 7 (log.map Ap.v) bl)) (some (.sl 8 (l.map Sp.v) bs)) (some (.map (h.length + 1))) (some (.agg [.sl 7 (log.map Ap.v) bl, .sl 8 (l.map Sp.v) bs, .map (h.length + 1)])) (some (.ptr (h.length + 2) 0)) (some (.sl 8 (l.map Sp.v) bs)) (some (.fn 75 [.ptr (h.length + 3) 0]))) .ready) := by
    rw [hb7, hHS, hS]; rfl
  subst hHS
  simp only [ckLoop, ckFr] at c1 hl7 hgood
  have c1' : call (n + 3) 75 _ _ = _ := c1
  rw [c1']
  simp only [clN]
  rw [hl7]
  simp only [lpE]
  generalize (List.set (List.set _ (h.length + 1) _) (h.length + 6) HB.dead) = g0 at hgood ⊢
  clear hl7 hb7 c1 c1' hc hlen hback
  have o1 := once_call (n + 1) hgood.ord (by omega) (by omega)
  rw [cellsP_box hgood.t, bd3_some, if_pos (by decide)]
  simp only [List.getElem?_cons_zero, bd_some]
  by_cases p1 : OnceP log
  · obtain ⟨g1, q1, q2, q3⟩ := o1.1 p1
    rw [if_pos rfl] at q1
    have q1' : call (n + 3) 56 _ _ = _ := q1
    rw [q1', cl_ret]
    have G1 := hgood.keep q2 q3
    rw [cellsP_box G1.t, bd3_some, if_pos (by decide)]
    simp only [List.getElem?_cons_zero, bd_some]
    have o2 := whole_call (n + 1) G1.ord c2 (by omega) hlim2 (by omega) (by omega)
    by_cases p2 : WholeP log l
    · obtain ⟨g2, r1, r2, r3⟩ := o2.1 p2
      rw [if_pos rfl] at r1
      have r1' : call (n + 3) 57 _ _ = _ := r1
      rw [r1', cl_ret]
      have G2 := G1.keep r2 r3
      rw [cellsP_box G2.t, bd3_some, if_pos (by decide)]
      simp only [List.getElem?_cons_zero, bd_some]
      have o3 := timely_call n G2.ord c2 p2.1 (by omega) (by omega)
      by_cases p3 : TimelyP log l
      · obtain ⟨g3, s1, s2, s3⟩ := o3.1 p3
        rw [if_pos rfl] at s1
        rw [s1, cl_ret]
        have G3 := G2.keep s2 s3
        rw [cellsP_box G3.t, bd3_some, if_pos (by decide)]
        simp only [List.getElem?_cons_zero, bd_some]
        have o4 := right_call n G3.ord c2 p2.1 kd m hkd hops hlim (by omega)
        by_cases p4 : RightP kd m log l
        · obtain ⟨g4, t1, t2, t3⟩ := o4.1 p4
          rw [if_pos rfl] at t1
          rw [t1, cl_ret]
          have G4 := G3.keep t2 t3
          have hv : verdict kd m log l = 0 := by simp [verdict, p1, p2, p3, p4]
          rw [hv]
          exact ⟨_, fin_ret (n + 3) G4.e G4.d, (G4.ends _ _).2.1, (G4.ends _ _).2.2⟩
        · obtain ⟨g4, t1, t2, t3⟩ := o4.2 p4
          rw [if_neg (by decide)] at t1
          rw [t1, cl_pan]
          have G4 := G3.keep t2 t3
          have hv : verdict kd m log l = 23 := by simp [verdict, p1, p2, p3, p4]
          rw [hv]
          exact ⟨_, fin_pan (n + 3) 23 G4.e G4.d, (G4.ends _ _).1.1, (G4.ends _ _).1.2⟩
      · obtain ⟨g3, s1, s2, s3⟩ := o3.2 p3
        rw [if_neg (by decide)] at s1
        rw [s1, cl_pan]
        have G3 := G2.keep s2 s3
        have hv : verdict kd m log l = 22 := by simp [verdict, p1, p2, p3]
        rw [hv]
        exact ⟨_, fin_pan (n + 3) 22 G3.e G3.d, (G3.ends _ _).1.1, (G3.ends _ _).1.2⟩
    · obtain ⟨g2, r1, r2, r3⟩ := o2.2 p2
      rw [if_neg (by decide)] at r1
      have r1' : call (n + 3) 57 _ _ = _ := r1
      rw [r1', cl_pan]
      have G2 := G1.keep r2 r3
      have hv : verdict kd m log l = 21 := by simp [verdict, p1, p2]
      rw [hv]
      exact ⟨_, fin_pan (n + 3) 21 G2.e G2.d, (G2.ends _ _).1.1, (G2.ends _ _).1.2⟩
  · obtain ⟨g1, q1, q2, q3⟩ := o1.2 p1
    rw [if_neg (by decide)] at q1
    have q1' : call (n + 3) 56 _ _ = _ := q1
    rw [q1', cl_pan]
    have G1 := hgood.keep q2 q3
    have hv : verdict kd m log l = 20 := by simp [verdict, p1]
    rw [hv]
    exact ⟨_, fin_pan (n + 3) 20 G1.e G1.d, (G1.ends _ _).1.1, (G1.ends _ _).1.2⟩
theorem check_call (n : Nat) (h : Heap) (kd m : Int) (log : List Ap) (bl : Bool) (l : List Sp) (bs : Bool) (hkd : 0 ≤ kd) (hops : ∀ x ∈ log, 0 ≤ x.op.k) (hlim : log.length + 1 < lim) (hlim2 : l.length < lim) (hn : log.length + 5 ≤ n) (hn2 : l.length + 2 ≤ n) :
    call (n + 4) 28 [.int .u8 kd, .int .i64 m, .sl 8 (l.map Sp.v) bs, .sl 7 (log.map Ap.v) bl] h = some (.ret [.int .u16 (verdict kd m log l)], h) := by
  refine (hCheck_eq (n + 3) kd m (l.map Sp.v) bs (log.map Ap.v) bl h).trans ?_
  obtain ⟨h', e, -⟩ := check_run n [] kd m log bl l bs hkd hops hlim hlim2 hn hn2
  rw [e]
  exact gcw_ret (by simp) (by simp)
end Go.Proofs.Try
