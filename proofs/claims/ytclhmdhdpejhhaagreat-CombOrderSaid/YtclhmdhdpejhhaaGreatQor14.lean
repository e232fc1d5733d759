/- Xd Xe Pu Xf Xp Xq Xr Xo Xn Xm Xk Xg Xh Xi Xj: what the law needs of these -/
import Derived.Test.YtclhmdhdpejhhaaGreatQor13
set_option linter.unusedVariables false
set_option linter.unusedSimpArgs false
namespace Go.Cm
open Go.L Go.Rp
theorem fill_set {α β : Type} (f : α -> β) (z : β) {l : List α} {k : Nat} {x : α} (h : l[k]? = some x) : ((l.take k).map f ++ List.replicate (l.length - k) z).set k (f x) = (l.take (k + 1)).map f ++ List.replicate (l.length - (k + 1)) z := by
  have hk := (List.getElem?_eq_some_iff.1 h).1
  have h1 : ((l.take k).map f).length = k := by simp; omega
  rw [List.set_append_right _ _ (by omega), h1, Nat.sub_self, show l.length - k = (l.length - (k + 1)) + 1 by omega, List.replicate_succ, List.set_cons_zero]
  rw [List.take_add_one, h, List.map_append]
  simp
theorem fill_get {α β : Type} (f : α -> β) (z : β) {l : List α} {k : Nat} (h : k < l.length) : ((l.take k).map f ++ List.replicate (l.length - k) z)[k]? = some z := by
  have h1 : ((l.take k).map f).length = k := by simp; omega
  rw [List.getElem?_append_right (by omega), h1, Nat.sub_self, List.getElem?_replicate, if_pos (by omega)]
def opO (x : It) : O := ⟨ofK x.w, ofV x.w⟩
def told1 (x : It) (r : R) : It := { x with s := pkW r.c r.v }
def tellK (xs : List It) (rs : List R) (k : Nat) : List It := List.zipWith told1 (xs.take k) (rs.take k) ++ xs.drop k
theorem tellK_len {xs : List It} {rs : List R} (h : rs.length = xs.length) (k : Nat) : (tellK xs rs k).length = xs.length := by
  unfold tellK
  simp
  omega
theorem tellK_get {xs : List It} {rs : List R} (h : rs.length = xs.length) {k : Nat} {x : It} (hx : xs[k]? = some x) : (tellK xs rs k)[k]? = some x := by
  have hk := (List.getElem?_eq_some_iff.1 hx).1
  unfold tellK
  rw [List.getElem?_append_right (by simp; omega), List.getElem?_drop]
  rw [show (List.zipWith told1 (xs.take k) (rs.take k)).length = k by simp; omega, Nat.sub_self, Nat.add_zero, hx]
theorem tellK_set {xs : List It} {rs : List R} (h : rs.length = xs.length) {k : Nat} {x : It} {r : R} (hx : xs[k]? = some x) (hr : rs[k]? = some r) : (tellK xs rs k).set k (told1 x r) = tellK xs rs (k + 1) := by
  have hk := (List.getElem?_eq_some_iff.1 hx).1
  have h1 : (List.zipWith told1 (xs.take k) (rs.take k)).length = k := by simp; omega
  unfold tellK
  rw [List.set_append_right _ _ (by omega), h1, Nat.sub_self, List.drop_eq_getElem_cons hk, List.set_cons_zero]
  rw [List.take_add_one, List.take_add_one, hx, hr, Option.toList_some, Option.toList_some, List.zipWith_append (by simp; omega)]
  simp
theorem ofK_lt (x : Int) : 0 <= ofK x /\ ofK x < 256 := by
  unfold ofK
  split
  · rw [IntKind.wrap_u8]; omega
  · omega
def pDo (s : Ps) (rs : List R) : Ps := { s with T := { s.T with nt := 0, pc := 37 }, xs := tellK s.xs rs s.xs.length }
end Go.Cm
namespace Go.Proofs.Tryz
open Go.L Go.Rp Go.Sk Go.Cm
set_option maxRecDepth 100000
structure ObjC (σ : Type) (o : Nat) where
  P : Heap -> List Nat -> σ -> Prop
  run : List O -> σ -> List R × σ
  K : Nat
  rl : ∀ os st, (run os st).1.length = os.length
  lt : ∀ {h X st}, P h X st -> ∀ x ∈ X, x < h.length
  keep : ∀ {h h' X st}, P h X st -> (∀ x ∈ X, h'[x]? = h[x]?) -> P h' X st
  dof : ∀ (n : Nat) {h X st} (os : List O), P h X st -> (∀ x ∈ os, 0 <= x.k /\ x.k < 256) -> os.length <= 1000 -> 2 * os.length + K <= n -> ∃ h' X' T, call (n + 8) 17 [.ptr o 0, .sl 2 (os.map O.w) false] h = some (.ret [.row T 2 0 os.length], h') /\ RowR h' T (run os st).1 /\ P h' X' (run os st).2 /\ h.length <= T /\ T ∉ X' /\ XFed h h' X X'
section
variable {h : Heap} {t m rb o : Nat} {pp : Int} {bb : Option Nat} {dn : V} {sz : Int} {s : Ps}
theorem TS.row (A : TS h t m rb o pp bb dn sz s) (h0 : s.xs ≠ []) : ∃ b z, bb = some b /\ h[b]? = some (.row 87 3 (s.xs.map It.c) z) /\ b ≠ t /\ b ≠ m /\ b ≠ rb := by
  have := A.bt
  cases bb with
  | none => exact absurd this h0
  | some b =>
    obtain ⟨⟨z, h1⟩, h2⟩ := this
    exact ⟨b, z, rfl, h1, h2⟩
def opsK (xs : List It) (k : Nat) : List (List V) := (xs.take k).map (fun x => O.w (opO x)) ++ List.replicate (xs.length - k) [.int .u8 0, .int .i32 0]
theorem do_ops (n : Nat) (hl : s.xs.length <= 1000) (zz : Nat) (X : Option (Res × Heap)) :
    ∀ (d k M : Nat) (b0 : Bool) (bb : Option Nat), TS h t m rb o pp bb dn sz s -> (∀ b0 next, tnDo_l12 (n + 3) t (batV bb s.xs.length) (zz, s.xs.map It.c) [.sl 2 (opsK s.xs s.xs.length) false, .bool b0, .int .i64 (s.xs.length : Int)] h next = X) -> k + d = s.xs.length -> d < M -> loopx M (tnDo_l12 (n + 3) t (batV bb s.xs.length) (zz, s.xs.map It.c)) [.sl 2 (opsK s.xs k) false, .bool b0, .int .i64 (k : Int)] h = X
  | _, _, 0, _, _, _, _, _, hd => by omega
  | 0, k, M + 1, b0, bb, A, hX, hk, _ => by
    obtain rfl : k = s.xs.length := by omega
    exact hX b0 _
  | d + 1, k, M + 1, b0, bb, A, hX, hk, hd => by
    rw [loopx_succ]
    have hkl : k < s.xs.length := by omega
    obtain ⟨b, z, rfl, e2, _⟩ := A.row (fun e => by rw [e] at hkl; exact absurd hkl (by simp))
    obtain ⟨x, hx⟩ : ∃ x, s.xs[k]? = some x := ⟨_, List.getElem?_eq_getElem hkl⟩
    have e3 : (s.xs.map It.c)[k]? = some x.c := by rw [List.getElem?_map, hx]; rfl
    generalize hnx : loopx M (tnDo_l12 (n + 3) t (batV (some b) s.xs.length) (zz, s.xs.map It.c)) = nx
    unfold tnDo_l12
    simp only [gv, List.getD_cons_zero, List.getD_cons_succ]
    rw [bop_i64_lss, bd_some, bv_bool, if_pos (by simp; omega), nv_nat, bdS_some]
    unfold batV
    simp only
    rw [idxP_row (by omega), bd_some, Nat.zero_add, cellsP_rptr e2 (by decide) e3, bd3_some, if_pos (by decide)]
    rw [show ((It.c x).drop 0 |>.take 3) = It.c x from rfl, if_pos (show (It.c x).length = 3 from rfl), if_pos (show (It.c x).length <= 3 from Nat.le_refl 3), show (setR [(V.int .i64 0), (V.int .i64 0), (V.int .i64 0)] 0 (It.c x))[1]? = some (V.int .i64 x.w) from rfl, bd_some, wd_ofop n, cl_ret]
    simp only [List.getElem?_cons_zero, List.getElem?_cons_succ, bd_some, nv_nat, bdS_some]
    have hol : (opsK s.xs k).length = s.xs.length := by unfold opsK; simp; omega
    rw [show lsl (V.sl 2 (opsK s.xs k) false) = opsK s.xs k from rfl, if_pos ⟨by first | trivial | rfl, by omega, by decide⟩, if_pos (by rfl), if_pos ⟨by first | trivial | rfl, by decide, by exact Nat.le_refl 2⟩]
    rw [show (opsK s.xs k)[k]? = some [.int .u8 0, .int .i32 0] from fill_get _ _ hkl, bd_some, bop_i64_add, bd_some, step64 (by unfold lim; omega)]
    rw [show setR [V.int .u8 0, V.int .i32 0] 0 (V.cells (.agg [.int .u8 (ofK x.w), .int .i32 (ofV x.w)])) = O.w (opO x) from rfl]
    rw [show (opsK s.xs k).set k (O.w (opO x)) = opsK s.xs (k + 1) from fill_set (fun x => O.w (opO x)) _ hx]
    rw [<- hnx]
    exact do_ops n hl zz X d (k + 1) M false (some b) A hX (by omega) (by omega)
theorem do_told (n : Nat) {T : Nat} {rs : List R} (hl : s.xs.length <= 1000) (hr : rs.length = s.xs.length) (zz : Nat) (L : List (List V)) (hL : L.length = s.xs.length) (hTt : T ≠ t) :
    ∀ (d k M : Nat) (h : Heap) (b0 : Bool) (bb : Option Nat), bb ≠ some T -> TS h t m rb o pp bb dn sz { s with xs := tellK s.xs rs k } -> RowR h T rs -> k + d = s.xs.length -> d < M →
      ∃ h', loopx M (tnDo_l45 (n + 2) t (.row T 2 0 rs.length) (zz, L)) [.bool b0, .int .i64 (k : Int)] h = some (.ret [], h') /\ TS h' t m rb o pp bb (.sl 3 ((tellK s.xs rs s.xs.length).map It.c) false) sz (pDo s rs) /\ h'.length = h.length /\ ∀ i, i ≠ t -> bb ≠ some i -> h'[i]? = h[i]?
  | _, _, 0, _, _, _, _, _, _, _, hd => by omega
  | 0, k, M + 1, h, b0, bb, hTb, A, RR, hk, _ => by
    obtain rfl : k = s.xs.length := by omega
    rw [loopx_succ]
    unfold tnDo_l45
    simp only [gv, List.getD_cons_zero, List.getD_cons_succ]
    rw [bop_i64_lss, bd_some, bv_bool, if_neg (by simp; omega), A.rd (by decide), gv12]
    obtain ⟨z, hb, hz⟩ := A.bat
    rw [hb, bd_some, if_pos ⟨hz.imp id (fun e => by rw [e]; rfl), by rw [List.length_map, tellK_len hr]; unfold lim; omega⟩, A.wr (by decide)]
    have A1 : TS (h.set t (.box 17 (tcl s.T (batV bb (tellK s.xs rs s.xs.length).length) m o pp (.sl 3 ((tellK s.xs rs s.xs.length).map It.c) false)))) t m rb o pp bb (.sl 3 ((tellK s.xs rs s.xs.length).map It.c) false) sz { s with xs := tellK s.xs rs s.xs.length } := by
      refine ⟨set_at A.lt _, A.mem.keep (List.getElem?_set_ne A.tm) (List.getElem?_set_ne A.tr), A.tm, A.tr, ?_⟩
      have := A.bt
      cases bb with
      | none => exact this
      | some b =>
        obtain ⟨⟨z, h1⟩, h2, h3, h4⟩ := this
        exact ⟨⟨z, (List.getElem?_set_ne (Ne.symm h2)).trans h1⟩, h2, h3, h4⟩
    rw [show ((tcl s.T (batV bb (tellK s.xs rs s.xs.length).length) m o pp dn).set 16 (.sl 3 ((tellK s.xs rs s.xs.length).map It.c) false)) = tcl s.T (batV bb (tellK s.xs rs s.xs.length).length) m o pp (.sl 3 ((tellK s.xs rs s.xs.length).map It.c) false) from rfl]
    rw [A1.wr0 (by decide) _ _ _ { s.T with nt := 0 } rfl]
    have A2 := A1.upd { s.T with nt := 0 }
    rw [A2.wr0 (by decide) _ _ _ { s.T with nt := 0, pc := 37 } rfl]
    exact ⟨_, rfl, A2.upd { s.T with nt := 0, pc := 37 }, by simp, fun i hi _ => by rw [List.getElem?_set_ne (Ne.symm hi), List.getElem?_set_ne (Ne.symm hi), List.getElem?_set_ne (Ne.symm hi)]⟩
  | d + 1, k, M + 1, h, b0, bb, hTb, A, RR, hk, hd => by
    rw [loopx_succ]
    have hkl : k < s.xs.length := by omega
    obtain ⟨b, z, rfl, e2, n1, n2, n3⟩ := A.row (fun e => by
      have h2 : (tellK s.xs rs k).length = 0 := congrArg List.length e
      rw [tellK_len hr] at h2
      omega)
    obtain ⟨x, hx⟩ : ∃ x, s.xs[k]? = some x := ⟨_, List.getElem?_eq_getElem hkl⟩
    obtain ⟨r, hrk⟩ : ∃ r, rs[k]? = some r := ⟨_, List.getElem?_eq_getElem (by omega)⟩
    have e3 : ((tellK s.xs rs k).map It.c)[k]? = some x.c := by rw [List.getElem?_map, tellK_get hr hx]; rfl
    obtain ⟨zr, hR⟩ := RR
    have hRl : (rs.map R.w).length = rs.length := List.length_map ..
    have e4 : (rs.map R.w)[k]? = some (R.w r) := by rw [List.getElem?_map, hrk]; rfl
    have hsl : slcH h (.row T 2 0 rs.length) = some (2, rs.map R.w) := by have := slcH_all hR; rwa [hRl] at this
    unfold tnDo_l45
    simp only [gv, List.getD_cons_zero, List.getD_cons_succ]
    rw [bop_i64_lss, bd_some, bv_bool, if_pos (by simp; omega), hsl, bd_some, bop_i64_lss, bd_some, bv_bool, if_pos (by simp; omega), nv_nat, bdS_some, idxP_row (by omega), bd_some, Nat.zero_add, cellsP_rptr hR (by decide) e4, bd3_some, if_pos (by decide)]
    rw [show ((R.w r).drop 0 |>.take 2) = R.w r from rfl, if_pos (show (R.w r).length = 2 from rfl), if_pos (show (R.w r).length <= 2 from Nat.le_refl 2), A.rd (by decide), gv12]
    rw [show (V.agg ((setR [(V.int .u8 0), (V.int .i32 0)] 0 (R.w r)).drop 0 |>.take 2)) = V.agg [.int .u8 r.c, .int .i32 r.v] from rfl, wd_res n, clS_ret, one1_one, bdS_some]
    unfold batV
    simp only
    rw [idxP_row (by rw [tellK_len hr]; omega), bd_some, Nat.zero_add, show addP 2 (ipOf (V.row b 3 0 (tellK s.xs rs k).length) (V.rptr b 3 k 0)) = some (V.rptr b 3 k 2) from rfl, bd_some, if_pos (by rfl), show V.cells (.int .i64 (pkW r.c r.v)) = [.int .i64 (pkW r.c r.v)] from rfl, writeB_rptr e2 (by decide) (by simp) e3, bd2_some, bop_i64_add, bd_some, step64 (by unfold lim; omega)]
    have hs : ((tellK s.xs rs k).map It.c).set k (setR (It.c x) 2 [V.int .i64 (pkW r.c r.v)]) = (tellK s.xs rs (k + 1)).map It.c := by
      rw [<- tellK_set hr hx hrk, List.map_set]; rfl
    rw [hs]
    have A1 : TS (h.set b (.row 87 3 ((tellK s.xs rs (k + 1)).map It.c) z)) t m rb o pp (some b) dn sz { s with xs := tellK s.xs rs (k + 1) } := by
      refine ⟨?_, A.mem.keep (List.getElem?_set_ne n2) (List.getElem?_set_ne n3), A.tm, A.tr, ⟨⟨z, set_at (lt_of_at e2) _⟩, n1, n2, n3⟩⟩
      rw [List.getElem?_set_ne n1, A.tn]
      simp only [tellK_len hr]
    obtain ⟨h', c1, A2, l1, f1⟩ := do_told n hl hr zz L hL hTt d (k + 1) M _ false (some b) hTb A1 ⟨zr, (List.getElem?_set_ne (fun e => hTb (by rw [e]))).trans hR⟩ (by omega) (by omega)
    exact ⟨h', c1, A2, by simpa using l1, fun i q1 q2 => (f1 i q1 q2).trans (List.getElem?_set_ne (fun e => q2 (by rw [e])))⟩
theorem tn_do (n : Nat) {σ : Type} (C : ObjC σ o) {X : List Nat} {st : σ} (A : TS h t m rb o pp bb dn sz s) (B : C.P h X st) (ht : t ∉ X) (hm : m ∉ X) (hrb : rb ∉ X) (hbb : ∀ b, bb = some b -> b ∉ X) (hl : s.xs.length <= 1000) (hn : 2 * s.xs.length + C.K <= n) :
    ∃ h' X', call (n + 9) 119 [.ptr t 0] h = some (.ret [], h') /\ TS h' t m rb o pp bb (.sl 3 ((tellK s.xs (C.run (s.xs.map opO) st).1 s.xs.length).map It.c) false) sz (pDo s (C.run (s.xs.map opO) st).1) /\ C.P h' X' (C.run (s.xs.map opO) st).2 ∧
      h.length <= h'.length /\ (∀ i, i < h.length -> i ≠ t -> bb ≠ some i -> i ∉ X -> h'[i]? = h[i]?) /\ ∀ x ∈ X', x ∈ X \/ h.length <= x := by
  rw [show n + 9 = (n + 8) + 1 from rfl, tnDo_eq]
  unfold tnDo
  obtain ⟨z, hb, hz⟩ := A.bat
  rw [A.rd (by decide), gv12, hb, bd_some]
  simp only [List.length_map]
  rw [nv_nat, bdS_some, bdS_some, if_pos ⟨Nat.le_refl _, by unfold lim; omega, by first | trivial | rfl⟩, A.rd (by decide), gv12, hb, bd_some]
  have hops : opsK s.xs s.xs.length = (s.xs.map opO).map O.w := by unfold opsK; simp [List.take_of_length_le]
  have hlen : (s.xs.map opO).length = s.xs.length := List.length_map ..
  obtain ⟨h1, X', T, c1, RR, B1, t1, t2, XF⟩ := C.dof n (s.xs.map opO) B (fun x hx => by obtain ⟨y, _, rfl⟩ := List.mem_map.1 hx; exact ofK_lt _) (by rw [hlen]; exact hl) (by rw [hlen]; exact hn)
  have hrl := C.rl (s.xs.map opO) st
  rw [hlen] at hrl
  have A1 : TS h1 t m rb o pp bb dn sz s := by
    refine ⟨(XF.old t A.lt ht).trans A.tn, A.mem.keep (XF.old m A.mem.lt.1 hm) (XF.old rb A.mem.lt.2 hrb), A.tm, A.tr, ?_⟩
    have := A.bt
    cases bb with
    | none => exact this
    | some b =>
      obtain ⟨⟨z, q1⟩, q2⟩ := this
      exact ⟨⟨z, (XF.old b (lt_of_at q1) (hbb b rfl)).trans q1⟩, q2⟩
  have hbl : ∀ b, bb = some b -> b < h.length := fun b hb => by
    subst hb
    obtain ⟨⟨z, q1⟩, _⟩ := A.bt
    exact lt_of_at q1
  have hTb : bb ≠ some T := fun e => by have := hbl T e; omega
  have hTt : T ≠ t := by have := A.lt; omega
  obtain ⟨z1, hb1, _⟩ := A1.bat
  have hA1 : TS h1 t m rb o pp bb dn sz { s with xs := tellK s.xs (C.run (s.xs.map opO) st).1 0 } := by
    have : tellK s.xs (C.run (s.xs.map opO) st).1 0 = s.xs := by unfold tellK; simp
    rw [this]; exact A1
  obtain ⟨h', c2, A2, l2, f2⟩ := do_told (n + 6) (T := T) hl hrl z1 (s.xs.map It.c) (List.length_map ..) hTt s.xs.length 0 (n + 8) h1 false bb hTb hA1 RR (by omega) (by omega)
  refine ⟨h', X', ?_, A2, C.keep B1 (fun x hx => f2 x ?_ ?_), by rw [l2]; exact XF.len, fun i q1 q2 q3 q4 => (f2 i q2 q3).trans (XF.old i q1 q4), XF.new⟩
  · refine do_ops (n + 5) hl z _ s.xs.length 0 (n + 8) false bb A (fun b0 next => ?_) (by omega) (by omega)
    unfold tnDo_l12
    simp only [gv, List.getD_cons_zero, List.getD_cons_succ]
    rw [bop_i64_lss, bd_some, bv_bool, if_neg (by simp), A.rd (by decide), gv14, show lsl (V.sl 2 (opsK s.xs s.xs.length) false) = opsK s.xs s.xs.length from rfl, hops, show n + 5 + 3 = n + 8 from rfl, c1, cl_ret, one1_one, A1.rd (by decide), gv12, hb1, bd_some, hlen, <- hrl]
    exact c2
  · rintro rfl
    rcases XF.new _ hx with e | e
    · exact ht e
    · have := A.lt; omega
  · intro e
    rcases XF.new _ hx with e1 | e1
    · exact hbb x e e1
    · have := hbl x e; omega
end
end Go.Proofs.Tryz
set_option linter.unusedVariables false
set_option linter.unusedSimpArgs false
namespace Go.Cm
open Go.L
def plE (t : Nat) (l : List (Int × Nat)) : List (V × V) := l.map fun p => (.int .i64 p.1, .bf p.2 [.ptr t 0])
theorem find_plE (t : Nat) (k : Int) : ∀ (l : List (Int × Nat)) (i : Nat), (∀ p ∈ l, p.1 ≠ k) -> findI [0] (.int .i64 k) (plE t l) i = some none
  | [], _, _ => rfl
  | (a, f) :: l, i, h => by
    have h1 : a ≠ k := h (a, f) (List.mem_cons_self ..)
    have h2 := find_plE t k l (i + 1) fun p hp => h p (List.mem_cons_of_mem _ hp)
    show (match keq [0] (.int .i64 k) (.int .i64 a) with | some true => some (some i) | some false => findI [0] (.int .i64 k) (plE t l) (i + 1) | none => none) = _
    have h3 : keq [0] (.int .i64 k) (.int .i64 a) = some false := by
      show some (k == a && true) = some false
      rw [show (k == a) = false by simpa using Ne.symm h1]; rfl
    rw [h3]
    exact h2
def pStep (pp : Int) (s : Ps) : Ps :=
  if s.T.pc = 20 then pPass s else if s.T.pc = 21 then pStamp s else if s.T.pc = 22 then pMany s else if s.T.pc = 23 then pLook s else if s.T.pc = 24 then pPend s
  else if s.T.pc = 25 then pHelp s else if s.T.pc = 26 then pFirst s else if s.T.pc = 27 then pBare s else if s.T.pc = 28 then pSolo s else if s.T.pc = 29 then pAfter s
  else if s.T.pc = 30 then pTie s else if s.T.pc = 31 then pSet s else if s.T.pc = 32 then pSeen s else if s.T.pc = 33 then pScan s else if s.T.pc = 34 then pPick s
  else if s.T.pc = 35 then pNext s else if s.T.pc = 37 then pTell s else if s.T.pc = 38 then pAge s else pFree pp s
end Go.Cm
namespace Go.Proofs.Tryz
open Go.L Go.Rp Go.Sk Go.Cm
set_option maxRecDepth 100000
theorem kds_i64 : kds prog 12 3 = some [0] := by kernel_rfl
theorem plF_all {R : Type} (h : Heap) (t : Nat) (K : Heap -> Option R) : ∀ (l d : List (Int × Nat)), ((d ++ l).map Prod.fst).Nodup -> plF h.length t l (h ++ [.map (plE t d)]) K = K (h ++ [.map (plE t (d ++ l))])
  | [], d, _ => by rw [List.append_nil]; rfl
  | (k, f) :: l, d, hn => by
    have hk : ∀ p ∈ d, p.1 ≠ k := fun p hp e => by
      rw [List.map_append, List.nodup_append] at hn
      exact hn.2.2 p.1 (List.mem_map.2 ⟨p, hp, rfl⟩) k (by simp) e
    unfold plF
    rw [List.getElem?_concat_length, mapAt_map, kds_i64]
    simp only [bd_some]
    rw [find_plE t k d 0 hk, bd_some, if_pos ⟨rfl, rfl⟩]
    have e : (h ++ [HB.map (plE t d)]).set h.length (.map (upd (plE t d) (.int .i64 k) (.bf f [.ptr t 0]) none)) = h ++ [.map (plE t (d ++ [(k, f)]))] := by
      simp [upd, plE]
    rw [e, plF_all h t K l (d ++ [(k, f)]) (by simpa using hn)]
    simp
theorem places_call (n : Nat) (t : Nat) (h : Heap) : call (n + 1) 79 [.ptr t 0] h = some (.ret [.map h.length], h ++ [.map (plE t plcL)]) := by
  rw [tnPlaces_eq]
  exact plF_all h t _ plcL [] (by decide)
theorem serves_call (n : Nat) (T : Th) (bv : V) (h : Heap) : call (n + 1) 50 [.agg (T.v bv)] h = some (.ret [.bool (decide (20 <= T.pc /\ T.pc <= 39))], h) := by
  refine (cbServes_eq n T.id T.pc T.rc T.sq T.wd T.lk T.cu T.pv T.nt T.mn T.ps T.rn bv h).trans ?_
  unfold cbServes
  by_cases h1 : 20 <= T.pc
  · rw [if_pos (by simpa using h1)]
    simp [h1]
  · rw [if_neg (by simpa using h1)]
    simp [h1]
theorem fbK_bf {R : Type} (f : Nat) (c : List V) (a b : Nat -> List V -> Option R) : fbK (.bf f c) a b = b f c := rfl
theorem step_call (n : Nat) {h : Heap} {m rb o : Nat} {pp sz : Int} {T : Th} {bat : V} {xs : List It} {l : List Int} {st : Int} {z : Nat} (hS : 20 <= T.pc /\ T.pc <= 39) (hb : slcH h bat = some (z, xs.map It.c)) (hz : z = 3 \/ xs = []) (hxl : xs.length < lim)
    (M : MemAt h m rb sz l st) (f i : Nat) (hpl : findI [0] (.int .i64 T.pc) (plE (h.length + 1) plcL) 0 = some (some i)) (hpi : (plE (h.length + 1) plcL)[i]? = some (.int .i64 T.pc, .bf f [.ptr (h.length + 1) 0])) (hk : keepS f = true /\ okV prog 0 f = true)
    {s' : Ps} {Q : Heap -> Option Nat -> V -> Prop}
    (hf : ∀ g, TS g (h.length + 1) m rb o pp (some h.length) (.sl 0 [] true) sz ⟨T, xs, l, st⟩ -> Fr h g [] -> ∃ g' bb' dn', call (n + 1) f [.ptr (h.length + 1) 0] g = some (.ret [], g') /\ TS g' (h.length + 1) m rb o pp bb' dn' sz s' /\ Q g' bb' dn') :
    ∃ h' bb' dn', call (n + 2) 38 [.ptr m 0, .ptr o 0, .int .i64 pp, .agg (T.v bat)] h = some (.ret [.agg (s'.T.v (batV bb' s'.xs.length)), dn'], h') /\ TS h' (h.length + 1) m rb o pp bb' dn' sz s' /\ Q h' bb' dn' := by
  have hml := M.lt
  have e0 := (cbStep_eq (n + 1) m o pp T.id T.pc T.rc T.sq T.wd T.lk T.cu T.pv T.nt T.mn T.ps T.rn bat h)
  rw [show call (n + 2) 38 [.ptr m 0, .ptr o 0, .int .i64 pp, .agg (T.v bat)] h = _ from e0]
  unfold cbStep
  rw [hb, bd_some]
  simp only [List.length_map]
  rw [if_pos ⟨hz.imp id (fun e => by rw [e]; rfl), hxl⟩]
  have e1 := serves_call n T (.row h.length 3 0 xs.length) (h ++ [.row 87 3 (xs.map It.c) true])
  rw [show (decide (20 <= T.pc /\ T.pc <= 39)) = true from decide_eq_true hS] at e1
  unfold Th.v at e1
  rw [e1, cl_ret, one1_one, uop_not, bd_some, bv_bool, if_neg (by decide)]
  generalize hh1 : (h ++ [HB.row 87 3 (xs.map It.c) true]) = h1
  have l1 : h1.length = h.length + 1 := by rw [<- hh1]; simp
  rw [l1]
  generalize hh2 : (h1 ++ [HB.box 17 [.int .i64 T.id, .int .i64 T.pc, .int .i64 T.rc, .int .i64 T.sq, .int .i64 T.wd, .int .i64 T.lk, .int .i64 T.cu, .int .i64 T.pv, .int .i64 T.nt, .int .i64 T.mn, .int .i64 T.ps, .int .i64 T.rn, .row h.length 3 0 xs.length, .ptr m 0, .ptr o 0, .int .i64 pp, .sl 0 [] true]]) = h2
  have l2 : h2.length = h.length + 2 := by rw [<- hh2]; simp [l1]
  rw [places_call, clH_ret, one1_one, mapOf_c, bdS_some, show kds prog 12 3 = some [0] from kds_i64]
  simp only [bd_some]
  rw [hpl, bdS_some, show entryV (plE (h.length + 1) plcL) (V.val .nilFunc) (some i) = some (.bf f [.ptr (h.length + 1) 0]) from by unfold entryV; simp only [hpi]; rfl, bd_some, if_pos ⟨rfl, rfl, by first | trivial | rfl⟩, fbK_bf, if_pos hk, List.append_nil]
  have g1 : ∀ i, i < h.length -> (h2 ++ [HB.map (plE (h.length + 1) plcL)])[i]? = h[i]? := fun i hi => by
    rw [List.getElem?_append_left (by omega), <- hh2, List.getElem?_append_left (by omega), <- hh1, List.getElem?_append_left hi]
  have A : TS (h2 ++ [HB.map (plE (h.length + 1) plcL)]) (h.length + 1) m rb o pp (some h.length) (.sl 0 [] true) sz ⟨T, xs, l, st⟩ := by
    refine ⟨?_, M.keep (g1 m hml.1) (g1 rb hml.2), by omega, by omega, ⟨⟨true, ?_⟩, by omega, by omega, by omega⟩⟩
    · rw [List.getElem?_append_left (by omega), <- hh2, <- l1, List.getElem?_concat_length]; rfl
    · rw [List.getElem?_append_left (by omega), <- hh2, List.getElem?_append_left (by omega), <- hh1, List.getElem?_concat_length]
  obtain ⟨g', bb', dn', c1, A1, q⟩ := hf _ A ⟨by simp; omega, fun i h1 _ => g1 i h1⟩
  rw [c1, clH_ret, cellsP_box A1.tn, bd3_some, if_pos (by decide), cellsP_box A1.tn, bd3_some, if_pos (by decide)]
  refine ⟨g', bb', dn', ?_, A1, q⟩
  rw [show (tcl s'.T (batV bb' s'.xs.length) m o pp dn')[16]? = some dn' from rfl, bd_some]
  rfl
def BtR (h : Heap) (m rb : Nat) (bat : V) (xs : List It) : Prop := ∃ bb, bat = batV bb xs.length /\ match bb with | none => xs = [] | some b => (∃ z, h[b]? = some (.row 87 3 (xs.map It.c) z)) /\ b ≠ m /\ b ≠ rb
theorem BtR.rd {h : Heap} {m rb : Nat} {bat : V} {xs : List It} (B : BtR h m rb bat xs) : ∃ z, slcH h bat = some (z, xs.map It.c) /\ (z = 3 \/ xs = []) := by
  obtain ⟨bb, rfl, hb⟩ := B
  cases bb with
  | none => exact ⟨0, by rw [show xs = [] from hb]; rfl, .inr hb⟩
  | some b =>
    obtain ⟨⟨z, h1⟩, _⟩ := hb
    refine ⟨3, ?_, .inl rfl⟩
    unfold batV
    have := slcH_all h1
    rwa [List.length_map] at this
theorem TS.btr {h : Heap} {t m rb o : Nat} {pp : Int} {bb : Option Nat} {dn : V} {sz : Int} {s : Ps} (A : TS h t m rb o pp bb dn sz s) : BtR h m rb (batV bb s.xs.length) s.xs := by
  refine ⟨bb, rfl, ?_⟩
  have := A.bt
  cases bb with
  | none => exact this
  | some b => exact ⟨this.1, this.2.2⟩
structure StepR (h h' : Heap) (m rb : Nat) (sz : Int) (s' : Ps) (bat' : V) (w : List Nat) : Prop where
  mem : MemAt h' m rb sz s'.l s'.st
  bt : BtR h' m rb bat' s'.xs
  fr : Fr h h' w
theorem step_any (n : Nat) {h : Heap} {m rb o : Nat} {pp sz : Int} {T : Th} {bat : V} {xs : List It} {l : List Int} {st : Int} (hS : 20 <= T.pc /\ T.pc <= 39) (h36 : T.pc ≠ 36) (B : BtR h m rb bat xs) (hxl : xs.length + 1 < lim) (hll : l.length < lim)
    (M : MemAt h m rb sz l st) : ∃ h' bat', call (n + 6) 38 [.ptr m 0, .ptr o 0, .int .i64 pp, .agg (T.v bat)] h = some (.ret [.agg ((pStep pp ⟨T, xs, l, st⟩).T.v bat'), .sl 0 [] true], h') /\ StepR h h' m rb sz (pStep pp ⟨T, xs, l, st⟩) bat' [m, rb] := by
  obtain ⟨z, hb, hz⟩ := B.rd
  have hml := M.lt
  have key : ∀ (f i : Nat) (s' : Ps), pStep pp ⟨T, xs, l, st⟩ = s' -> findI [0] (.int .i64 T.pc) (plE (h.length + 1) plcL) 0 = some (some i) -> (plE (h.length + 1) plcL)[i]? = some (.int .i64 T.pc, .bf f [.ptr (h.length + 1) 0]) -> (keepS f = true /\ okV prog 0 f = true) →
      (∀ g, TS g (h.length + 1) m rb o pp (some h.length) (.sl 0 [] true) sz ⟨T, xs, l, st⟩ -> ∃ g' bb', call (n + 4 + 1) f [.ptr (h.length + 1) 0] g = some (.ret [], g') /\ TS g' (h.length + 1) m rb o pp bb' (.sl 0 [] true) sz s' /\ Fx g g' (h.length + 1) m rb (some h.length) bb') →
      ∃ h' bat', call (n + 6) 38 [.ptr m 0, .ptr o 0, .int .i64 pp, .agg (T.v bat)] h = some (.ret [.agg ((pStep pp ⟨T, xs, l, st⟩).T.v bat'), .sl 0 [] true], h') /\ StepR h h' m rb sz (pStep pp ⟨T, xs, l, st⟩) bat' [m, rb] := by
    intro f i s' hs' h1 h2 h3 h4
    obtain ⟨h', bb', dn', c1, A1, q, rfl⟩ := step_call (n + 4) (o := o) (pp := pp) (Q := fun g' bb' dn => Fr h g' [m, rb] /\ dn = .sl 0 [] true) hS hb hz (by omega) M f i h1 h2 h3 (fun g A F => by
      obtain ⟨g', bb', c, A', F'⟩ := h4 g A
      exact ⟨g', bb', _, c, A', ⟨Nat.le_trans F.len F'.len, fun i q1 q2 => (F'.old i (by have := F.len; omega) (by omega) (fun e => q2 (by simp [e])) (fun e => q2 (by simp [e])) (by simp; omega)).trans (F.old i q1 (by simp))⟩, rfl⟩)
    rw [hs']
    exact ⟨h', _, c1, A1.mem, A1.btr, q⟩
  have one : ∀ (f : Nat) (p : Ps -> Ps), (∀ g, TS g (h.length + 1) m rb o pp (some h.length) (.sl 0 [] true) sz ⟨T, xs, l, st⟩ -> ∃ g', call (n + 1 + 4) f [.ptr (h.length + 1) 0] g = some (.ret [], g') /\ TS g' (h.length + 1) m rb o pp (some h.length) (.sl 0 [] true) sz (p ⟨T, xs, l, st⟩) /\ Fx g g' (h.length + 1) m rb (some h.length) (some h.length)) →
      (∀ g, TS g (h.length + 1) m rb o pp (some h.length) (.sl 0 [] true) sz ⟨T, xs, l, st⟩ -> ∃ g' bb', call (n + 4 + 1) f [.ptr (h.length + 1) 0] g = some (.ret [], g') /\ TS g' (h.length + 1) m rb o pp bb' (.sl 0 [] true) sz (p ⟨T, xs, l, st⟩) /\ Fx g g' (h.length + 1) m rb (some h.length) bb') :=
    fun f p hp g A => by obtain ⟨g', c, A', F'⟩ := hp g A; exact ⟨g', _, c, A', F'⟩
  have hcs : T.pc = 20 \/ T.pc = 21 \/ T.pc = 22 \/ T.pc = 23 \/ T.pc = 24 \/ T.pc = 25 \/ T.pc = 26 \/ T.pc = 27 \/ T.pc = 28 \/ T.pc = 29 \/ T.pc = 30 \/ T.pc = 31 \/ T.pc = 32 \/ T.pc = 33 \/ T.pc = 34 \/ T.pc = 35 \/ T.pc = 37 \/ T.pc = 38 \/ T.pc = 39 := by omega
  obtain ⟨id, pc, rc, sq, wd, lk, cu, pv, nt, mn, ps, rn⟩ := T
  simp only at hcs
  rcases hcs with rfl | rfl | rfl | rfl | rfl | rfl | rfl | rfl | rfl | rfl | rfl | rfl | rfl | rfl | rfl | rfl | rfl | rfl | rfl
  · exact key 103 0 _ rfl rfl rfl ⟨by kernel_rfl, by kernel_rfl⟩ (one _ pPass fun g A => tn_pass (n + 1) A)
  · exact key 104 1 _ rfl rfl rfl ⟨by kernel_rfl, by kernel_rfl⟩ (one _ pStamp fun g A => tn_stamp (n + 1) A)
  · exact key 105 2 _ rfl rfl rfl ⟨by kernel_rfl, by kernel_rfl⟩ (fun g A => by obtain ⟨g', c, A', F'⟩ := tn_many (n + 1) A hll; exact ⟨g', none, c, A', F'⟩)
  · exact key 106 3 _ rfl rfl rfl ⟨by kernel_rfl, by kernel_rfl⟩ (one _ pLook fun g A => tn_look (n + 1) A)
  · exact key 107 4 _ rfl rfl rfl ⟨by kernel_rfl, by kernel_rfl⟩ (one _ pPend fun g A => tn_pend (n + 1) A)
  · exact key 108 5 _ rfl rfl rfl ⟨by kernel_rfl, by kernel_rfl⟩ (one _ pHelp fun g A => tn_help (n + 1) A)
  · exact key 109 6 _ rfl rfl rfl ⟨by kernel_rfl, by kernel_rfl⟩ (one _ pFirst fun g A => tn_first (n + 1) A)
  · exact key 110 7 _ rfl rfl rfl ⟨by kernel_rfl, by kernel_rfl⟩ (one _ pBare fun g A => tn_bare (n + 1) A)
  · exact key 111 8 _ rfl rfl rfl ⟨by kernel_rfl, by kernel_rfl⟩ (one _ pSolo fun g A => tn_solo (n + 1) A)
  · exact key 112 9 _ rfl rfl rfl ⟨by kernel_rfl, by kernel_rfl⟩ (one _ pAfter fun g A => tn_after (n + 1) A)
  · exact key 113 10 _ rfl rfl rfl ⟨by kernel_rfl, by kernel_rfl⟩ (one _ pTie fun g A => tn_tie (n + 1) A)
  · exact key 114 11 _ rfl rfl rfl ⟨by kernel_rfl, by kernel_rfl⟩ (one _ pSet fun g A => tn_set (n + 1) A)
  · exact key 115 12 _ rfl rfl rfl ⟨by kernel_rfl, by kernel_rfl⟩ (one _ pSeen fun g A => tn_seen (n + 1) A)
  · exact key 116 13 _ rfl rfl rfl ⟨by kernel_rfl, by kernel_rfl⟩ (one _ pScan fun g A => tn_scan (n + 1) A)
  · exact key 117 14 _ rfl rfl rfl ⟨by kernel_rfl, by kernel_rfl⟩ (fun g A => tn_pick (n + 1) A hxl)
  · exact key 118 15 _ rfl rfl rfl ⟨by kernel_rfl, by kernel_rfl⟩ (one _ pNext fun g A => tn_next (n + 1) A)
  · exact key 120 17 _ rfl rfl rfl ⟨by kernel_rfl, by kernel_rfl⟩ (one _ pTell fun g A => tn_tell (n + 1) A)
  · exact key 121 18 _ rfl rfl rfl ⟨by kernel_rfl, by kernel_rfl⟩ (one _ pAge fun g A => tn_age (n + 1) A)
  · exact key 122 19 _ rfl rfl rfl ⟨by kernel_rfl, by kernel_rfl⟩ (one _ (pFree pp) fun g A => tn_free (n + 1) A)
theorem step_do (n : Nat) {h : Heap} {m rb o : Nat} {pp sz : Int} {T : Th} {bat : V} {xs : List It} {l : List Int} {st : Int} (h36 : T.pc = 36) (B : BtR h m rb bat xs) (hxl : xs.length <= 1000) {σ : Type} (C : ObjC σ o) {X : List Nat} {so : σ} (O1 : C.P h X so) (hm : m ∉ X) (hrb : rb ∉ X)
    (M : MemAt h m rb sz l st) (hn : 2 * xs.length + C.K <= n) : ∃ h' bat' X', call (n + 10) 38 [.ptr m 0, .ptr o 0, .int .i64 pp, .agg (T.v bat)] h = some (.ret [.agg ((pDo ⟨T, xs, l, st⟩ (C.run (xs.map opO) so).1).T.v bat'), .sl 3 ((tellK xs (C.run (xs.map opO) so).1 xs.length).map It.c) false], h') /\ StepR h h' m rb sz (pDo ⟨T, xs, l, st⟩ (C.run (xs.map opO) so).1) bat' (m :: rb :: X) ∧
      C.P h' X' (C.run (xs.map opO) so).2 /\ ∀ x ∈ X', x ∈ X \/ h.length <= x := by
  obtain ⟨z, hb, hz⟩ := B.rd
  have hlim : 100000 < lim := by unfold lim; omega
  have hXl := C.lt O1
  obtain ⟨i0, pc, rc, sq, wd, lk, cu, pv, nt, mn, ps, rn⟩ := T
  obtain rfl : pc = 36 := h36
  obtain ⟨h', bb', dn', c1, A1, ⟨X', q1, q2, q3, rfl⟩⟩ := step_call (n + 8) (o := o) (pp := pp) (T := ⟨i0, 36, rc, sq, wd, lk, cu, pv, nt, mn, ps, rn⟩) (s' := pDo ⟨_, xs, l, st⟩ (C.run (xs.map opO) so).1) (Q := fun g' bb' dn' => ∃ X', C.P g' X' (C.run (xs.map opO) so).2 /\ (∀ x ∈ X', x ∈ X \/ h.length <= x) /\ Fr h g' (m :: rb :: X) /\ dn' = .sl 3 ((tellK xs (C.run (xs.map opO) so).1 xs.length).map It.c) false) (show (20 : Int) <= 36 /\ (36 : Int) <= 39 by decide) hb hz (by omega) M 119 16 rfl rfl ⟨by kernel_rfl, by kernel_rfl⟩ (fun g A F => by
    have O2 : C.P g X so := C.keep O1 (fun x hx => F.old x (hXl x hx) (by simp))
    obtain ⟨g', X', c, A', P', f1, f2, f3⟩ := tn_do n C A O2 (fun hx => by have := hXl _ hx; omega) hm hrb (fun b hb hx => by cases hb; have := hXl _ hx; omega) hxl hn
    refine ⟨g', _, _, c, A', X', P', fun x hx => (f3 x hx).imp id (fun e => Nat.le_trans F.len e), ⟨Nat.le_trans F.len f1, fun i q1 q2 => ?_⟩, rfl⟩
    exact (f2 i (by have := F.len; omega) (by omega) (by simp; omega) (fun e => q2 (by simp [e]))).trans (F.old i q1 (by simp)))
  exact ⟨h', _, X', c1, ⟨A1.mem, A1.btr, q3⟩, q1, q2⟩
end Go.Proofs.Tryz
set_option linter.unusedVariables false
namespace Go.Proofs.Tryz
open Go.L
set_option maxRecDepth 100000
noncomputable def r2New (n : Nat) (x0 : Int) (h : Heap) : Option (Res × Heap) :=
 some (Res.ret [(V.agg [(V.int .i64 (if 0 < (if 1000 < x0 then 1000 else x0) then (if 1000 < x0 then 1000 else x0) else 0)), (V.sl 0 [] true), (V.int .i64 0)])], h)
theorem r2New_eq (n : Nat) (x0 : Int) (h : Heap) : call (n + 1) 72 [(V.int .i64 x0)] h = r2New n x0 h := by kernel_rfl
noncomputable def r2fresh (n : Nat) (sz : Int) (cv : V) (st : Int) (h : Heap) : Option (Res × Heap) :=
 (bdS (slcH h cv) fun p0 =>
 (if (54 = 54 /\ (p0.1 = 1 \/ (p0.2).isEmpty = true)) then
 (bd (app 2 1 (S.own 2 1 []) p0.2) fun l1 =>
 some (Res.ret [(V.agg [(V.int .i64 sz), (V.row (h).length 1 0 (l1).length), (V.int .i64 st)])], (h ++ [(HB.row 2 1 l1 true)]))) else none))
theorem r2fresh_eq (n : Nat) (sz : Int) (cv : V) (st : Int) (h : Heap) : call (n + 1) 101 [(V.agg [(V.int .i64 sz), cv, (V.int .i64 st)])] h = r2fresh n sz cv st h := by kernel_rfl
noncomputable def r2Has (n : Nat) (sz : Int) (cv : V) (st : Int) (a : Int) (h : Heap) : Option (Res × Heap) :=
 (if (decide (a ≥ 0)) then
 (bd (slcH h cv) fun p0 =>
 some (Res.ret [(V.bool (decide (a < ((p0.2).length : Int))))], h))
 else
 some (Res.ret [(V.bool false)], h))
theorem r2Has_eq (n : Nat) (sz : Int) (cv : V) (st : Int) (a : Int) (h : Heap) : call (n + 1) 102 [(V.agg [(V.int .i64 sz), cv, (V.int .i64 st)]), (V.int .i64 a)] h = r2Has n sz cv st a h := by kernel_rfl
noncomputable def r2Alloc (n : Nat) (sz : Int) (cv : V) (st : Int) (k : Int) (h : Heap) : Option (Res × Heap) :=
 (if (decide (k < 0)) then
 some (Res.ret [(V.agg [(V.int .i64 sz), cv, (V.int .i64 st)]), (V.int .i64 0), (V.int .i64 1)], h)
 else
 (bd (slcH h cv) fun p0 =>
 (if (decide (k > (IntKind.i64.wrap (sz - ((p0.2).length : Int))))) then
 some (Res.ret [(V.agg [(V.int .i64 sz), cv, (V.int .i64 st)]), (V.int .i64 0), (V.int .i64 11)], h)
 else
 (bd (slcH h cv) fun p1 =>
 (cl (call n 101 [(V.agg [(V.int .i64 sz), cv, (V.int .i64 st)])] h) (fun r2 h3 =>
 (one1 r2 fun v5 =>
 (if ((V.cells v5)).length = 3 then
 (if (((V.cells v5)).length <= 3) then
 (bd ((setR [(V.int .i64 0), (V.sl 0 [] true), (V.int .i64 0)] 0 (V.cells v5)))[1]? fun v6 =>
 (bdS (nv (V.int .i64 k)) fun n7 =>
 (if (n7 < lim /\ 1 = 1) then (if (nilS v6 = true /\ 0 < n7) then
 (bd ((setR (setR [(V.int .i64 0), (V.sl 0 [] true), (V.int .i64 0)] 0 (V.cells v5)) 1 [(V.row (h3).length 1 0 ((List.replicate n7 [(V.int .i64 0)])).length)]))[2]? fun v10 =>
 (bd (bop prog .add 3 v10 (V.int .i64 1)) fun v11 =>
 (if ((V.cells v11)).length = 1 then
 (if (0 = 0 /\ 2 + ((V.cells v11)).length <= 3) then
 (if ((((setR (setR (setR [(V.int .i64 0), (V.sl 0 [] true), (V.int .i64 0)] 0 (V.cells v5)) 1 [(V.row (h3).length 1 0 ((List.replicate n7 [(V.int .i64 0)])).length)]) 2 (V.cells v11))).drop 0 |>.take 3)).length = 3 then
 (if (((((setR (setR (setR [(V.int .i64 0), (V.sl 0 [] true), (V.int .i64 0)] 0 (V.cells v5)) 1 [(V.row (h3).length 1 0 ((List.replicate n7 [(V.int .i64 0)])).length)]) 2 (V.cells v11))).drop 0 |>.take 3)).length <= 3) then
 some (Res.ret [(V.agg (((setR [(V.int .i64 0), (V.sl 0 [] true), (V.int .i64 0)] 0 (((setR (setR (setR [(V.int .i64 0), (V.sl 0 [] true), (V.int .i64 0)] 0 (V.cells v5)) 1 [(V.row (h3).length 1 0 ((List.replicate n7 [(V.int .i64 0)])).length)]) 2 (V.cells v11))).drop 0 |>.take 3))).drop 0 |>.take 3)), (V.int .i64 ((p1.2).length : Int)), (V.int .i64 0)], (h3 ++ [(HB.row 2 1 (List.replicate n7 [(V.int .i64 0)]) true)])) else none) else none) else none) else none)))
 else if (true = true /\ isRow v6 = true) then (bd2 (appP 2 1 h3 (List.replicate n7 [(V.int .i64 0)]) v6) fun v8 h9 =>
 (if ((V.cells v8)).length = 1 then
 (if (0 = 0 /\ 1 + ((V.cells v8)).length <= 3) then
 (bd ((setR (setR [(V.int .i64 0), (V.sl 0 [] true), (V.int .i64 0)] 0 (V.cells v5)) 1 (V.cells v8)))[2]? fun v12 =>
 (bd (bop prog .add 3 v12 (V.int .i64 1)) fun v13 =>
 (if ((V.cells v13)).length = 1 then
 (if (0 = 0 /\ 2 + ((V.cells v13)).length <= 3) then
 (if ((((setR (setR (setR [(V.int .i64 0), (V.sl 0 [] true), (V.int .i64 0)] 0 (V.cells v5)) 1 (V.cells v8)) 2 (V.cells v13))).drop 0 |>.take 3)).length = 3 then
 (if (((((setR (setR (setR [(V.int .i64 0), (V.sl 0 [] true), (V.int .i64 0)] 0 (V.cells v5)) 1 (V.cells v8)) 2 (V.cells v13))).drop 0 |>.take 3)).length <= 3) then
 some (Res.ret [(V.agg (((setR [(V.int .i64 0), (V.sl 0 [] true), (V.int .i64 0)] 0 (((setR (setR (setR [(V.int .i64 0), (V.sl 0 [] true), (V.int .i64 0)] 0 (V.cells v5)) 1 (V.cells v8)) 2 (V.cells v13))).drop 0 |>.take 3))).drop 0 |>.take 3)), (V.int .i64 ((p1.2).length : Int)), (V.int .i64 0)], h9) else none) else none) else none) else none))) else none) else none)) else none) else none))) else none) else none))) (fun z4 h3 => some (Res.pan z4, h3)))))))
theorem r2Alloc_eq (n : Nat) (sz : Int) (cv : V) (st : Int) (k : Int) (h : Heap) : call (n + 1) 73 [(V.agg [(V.int .i64 sz), cv, (V.int .i64 st)]), (V.int .i64 k)] h = r2Alloc n sz cv st k h := by kernel_rfl
noncomputable def r2Store (n : Nat) (sz : Int) (cv : V) (st : Int) (a : Int) (v : Int) (h : Heap) : Option (Res × Heap) :=
 (cl (call n 102 [(V.agg [(V.int .i64 sz), cv, (V.int .i64 st)]), (V.int .i64 a)] h) (fun r0 h1 =>
 (one1 r0 fun v3 =>
 (bd (uop .not v3) fun v4 =>
 (bv v4 fun b5 => if b5 then
 some (Res.ret [(V.agg [(V.int .i64 sz), cv, (V.int .i64 st)]), (V.int .i64 10)], h1)
 else
 (cl (call n 101 [(V.agg [(V.int .i64 sz), cv, (V.int .i64 st)])] h1) (fun r6 h7 =>
 (one1 r6 fun v9 =>
 (if ((V.cells v9)).length = 3 then
 (if (((V.cells v9)).length <= 3) then
 (bd ((setR [(V.int .i64 0), (V.sl 0 [] true), (V.int .i64 0)] 0 (V.cells v9)))[1]? fun v10 =>
 (bdS (nv (V.int .i64 a)) fun n11 =>
 (bd (idxP 1 n11 v10) fun p12 =>
 (bd2 (writeB h7 [(V.int .i64 v)] p12) fun b13 x14 =>
 (bd ((setR [(V.int .i64 0), (V.sl 0 [] true), (V.int .i64 0)] 0 (V.cells v9)))[2]? fun v15 =>
 (bd (bop prog .add 3 v15 (V.int .i64 1)) fun v16 =>
 (if ((V.cells v16)).length = 1 then
 (if (0 = 0 /\ 2 + ((V.cells v16)).length <= 3) then
 (if ((((setR (setR [(V.int .i64 0), (V.sl 0 [] true), (V.int .i64 0)] 0 (V.cells v9)) 2 (V.cells v16))).drop 0 |>.take 3)).length = 3 then
 (if (((((setR (setR [(V.int .i64 0), (V.sl 0 [] true), (V.int .i64 0)] 0 (V.cells v9)) 2 (V.cells v16))).drop 0 |>.take 3)).length <= 3) then
 some (Res.ret [(V.agg (((setR [(V.int .i64 0), (V.sl 0 [] true), (V.int .i64 0)] 0 (((setR (setR [(V.int .i64 0), (V.sl 0 [] true), (V.int .i64 0)] 0 (V.cells v9)) 2 (V.cells v16))).drop 0 |>.take 3))).drop 0 |>.take 3)), (V.int .i64 0)], ((h7).set b13 x14)) else none) else none) else none) else none))))))) else none) else none))) (fun z8 h7 => some (Res.pan z8, h7))))))) (fun z2 h1 => some (Res.pan z2, h1)))
theorem r2Store_eq (n : Nat) (sz : Int) (cv : V) (st : Int) (a : Int) (v : Int) (h : Heap) : call (n + 1) 75 [(V.agg [(V.int .i64 sz), cv, (V.int .i64 st)]), (V.int .i64 a), (V.int .i64 v)] h = r2Store n sz cv st a v h := by kernel_rfl
end Go.Proofs.Tryz
set_option linter.unusedVariables false
set_option linter.unusedSimpArgs false
namespace Go.Proofs.Tryz
open Go.L Go.Rp Go.Cm
set_option maxRecDepth 100000
theorem app_cel {l : List Int} (h : l.length < lim) : app 2 1 (S.own 2 1 []) (l.map cel) = some (l.map cel) := by
  unfold app
  simp [h]
theorem setR3 (x y z : V) : setR [.int .i64 0, .sl 0 [] true, .int .i64 0] 0 [x, y, z] = [x, y, z] := rfl
theorem setR3_1 (x y z w : V) : setR [x, y, z] 1 [w] = [x, w, z] := rfl
theorem setR3_2 (x y z w : V) : setR [x, y, z] 2 [w] = [x, y, w] := rfl
theorem cut3 (x y z : V) : (([x, y, z] : List V).drop 0 |>.take 3) = [x, y, z] := rfl
theorem ca (l : List V) : V.cells (.agg l) = l := rfl
theorem ci (k : IntKind) (x : Int) : V.cells (.int k x) = [.int k x] := rfl
theorem cr (b sz lo hi : Nat) : V.cells (.row b sz lo hi) = [.row b sz lo hi] := rfl
def RefAt (h : Heap) (b : Nat) (r : List V) (sz : Int) (l : List Int) (st : Int) : Prop :=
  r = [.int .i64 sz, .row b 1 0 l.length, .int .i64 st] /\ ∃ z, h[b]? = some (.row 2 1 (l.map cel) z)
theorem RefAt.keep {h h' : Heap} {b : Nat} {r : List V} {sz : Int} {l : List Int} {st : Int} (A : RefAt h b r sz l st) (hk : h'[b]? = h[b]?) : RefAt h' b r sz l st := by
  obtain ⟨h1, z, h2⟩ := A
  exact ⟨h1, z, hk.trans h2⟩
theorem RefAt.lt {h : Heap} {b : Nat} {r : List V} {sz : Int} {l : List Int} {st : Int} (A : RefAt h b r sz l st) : b < h.length := by
  obtain ⟨h1, z, h2⟩ := A
  exact lt_of_at h2
theorem r2_new (n : Nat) (k : Int) (h1 : 0 < k /\ k <= 1000) (h : Heap) : call (n + 1) 72 [.int .i64 k] h = some (.ret [.agg [.int .i64 k, .sl 0 [] true, .int .i64 0]], h) := by
  rw [r2New_eq]
  unfold r2New
  simp only [if_neg (show ¬ 1000 < k by omega), if_pos h1.1]
theorem r2_fresh (n : Nat) {h : Heap} {b : Nat} {r : List V} {sz : Int} {l : List Int} {st : Int} (A : RefAt h b r sz l st) (hl : l.length < lim) :
    call (n + 1) 101 [.agg r] h = some (.ret [.agg [.int .i64 sz, .row h.length 1 0 l.length, .int .i64 st]], h ++ [.row 2 1 (l.map cel) true]) := by
  obtain ⟨rfl, z, h2⟩ := A
  have hll : (l.map cel).length = l.length := List.length_map ..
  rw [r2fresh_eq]
  unfold r2fresh
  have e := slcH_all h2
  rw [hll] at e
  rw [e, bdS_some, if_pos ⟨rfl, .inl rfl⟩, app_cel hl, bd_some, hll]
theorem r2_alloc (n : Nat) (k : Nat) (h1 : 0 < k /\ k <= 1000) (h : Heap) : ∃ h' b r, call (n + 2) 73 [.agg [.int .i64 (k : Int), .sl 0 [] true, .int .i64 0], .int .i64 (k : Int)] h = some (.ret [.agg r, .int .i64 0, .int .i64 0], h') /\ RefAt h' b r k (List.replicate k 0) 1 /\ Fr h h' [] /\ h.length <= b := by
  rw [show n + 2 = (n + 1) + 1 from rfl, r2Alloc_eq]
  unfold r2Alloc
  have hlim : 1000 < lim := by unfold lim; omega
  rw [if_neg (by simp), show slcH h (V.sl 0 [] true) = some (0, []) from rfl, bd_some]
  rw [show ((0, ([] : List (List V))).2).length = 0 from rfl, if_neg (by rw [w64 (by omega) (by omega)]; simp), bd_some]
  have e1 : call (n + 1) 101 [.agg [.int .i64 (k : Int), .sl 0 [] true, .int .i64 0]] h = some (.ret [.agg [.int .i64 (k : Int), .row h.length 1 0 0, .int .i64 0]], h ++ [.row 2 1 [] true]) := by
    rw [r2fresh_eq]
    rfl
  rw [e1, cl_ret, one1_one]
  simp only [ca, setR3, cut3, List.length_cons, List.length_nil, Nat.zero_add, Nat.reduceAdd, if_true, Nat.le_refl, List.getElem?_cons_zero, List.getElem?_cons_succ, bd_some]
  rw [nv_nat, bdS_some, if_pos ⟨by omega, by first | trivial | rfl⟩, if_neg (by simp [nilS]), if_pos ⟨by first | trivial | rfl, rfl⟩]
  have e2 : appP 2 1 (h ++ [.row 2 1 [] true]) (List.replicate k [V.int .i64 0]) (V.row h.length 1 0 0) = some (.row (h.length + 1) 1 0 k, (h ++ [.dead]) ++ [.row 2 1 ((List.replicate k 0).map cel) true]) := by
    unfold appP
    dsimp only
    rw [List.getElem?_concat_length]
    simp only [List.length_nil, List.length_replicate, Nat.sub_self, Nat.zero_add, List.length_append, List.length_cons]
    rw [if_pos ⟨by decide, by decide, by omega⟩]
    simp [cel]
  rw [e2, bd2_some]
  simp only [cr, setR3_1, List.length_cons, List.length_nil, Nat.zero_add, Nat.reduceAdd, Nat.reduceLeDiff, and_self, if_true, List.getElem?_cons_zero, List.getElem?_cons_succ, bd_some]
  rw [bop_i64_add, bd_some]
  simp only [ci, setR3, setR3_2, cut3, List.length_cons, List.length_nil, Nat.zero_add, Nat.reduceAdd, Nat.reduceLeDiff, and_self, if_true, Nat.le_refl]
  refine ⟨_, h.length + 1, _, rfl, ⟨?_, true, ?_⟩, ⟨by simp, fun i q1 _ => ?_⟩, by omega⟩
  · simp only [List.length_replicate]
    rfl
  · rw [List.getElem?_append_right (by simp)]; simp
  · rw [List.getElem?_append_left (by simp; omega), List.getElem?_append_left (by omega)]
theorem r2_has (n : Nat) {h : Heap} {b : Nat} {r : List V} {sz : Int} {l : List Int} {st : Int} (A : RefAt h b r sz l st) (a : Int) :
    call (n + 1) 102 [.agg r, .int .i64 a] h = some (.ret [.bool (cget l a).isSome], h) := by
  obtain ⟨rfl, z, h2⟩ := A
  have hll : (l.map cel).length = l.length := List.length_map ..
  have e := slcH_all h2
  rw [hll] at e
  rw [r2Has_eq]
  unfold r2Has cget
  by_cases h0 : a < 0
  · rw [if_neg (by simpa using h0), if_pos h0]; rfl
  · rw [if_pos (by simpa using h0), if_neg h0, e, bd_some]
    simp only [hll]
    by_cases h3 : a < (l.length : Int)
    · rw [List.getElem?_eq_getElem (by omega)]; simp [h3]
    · rw [List.getElem?_eq_none (by omega)]; simp [h3]
theorem r2_store (n : Nat) {h : Heap} {b : Nat} {r : List V} {sz : Int} {l : List Int} {st : Int} (A : RefAt h b r sz l st) (hl : l.length < lim) (a v : Int) :
    ∃ h' b' r' e, call (n + 2) 75 [.agg r, .int .i64 a, .int .i64 v] h = some (.ret [.agg r', .int .i64 e], h') /\ RefAt h' b' r' sz (stL l a v) (ldS l a st) /\ Fr h h' [] /\ (b' = b \/ h.length <= b') := by
  have A0 := A
  have e1 := r2_has n A a
  have e2 := r2_fresh n A hl
  obtain ⟨rfl, z, h2⟩ := A
  rw [show n + 2 = (n + 1) + 1 from rfl, r2Store_eq]
  unfold r2Store
  rw [e1, cl_ret, one1_one, uop_not, bd_some, bv_bool]
  unfold ldS
  cases hg : cget l a with
  | none =>
    rw [if_pos (by rfl), stL_none hg]
    exact ⟨_, _, _, _, rfl, A0, .refl _ _, .inl rfl⟩
  | some x =>
    obtain ⟨q1, q2, q3⟩ := stL_some hg v
    have hlt := (List.getElem?_eq_some_iff.1 q3).1
    rw [if_neg (by simp), e2, cl_ret, one1_one]
    simp only [ca, setR3, cut3, List.length_cons, List.length_nil, Nat.zero_add, Nat.reduceAdd, if_true, Nat.le_refl, List.getElem?_cons_zero, List.getElem?_cons_succ, bd_some]
    rw [Go.L.nv_int q2, bdS_some, idxP_row (by omega), bd_some, writeB_rptr (List.getElem?_concat_length) (by decide) (by simp) (by rw [Nat.zero_add]; exact cgt_row hg), bd2_some, bop_i64_add, bd_some]
    simp only [ci, setR3, setR3_2, cut3, List.length_cons, List.length_nil, Nat.zero_add, Nat.reduceAdd, Nat.reduceLeDiff, and_self, if_true, Nat.le_refl, List.set_append_right _ _ (Nat.le_refl _), Nat.sub_self, List.set_cons_zero]
    refine ⟨_, h.length, _, _, rfl, ⟨?_, true, ?_⟩, Fr.app _ _, .inr (Nat.le_refl _)⟩
    · rw [stL_len]; rfl
    · rw [List.getElem?_concat_length, q1, List.map_set]; rfl
theorem ce_new (n : Nat) (k : Int) (h1 : 0 < k /\ k <= 1000) (h : Heap) : call (n + 1) 71 [.int .i64 k] h = some (.ret [.ptr h.length 0], h ++ [.box 3 [.int .i64 k, .sl 0 [] true, .int .i64 0]]) := by
  rw [ceNew_eq]
  unfold ceNew
  simp only [if_neg (show ¬ 1000 < k by omega), if_pos h1.1]
theorem ce_alloc (n : Nat) {h : Heap} {m : Nat} (k : Nat) (h1 : 0 < k /\ k <= 1000) (hm : h[m]? = some (.box 3 [.int .i64 (k : Int), .sl 0 [] true, .int .i64 0])) :
    ∃ h' a e, call (n + 1) 74 [.ptr m 0, .int .i64 (k : Int)] h = some (.ret [.int .i64 a, .int .u16 e], h') /\ MemAt h' m (h.length + 1) k (List.replicate k 0) 1 /\ Fr h h' [m] := by
  have hml := lt_of_at hm
  have hlim : 1000 < lim := by unfold lim; omega
  rw [ceAlloc_eq]
  unfold ceAlloc
  rw [if_neg (by simp), bop_mem_nil, bd_some, bv_bool, if_neg (by decide)]
  generalize hg : h ++ [HB.box 1 [V.int .u16 0]] = g
  have gl : g.length = h.length + 1 := by rw [<- hg]; simp
  have g1 : g[m]? = some (.box 3 [.int .i64 (k : Int), .sl 0 [] true, .int .i64 0]) := by rw [<- hg, List.getElem?_append_left hml, hm]
  have g2 : g[h.length]? = some (.box 1 [V.int .u16 0]) := by rw [<- hg, List.getElem?_concat_length]
  have g3 : ∀ i, i < h.length -> g[i]? = h[i]? := fun i hi => by rw [<- hg, List.getElem?_append_left hi]
  rw [cellsP_box g1, bd3_some, if_pos (by decide)]
  simp only [List.getElem?_cons_zero, List.getElem?_cons_succ, bd_some]
  rw [show slcH g (V.sl 0 [] true) = some (0, []) from rfl, bd_some, cellsP_box g1, bd3_some, if_pos (by decide)]
  simp only [List.getElem?_cons_zero, List.getElem?_cons_succ, bd_some, List.length_nil]
  rw [bop_i64_sub, bd_some, w64 (by omega) (by omega), bop_i64_gtr, bd_some, bv_bool, if_neg (by simp), bd3_some, if_pos (by decide)]
  simp only [List.getElem?_cons_zero, List.getElem?_cons_succ, bd_some]
  rw [nv_nat, bdS_some, if_pos ⟨by omega, by first | trivial | rfl⟩, if_pos ⟨rfl, h1.1⟩]
  have k1 : (g ++ [HB.row 2 1 (List.replicate k [V.int .i64 0]) true])[m]? = some (.box 3 [.int .i64 (k : Int), .sl 0 [] true, .int .i64 0]) := by rw [List.getElem?_append_left (by omega), g1]
  rw [writeB_box k1 (by simp), bd2_some]
  generalize hk : (g ++ [HB.row 2 1 (List.replicate k [V.int .i64 0]) true]).set m (HB.box 3 (setR [.int .i64 (k : Int), .sl 0 [] true, .int .i64 0] 1 [(V.row (g).length 1 0 ((List.replicate k [(V.int .i64 0)])).length)])) = g'
  have k2 : g'[h.length]? = some (.box 1 [V.int .u16 0]) := by rw [<- hk, List.getElem?_set_ne (by omega), List.getElem?_append_left (by omega), g2]
  have k3 : g'[m]? = some (.box 3 [.int .i64 (k : Int), .row (h.length + 1) 1 0 k, .int .i64 0]) := by
    rw [<- hk, set_at (by simp; omega), gl, List.length_replicate]; rfl
  have k4 : g'[h.length + 1]? = some (.row 2 1 ((List.replicate k 0).map cel) true) := by
    rw [<- hk, List.getElem?_set_ne (by omega), <- gl, List.getElem?_concat_length]; simp [cel]
  have k5 : ∀ i, i < h.length -> i ≠ m -> g'[i]? = h[i]? := fun i hi hn => by rw [<- hk, List.getElem?_set_ne (Ne.symm hn), List.getElem?_append_left (by omega), g3 i hi]
  rw [writeB_box k2 (by simp), bd2_some, show setR [V.int .u16 0] 0 [V.int .u16 0] = [V.int .u16 0] from rfl]
  have j2 : (g'.set h.length (HB.box 1 [V.int .u16 0]))[h.length]? = some (.box 1 [V.int .u16 0]) := set_at (lt_of_at k2) _
  have j3 : (g'.set h.length (HB.box 1 [V.int .u16 0]))[m]? = _ := (List.getElem?_set_ne (by omega)).trans k3
  have j4 : (g'.set h.length (HB.box 1 [V.int .u16 0]))[h.length + 1]? = _ := (List.getElem?_set_ne (by omega)).trans k4
  rw [ce_count n j3 j2, bd2_some, if_pos rfl]
  have i2 : ((g'.set h.length (HB.box 1 [V.int .u16 0])).set m (.box 3 [.int .i64 (k : Int), .row (h.length + 1) 1 0 k, .int .i64 (inc 0)]))[h.length]? = some (.box 1 [V.int .u16 0]) := (List.getElem?_set_ne (by omega)).trans j2
  rw [cellsP_box i2, bd3_some, if_pos (by decide)]
  simp only [List.getElem?_cons_zero, bd_some]
  refine ⟨_, _, _, rfl, ⟨by omega, ?_, true, ?_⟩, ⟨?_, fun i q1 q2 => ?_⟩⟩
  · rw [set_at (lt_of_at j3), List.length_replicate]; rfl
  · rw [List.getElem?_set_ne (by omega)]; exact j4
  · have := lt_of_at k4
    simp; omega
  · simp only [List.mem_singleton] at q2
    rw [List.getElem?_set_ne (Ne.symm q2), List.getElem?_set_ne (by omega), k5 i q1 q2]
end Go.Proofs.Tryz
set_option linter.unusedVariables false
set_option linter.unusedSimpArgs false
namespace Go.Cm
open Go.L Go.Rp Go.Sk
theorem w64i_eq {x : Int} (h1 : -9223372036854775808 <= x) (h2 : x < 9223372036854775808) : w64i x = x := by
  unfold w64i
  rw [IntKind.wrap_i64]
  omega
def wdO (v : Int) : Int := 256 * (v + 2147483648) + 2
theorem wdO_pos {v : Int} (h : -2147483648 <= v /\ v < 2147483648) : 0 < wdO v := by unfold wdO; omega
theorem wdO_k {v : Int} (h : -2147483648 <= v /\ v < 2147483648) : ofK (wdO v) = 1 := by
  have h1 : okW (wdO v) = true := by unfold okW wdO; simp; omega
  unfold ofK
  rw [if_pos h1]
  unfold wdO
  rw [w64i_eq (by omega) (by omega), Int.tmod_eq_emod_of_nonneg (by omega), IntKind.wrap_u8]
  omega
def nxS (pp : Int) (m : Nat) (x : Ps × List Int) : Ps × List Int :=
  if x.1.T.pc = 36 then (pDo x.1 (stkRun m (x.1.xs.map opO) x.2).1, (stkRun m (x.1.xs.map opO) x.2).2) else (pStep pp x.1, x.2)
inductive Goes (I : Ps × List Int -> Prop) {α : Type} (N : (Ps × List Int) × α -> (Ps × List Int) × α) : Nat -> (Ps × List Int) × α -> (Ps × List Int) × α -> Prop
  | nil (x) : Goes I N 0 x x
  | cons {j x y} : (20 <= x.1.1.T.pc /\ x.1.1.T.pc <= 39) -> I x.1 -> Goes I N j (N x) y -> Goes I N (j + 1) x y
theorem Goes.trans {I : Ps × List Int -> Prop} {α : Type} {N : (Ps × List Int) × α -> (Ps × List Int) × α} {i j : Nat} {x y z : (Ps × List Int) × α} (a : Goes I N i x y) (b : Goes I N j y z) : Goes I N (i + j) x z := by
  induction a with
  | nil => rwa [Nat.zero_add]
  | cons h1 h2 _ ih => rw [Nat.add_right_comm]; exact .cons h1 h2 (ih b)
def agT (pc lk cu pv nt mn ps p : Int) : Th := ⟨0, pc, 0, 0, 0, lk, cu, pv, nt, mn, ps, p⟩
section
variable {pp W X p lk cu pv nt mn ps a t st k : Int} {xs : List It} {q : List Int}
end
end Go.Cm
set_option linter.unusedVariables false
set_option linter.unusedSimpArgs false
namespace Go.Cm
open Go.L Go.Rp Go.Sk
section
variable {pp lk cu pv nt mn ps p st : Int} {xs : List It} {l : List Int}
theorem p20 : ∃ st', pStep pp ⟨agT 20 lk cu pv nt mn ps p, xs, l, st⟩ = ⟨agT 21 (ldV l 2) cu pv nt mn ps p, xs, l, st'⟩ := ⟨_, rfl⟩
theorem p21 : ∃ st', pStep pp ⟨agT 21 lk cu pv nt mn ps p, xs, l, st⟩ = ⟨agT 22 lk cu pv nt mn (w64i (lk + 1)) (w64i (p + 1)), xs, stL l 2 (w64i (lk + 1)), st'⟩ := ⟨_, rfl⟩
theorem p22 : ∃ st', pStep pp ⟨agT 22 lk cu pv nt mn ps p, xs, l, st⟩ = ⟨agT (if 0 < mnN l then 23 else 33) lk cu pv 0 (mnN l) ps p, [], l, st'⟩ := ⟨_, rfl⟩
theorem on_eq {lk cu pv nt mn ps p pc : Int} (h : 0 <= nt /\ nt < 1000) : Ps.on ⟨agT pc lk cu pv nt mn ps p, xs, l, st⟩ = ⟨agT (if nt + 1 < mn then 23 else 33) lk cu pv (nt + 1) mn ps p, xs, l, st⟩ := by
  have e : w64i (nt + 1) = nt + 1 := w64i_eq (by omega) (by omega)
  show (⟨⟨0, if w64i (nt + 1) < mn then 23 else 33, 0, 0, 0, lk, cu, pv, w64i (nt + 1), mn, ps, p⟩, xs, l, st⟩ : Ps) = _
  rw [e]
  rfl
theorem bsN_eq (h : 0 <= nt /\ nt < 1000) : bsN nt = 3 + 5 * nt := by
  unfold bsN
  rw [if_neg (by omega), if_neg (by omega), w64i_eq (x := 5 * nt) (by omega) (by omega), w64i_eq (by omega) (by omega)]
theorem look1_eq (h : 0 <= nt /\ nt < 1000) : ∃ st', look1 ⟨agT 23 lk cu pv nt mn ps p, xs, l, st⟩ = ⟨agT 24 (ldV l (3 + 5 * nt + 1)) (3 + 5 * nt) pv nt mn ps p, xs, l, st'⟩ := by
  have e1 := bsN_eq h
  have e2 : w64i (3 + 5 * nt + 1) = 3 + 5 * nt + 1 := w64i_eq (by omega) (by omega)
  refine ⟨ldS l (3 + 5 * nt + 1) st, ?_⟩
  show (⟨⟨0, 24, 0, 0, 0, ldV l (w64i (bsN nt + 1)), bsN nt, pv, nt, mn, ps, p⟩, xs, l, ldS l (w64i (bsN nt + 1)) st⟩ : Ps) = _
  rw [e1, e2]
  rfl
theorem p23a (h : 0 <= nt /\ nt < 1000) (ha : ldV l (3 + 5 * nt + 1) ≠ 0) : ∃ st', pStep pp ⟨agT 23 lk cu pv nt mn ps p, xs, l, st⟩ = ⟨agT (if nt + 1 < mn then 23 else 33) (ldV l (3 + 5 * nt + 1)) (3 + 5 * nt) pv (nt + 1) mn ps p, xs, l, st'⟩ := by
  obtain ⟨s1, e1⟩ := look1_eq (lk := lk) (cu := cu) (pv := pv) (mn := mn) (ps := ps) (p := p) (xs := xs) (l := l) (st := st) h
  refine ⟨s1, ?_⟩
  show (look1 _).unless ((look1 _).T.lk == 0) = _
  rw [e1]
  show Ps.unless _ (ldV l (3 + 5 * nt + 1) == 0) = _
  rw [show (ldV l (3 + 5 * nt + 1) == 0) = false by simpa using ha]
  exact on_eq h
theorem p23b (h : 0 <= nt /\ nt < 1000) (ha : ldV l (3 + 5 * nt + 1) = 0) : ∃ st', pStep pp ⟨agT 23 lk cu pv nt mn ps p, xs, l, st⟩ = ⟨agT 24 0 (3 + 5 * nt) pv nt mn ps p, xs, l, st'⟩ := by
  obtain ⟨s1, e1⟩ := look1_eq (lk := lk) (cu := cu) (pv := pv) (mn := mn) (ps := ps) (p := p) (xs := xs) (l := l) (st := st) h
  refine ⟨s1, ?_⟩
  show (look1 _).unless ((look1 _).T.lk == 0) = _
  rw [e1, ha]
  rfl
theorem pend1_eq (h : 0 <= cu /\ cu < 100000) : ∃ st', pend1 ⟨agT 24 lk cu pv nt mn ps p, xs, l, st⟩ = ⟨agT 25 (ldV l cu) cu pv nt mn ps p, xs, l, st'⟩ := by
  have e : w64i (cu + 0) = cu := by rw [Int.add_zero]; exact w64i_eq (by omega) (by omega)
  refine ⟨ldS l cu st, ?_⟩
  show (⟨⟨0, 25, 0, 0, 0, ldV l (w64i (cu + 0)), cu, pv, nt, mn, ps, p⟩, xs, l, ldS l (w64i (cu + 0)) st⟩ : Ps) = _
  rw [e]
  rfl
theorem p24b (h : 0 <= cu /\ cu < 100000) (ha : 0 < ldV l cu) : ∃ st', pStep pp ⟨agT 24 lk cu pv nt mn ps p, xs, l, st⟩ = ⟨agT 25 (ldV l cu) cu pv nt mn ps p, xs, l, st'⟩ := by
  obtain ⟨s1, e1⟩ := pend1_eq (lk := lk) (pv := pv) (nt := nt) (mn := mn) (ps := ps) (p := p) (xs := xs) (l := l) (st := st) h
  refine ⟨s1, ?_⟩
  show (pend1 _).unless (decide ((pend1 _).T.lk > 0)) = _
  rw [e1]
  show Ps.unless _ (decide (ldV l cu > 0)) = _
  rw [show decide (ldV l cu > 0) = true by simpa using ha]
  rfl
theorem p25 (h : 0 <= cu /\ cu < 100000) (ha : cget l (cu + 1) = some 0) : ∃ st', pStep pp ⟨agT 25 lk cu pv nt mn ps p, xs, l, st⟩ = ⟨agT 26 lk cu pv nt mn ps p, xs, stL l (cu + 1) 2, st'⟩ := by
  have e : w64i (cu + 1) = cu + 1 := w64i_eq (by omega) (by omega)
  have e1 : help1 ⟨agT 25 lk cu pv nt mn ps p, xs, l, st⟩ = ⟨agT 26 lk cu pv nt mn ps p, xs, stL l (cu + 1) 2, ldS l (cu + 1) st⟩ := by
    show (⟨⟨0, if (cget l (w64i (cu + 1)) == some 0) = true then 26 else 23, 0, 0, 0, lk, cu, pv, nt, mn, ps, p⟩, xs, if (cget l (w64i (cu + 1)) == some 0) = true then stL l (w64i (cu + 1)) 2 else l, ldS l (w64i (cu + 1)) st⟩ : Ps) = _
    rw [e, ha]
    rfl
  refine ⟨ldS l (cu + 1) st, ?_⟩
  show (help1 _).unless ((help1 _).T.pc == 26) = _
  rw [e1]
  rfl
theorem p26 (ha : ldV l 1 ≠ 0) : ∃ st', pStep pp ⟨agT 26 lk cu pv nt mn ps p, xs, l, st⟩ = ⟨agT 29 (ldV l 1) cu (ldV l 1) nt mn ps p, xs, l, st'⟩ := by
  refine ⟨ldS l 1 st, ?_⟩
  show (if (ldV l 1 != 0) = true then _ else _) = _
  rw [if_pos (by simpa using ha)]
  rfl
theorem p29 (h : 0 <= pv /\ pv < 100000) : ∃ st', pStep pp ⟨agT 29 lk cu pv nt mn ps p, xs, l, st⟩ = ⟨agT 30 (ldV l (pv + 3)) cu pv nt mn ps p, xs, l, st'⟩ := by
  have e : w64i (pv + 3) = pv + 3 := w64i_eq (by omega) (by omega)
  refine ⟨ldS l (pv + 3) st, ?_⟩
  show (⟨⟨0, 30, 0, 0, 0, ldV l (w64i (pv + 3)), cu, pv, nt, mn, ps, p⟩, xs, l, ldS l (w64i (pv + 3)) st⟩ : Ps) = _
  rw [e]
  rfl
theorem p30 (h : 0 <= cu /\ cu < 100000) : ∃ st', pStep pp ⟨agT 30 lk cu pv nt mn ps p, xs, l, st⟩ = ⟨agT 31 lk cu pv nt mn ps p, xs, stL l (cu + 3) lk, st'⟩ := by
  have e : w64i (cu + 3) = cu + 3 := w64i_eq (by omega) (by omega)
  refine ⟨ldS l (cu + 3) st, ?_⟩
  show (⟨⟨0, 31, 0, 0, 0, lk, cu, pv, nt, mn, ps, p⟩, xs, stL l (w64i (cu + 3)) lk, ldS l (w64i (cu + 3)) st⟩ : Ps) = _
  rw [e]
  rfl
theorem p31 (h : 0 <= pv /\ pv < 100000) : ∃ st', pStep pp ⟨agT 31 lk cu pv nt mn ps p, xs, l, st⟩ = ⟨agT 32 lk cu pv nt mn ps p, xs, stL l (pv + 3) cu, st'⟩ := by
  have e : w64i (pv + 3) = pv + 3 := w64i_eq (by omega) (by omega)
  refine ⟨ldS l (pv + 3) st, ?_⟩
  show (⟨⟨0, 32, 0, 0, 0, lk, cu, pv, nt, mn, ps, p⟩, xs, stL l (w64i (pv + 3)) cu, ldS l (w64i (pv + 3)) st⟩ : Ps) = _
  rw [e]
  rfl
theorem p32 (h : 0 <= cu /\ cu < 100000) (hn : 0 <= nt /\ nt < 1000) : ∃ st', pStep pp ⟨agT 32 lk cu pv nt mn ps p, xs, l, st⟩ = ⟨agT (if nt + 1 < mn then 23 else 33) lk cu pv (nt + 1) mn ps p, xs, stL l (cu + 1) 1, st'⟩ := by
  have e : w64i (cu + 1) = cu + 1 := w64i_eq (by omega) (by omega)
  refine ⟨ldS l (cu + 1) st, ?_⟩
  show Ps.on (⟨agT 23 lk cu pv nt mn ps p, xs, stL l (w64i (cu + 1)) 1, ldS l (w64i (cu + 1)) st⟩ : Ps) = _
  rw [e, on_eq hn]
theorem p33b (ha : ldV l 1 ≠ 0) : ∃ st', pStep pp ⟨agT 33 lk cu pv nt mn ps p, xs, l, st⟩ = ⟨agT 34 (ldV l 1) (ldV l 1) pv nt mn ps p, xs, l, st'⟩ := by
  refine ⟨ldS l 1 st, ?_⟩
  show (if (ldV l 1 != 0) = true then _ else _) = _
  rw [if_pos (by simpa using ha)]
  rfl
theorem pick1_eq (h : 0 <= cu /\ cu < 100000) : ∃ st', pick1 ⟨agT 34 lk cu pv nt mn ps p, xs, l, st⟩ = ⟨agT 35 (ldV l cu) cu pv nt mn ps p, xs, l, st'⟩ := by
  have e : w64i (cu + 0) = cu := by rw [Int.add_zero]; exact w64i_eq (by omega) (by omega)
  refine ⟨ldS l cu st, ?_⟩
  show (⟨⟨0, 35, 0, 0, 0, ldV l (w64i (cu + 0)), cu, pv, nt, mn, ps, p⟩, xs, l, ldS l (w64i (cu + 0)) st⟩ : Ps) = _
  rw [e]
  rfl
theorem p34b (h : 0 <= cu /\ cu < 100000) (ha : 0 < ldV l cu) : ∃ st', pStep pp ⟨agT 34 lk cu pv nt mn ps p, xs, l, st⟩ = ⟨agT 35 (ldV l cu) cu pv nt mn ps p, xs ++ [⟨cu, ldV l cu, 0⟩], l, st'⟩ := by
  obtain ⟨s1, e1⟩ := pick1_eq (lk := lk) (pv := pv) (nt := nt) (mn := mn) (ps := ps) (p := p) (xs := xs) (l := l) (st := st) h
  refine ⟨s1, ?_⟩
  show pPick _ = _
  unfold pPick
  rw [e1]
  exact if_pos ha
theorem next1_eq (h : 0 <= cu /\ cu < 100000) : ∃ st', next1 ⟨agT 35 lk cu pv nt mn ps p, xs, l, st⟩ = ⟨agT 36 (ldV l (cu + 3)) cu pv nt mn ps p, xs, l, st'⟩ := by
  have e : w64i (cu + 3) = cu + 3 := w64i_eq (by omega) (by omega)
  refine ⟨ldS l (cu + 3) st, ?_⟩
  show (⟨⟨0, 36, 0, 0, 0, ldV l (w64i (cu + 3)), cu, pv, nt, mn, ps, p⟩, xs, l, ldS l (w64i (cu + 3)) st⟩ : Ps) = _
  rw [e]
  rfl
theorem p35a (h : 0 <= cu /\ cu < 100000) (ha : ldV l (cu + 3) ≠ 0) : ∃ st', pStep pp ⟨agT 35 lk cu pv nt mn ps p, xs, l, st⟩ = ⟨agT 34 (ldV l (cu + 3)) (ldV l (cu + 3)) pv nt mn ps p, xs, l, st'⟩ := by
  obtain ⟨s1, e1⟩ := next1_eq (lk := lk) (pv := pv) (nt := nt) (mn := mn) (ps := ps) (p := p) (xs := xs) (l := l) (st := st) h
  refine ⟨s1, ?_⟩
  show pNext _ = _
  unfold pNext
  rw [e1]
  exact if_pos (show (ldV l (cu + 3) != 0) = true by simpa using ha)
theorem p35c (h : 0 <= cu /\ cu < 100000) (ha : ldV l (cu + 3) = 0) (hx : xs ≠ []) : ∃ st', pStep pp ⟨agT 35 lk cu pv nt mn ps p, xs, l, st⟩ = ⟨agT 36 0 cu pv nt mn ps p, xs, l, st'⟩ := by
  obtain ⟨s1, e1⟩ := next1_eq (lk := lk) (pv := pv) (nt := nt) (mn := mn) (ps := ps) (p := p) (xs := xs) (l := l) (st := st) h
  refine ⟨s1, ?_⟩
  show pNext _ = _
  unfold pNext
  rw [e1, ha]
  exact (if_neg (show ¬ ((0 : Int) != 0) = true by decide)).trans (if_neg (show ¬ xs.length = 0 by simpa using hx))
theorem item_eq {x : It} {pc : Int} (hn : 0 <= nt) (hx : xs[nt.toNat]? = some x) : item ⟨agT pc lk cu pv nt mn ps p, xs, l, st⟩ = some x := by
  show (if nt < 0 then none else xs[nt.toNat]?) = _
  rw [if_neg (by omega), hx]
theorem p37 {x : It} (hn : 0 <= nt) (hx : xs[nt.toNat]? = some x) (hr : 0 <= x.r /\ x.r < 100000) : ∃ st', pStep pp ⟨agT 37 lk cu pv nt mn ps p, xs, l, st⟩ = ⟨agT 38 lk cu pv nt mn ps p, xs, stL l (x.r + 4) x.s, st'⟩ := by
  have e : w64i (x.r + 4) = x.r + 4 := w64i_eq (by omega) (by omega)
  refine ⟨ldS l (x.r + 4) st, ?_⟩
  show pTell _ = _
  unfold pTell
  rw [item_eq hn hx]
  show (⟨⟨0, 38, 0, 0, 0, lk, cu, pv, nt, mn, ps, p⟩, xs, stL l (w64i (x.r + 4)) x.s, ldS l (w64i (x.r + 4)) st⟩ : Ps) = _
  rw [e]
  rfl
theorem p38 {x : It} (hn : 0 <= nt) (hx : xs[nt.toNat]? = some x) (hr : 0 <= x.r /\ x.r < 100000) : ∃ st', pStep pp ⟨agT 38 lk cu pv nt mn ps p, xs, l, st⟩ = ⟨agT 39 lk cu pv nt mn ps p, xs, stL l (x.r + 2) ps, st'⟩ := by
  have e : w64i (x.r + 2) = x.r + 2 := w64i_eq (by omega) (by omega)
  refine ⟨ldS l (x.r + 2) st, ?_⟩
  show pAge _ = _
  unfold pAge
  rw [item_eq hn hx]
  show (⟨⟨0, 39, 0, 0, 0, lk, cu, pv, nt, mn, ps, p⟩, xs, stL l (w64i (x.r + 2)) ps, ldS l (w64i (x.r + 2)) st⟩ : Ps) = _
  rw [e]
  rfl
theorem free2_eq {x : It} (hn : 0 <= nt /\ nt < 1000) (hx : xs[nt.toNat]? = some x) (hr : 0 <= x.r /\ x.r < 100000) : ∃ st', free2 ⟨agT 39 lk cu pv nt mn ps p, xs, l, st⟩ = ⟨agT 39 lk cu pv (nt + 1) mn ps p, xs, stL l x.r 0, st'⟩ := by
  have e : w64i (x.r + 0) = x.r := by rw [Int.add_zero]; exact w64i_eq (by omega) (by omega)
  have e2 : w64i (nt + 1) = nt + 1 := w64i_eq (by omega) (by omega)
  refine ⟨ldS l x.r st, ?_⟩
  have e1 : free1 ⟨agT 39 lk cu pv nt mn ps p, xs, l, st⟩ = ⟨agT 39 lk cu pv nt mn ps p, xs, stL l x.r 0, ldS l x.r st⟩ := by
    unfold free1
    rw [item_eq hn.1 hx]
    show (⟨⟨0, 39, 0, 0, 0, lk, cu, pv, nt, mn, ps, p⟩, xs, stL l (w64i (x.r + 0)) 0, ldS l (w64i (x.r + 0)) st⟩ : Ps) = _
    rw [e]
    rfl
  unfold free2
  rw [e1]
  show (⟨⟨0, 39, 0, 0, 0, lk, cu, pv, w64i (nt + 1), mn, ps, p⟩, xs, stL l x.r 0, ldS l x.r st⟩ : Ps) = _
  rw [e2]
  rfl
theorem p39 {x : It} (hn : 0 <= nt /\ nt < 1000) (hx : xs[nt.toNat]? = some x) (hr : 0 <= x.r /\ x.r < 100000) : ∃ st', pStep pp ⟨agT 39 lk cu pv nt mn ps p, xs, l, st⟩ = ⟨agT (if nt + 1 < (xs.length : Int) then 37 else if p < pp then 20 else 40) lk cu pv (nt + 1) mn ps p, xs, stL l x.r 0, st'⟩ := by
  obtain ⟨s1, e1⟩ := free2_eq (lk := lk) (cu := cu) (pv := pv) (mn := mn) (ps := ps) (p := p) (l := l) (st := st) hn hx hr
  refine ⟨s1, ?_⟩
  show pFree pp _ = _
  unfold pFree
  rw [e1, item_eq hn.1 hx]
  by_cases h1 : nt + 1 < (xs.length : Int)
  · have h2 : xs[(nt + 1).toNat]? = some xs[(nt + 1).toNat] := List.getElem?_eq_getElem (by omega)
    rw [item_eq (by omega) h2, if_pos h1]
    rfl
  · have h2 : item ⟨agT 39 lk cu pv (nt + 1) mn ps p, xs, stL l x.r 0, s1⟩ = none := by
      show (if nt + 1 < 0 then none else xs[(nt + 1).toNat]?) = none
      rw [if_neg (by omega)]
      exact List.getElem?_eq_none (by omega)
    rw [h2, if_neg h1]
    rfl
end
end Go.Cm
set_option linter.unusedVariables false
set_option linter.unusedSimpArgs false
namespace Go.Cm
open Go.L Go.Rp Go.Sk
def svN (pp : Int) (m : Nat) (x : (Ps × List Int) × List It) : (Ps × List Int) × List It :=
  (nxS pp m x.1, x.2 ++ (if x.1.1.T.pc = 36 then tellK x.1.1.xs (stkRun m (x.1.1.xs.map opO) x.1.2).1 x.1.1.xs.length else []))
theorem svN_no {pp : Int} {m : Nat} {s : Ps} {q : List Int} {a : List It} (h : s.T.pc ≠ 36) : svN pp m ((s, q), a) = ((pStep pp s, q), a) := by
  unfold svN nxS
  simp only
  rw [if_neg h, if_neg h, List.append_nil]
def svI (k L : Nat) (x : Ps × List Int) : Prop := x.1.xs.length <= k /\ x.1.l.length = L
def Ch (l : List Int) : Int -> List Nat -> Prop
  | v, [] => v = 0
  | v, a :: r => v = (a : Int) /\ 3 <= a /\ a < 1000 /\ Ch l (ldV l ((a : Int) + 3)) r
theorem Goes.one {I : Ps × List Int -> Prop} {pp : Int} {m : Nat} {s s' : Ps} {q : List Int} {a : List It} {j : Nat} {y : (Ps × List Int) × List It} (h : 20 <= s.T.pc /\ s.T.pc <= 39) (hI : I (s, q)) (h36 : s.T.pc ≠ 36) (e : pStep pp s = s') (g : Goes I (svN pp m) j ((s', q), a) y) : Goes I (svN pp m) (j + 1) ((s, q), a) y :=
  .cons h hI (by rw [svN_no h36, e]; exact g)
theorem ldV_set_ne {l : List Int} {a b v : Int} (h : a ≠ b) (ha : 0 <= a) (hb : 0 <= b) : ldV (stL l a v) b = ldV l b := by
  unfold ldV cget stL
  rw [if_neg (by omega), if_neg (by omega), if_neg (by omega), List.getElem?_set_ne (by omega)]
theorem Ch.keep {l : List Int} {a v : Int} : ∀ {r : List Nat} {w : Int}, Ch l w r -> (∀ x ∈ r, a ≠ (x : Int) + 3) -> 0 <= a -> Ch (stL l a v) w r
  | [], _, h, _, _ => h
  | x :: r, w, h, hn, ha => ⟨h.1, h.2.1, h.2.2.1, by rw [ldV_set_ne (hn x (by simp)) ha (by omega)]; exact h.2.2.2.keep (fun y hy => hn y (List.mem_cons_of_mem _ hy)) ha⟩
end Go.Cm
set_option linter.unusedVariables false
set_option linter.unusedSimpArgs false
namespace Go.Cm
open Go.L Go.Rp Go.Sk
theorem ldV_set_eq {l : List Int} {a v : Int} (h : 0 <= a /\ a < l.length) : ldV (stL l a v) a = v := by
  unfold ldV cget stL
  rw [if_neg (by omega), if_neg (by omega), List.getElem?_set_self (by omega)]
  rfl
theorem cget_set_ne {l : List Int} {a b v : Int} (h : a ≠ b) (ha : 0 <= a) (hb : 0 <= b) : cget (stL l a v) b = cget l b := by
  unfold cget stL
  rw [if_neg (by omega), if_neg (by omega), if_neg (by omega), List.getElem?_set_ne (by omega)]
def hR (on : List Nat) : Nat -> List Nat
  | 0 => []
  | k + 1 => if 3 + 5 * k ∈ on then hR on k else (3 + 5 * k) :: hR on k
theorem hR_mem {on : List Nat} : ∀ {k x : Nat}, x ∈ hR on k -> x ∉ on /\ ∃ j, j < k /\ x = 3 + 5 * j
  | 0, _, h => by cases h
  | k + 1, x, h => by
    unfold hR at h
    split at h
    · obtain ⟨h1, j, h2, h3⟩ := hR_mem h
      exact ⟨h1, j, by omega, h3⟩
    · rename_i h0
      rcases List.mem_cons.1 h with rfl | h
      · exact ⟨h0, k, by omega, rfl⟩
      · obtain ⟨h1, j, h2, h3⟩ := hR_mem h
        exact ⟨h1, j, by omega, h3⟩
theorem hR_len (on : List Nat) : ∀ k, (hR on k).length <= k
  | 0 => Nat.le_refl _
  | k + 1 => by
    unfold hR
    have := hR_len on k
    split <;> simp <;> omega
structure FI (nn h0 : Nat) (rest : List Nat) (k : Nat) (l : List Int) : Prop where
  len : l.length = 3 + 5 * nn
  head : ldV l 1 = (h0 : Int)
  ch : Ch l h0 (h0 :: (hR (h0 :: rest) k ++ rest))
  act : ∀ j : Nat, k <= j -> j < nn -> 3 + 5 * j ∈ h0 :: rest -> ldV l (3 + 5 * (j : Int) + 1) ≠ 0
  off : ∀ j : Nat, k <= j -> j < nn -> 3 + 5 * j ∉ h0 :: rest -> cget l (3 + 5 * (j : Int) + 1) = some 0
  req : ∀ j : Nat, j < nn -> ldV l (3 + 5 * (j : Int)) = wdO (3 + 5 * (j : Int))
theorem FI.help {nn h0 k : Nat} {rest : List Nat} {l : List Int} (A : FI nn h0 rest k l) (hk : k < nn) (hoff : 3 + 5 * k ∉ h0 :: rest) (hnd : (h0 :: rest).Nodup) (hon : ∀ x ∈ h0 :: rest, ∃ j : Nat, j < nn /\ x = 3 + 5 * j) (hnn : nn <= 100) :
    FI nn h0 rest (k + 1) (stL (stL (stL (stL l (3 + 5 * (k : Int) + 1) 2) (3 + 5 * (k : Int) + 3) (ldV l ((h0 : Int) + 3))) ((h0 : Int) + 3) (3 + 5 * (k : Int))) (3 + 5 * (k : Int) + 1) 1) := by
  obtain ⟨jh, hj1, hj2⟩ := hon h0 (by simp)
  have hne : jh ≠ k := by rintro rfl; exact hoff (by rw [hj2]; simp)
  have hlen := A.len
  have e1 : ∀ b : Int, 0 <= b -> b ≠ 3 + 5 * (k : Int) + 1 -> b ≠ 3 + 5 * (k : Int) + 3 -> b ≠ (h0 : Int) + 3 -> ldV (stL (stL (stL (stL l (3 + 5 * (k : Int) + 1) 2) (3 + 5 * (k : Int) + 3) (ldV l ((h0 : Int) + 3))) ((h0 : Int) + 3) (3 + 5 * (k : Int))) (3 + 5 * (k : Int) + 1) 1) b = ldV l b := by
    intro b h1 h2 h3 h4
    rw [ldV_set_ne (by omega) (by omega) h1, ldV_set_ne (by omega) (by omega) h1, ldV_set_ne (by omega) (by omega) h1, ldV_set_ne (by omega) (by omega) h1]
  have e2 : ∀ b : Int, 0 <= b -> b ≠ 3 + 5 * (k : Int) + 1 -> b ≠ 3 + 5 * (k : Int) + 3 -> b ≠ (h0 : Int) + 3 -> cget (stL (stL (stL (stL l (3 + 5 * (k : Int) + 1) 2) (3 + 5 * (k : Int) + 3) (ldV l ((h0 : Int) + 3))) ((h0 : Int) + 3) (3 + 5 * (k : Int))) (3 + 5 * (k : Int) + 1) 1) b = cget l b := by
    intro b h1 h2 h3 h4
    rw [cget_set_ne (by omega) (by omega) h1, cget_set_ne (by omega) (by omega) h1, cget_set_ne (by omega) (by omega) h1, cget_set_ne (by omega) (by omega) h1]
  have hmem : ∀ x ∈ hR (h0 :: rest) k ++ rest, ∃ j : Nat, j < nn /\ j ≠ k /\ j ≠ jh /\ x = 3 + 5 * j := by
    intro x hx
    rcases List.mem_append.1 hx with h | h
    · obtain ⟨h1, j, h2, h3⟩ := hR_mem h
      refine ⟨j, by omega, by omega, ?_, h3⟩
      rintro rfl
      exact h1 (by rw [h3, <- hj2]; simp)
    · obtain ⟨j, h1, h2⟩ := hon x (List.mem_cons_of_mem _ h)
      refine ⟨j, h1, ?_, ?_, h2⟩
      · rintro rfl
        exact hoff (by rw [<- h2]; exact List.mem_cons_of_mem _ h)
      · rintro rfl
        rw [List.nodup_cons] at hnd
        exact hnd.1 (by rw [hj2, <- h2]; exact h)
  refine ⟨by simp only [stL_len]; exact hlen, ?_, ?_, fun j h1 h2 h3 => ?_, fun j h1 h2 h3 => ?_, fun j h1 => ?_⟩
  · rw [e1 1 (by decide) (by omega) (by omega) (by omega), A.head]
  · have hh : hR (h0 :: rest) (k + 1) = (3 + 5 * k) :: hR (h0 :: rest) k := by
      show (if 3 + 5 * k ∈ h0 :: rest then _ else _) = _
      rw [if_neg hoff]
    rw [hh]
    obtain ⟨_, c1, c2, c3⟩ := A.ch
    refine ⟨rfl, c1, c2, ?_, by omega, by omega, ?_⟩
    · rw [ldV_set_ne (by omega) (by omega) (by omega), ldV_set_eq (by simp only [stL_len]; omega)]
      omega
    · have e3 : ldV (stL (stL (stL (stL l (3 + 5 * (k : Int) + 1) 2) (3 + 5 * (k : Int) + 3) (ldV l ((h0 : Int) + 3))) ((h0 : Int) + 3) (3 + 5 * (k : Int))) (3 + 5 * (k : Int) + 1) 1) (((3 + 5 * k : Nat) : Int) + 3) = ldV l ((h0 : Int) + 3) := by
        rw [show (((3 + 5 * k : Nat) : Int) + 3) = 3 + 5 * (k : Int) + 3 by omega, ldV_set_ne (by omega) (by omega) (by omega), ldV_set_ne (by omega) (by omega) (by omega), ldV_set_eq (by simp only [stL_len]; omega)]
      rw [e3]
      refine Ch.keep (Ch.keep (Ch.keep (Ch.keep c3 ?_ (by omega)) ?_ (by omega)) ?_ (by omega)) ?_ (by omega) <;>
      · intro x hx
        obtain ⟨j, h1, h2, h3, h4⟩ := hmem x hx
        omega
  · rw [e1 _ (by omega) (by omega) (by omega) (by omega)]
    exact A.act j (by omega) h2 h3
  · rw [e2 _ (by omega) (by omega) (by omega) (by omega)]
    exact A.off j (by omega) h2 h3
  · rw [e1 _ (by omega) (by omega) (by omega) (by omega)]
    exact A.req j h1
theorem FI.pass {nn h0 k : Nat} {rest : List Nat} {l : List Int} (A : FI nn h0 rest k l) (hin : 3 + 5 * k ∈ h0 :: rest) : FI nn h0 rest (k + 1) l :=
  ⟨A.len, A.head, by
    have hh : hR (h0 :: rest) (k + 1) = hR (h0 :: rest) k := by
      show (if 3 + 5 * k ∈ h0 :: rest then _ else _) = _
      rw [if_pos hin]
    rw [hh]; exact A.ch, fun j h1 => A.act j (by omega), fun j h1 => A.off j (by omega), A.req⟩
theorem ldV_of {l : List Int} {a x : Int} (h : cget l a = some x) : ldV l a = x := by unfold ldV; rw [h]; rfl
theorem ord_find {pp : Int} {m : Nat} {nn h0 k0 : Nat} {rest : List Nat} (hnn : nn <= 100) (hnd : (h0 :: rest).Nodup) (hon : ∀ x ∈ h0 :: rest, ∃ j : Nat, j < nn /\ x = 3 + 5 * j) {q : List Int} {a : List It} {ps p : Int} : ∀ (d k : Nat), k + d = nn -> 0 < d -> ∀ (lk cu pv st : Int) (l : List Int), FI nn h0 rest k l →
    ∃ j lk' cu' pv' st' l', j <= 8 * d /\ FI nn h0 rest nn l' /\ Goes (svI k0 (3 + 5 * nn)) (svN pp m) j ((⟨agT 23 lk cu pv k nn ps p, [], l, st⟩, q), a) ((⟨agT 33 lk' cu' pv' nn nn ps p, [], l', st'⟩, q), a)
  | 0, _, _, h => absurd h (by decide)
  | d + 1, k, hk, _ => by
    intro lk cu pv st l A
    have hI : ∀ {T : Th} {l : List Int} {st : Int}, l.length = 3 + 5 * nn -> svI k0 (3 + 5 * nn) (⟨T, [], l, st⟩, q) := fun h => ⟨Nat.zero_le _, h⟩
    have nxt : ∀ (lk cu pv st : Int) (l : List Int), FI nn h0 rest (k + 1) l -> ∃ j lk' cu' pv' st' l', j <= 8 * d /\ FI nn h0 rest nn l' /\ Goes (svI k0 (3 + 5 * nn)) (svN pp m) j ((⟨agT (if (k : Int) + 1 < (nn : Int) then 23 else 33) lk cu pv ((k : Int) + 1) nn ps p, [], l, st⟩, q), a) ((⟨agT 33 lk' cu' pv' nn nn ps p, [], l', st'⟩, q), a) := by
      intro lk cu pv st l B
      cases d with
      | zero =>
        obtain rfl : nn = k + 1 := by omega
        rw [if_neg (by omega), show (k : Int) + 1 = ((k + 1 : Nat) : Int) by omega]
        exact ⟨0, lk, cu, pv, st, l, by omega, B, .nil _⟩
      | succ d =>
        rw [if_pos (by omega)]
        exact ord_find hnn hnd hon (d + 1) (k + 1) (by omega) (by omega) lk cu pv st l B
    by_cases hin : 3 + 5 * k ∈ h0 :: rest
    · obtain ⟨s1, e1⟩ := p23a (pp := pp) (lk := lk) (cu := cu) (pv := pv) (nt := (k : Int)) (mn := (nn : Int)) (ps := ps) (p := p) (xs := []) (l := l) (st := st) (by omega) (A.act k (Nat.le_refl _) (by omega) hin)
      obtain ⟨j, lk', cu', pv', st', l', hj, B, g⟩ := nxt (lk := ldV l (3 + 5 * (k : Int) + 1)) (cu := 3 + 5 * (k : Int)) (pv := pv) (st := s1) (l := l) (A.pass hin)
      exact ⟨j + 1, lk', cu', pv', st', l', by omega, B, .one (by simp [agT]) (hI A.len) (by simp [agT]) e1 g⟩
    · have hoff := A.off k (Nat.le_refl _) (by omega) hin
      obtain ⟨jh, hj1, hj2⟩ := hon h0 (by simp)
      have B := A.help (by omega) hin hnd hon hnn
      have hlen := A.len
      have hw : ldV l (3 + 5 * (k : Int)) = wdO (3 + 5 * (k : Int)) := A.req k (by omega)
      obtain ⟨s1, e1⟩ := p23b (pp := pp) (lk := lk) (cu := cu) (pv := pv) (nt := (k : Int)) (mn := (nn : Int)) (ps := ps) (p := p) (xs := []) (l := l) (st := st) (by omega) (ldV_of hoff)
      obtain ⟨s2, e2⟩ := p24b (pp := pp) (lk := 0) (cu := 3 + 5 * (k : Int)) (pv := pv) (nt := (k : Int)) (mn := (nn : Int)) (ps := ps) (p := p) (xs := []) (l := l) (st := s1) (by omega) (by rw [hw]; exact wdO_pos (by omega))
      obtain ⟨s3, e3⟩ := p25 (pp := pp) (lk := ldV l (3 + 5 * (k : Int))) (cu := 3 + 5 * (k : Int)) (pv := pv) (nt := (k : Int)) (mn := (nn : Int)) (ps := ps) (p := p) (xs := []) (l := l) (st := s2) (by omega) hoff
      have hd1 : ldV (stL l (3 + 5 * (k : Int) + 1) 2) 1 = (h0 : Int) := by rw [ldV_set_ne (by omega) (by omega) (by decide), A.head]
      obtain ⟨s4, e4⟩ := p26 (pp := pp) (lk := ldV l (3 + 5 * (k : Int))) (cu := 3 + 5 * (k : Int)) (pv := pv) (nt := (k : Int)) (mn := (nn : Int)) (ps := ps) (p := p) (xs := []) (l := stL l (3 + 5 * (k : Int) + 1) 2) (st := s3) (by rw [hd1]; omega)
      rw [hd1] at e4
      obtain ⟨s5, e5⟩ := p29 (pp := pp) (lk := (h0 : Int)) (cu := 3 + 5 * (k : Int)) (pv := (h0 : Int)) (nt := (k : Int)) (mn := (nn : Int)) (ps := ps) (p := p) (xs := []) (l := stL l (3 + 5 * (k : Int) + 1) 2) (st := s4) (by omega)
      rw [ldV_set_ne (by omega) (by omega) (by omega)] at e5
      obtain ⟨s6, e6⟩ := p30 (pp := pp) (lk := ldV l ((h0 : Int) + 3)) (cu := 3 + 5 * (k : Int)) (pv := (h0 : Int)) (nt := (k : Int)) (mn := (nn : Int)) (ps := ps) (p := p) (xs := []) (l := stL l (3 + 5 * (k : Int) + 1) 2) (st := s5) (by omega)
      obtain ⟨s7, e7⟩ := p31 (pp := pp) (lk := ldV l ((h0 : Int) + 3)) (cu := 3 + 5 * (k : Int)) (pv := (h0 : Int)) (nt := (k : Int)) (mn := (nn : Int)) (ps := ps) (p := p) (xs := []) (l := stL (stL l (3 + 5 * (k : Int) + 1) 2) (3 + 5 * (k : Int) + 3) (ldV l ((h0 : Int) + 3))) (st := s6) (by omega)
      obtain ⟨s8, e8⟩ := p32 (pp := pp) (lk := ldV l ((h0 : Int) + 3)) (cu := 3 + 5 * (k : Int)) (pv := (h0 : Int)) (nt := (k : Int)) (mn := (nn : Int)) (ps := ps) (p := p) (xs := []) (l := stL (stL (stL l (3 + 5 * (k : Int) + 1) 2) (3 + 5 * (k : Int) + 3) (ldV l ((h0 : Int) + 3))) ((h0 : Int) + 3) (3 + 5 * (k : Int))) (st := s7) (by omega) (by omega)
      obtain ⟨j, lk', cu', pv', st', l', hj, B', g⟩ := nxt (lk := ldV l ((h0 : Int) + 3)) (cu := 3 + 5 * (k : Int)) (pv := (h0 : Int)) (st := s8) (l := _) B
      refine ⟨j + 1 + 1 + 1 + 1 + 1 + 1 + 1 + 1, lk', cu', pv', st', l', by omega, B', ?_⟩
      refine .one (by simp [agT]) (hI hlen) (by simp [agT]) e1 ?_
      refine .one (by simp [agT]) (hI hlen) (by simp [agT]) e2 ?_
      refine .one (by simp [agT]) (hI hlen) (by simp [agT]) e3 ?_
      refine .one (by simp [agT]) (hI (by simp only [stL_len]; exact hlen)) (by simp [agT]) e4 ?_
      refine .one (by simp [agT]) (hI (by simp only [stL_len]; exact hlen)) (by simp [agT]) e5 ?_
      refine .one (by simp [agT]) (hI (by simp only [stL_len]; exact hlen)) (by simp [agT]) e6 ?_
      refine .one (by simp [agT]) (hI (by simp only [stL_len]; exact hlen)) (by simp [agT]) e7 ?_
      exact .one (by simp [agT]) (hI (by simp only [stL_len]; exact hlen)) (by simp [agT]) e8 g
def itO (x : Nat) : It := ⟨(x : Int), wdO (x : Int), 0⟩
theorem ord_scan {pp : Int} {m : Nat} {l : List Int} {k0 : Nat} {q : List Int} {a : List It} {pv nt mn ps p : Int} : ∀ (r : List Nat) (v : Nat), Ch l v (v :: r) -> (∀ x ∈ v :: r, ldV l (x : Int) = wdO (x : Int)) -> ∀ (xs : List It) (lk st : Int), xs.length + r.length + 1 <= k0 →
    ∃ cu' st', Goes (svI k0 l.length) (svN pp m) (2 * (r.length + 1)) ((⟨agT 34 lk v pv nt mn ps p, xs, l, st⟩, q), a) ((⟨agT 36 0 cu' pv nt mn ps p, xs ++ (v :: r).map itO, l, st'⟩, q), a)
  | r, v, hc, hq => by
    intro xs lk st hk
    have hI : ∀ {T : Th} {st : Int} {xs : List It}, xs.length <= k0 -> svI k0 l.length (⟨T, xs, l, st⟩, q) := fun h => ⟨h, rfl⟩
    obtain ⟨_, h1, h2, h3⟩ := hc
    have hw := hq v (by simp)
    obtain ⟨s1, e1⟩ := p34b (pp := pp) (lk := lk) (cu := (v : Int)) (pv := pv) (nt := nt) (mn := mn) (ps := ps) (p := p) (xs := xs) (l := l) (st := st) (by omega) (by rw [hw]; exact wdO_pos (by omega))
    rw [hw] at e1
    match r with
    | [] =>
      obtain ⟨s2, e2⟩ := p35c (pp := pp) (lk := wdO (v : Int)) (cu := (v : Int)) (pv := pv) (nt := nt) (mn := mn) (ps := ps) (p := p) (xs := xs ++ [⟨(v : Int), wdO (v : Int), 0⟩]) (l := l) (st := s1) (by omega) h3 (by simp)
      exact ⟨_, _, .one (by simp [agT]) (hI (by omega)) (by simp [agT]) e1 (.one (by simp [agT]) (hI (by simp; omega)) (by simp [agT]) e2 (.nil _))⟩
    | w :: r =>
      have h4 := h3.1
      simp only [List.length_cons] at hk
      obtain ⟨s2, e2⟩ := p35a (pp := pp) (lk := wdO (v : Int)) (cu := (v : Int)) (pv := pv) (nt := nt) (mn := mn) (ps := ps) (p := p) (xs := xs ++ [⟨(v : Int), wdO (v : Int), 0⟩]) (l := l) (st := s1) (by omega) (by have := h3.2.1; omega)
      rw [h4] at e2 h3
      obtain ⟨cu', st', g⟩ := ord_scan (pp := pp) (m := m) (k0 := k0) (q := q) (a := a) (pv := pv) (nt := nt) (mn := mn) (ps := ps) (p := p) r w h3 (fun x hx => hq x (List.mem_cons_of_mem _ hx)) (xs := xs ++ [⟨(v : Int), wdO (v : Int), 0⟩]) (lk := (w : Int)) (st := s2) (by simp; omega)
      rw [List.append_assoc] at g
      exact ⟨cu', st', .one (by simp [agT]) (hI (by omega)) (by simp [agT]) e1 (.one (by simp [agT]) (hI (by simp; omega)) (by simp [agT]) e2 g)⟩
theorem ord_tell {pp : Int} {m : Nat} {k0 L : Nat} {xs : List It} {q : List Int} {a : List It} {lk cu pv mn ps p : Int} (hxs : xs.length <= k0) (hx1 : xs.length <= 900) (hr : ∀ x ∈ xs, 0 <= x.r /\ x.r < 100000) (hp : ¬ p < pp) : ∀ (d i : Nat), i + d = xs.length -> 0 < d -> ∀ (l : List Int) (st : Int), l.length = L →
    ∃ nt l' st', Goes (svI k0 L) (svN pp m) (3 * d) ((⟨agT 37 lk cu pv i mn ps p, xs, l, st⟩, q), a) ((⟨agT 40 lk cu pv nt mn ps p, xs, l', st'⟩, q), a)
  | 0, _, _, h => absurd h (by decide)
  | d + 1, i, hi, _ => by
    intro l st hl
    have hI : ∀ {T : Th} {l : List Int} {st : Int}, l.length = L -> svI k0 L (⟨T, xs, l, st⟩, q) := fun h => ⟨hxs, h⟩
    have hx : xs[((i : Nat) : Int).toNat]? = some (xs[i]'(by omega)) := by rw [Int.toNat_natCast]; exact List.getElem?_eq_getElem (by omega)
    have hr1 := hr _ (List.getElem_mem (show i < xs.length by omega))
    obtain ⟨s1, e1⟩ := p37 (pp := pp) (lk := lk) (cu := cu) (pv := pv) (nt := (i : Int)) (mn := mn) (ps := ps) (p := p) (xs := xs) (l := l) (st := st) (by omega) hx hr1
    obtain ⟨s2, e2⟩ := p38 (pp := pp) (lk := lk) (cu := cu) (pv := pv) (nt := (i : Int)) (mn := mn) (ps := ps) (p := p) (xs := xs) (l := stL l ((xs[i]'(by omega)).r + 4) (xs[i]'(by omega)).s) (st := s1) (by omega) hx hr1
    obtain ⟨s3, e3⟩ := p39 (pp := pp) (lk := lk) (cu := cu) (pv := pv) (nt := (i : Int)) (mn := mn) (ps := ps) (p := p) (xs := xs) (l := stL (stL l ((xs[i]'(by omega)).r + 4) (xs[i]'(by omega)).s) ((xs[i]'(by omega)).r + 2) ps) (st := s2) (by omega) hx hr1
    cases d with
    | zero =>
      rw [if_neg (by omega), if_neg hp] at e3
      exact ⟨_, _, _, .one (by simp [agT]) (hI hl) (by simp [agT]) e1 (.one (by simp [agT]) (hI (by simp only [stL_len]; exact hl)) (by simp [agT]) e2 (.one (by simp [agT]) (hI (by simp only [stL_len]; exact hl)) (by simp [agT]) e3 (.nil _)))⟩
    | succ d =>
      rw [if_pos (by omega)] at e3
      obtain ⟨nt, l', st', g⟩ := ord_tell hxs hx1 hr hp (d + 1) (i + 1) (by omega) (by omega) (l := stL (stL (stL l ((xs[i]'(by omega)).r + 4) (xs[i]'(by omega)).s) ((xs[i]'(by omega)).r + 2) ps) (xs[i]'(by omega)).r 0) (st := s3) (by simp only [stL_len]; exact hl)
      exact ⟨nt, l', st', .one (by simp [agT]) (hI hl) (by simp [agT]) e1 (.one (by simp [agT]) (hI (by simp only [stL_len]; exact hl)) (by simp [agT]) e2 (.one (by simp [agT]) (hI (by simp only [stL_len]; exact hl)) (by simp [agT]) e3 g))⟩
theorem stk_push_all {m : Nat} : ∀ (r : List Nat) (q : List Int), q.length + r.length <= m -> (∀ x ∈ r, x < 1000) -> (stkRun (m : Int) ((r.map itO).map opO) q).2.length = q.length + r.length
  | [], q, _, _ => rfl
  | x :: r, q, h, hx => by
    simp only [List.length_cons] at h
    have h1 := hx x (by simp)
    have e1 : stkStep (m : Int) (ofK (wdO (x : Int))) (ofV (wdO (x : Int))) q = ((1, 0), q ++ [ofV (wdO (x : Int))]) := by
      unfold stkStep
      rw [if_pos (wdO_k (by omega)), if_pos (by omega)]
    simp only [List.map_cons, stkRun]
    rw [show stkStep (m : Int) (opO (itO x)).k (opO (itO x)).v q = ((1, 0), q ++ [ofV (wdO (x : Int))]) by simp only [opO, itO]; exact e1]
    simp only
    rw [stk_push_all r _ (by simp; omega) (fun y hy => hx y (List.mem_cons_of_mem _ hy))]
    simp
    omega
theorem tellK_r {xs : List It} {rs : List R} (h : rs.length = xs.length) : (tellK xs rs xs.length).map It.r = xs.map It.r := by
  unfold tellK
  rw [List.drop_length, List.append_nil, List.take_length, List.take_of_length_le (by omega)]
  have : ∀ (xs : List It) (rs : List R), rs.length = xs.length -> (List.zipWith told1 xs rs).map It.r = xs.map It.r := by
    intro xs
    induction xs with
    | nil => intro rs _; rfl
    | cons x xs ih =>
      intro rs h
      cases rs with
      | nil => simp at h
      | cons r rs =>
        simp only [List.zipWith_cons_cons, List.map_cons]
        rw [ih rs (by simpa using h)]
        rfl
  exact this xs rs h
theorem ord_all {nn h0 : Nat} {rest : List Nat} {l : List Int} (hnn : 1 <= nn /\ nn <= 9) (hp : ldV l 2 = 50) (hnd : (h0 :: rest).Nodup) (hon : ∀ x ∈ h0 :: rest, ∃ j : Nat, j < nn /\ x = 3 + 5 * j) (hol : rest.length < nn) (A : FI nn h0 rest 0 l) {st : Int} :
    ∃ j s q items, j <= 200 /\ s.T.pc = 40 /\ items.map It.r = (h0 :: (hR (h0 :: rest) nn ++ rest)).map (Nat.cast : Nat -> Int) /\ q.length = (h0 :: (hR (h0 :: rest) nn ++ rest)).length /\ items.length <= 20 ∧
      Goes (svI 20 (3 + 5 * nn)) (svN 1 1000) j ((⟨agT 20 0 0 0 0 0 0 0, [], l, st⟩, []), []) ((s, q), items) := by
  have hlen := A.len
  have hI : ∀ {T : Th} {st : Int} {l : List Int}, l.length = 3 + 5 * nn -> svI 20 (3 + 5 * nn) (⟨T, [], l, st⟩, []) := fun h => ⟨Nat.zero_le _, h⟩
  obtain ⟨s1, e1⟩ := p20 (pp := 1) (lk := 0) (cu := 0) (pv := 0) (nt := 0) (mn := 0) (ps := 0) (p := 0) (xs := []) (l := l) (st := st)
  obtain ⟨s2, e2⟩ := p21 (pp := 1) (lk := 50) (cu := 0) (pv := 0) (nt := 0) (mn := 0) (ps := 0) (p := 0) (xs := []) (l := l) (st := s1)
  obtain ⟨s3, e3⟩ := p22 (pp := 1) (lk := 50) (cu := 0) (pv := 0) (nt := 0) (mn := 0) (ps := 51) (p := 1) (xs := []) (l := stL l 2 51) (st := s2)
  have hmn : mnN (stL l 2 51) = (nn : Int) := by unfold mnN; rw [stL_len, hlen]; congr 1; omega
  rw [hp] at e1
  rw [show w64i (50 + 1) = 51 from rfl, show w64i (0 + 1) = 1 from rfl] at e2
  rw [hmn, if_pos (by omega)] at e3
  have A2 : FI nn h0 rest 0 (stL l 2 51) := by
    refine ⟨by rw [stL_len, hlen], ?_, A.ch.keep (fun x hx => by omega) (by decide), fun j h1 h2 h3 => ?_, fun j h1 h2 h3 => ?_, fun j h1 => ?_⟩
    · rw [ldV_set_ne (by decide) (by decide) (by decide), A.head]
    · rw [ldV_set_ne (by omega) (by decide) (by omega)]; exact A.act j h1 h2 h3
    · rw [cget_set_ne (by omega) (by decide) (by omega)]; exact A.off j h1 h2 h3
    · rw [ldV_set_ne (by omega) (by decide) (by omega)]; exact A.req j h1
  obtain ⟨j, lk', cu', pv', st', l', hj, B, g⟩ := ord_find (pp := 1) (m := 1000) (k0 := 20) (by omega) hnd hon (q := []) (a := []) (ps := 51) (p := 1) nn 0 (by omega) (by omega) (lk := 50) (cu := 0) (pv := 0) (st := s3) (l := _) A2
  have hlen2 := B.len
  obtain ⟨jh, hj1, hj2⟩ := hon h0 (by simp)
  obtain ⟨s4, e4⟩ := p33b (pp := 1) (lk := lk') (cu := cu') (pv := pv') (nt := (nn : Int)) (mn := (nn : Int)) (ps := 51) (p := 1) (xs := []) (l := l') (st := st') (by rw [B.head]; omega)
  rw [B.head] at e4
  have hall : ∀ x ∈ h0 :: (hR (h0 :: rest) nn ++ rest), ∃ j : Nat, j < nn /\ x = 3 + 5 * j := by
    intro x hx
    rcases List.mem_cons.1 hx with rfl | hx
    · exact hon _ (by simp)
    · rcases List.mem_append.1 hx with h | h
      · exact (hR_mem h).2
      · exact hon x (List.mem_cons_of_mem _ h)
  have hrl := hR_len (h0 :: rest) nn
  have hcl : (hR (h0 :: rest) nn ++ rest).length <= 17 := by rw [List.length_append]; omega
  obtain ⟨cu2, st2, g2⟩ := ord_scan (pp := 1) (m := 1000) (k0 := 20) (q := []) (a := []) (pv := pv') (nt := (nn : Int)) (mn := (nn : Int)) (ps := 51) (p := 1) (hR (h0 :: rest) nn ++ rest) h0 B.ch (fun x hx => by
    obtain ⟨k, hk, rfl⟩ := hall x hx
    have := B.req k hk
    simpa using this) (xs := []) (lk := (h0 : Int)) (st := s4) (by simp only [List.length_nil]; omega)
  rw [hlen2, List.nil_append] at g2
  generalize hcur : h0 :: (hR (h0 :: rest) nn ++ rest) = cur at g2 hall ⊢
  have hcl2 : cur.length <= 18 := by rw [<- hcur]; simp only [List.length_cons]; omega
  have hcl1 : 1 <= cur.length := by rw [<- hcur]; simp
  have hrs := stkRun_len ((1000 : Nat) : Int) ((cur.map itO).map opO) []
  simp only [List.length_map] at hrs
  have hq := stk_push_all (m := 1000) cur [] (by simp; omega) (fun x hx => by obtain ⟨k, hk, rfl⟩ := hall x hx; omega)
  have e5 : svN 1 1000 ((⟨agT 36 0 cu2 pv' nn nn 51 1, cur.map itO, l', st2⟩, []), []) = ((⟨agT 37 0 cu2 pv' 0 nn 51 1, tellK (cur.map itO) (stkRun ((1000 : Nat) : Int) ((cur.map itO).map opO) []).1 (cur.map itO).length, l', st2⟩, (stkRun ((1000 : Nat) : Int) ((cur.map itO).map opO) []).2), tellK (cur.map itO) (stkRun ((1000 : Nat) : Int) ((cur.map itO).map opO) []).1 (cur.map itO).length) := rfl
  have hrr := tellK_r (xs := cur.map itO) (rs := (stkRun ((1000 : Nat) : Int) ((cur.map itO).map opO) []).1) (by rw [List.length_map]; exact hrs)
  have htl := tellK_len (xs := cur.map itO) (rs := (stkRun ((1000 : Nat) : Int) ((cur.map itO).map opO) []).1) (by rw [List.length_map]; exact hrs) (cur.map itO).length
  generalize (stkRun ((1000 : Nat) : Int) ((cur.map itO).map opO) []).2 = q' at e5 hq
  generalize tellK (cur.map itO) (stkRun ((1000 : Nat) : Int) ((cur.map itO).map opO) []).1 (cur.map itO).length = xs' at e5 hrr htl
  rw [List.length_map] at htl
  have hr : ∀ x ∈ xs', 0 <= x.r /\ x.r < 100000 := by
    intro x hx
    have h1 : x.r ∈ (cur.map itO).map It.r := by rw [<- hrr]; exact List.mem_map_of_mem hx
    rw [List.map_map] at h1
    obtain ⟨y, hy, e⟩ := List.mem_map.1 h1
    obtain ⟨k, hk, rfl⟩ := hall y hy
    rw [<- e]
    show 0 <= ((3 + 5 * k : Nat) : Int) /\ ((3 + 5 * k : Nat) : Int) < 100000
    omega
  obtain ⟨nt, l2, st3, g3⟩ := ord_tell (pp := 1) (m := 1000) (k0 := 20) (L := 3 + 5 * nn) (xs := xs') (q := q') (a := xs') (lk := 0) (cu := cu2) (pv := pv') (mn := nn) (ps := 51) (p := 1) (by omega) (by omega) hr (by decide) xs'.length 0 (by omega) (by omega) (l := l') (st := st2) hlen2
  refine ⟨_, ⟨agT 40 0 cu2 pv' nt nn 51 1, xs', l2, st3⟩, q', xs', ?_, rfl, ?_, ?_, by omega, .one (by simp [agT]) (hI hlen) (by simp [agT]) e1 (.one (by simp [agT]) (hI hlen) (by simp [agT]) e2 (.one (by simp [agT]) (hI (by rw [stL_len, hlen])) (by simp [agT]) e3 (g.trans (.one (by simp [agT]) (hI hlen2) (by simp [agT]) e4 (g2.trans (.cons (by simp [agT]) ⟨by simp only [List.length_map]; omega, hlen2⟩ (by rw [e5]; exact g3)))))))⟩
  · rw [<- hcur] at hcl2 htl
    simp only [List.length_cons] at hcl2 htl
    omega
  · rw [hrr, List.map_map]
    rfl
  · rw [hq]; simp
end Go.Cm
set_option linter.unusedVariables false
set_option linter.unusedSimpArgs false
namespace Go.Cm
open Go.L Go.Rp Go.Sk
def atC (c : List Int) (k : Nat) : Nat := match c[k]? with | some x => x.toNat % (k + 1) | none => 0
theorem atC_le (c : List Int) (k : Nat) : atC c k <= k := by
  unfold atC
  split
  · have := Nat.mod_lt (y := k + 1) (x := Int.toNat ‹Int›) (by omega)
    omega
  · omega
def ordC (c : List Int) : Nat -> List Nat
  | 0 => []
  | k + 1 => (ordC c k).take (atC c k) ++ (3 + 5 * k) :: (ordC c k).drop (atC c k)
theorem ordC_perm (c : List Int) (k : Nat) : (ordC c (k + 1)).Perm ((3 + 5 * k) :: ordC c k) := by
  show ((ordC c k).take (atC c k) ++ (3 + 5 * k) :: (ordC c k).drop (atC c k)).Perm _
  have := List.perm_middle (a := 3 + 5 * k) (l₁ := (ordC c k).take (atC c k)) (l₂ := (ordC c k).drop (atC c k))
  rwa [List.take_append_drop] at this
theorem ordC_len (c : List Int) : ∀ k, (ordC c k).length = k
  | 0 => rfl
  | k + 1 => by rw [(ordC_perm c k).length_eq, List.length_cons, ordC_len c k]
theorem ordC_mem (c : List Int) : ∀ (k : Nat) {x : Nat}, x ∈ ordC c k ↔ ∃ j, j < k /\ x = 3 + 5 * j
  | 0, x => by simp [ordC]
  | k + 1, x => by
    rw [(ordC_perm c k).mem_iff, List.mem_cons, ordC_mem c k]
    constructor
    · rintro (rfl | ⟨j, h1, h2⟩)
      · exact ⟨k, by omega, rfl⟩
      · exact ⟨j, by omega, h2⟩
    · rintro ⟨j, h1, h2⟩
      by_cases e : j = k
      · subst e; exact .inl h2
      · exact .inr ⟨j, by omega, h2⟩
theorem ordC_nd (c : List Int) : ∀ k, (ordC c k).Nodup
  | 0 => List.nodup_nil
  | k + 1 => by
    rw [(ordC_perm c k).nodup_iff, List.nodup_cons]
    refine ⟨fun h => ?_, ordC_nd c k⟩
    obtain ⟨j, h1, h2⟩ := (ordC_mem c k).1 h
    omega
def nC : List Int -> Nat
  | [] => 1
  | x :: _ => 1 + x.toNat % 9
theorem nC_le (c : List Int) : 1 <= nC c /\ nC c <= 9 := by
  unfold nC
  split
  · omega
  · have := Nat.mod_lt (y := 9) (x := Int.toNat ‹Int›) (by omega)
    omega
theorem stL_nat (l : List Int) (i : Nat) (v : Int) : stL l (i : Int) v = l.set i v := by
  unfold stL
  rw [if_neg (by omega), Int.toNat_natCast]
structure CI (nn : Nat) (ord : List Nat) (k : Nat) (l : List Int) : Prop where
  len : l.length = 3 + 5 * nn
  pass : ldV l 2 = 50
  req : ∀ j : Nat, j < nn -> ldV l (3 + 5 * (j : Int)) = 0
  hd : ldV l 1 = if k = 0 then 0 else ((ord.getD 0 0 : Nat) : Int)
  nx : ∀ i : Nat, i < nn -> ldV l (((ord.getD i 0 : Nat) : Int) + 3) = if i + 1 < k then ((ord.getD (i + 1) 0 : Nat) : Int) else 0
  ac : ∀ i : Nat, i < nn -> cget l (((ord.getD i 0 : Nat) : Int) + 1) = some (if i < k then 1 else 0)
structure OrdOk (nn : Nat) (ord : List Nat) : Prop where
  len : ord.length = nn
  mem : ∀ x : Nat, x ∈ ord ↔ ∃ j, j < nn /\ x = 3 + 5 * j
  nd : ord.Nodup
theorem OrdOk.at {nn : Nat} {ord : List Nat} (O : OrdOk nn ord) {i : Nat} (hi : i < nn) : ∃ j, j < nn /\ ord.getD i 0 = 3 + 5 * j := by
  have h := O.len
  rw [List.getD_eq_getElem?_getD, List.getElem?_eq_getElem (by omega)]
  exact (O.mem _).1 (List.getElem_mem _)
theorem OrdOk.inj {nn : Nat} {ord : List Nat} (O : OrdOk nn ord) {i j : Nat} (hi : i < nn) (hj : j < nn) (h : ord.getD i 0 = ord.getD j 0) : i = j := by
  have hl := O.len
  rw [List.getD_eq_getElem?_getD, List.getD_eq_getElem?_getD, List.getElem?_eq_getElem (by omega), List.getElem?_eq_getElem (by omega)] at h
  exact (List.getElem_inj O.nd).1 h
theorem cget_set_eq {l : List Int} {a v : Int} (h : 0 <= a /\ a < l.length) : cget (stL l a v) a = some v := by
  unfold cget stL
  rw [if_neg (by omega), if_neg (by omega), List.getElem?_set_self (by omega)]
def ciS (c : List Int) (ord : List Nat) (k : Nat) (l : List Int) : List Int :=
  let l2 := ((l.set (if k = 0 then 1 else ord.getD (k - 1) 0 + 3) ((ord.getD k 0 : Nat) : Int)).set (ord.getD k 0 + 1) 1)
  match c[k]? with
  | some x => l2.set (ord.getD k 0 + 2) (x.tmod 60)
  | none => l2
theorem CI.step {nn : Nat} {ord : List Nat} (O : OrdOk nn ord) {c : List Int} {k : Nat} {l : List Int} (A : CI nn ord k l) (hk : k < nn) : CI nn ord (k + 1) (ciS c ord k l) := by
  obtain ⟨jk, hjk, ek⟩ := O.at hk
  have hlen := A.len
  generalize ha : (if k = 0 then 1 else ord.getD (k - 1) 0 + 3) = a
  have ha1 : a = 1 /\ k = 0 \/ ∃ j, j < nn /\ a = 3 + 5 * j + 3 /\ 0 < k /\ ord.getD (k - 1) 0 = 3 + 5 * j := by
    by_cases h0 : k = 0
    · rw [if_pos h0] at ha; exact .inl ⟨ha.symm, h0⟩
    · rw [if_neg h0] at ha
      obtain ⟨j, h1, h2⟩ := O.at (i := k - 1) (by omega)
      exact .inr ⟨j, h1, by omega, by omega, h2⟩
  have hal : a < l.length := by rcases ha1 with ⟨h, _⟩ | ⟨j, h1, h2, _⟩ <;> omega
  generalize hv : ((ord.getD k 0 : Nat) : Int) = v
  have hL : ciS c ord k l = (match c[k]? with | some x => stL (stL (stL l (a : Int) v) ((3 + 5 * jk + 1 : Nat) : Int) 1) ((3 + 5 * jk + 2 : Nat) : Int) (x.tmod 60) | none => stL (stL l (a : Int) v) ((3 + 5 * jk + 1 : Nat) : Int) 1) := by
    unfold ciS
    simp only [stL_nat]
    rw [ha, hv, ek]
  have hlen2 : (ciS c ord k l).length = l.length := by rw [hL]; split <;> simp only [stL_len]
  have g0 : ∀ b : Int, 0 <= b -> b ≠ (3 + 5 * jk + 2 : Nat) -> cget (ciS c ord k l) b = cget (stL (stL l (a : Int) v) ((3 + 5 * jk + 1 : Nat) : Int) 1) b := by
    intro b h1 h2
    rw [hL]
    split
    · rw [cget_set_ne (by omega) (by omega) h1]
    · rfl
  have g1 : ∀ b : Int, 0 <= b -> b ≠ (a : Int) -> b ≠ (3 + 5 * jk + 1 : Nat) -> b ≠ (3 + 5 * jk + 2 : Nat) -> cget (ciS c ord k l) b = cget l b := by
    intro b h1 h2 h3 h4
    rw [g0 b h1 h4, cget_set_ne (by omega) (by omega) h1, cget_set_ne (by omega) (by omega) h1]
  have g2 : ∀ b : Int, 0 <= b -> b ≠ (a : Int) -> b ≠ (3 + 5 * jk + 1 : Nat) -> b ≠ (3 + 5 * jk + 2 : Nat) -> ldV (ciS c ord k l) b = ldV l b := fun b h1 h2 h3 h4 => by unfold ldV; rw [g1 b h1 h2 h3 h4]
  have g3 : ldV (ciS c ord k l) (a : Int) = v := by
    refine ldV_of ?_
    rw [g0 _ (by omega) (by rcases ha1 with ⟨h, _⟩ | ⟨j, h1, h2, _⟩ <;> omega), cget_set_ne (by rcases ha1 with ⟨h, _⟩ | ⟨j, h1, h2, _⟩ <;> omega) (by omega) (by omega), cget_set_eq (by omega)]
  refine ⟨by rw [hlen2, hlen], ?_, fun j hj => ?_, ?_, fun i hi => ?_, fun i hi => ?_⟩
  · rw [g2 2 (by decide) (by rcases ha1 with ⟨h, _⟩ | ⟨j, h1, h2, _⟩ <;> omega) (by omega) (by omega), A.pass]
  · rw [g2 _ (by omega) (by rcases ha1 with ⟨h, _⟩ | ⟨j', h1, h2, _⟩ <;> omega) (by omega) (by omega), A.req j hj]
  · rw [if_neg (by omega)]
    rcases ha1 with ⟨h, h0⟩ | ⟨j, h1, h2, h3, h4⟩
    · rw [show (1 : Int) = (a : Int) by omega, g3, <- hv, h0]
    · rw [g2 1 (by decide) (by omega) (by omega) (by omega), A.hd, if_neg (by omega)]
  · obtain ⟨ji, hji, ei⟩ := O.at hi
    by_cases e : i + 1 = k
    · have hk0 : 0 < k := by omega
      rcases ha1 with ⟨h, h0⟩ | ⟨j, h1, h2, h3, h4⟩
      · omega
      · have e2 : k - 1 = i := by omega
        rw [e2] at h4
        rw [show (((ord.getD i 0 : Nat) : Int) + 3) = (a : Int) by omega, g3, if_pos (by omega), e, hv]
    · have hne : (((ord.getD i 0 : Nat) : Int) + 3) ≠ (a : Int) := by
        rcases ha1 with ⟨h, h0⟩ | ⟨j, h1, h2, h3, h4⟩
        · omega
        · intro h
          have := O.inj hi (show k - 1 < nn by omega) (by omega)
          omega
      rw [g2 _ (by omega) hne (by omega) (by omega), A.nx i hi]
      by_cases h5 : i + 1 < k
      · rw [if_pos h5, if_pos (by omega)]
      · rw [if_neg h5, if_neg (by omega)]
  · obtain ⟨ji, hji, ei⟩ := O.at hi
    by_cases e : i = k
    · subst e
      rw [if_pos (by omega), g0 _ (by omega) (by omega), show (((ord.getD i 0 : Nat) : Int) + 1) = ((3 + 5 * jk + 1 : Nat) : Int) by omega, cget_set_eq (by simp only [stL_len]; omega)]
    · have hne : ord.getD i 0 ≠ ord.getD k 0 := fun h => e (O.inj hi hk h)
      rw [g1 _ (by omega) (by rcases ha1 with ⟨h, _⟩ | ⟨j, h1, h2, _⟩ <;> omega) (by omega) (by omega), A.ac i hi]
      by_cases h5 : i < k
      · rw [if_pos h5, if_pos (by omega)]
      · rw [if_neg h5, if_neg (by omega)]
theorem CI.chain {nn w : Nat} {ord : List Nat} (O : OrdOk nn ord) {l : List Int} (A : CI nn ord w l) (hw : w <= nn) (hnn : nn <= 100) : ∀ d i, i + d = w -> Ch l (if i < w then ((ord.getD i 0 : Nat) : Int) else 0) ((ord.take w).drop i)
  | 0, i, h => by
    rw [if_neg (by omega), List.drop_eq_nil_of_le (by simp; omega)]
    rfl
  | d + 1, i, h => by
    have hl := O.len
    obtain ⟨j, h1, h2⟩ := O.at (show i < nn by omega)
    rw [if_pos (by omega), List.drop_eq_getElem_cons (by simp; omega)]
    have e : (ord.take w)[i]'(by simp; omega) = ord.getD i 0 := by
      rw [List.getElem_take, List.getD_eq_getElem?_getD, List.getElem?_eq_getElem (by omega)]
      rfl
    rw [e]
    refine ⟨rfl, by omega, by omega, ?_⟩
    rw [A.nx i (by omega)]
    exact CI.chain O A hw hnn d (i + 1) (by omega)
structure ChL (nn : Nat) (ord : List Nat) (w : Nat) (l : List Int) : Prop where
  lo : 1 <= nn /\ nn <= 9
  ok : OrdOk nn ord
  wle : w <= nn
  len : l.length = 3 + 5 * nn
  pass : ldV l 2 = 50
  req : ∀ j : Nat, j < nn -> ldV l (3 + 5 * (j : Int)) = 0
  ch : Ch l (ldV l 1) (ord.take w)
  act : ∀ j : Nat, j < nn -> 3 + 5 * j ∈ ord.take w -> ldV l (3 + 5 * (j : Int) + 1) ≠ 0
  off : ∀ j : Nat, j < nn -> 3 + 5 * j ∉ ord.take w -> cget l (3 + 5 * (j : Int) + 1) = some 0
theorem CI.fin {nn w : Nat} {ord : List Nat} (O : OrdOk nn ord) {l : List Int} (A : CI nn ord w l) (hw : w <= nn) (hnn : 1 <= nn /\ nn <= 9) : ChL nn ord w l := by
  have hl := O.len
  have pos : ∀ j, j < nn -> ∃ i, i < nn /\ ord.getD i 0 = 3 + 5 * j /\ (3 + 5 * j ∈ ord.take w ↔ i < w) := by
    intro j hj
    obtain ⟨i, hi, e⟩ := List.getElem_of_mem ((O.mem (3 + 5 * j)).2 ⟨j, hj, rfl⟩)
    have e1 : ord.getD i 0 = 3 + 5 * j := by rw [List.getD_eq_getElem?_getD, List.getElem?_eq_getElem hi]; exact e
    refine ⟨i, by omega, e1, ⟨fun h => ?_, fun h => ?_⟩⟩
    · obtain ⟨i', hi', e'⟩ := List.getElem_of_mem h
      simp only [List.length_take] at hi'
      rw [List.getElem_take] at e'
      have := O.inj (i := i) (j := i') (by omega) (by omega) (by rw [e1, List.getD_eq_getElem?_getD, List.getElem?_eq_getElem (by omega)]; exact e'.symm)
      omega
    · rw [<- e]
      exact List.mem_take_iff_getElem.2 ⟨i, by omega, rfl⟩
  refine ⟨hnn, O, hw, A.len, A.pass, A.req, ?_, fun j hj h => ?_, fun j hj h => ?_⟩
  · rw [A.hd]
    have := A.chain O hw (by omega) w 0 (by omega)
    rw [List.drop_zero] at this
    by_cases h0 : w = 0
    · rw [if_pos h0]; rw [if_neg (by omega)] at this; exact this
    · rw [if_neg h0]; rw [if_pos (by omega)] at this; exact this
  · obtain ⟨i, hi, e, h1⟩ := pos j hj
    have := A.ac i hi
    rw [e, if_pos (h1.1 h)] at this
    have h2 := ldV_of this
    rw [show (((3 + 5 * j : Nat) : Int) + 1) = 3 + 5 * (j : Int) + 1 by omega] at h2
    omega
  · obtain ⟨i, hi, e, h1⟩ := pos j hj
    have := A.ac i hi
    rw [e, if_neg (fun e => h (h1.2 e))] at this
    rwa [show (((3 + 5 * j : Nat) : Int) + 1) = 3 + 5 * (j : Int) + 1 by omega] at this
end Go.Cm
set_option linter.unusedVariables false
set_option linter.unusedSimpArgs false
namespace Go.Proofs.Tryz
open Go.L Go.Rp Go.Sk Go.Cm
set_option maxRecDepth 100000
def nlN (l : List Nat) : List (List V) := l.map fun (x : Nat) => cel (x : Int)
theorem nl_len (l : List Nat) : (nlN l).length = l.length := List.length_map ..
theorem nl_at {l : List Nat} {i : Nat} (h : i < l.length) : (nlN l)[i]? = some (cel ((l.getD i 0 : Nat) : Int)) := by
  unfold nlN
  rw [List.getElem?_map, List.getElem?_eq_getElem h, List.getD_eq_getElem?_getD, List.getElem?_eq_getElem h]
  rfl
theorem app_own {e sz : Nat} {l m : List (List V)} (h : l.length + m.length < lim) : app e sz (.own e sz l) m = some (l ++ m) := by
  unfold app
  simp [h]
theorem chn_bsl (x : Int) : bslV prog 55 1 [(0, .int .i64 x)] = some (1, [cel x]) := by kernel_rfl
theorem chn_mul (a : Int) : bop prog .mul 3 (.int .i64 5) (.int .i64 a) = some (.int .i64 (IntKind.i64.wrap (5 * a))) := by kernel_rfl
theorem chn_cvt (a : Int) : cvt prog 5 3 (.int .u8 a) = some (.int .i64 (IntKind.i64.wrap a)) := by kernel_rfl
theorem chn_cvt64 (a : Int) : cvt prog 5 2 (.int .u8 a) = some (.int .i64 (IntKind.i64.wrap a)) := by kernel_rfl
theorem chn_rem9 (a : Int) : bop prog .rem 5 (.int .u8 a) (.int .u8 9) = some (.int .u8 (a.tmod 9)) := by kernel_rfl
theorem chn_rem60 (a : Int) : bop prog .rem 5 (.int .u8 a) (.int .u8 60) = some (.int .u8 (a.tmod 60)) := by kernel_rfl
theorem l154_eq (n : Nat) (c : List (List V)) (cb : Bool) (m : Int) : lChain_l154 n c cb m = lChain_l8 n c cb m (.int .i64 1) := by
  funext st h nx
  kernel_rfl
theorem cel_set (l : List Int) (i : Nat) (x v : Int) : (l.map cel).set i (setR (cel x) 0 [V.int .i64 v]) = (l.set i v).map cel := by
  rw [List.map_set]; rfl
theorem cel_at {l : List Int} {i : Nat} (h : i < l.length) : (l.map cel)[i]? = some (cel l[i]) := by rw [List.getElem?_map, List.getElem?_eq_getElem h]; rfl
theorem cu8_at {c : List Int} {k : Nat} {x : Int} (h : c[k]? = some x) : (c.map (intV .u8))[k]? = some [V.int .u8 x] := by rw [List.getElem?_map, h]; rfl
theorem ch_round1 (n : Nat) {c : List Int} (hc : ∀ x ∈ c, 0 <= x /\ x < 256) {cb : Bool} {m : Int} {nn k : Nat} (hk : k < nn) (hnn : nn <= 9) {s0 s1 : List (List V)} {h : Heap} (next : List V -> Heap -> Option (Res × Heap)) :
    lChain_l8 n (c.map (intV .u8)) cb m (.int .i64 (nn : Int)) [.sl 1 s0 false, .sl 1 s1 false, .sl 1 (nlN (ordC c k)) false, .int .i64 (k : Int)] h next = next [.sl 1 s0 false, .sl 1 s1 false, .sl 1 (nlN (ordC c (k + 1))) false, .int .i64 ((k + 1 : Nat) : Int)] (h ++ [.row 3 1 (nlN (ordC c k)) true]) := by
  have hlim : 1000 < lim := by unfold lim; omega
  have hol := ordC_len c k
  have hal := atC_le c k
  have hb : (h ++ [HB.row 3 1 (nlN (ordC c k)) true])[h.length]? = some (.row 3 1 (nlN (ordC c k)) true) := List.getElem?_concat_length
  have hl : (nlN (ordC c k)).length = k := by rw [nl_len, hol]
  have e3 : IntKind.i64.wrap (3 + IntKind.i64.wrap (5 * (k : Int))) = ((3 + 5 * k : Nat) : Int) := by
    rw [w64 (n := 5 * (k : Int)) (by omega) (by omega), w64 (by omega) (by omega)]; omega
  have fin : ((nlN (ordC c k)).take (atC c k) ++ [cel ((3 + 5 * k : Nat) : Int)]) ++ (nlN (ordC c k)).drop (atC c k) = nlN (ordC c (k + 1)) := by
    show _ = (((ordC c k).take (atC c k) ++ (3 + 5 * k) :: (ordC c k).drop (atC c k))).map _
    unfold nlN
    rw [List.map_append, List.map_cons, List.map_take, List.map_drop]
    simp
  unfold lChain_l8
  simp only [gv, List.getD_cons_zero, List.getD_cons_succ, lsl]
  rw [bop_i64_lss, bd_some, bv_bool, if_pos (by simp; omega), bop_i64_lss, bd_some, bv_bool, List.length_map]
  cases hx : c[k]? with
  | some x =>
    have hkl := (List.getElem?_eq_some_iff.1 hx).1
    have hx2 := hc x (List.mem_of_getElem? hx)
    have ha : atC c k = x.toNat % (k + 1) := by unfold atC; rw [hx]
    rw [if_pos (by simp; omega), nv_nat, bdS_some, idxP_sl (cu8_at hx), bd_some, cellsP_iptr, bd3_some, if_pos (by decide)]
    simp only [List.getElem?_cons_zero, bd_some]
    rw [chn_cvt, bd_some, w64 (n := x) (by omega) (by omega), bop_i64_add, bd_some, step64 (by omega), show x = ((x.toNat : Nat) : Int) by omega, bop_i64_rem (by omega), bd_some, nv_nat, bdS_some, <- ha]
    rw [sliceP_row (Nat.zero_le _) (by omega), bd_some, slcH_row hb (by omega) (by omega), bdS_some, if_pos ⟨by first | trivial | rfl, .inl rfl⟩, app_own (by simp; omega), bd_some, chn_mul, bd_some, bop_i64_add, bd_some, e3, chn_bsl, bd_some, app_own (by simp; omega), bd_some]
    rw [bdS_some, sliceP_row (by omega) (by omega), bd_some, slcH_row hb (by omega) (by omega), bdS_some, if_pos ⟨by first | trivial | rfl, .inl rfl⟩, app_own (by simp; omega), bd_some]
    rw [bd_some]
    simp only [List.nil_append, Nat.zero_add, Nat.sub_zero, List.drop_zero, List.take_length]
    rw [fin]
  | none =>
    have hkl : c.length <= k := List.getElem?_eq_none_iff.1 hx
    have ha : atC c k = 0 := by unfold atC; rw [hx]
    rw [if_neg (by simp; omega)]
    rw [bd_some, sliceP_row (Nat.zero_le _) (by omega), bd_some, slcH_row hb (by omega) (by omega), bdS_some, if_pos ⟨by first | trivial | rfl, .inl rfl⟩, app_own (by simp; omega), bd_some, chn_mul, bd_some, bop_i64_add, bd_some, e3, chn_bsl, bd_some, app_own (by simp; omega), bd_some]
    rw [bd_some, sliceP_row (by omega) (by omega), bd_some, slcH_row hb (by omega) (by omega), bdS_some, if_pos ⟨by first | trivial | rfl, .inl rfl⟩, app_own (by simp; omega), bd_some, bop_i64_add, bd_some, step64 (by omega)]
    simp only [List.nil_append, Nat.zero_add, Nat.sub_zero, List.drop_zero, List.take_length]
    rw [ha] at fin
    rw [<- fin]
    simp
theorem ch_round2 (n : Nat) {c : List Int} (hc : ∀ x ∈ c, 0 <= x /\ x < 256) {cb : Bool} {nn w k bo : Nat} {ord : List Nat} (O : OrdOk nn ord) (hk : k < w) (hw : w <= nn) (hnn : nn <= 9) {l : List Int} (hl : l.length = 3 + 5 * nn) {s0 s1 : List (List V)} {b4 : V} {h : Heap} {z : Bool} (hb : h[bo]? = some (.row 3 1 (nlN ord) z)) (next : List V -> Heap -> Option (Res × Heap)) :
    lChain_l63 n (c.map (intV .u8)) cb (.row bo 1 0 w) [.sl 1 s0 false, .sl 1 s1 false, .sl 1 (l.map cel) false, .int .i64 (k : Int), b4] h next = next [.sl 1 s0 false, .sl 1 s1 false, .sl 1 ((ciS c ord k l).map cel) false, .int .i64 ((k + 1 : Nat) : Int), .bool false] h := by
  have hlim : 1000 < lim := by unfold lim; omega
  have hol := O.len
  obtain ⟨jk, hjk, ek⟩ := O.at (show k < nn by omega)
  have ix : ∀ i, i < w -> idxP 1 i (V.row bo 1 0 w) = some (.rptr bo 1 i 0) := fun i hi => by rw [idxP_row (by omega), Nat.zero_add]
  have cx : ∀ i, i < w -> cellsP h (V.rptr bo 1 i 0) = some (cel ((ord.getD i 0 : Nat) : Int), 1, 0) := fun i hi => cellsP_rptr hb (by decide) (nl_at (by omega))
  have cg : ∀ x : Int, (cel x)[0]? = some (V.int .i64 x) := fun _ => rfl
  have a1 : IntKind.i64.wrap (((ord.getD k 0 : Nat) : Int) + 1) = ((ord.getD k 0 + 1 : Nat) : Int) := by rw [w64 (by omega) (by omega)]; omega
  have a2 : IntKind.i64.wrap (((ord.getD k 0 : Nat) : Int) + 2) = ((ord.getD k 0 + 2 : Nat) : Int) := by rw [w64 (by omega) (by omega)]; omega
  have hbl : (List.take w (nlN ord)).length = w := by rw [List.length_take, nl_len]; omega
  unfold lChain_l63
  simp only [gv, List.getD_cons_zero, List.getD_cons_succ, lsl]
  rw [slcH_row hb (Nat.zero_le _) (by rw [nl_len]; omega), bd_some]
  simp only [List.drop_zero, hbl]
  rw [bop_i64_lss, bd_some, bv_bool, if_pos (by simp; omega), bop_i64_eql, bd_some, bv_bool]
  by_cases h0 : k = 0
  · subst h0
    have hs : ∀ x y : Int, ciS c ord 0 l = (match c[0]? with | some x => ((l.set 1 ((ord.getD 0 0 : Nat) : Int)).set (ord.getD 0 0 + 1) 1).set (ord.getD 0 0 + 2) (x.tmod 60) | none => ((l.set 1 ((ord.getD 0 0 : Nat) : Int)).set (ord.getD 0 0 + 1) 1)) := fun _ _ => rfl
    rw [if_pos (by rfl), ix 0 hk, bd_some, cx 0 hk, bd3_some, if_pos (by decide), cg, bd_some, if_pos ⟨by first | trivial | rfl, by rw [List.length_map]; omega, by decide⟩, if_pos (by rfl), if_pos ⟨by first | trivial | rfl, by decide, by exact Nat.le_refl 1⟩, cel_at (by omega), bd_some, nv_nat, bdS_some, ix 0 hk, bd_some, cx 0 hk, bd3_some, if_pos (by decide), cg, bd_some, bop_i64_add, bd_some, a1, nv_nat, bdS_some, ci, cel_set, if_pos ⟨by first | trivial | rfl, by rw [List.length_map, List.length_set]; omega, by decide⟩, cel_at (by rw [List.length_set]; omega), bd_some, cel_set, bop_i64_lss, bd_some, bv_bool, List.length_map]
    cases hx : c[0]? with
    | some x =>
      have hkl := (List.getElem?_eq_some_iff.1 hx).1
      have hx2 := hc x (List.mem_of_getElem? hx)
      have hm : (x.tmod 60) = x % 60 := Int.tmod_eq_emod_of_nonneg hx2.1
      rw [if_pos (by simp; omega), bdS_some, ix 0 hk, bd_some, cx 0 hk, bd3_some, if_pos (by decide), cg, bd_some, bop_i64_add, bd_some, a2, bdS_some, idxP_sl (cu8_at hx), bd_some, cellsP_iptr, bd3_some, if_pos (by decide)]
      simp only [List.getElem?_cons_zero, bd_some]
      rw [chn_rem60, bd_some, chn_cvt64, bd_some, w64 (by omega) (by omega), nv_nat, bdS_some, if_pos ⟨by first | trivial | rfl, by simp only [List.length_map, List.length_set]; omega, by decide⟩, if_pos (by rfl), if_pos ⟨by first | trivial | rfl, by decide, by exact Nat.le_refl 1⟩, cel_at (by simp only [List.length_set]; omega), bd_some, bop_i64_add, bd_some, step64 (by omega), ci, cel_set, hs 0 0, hx]
    | none =>
      have hkl : c.length <= 0 := List.getElem?_eq_none_iff.1 hx
      rw [if_neg (by rw [show c = [] from List.length_eq_zero_iff.1 (by omega)]; decide), bop_i64_add, bd_some, step64 (by omega), hs 0 0, hx]
  · have hs : ciS c ord k l = (match c[k]? with | some x => ((l.set (ord.getD (k - 1) 0 + 3) ((ord.getD k 0 : Nat) : Int)).set (ord.getD k 0 + 1) 1).set (ord.getD k 0 + 2) (x.tmod 60) | none => ((l.set (ord.getD (k - 1) 0 + 3) ((ord.getD k 0 : Nat) : Int)).set (ord.getD k 0 + 1) 1)) := by
      unfold ciS
      rw [if_neg h0] <;> (cases c[k]? <;> rfl)
    obtain ⟨jp, hjp, ep⟩ := O.at (show k - 1 < nn by omega)
    have a3 : IntKind.i64.wrap (((ord.getD (k - 1) 0 : Nat) : Int) + 3) = ((ord.getD (k - 1) 0 + 3 : Nat) : Int) := by rw [w64 (by omega) (by omega)]; omega
    have a0 : IntKind.i64.wrap ((k : Int) - 1) = ((k - 1 : Nat) : Int) := by rw [w64 (by omega) (by omega)]; omega
    rw [if_neg (by simpa using h0), bop_i64_sub, bd_some, a0, nv_nat, bdS_some, ix (k - 1) (by omega), bd_some, cx (k - 1) (by omega), bd3_some, if_pos (by decide), cg, bd_some, bop_i64_add, bd_some, a3, nv_nat, bdS_some, ix k hk, bd_some, cx k hk, bd3_some, if_pos (by decide), cg, bd_some, nv_nat, bdS_some, if_pos ⟨by first | trivial | rfl, by rw [List.length_map]; omega, by decide⟩, if_pos (by rfl), if_pos ⟨by first | trivial | rfl, by decide, by exact Nat.le_refl 1⟩, cel_at (by omega), bd_some, bdS_some, ix k hk, bd_some, cx k hk, bd3_some, if_pos (by decide), cg, bd_some, bop_i64_add, bd_some, a1, nv_nat, bdS_some, ci, cel_set, if_pos ⟨by first | trivial | rfl, by rw [List.length_map, List.length_set]; omega, by decide⟩, cel_at (by rw [List.length_set]; omega), bd_some, cel_set, bop_i64_lss, bd_some, bv_bool, List.length_map]
    cases hx : c[k]? with
    | some x =>
      have hkl := (List.getElem?_eq_some_iff.1 hx).1
      have hx2 := hc x (List.mem_of_getElem? hx)
      have hm : (x.tmod 60) = x % 60 := Int.tmod_eq_emod_of_nonneg hx2.1
      rw [if_pos (by simp; omega), bdS_some, ix k hk, bd_some, cx k hk, bd3_some, if_pos (by decide), cg, bd_some, bop_i64_add, bd_some, a2, bdS_some, idxP_sl (cu8_at hx), bd_some, cellsP_iptr, bd3_some, if_pos (by decide)]
      simp only [List.getElem?_cons_zero, bd_some]
      rw [chn_rem60, bd_some, chn_cvt64, bd_some, w64 (by omega) (by omega), nv_nat, bdS_some, if_pos ⟨by first | trivial | rfl, by simp only [List.length_map, List.length_set]; omega, by decide⟩, if_pos (by rfl), if_pos ⟨by first | trivial | rfl, by decide, by exact Nat.le_refl 1⟩, cel_at (by simp only [List.length_set]; omega), bd_some, bop_i64_add, bd_some, step64 (by omega), ci, cel_set, hs, hx]
    | none =>
      have hkl : c.length <= k := List.getElem?_eq_none_iff.1 hx
      rw [if_neg (by simp; omega), bop_i64_add, bd_some, step64 (by omega), hs, hx]
end Go.Proofs.Tryz
namespace Go.Proofs.Tryz
open Go.L
set_option maxRecDepth 100000
theorem known16_n (n : Nat) (h : Heap) : call (n + 100) 35 [] h = some (.ret [.bool true], h) := by kernel_rfl
end Go.Proofs.Tryz
set_option linter.unusedVariables false
set_option linter.unusedSimpArgs false
namespace Go.Proofs.Tryz
open Go.L Go.Rp Go.Sk Go.Cm
set_option maxRecDepth 100000
def soC (o s c m : Nat) : ObjC (List Int) o where
  P h X q := ∃ qb, X = soB o s qb /\ StO h o s c qb m q
  run os q := stkRun m os q
  K := 0
  rl os q := stkRun_len m os q
  lt := by rintro h X q ⟨qb, rfl, A⟩; exact A.lt
  keep := by rintro h h' X q ⟨qb, rfl, A⟩ hk; exact ⟨qb, rfl, A.keep hk⟩
  dof := by
    rintro n h X q os ⟨qb, rfl, A⟩ _ hos hn
    obtain ⟨h', qb', T, c1, R, A', t1, t2, F⟩ := so_do n A os false hos (by omega)
    exact ⟨h', _, T, c1, R, ⟨qb', rfl, A'⟩, t1, t2, F⟩
structure SvR (h : Heap) (m rb o s c cap : Nat) (sz : Int) (x : Ps × List Int) (bat : V) (qb : Option Nat) : Prop where
  mem : MemAt h m rb sz x.1.l x.1.st
  bt : BtR h m rb bat x.1.xs
  obj : StO h o s c qb cap x.2
  nm : m ∉ soB o s qb
  nr : rb ∉ soB o s qb
def dnV (cap : Nat) (x : Ps × List Int) : V := if x.1.T.pc = 36 then .sl 3 ((tellK x.1.xs (stkRun cap (x.1.xs.map opO) x.2).1 x.1.xs.length).map It.c) false else .sl 0 [] true
theorem sv_step (n : Nat) {h : Heap} {m rb o s c cap : Nat} {sz pp : Int} {x : Ps × List Int} {bat : V} {qb : Option Nat} (A : SvR h m rb o s c cap sz x bat qb) (hS : 20 <= x.1.T.pc /\ x.1.T.pc <= 39) (hx : x.1.xs.length <= 100) (hl : x.1.l.length < lim) (hn : 200 <= n) :
    ∃ h' bat' qb', call (n + 10) 38 [.ptr m 0, .ptr o 0, .int .i64 pp, .agg (x.1.T.v bat)] h = some (.ret [.agg ((nxS pp cap x).1.T.v bat'), dnV cap x], h') /\ SvR h' m rb o s c cap sz (nxS pp cap x) bat' qb' /\ h.length <= h'.length /\ (∀ i, i < h.length -> i ≠ m -> i ≠ rb -> i ∉ soB o s qb -> h'[i]? = h[i]?) /\ ∀ i ∈ soB o s qb', i ∈ soB o s qb \/ h.length <= i := by
  obtain ⟨⟨T, xs, l, st⟩, q⟩ := x
  obtain ⟨M, B, O, nm, nr⟩ := A
  simp only at hS hx hl M B O
  have hml := M.lt
  have hlim : 1000 < lim := by unfold lim; omega
  by_cases h36 : T.pc = 36
  · obtain ⟨h', bat', X', c1, R, ⟨qb', rfl, O'⟩, hX⟩ := step_do n (pp := pp) h36 B (by omega) (soC o s c cap) (so := q) ⟨qb, rfl, O⟩ nm nr M (by show 2 * xs.length + 0 <= n; omega)
    refine ⟨h', bat', qb', ?_, ⟨?_, ?_, ?_, fun e => ?_, fun e => ?_⟩, R.fr.len, fun i h1 h2 h3 h4 => R.fr.old i h1 (by simp [h2, h3, h4]), hX⟩
    · rw [c1]
      unfold nxS dnV
      simp only
      rw [if_pos h36, if_pos h36]
      rfl
    · unfold nxS
      simp only
      rw [if_pos h36]
      exact R.mem
    · unfold nxS
      simp only
      rw [if_pos h36]
      exact R.bt
    · unfold nxS
      simp only
      rw [if_pos h36]
      exact O'
    · rcases hX _ e with e1 | e1
      · exact nm e1
      · omega
    · rcases hX _ e with e1 | e1
      · exact nr e1
      · omega
  · obtain ⟨h', bat', c1, R⟩ := step_any (n + 4) (o := o) (pp := pp) hS h36 B (by omega) hl M
    have e : nxS pp cap (⟨T, xs, l, st⟩, q) = (pStep pp ⟨T, xs, l, st⟩, q) := by
      unfold nxS
      simp only
      rw [if_neg h36]
    rw [e]
    refine ⟨h', bat', qb, ?_, ⟨R.mem, R.bt, O.keep fun x hx => R.fr.old x (O.lt x hx) ?_, nm, nr⟩, R.fr.len, fun i h1 h2 h3 _ => R.fr.old i h1 (by simp [h2, h3]), fun i hi => .inl hi⟩
    · rw [show n + 10 = n + 4 + 6 from rfl, c1]
      unfold dnV
      simp only
      rw [if_neg h36]
    · simp only [List.mem_cons, List.not_mem_nil, or_false]
      rintro (rfl | rfl)
      · exact nm hx
      · exact nr hx
theorem ref_op (n : Nat) (v : Int) (h0 : -2147483648 <= v /\ v < 2147483648) (h : Heap) : call (n + 1) 37 [.agg [.int .u8 1, .int .i32 v]] h = some (.ret [.int .i64 (wdO v)], h) := by
  rw [r1Op_eq]
  unfold r1Op
  have e : IntKind.i64.wrap ((IntKind.i64.wrap ((IntKind.i64.wrap (256 * (IntKind.i64.wrap ((IntKind.i64.wrap v) + 2147483648)))) + (IntKind.i64.wrap 1))) + 1) = wdO v := by
    unfold wdO
    rw [w64 (n := v) (by omega) (by omega), w64 (n := v + 2147483648) (by omega) (by omega), w64 (n := 256 * (v + 2147483648)) (by omega) (by omega), show IntKind.i64.wrap 1 = 1 from rfl, w64 (n := 256 * (v + 2147483648) + 1) (by omega) (by omega), w64 (by omega) (by omega)]
    omega
  rw [e]
theorem cut13 (T : Th) (bv : V) : ((T.v bv).drop 0 |>.take 13) = T.v bv := rfl
theorem set13 (T : Th) (bv : V) (l : List V) (hl : l.length = 13) : setR l 0 (T.v bv) = T.v bv := by
  match l, hl with
  | [_, _, _, _, _, _, _, _, _, _, _, _, _], _ => rfl
theorem len13 (T : Th) (bv : V) : (T.v bv).length = 13 := rfl
end Go.Proofs.Tryz
set_option linter.unusedVariables false
set_option linter.unusedSimpArgs false
namespace Go.Proofs.Tryz
open Go.L Go.Rp Go.Sk Go.Cm
set_option maxRecDepth 100000
theorem ipOf_row (b sz lo hi i : Nat) : ipOf (V.row b sz lo hi) (V.rptr b sz i 0) = V.rptr b sz i 0 := rfl
theorem cel0 (x : Int) : (cel x)[0]? = some (V.int .i64 x) := rfl
theorem memR_loop (n : Nat) (l : List Int) {bl m rb : Nat} {sz : Int} (hl : l.length <= 1000) {s2 : List V} : ∀ (d j M : Nat) (h : Heap) (z : Bool) (cur : List Int) (st : Int) (b : Nat) (r s0 : List V), s0.length = 3 -> h[bl]? = some (.row 2 1 (l.map cel) z) -> bl ≠ m -> bl ≠ rb -> j + d = l.length -> d < M -> cur.length = l.length -> (∀ i, i < j -> cur[i]? = l[i]?) -> MemAt h m rb sz cur st -> RefAt h b r sz cur st -> b ≠ m -> b ≠ rb →
    ∃ h' b' r' st', loopx M (l13MemV_l21 (n + 2) (.row bl 1 0 l.length) (.ptr m 0)) [.agg s0, .agg r, .agg s2, .int .i64 (j : Int)] h = some (.ret [.ptr m 0, .agg r'], h') /\ MemAt h' m rb sz l st' /\ RefAt h' b' r' sz l st' /\ Fr h h' [m, rb] /\ (b' = b \/ h.length <= b') /\ b' ≠ m /\ b' ≠ rb
  | 0, j, M + 1, h, z, cur, st, b, r, s0 => by
    intro h0 hbl nb1 nb2 hj hM hc hcur A B hb1 hb2
    have hll : (l.map cel).length = l.length := List.length_map ..
    have e0 : cur = l := List.ext_getElem? fun i => by
      by_cases hi : i < l.length
      · exact hcur i (by omega)
      · rw [List.getElem?_eq_none (by omega), List.getElem?_eq_none (by omega)]
    subst e0
    obtain ⟨x, y, w, rfl⟩ : ∃ x y z, s0 = [x, y, z] := by
      match s0, h0 with
      | [x, y, z], _ => exact ⟨x, y, z, rfl⟩
    obtain ⟨rfl, B2⟩ := id B
    have es := slcH_all hbl
    rw [hll] at es
    refine ⟨h, b, _, st, ?_, A, B, .refl _ _, .inl rfl, hb1, hb2⟩
    rw [loopx_succ]
    unfold l13MemV_l21
    simp only [gv, List.getD_cons_zero, List.getD_cons_succ, lcs_agg]
    rw [es, bd_some]
    simp only [hll]
    rw [bop_i64_lss, bd_some, bv_bool, if_neg (by simp; omega)]
    rfl
  | d + 1, j, M + 1, h, z, cur, st, b, r, s0 => by
    intro h0 hbl nb1 nb2 hj hM hc hcur A B hb1 hb2
    have hlim : 1000 < lim := by unfold lim; omega
    have hll : (l.map cel).length = l.length := List.length_map ..
    have hjl : j < l.length := by omega
    have hx : (l.map cel)[j]? = some (cel l[j]) := by rw [List.getElem?_map, List.getElem?_eq_getElem hjl]; rfl
    obtain ⟨h1, e1, c1, A1, F1⟩ := ce_store n A (j : Int) l[j]
    have hbl1 : h1[bl]? = some (.row 2 1 (l.map cel) z) := (F1.old _ (lt_of_at hbl) (by simp [nb1, nb2])).trans hbl
    have B1 : RefAt h1 b r sz cur st := B.keep (F1.old _ B.lt (by simp [hb1, hb2]))
    obtain ⟨h2, b2, r2, e2, c2, B2, F2, hb⟩ := r2_store n B1 (by omega) (j : Int) l[j]
    have hbl2 : h2[bl]? = some (.row 2 1 (l.map cel) z) := (F2.old _ (lt_of_at hbl1) (by simp)).trans hbl1
    have hg : cget cur (j : Int) = some (cur[j]'(by omega)) := by
      unfold cget
      rw [if_neg (by omega), Int.toNat_natCast, List.getElem?_eq_getElem (by omega)]
    obtain ⟨q1, _, _⟩ := stL_some hg l[j]
    rw [Int.toNat_natCast] at q1
    have A2 := A1.fr F2 (by simp) (by simp)
    have hml := A1.lt
    have hn1 : b2 ≠ m := by rcases hb with e | e <;> omega
    have hn2 : b2 ≠ rb := by rcases hb with e | e <;> omega
    have hset : ∀ i, i < j + 1 -> (stL cur (j : Int) l[j])[i]? = l[i]? := fun i hi => by
      rw [q1]
      by_cases e : i = j
      · subst e
        rw [List.getElem?_set_self (by omega), List.getElem?_eq_getElem hjl]
      · rw [List.getElem?_set_ne (Ne.symm e)]
        exact hcur i (by omega)
    obtain ⟨rr, hrr⟩ : ∃ rr, r2 = [V.int .i64 sz, rr, V.int .i64 (ldS cur (j : Int) st)] := ⟨_, B2.1⟩
    obtain ⟨r0, hr0⟩ : ∃ rr, r = [V.int .i64 sz, rr, V.int .i64 st] := ⟨_, B.1⟩
    obtain ⟨h', b', r', st', e, A3, B3, F3, hb3, hb4, hb5⟩ := memR_loop n l hl (s2 := s2) d (j + 1) M h2 z (stL cur (j : Int) l[j]) (ldS cur (j : Int) st) b2 r2 s0 h0 hbl2 nb1 nb2 (by omega) (by omega) (by rw [stL_len, hc]) hset A2 B2 hn1 hn2
    have es := slcH_all hbl
    rw [hll] at es
    refine ⟨h', b', r', st', ?_, A3, B3, (F1.trans (F2.mono (by simp))).trans F3, ?_, hb4, hb5⟩
    · rw [loopx_succ, <- e]
      generalize (loopx M (l13MemV_l21 (n + 2) (.row bl 1 0 l.length) (.ptr m 0))) = nx
      unfold l13MemV_l21
      simp only [gv, List.getD_cons_zero, List.getD_cons_succ, lcs_agg]
      subst hr0 hrr
      rw [es, bd_some]
      simp only [hll]
      rw [bop_i64_lss, bd_some, bv_bool, if_pos (by simp; omega), nv_nat, bdS_some, idxP_row (by omega), bd_some, Nat.zero_add, cellsP_rptr hbl (by decide) hx, bd3_some, if_pos (by decide), cel0, bd_some, c1, cl_ret, one1_one, bdS_some, idxP_row (by omega), bd_some, Nat.zero_add, ipOf_row, cellsP_rptr hbl1 (by decide) hx, bd3_some, if_pos (by decide), cel0, bd_some, cut3, c2, clH_ret]
      simp only [List.getElem?_cons_zero, List.getElem?_cons_succ, bd_some, ca, setR3, cut3, List.length_cons, List.length_nil, Nat.zero_add, Nat.reduceAdd, if_true, Nat.le_refl]
      rw [bop_i64_add, bd_some, step64 (by omega)]
      rfl
    · rcases hb3 with e | e
      · rcases hb with e' | e'
        · exact .inl (e.trans e')
        · exact .inr (by have := F1.len; omega)
      · exact .inr (by have := F1.len; have := F2.len; omega)
  | d, j, 0, h, z, cur, st, b, r, s0 => by
    intro _ _ _ _ _ hM; omega
theorem memR_call (n : Nat) {l : List Int} (h1 : 0 < l.length /\ l.length <= 1000) (hn : l.length < n + 2) {h : Heap} {bl : Nat} {z : Bool} (hbl : h[bl]? = some (.row 2 1 (l.map cel) z)) :
    ∃ h' m rb b r st, call (n + 3) 32 [.row bl 1 0 l.length] h = some (.ret [.ptr m 0, .agg r], h') /\ MemAt h' m rb l.length l st /\ RefAt h' b r l.length l st /\ Fr h h' [] /\ h.length <= m /\ h.length <= rb /\ h.length <= b := by
  have hll : (l.map cel).length = l.length := List.length_map ..
  have hbl0 := lt_of_at hbl
  have c1 := ce_new (n + 1) (l.length : Int) (by omega) h
  generalize hg : h ++ [HB.box 3 [.int .i64 (l.length : Int), .sl 0 [] true, .int .i64 0]] = g at c1
  have c2 := r2_new (n + 1) (l.length : Int) (by omega) g
  obtain ⟨h2, b, r, c3, B, F2, hb⟩ := r2_alloc n l.length h1 g
  have gl : g.length = h.length + 1 := by rw [<- hg]; simp
  have gb : g[bl]? = some (.row 2 1 (l.map cel) z) := by rw [<- hg, List.getElem?_append_left hbl0, hbl]
  have gm : g[h.length]? = some (.box 3 [.int .i64 (l.length : Int), .sl 0 [] true, .int .i64 0]) := by rw [<- hg, List.getElem?_concat_length]
  have gm2 := (F2.old h.length (by omega) (by simp)).trans gm
  have hb2 := (F2.old bl (by omega) (by simp)).trans gb
  obtain ⟨h3, a, e, c4, A, F3⟩ := ce_alloc (n + 1) l.length h1 gm2
  have hl2 := F2.len
  have hb3 := (F3.old bl (by omega) (by simp; omega)).trans hb2
  have B3 : RefAt h3 b r l.length (List.replicate l.length 0) 1 := B.keep (F3.old b B.lt (by simp; omega))
  obtain ⟨rr, hrr⟩ : ∃ rr, r = [V.int .i64 l.length, rr, V.int .i64 1] := ⟨_, B.1⟩
  obtain ⟨h', b', r', st', e5, A5, B5, F5, hb5, _, _⟩ := memR_loop n l h1.2 (s2 := r) l.length 0 (n + 2) h3 z (List.replicate l.length 0) 1 b r [V.int .i64 0, V.sl 0 [] true, V.int .i64 0] rfl hb3 (by omega) (by omega) (by omega) hn (by simp) (fun i hi => by omega) A B3 (by omega) (by have := B.lt; omega)
  have es : ∀ {g : Heap}, g[bl]? = some (.row 2 1 (l.map cel) z) -> slcH g (.row bl 1 0 l.length) = some (1, l.map cel) := fun hh => by have := slcH_all hh; rwa [hll] at this
  refine ⟨h', h.length, h2.length + 1, b', r', st', ?_, A5, B5, ⟨by have := F3.len; have := F5.len; omega, fun i q1 _ => ?_⟩, Nat.le_refl _, by omega, ?_⟩
  · rw [show n + 3 = (n + 2) + 1 from rfl, l13MemV_eq]
    unfold l13MemV
    subst hrr
    rw [es hbl, bd_some]
    simp only [hll]
    rw [c1, cl_ret, one1_one, es gb, bd_some]
    simp only [hll]
    rw [c2, cl_ret, one1_one]
    simp only [ca, setR3, cut3, List.length_cons, List.length_nil, Nat.zero_add, Nat.reduceAdd, if_true, Nat.le_refl]
    rw [es gb, bd_some]
    simp only [hll]
    rw [c3, cl_ret]
    simp only [List.getElem?_cons_zero, List.getElem?_cons_succ, bd_some, ca, setR3, cut3, List.length_cons, List.length_nil, Nat.zero_add, Nat.reduceAdd, if_true, Nat.le_refl]
    rw [es hb2, bd_some]
    simp only [hll]
    rw [c4, cl_ret]
    exact e5
  · rw [F5.old i (by have := F3.len; omega) (by simp; omega), F3.old i (by omega) (by simp; omega), F2.old i (by omega) (by simp), <- hg, List.getElem?_append_left q1]
  · have := F3.len
    rcases hb5 with e | e <;> omega
theorem ch_loop1 (n : Nat) {c : List Int} (hc : ∀ x ∈ c, 0 <= x /\ x < 256) {cb : Bool} {m : Int} {nn : Nat} (hnn : nn <= 9) {s0 s1 : List (List V)} : ∀ (d k M : Nat) (h : Heap), k + d = nn -> ∃ h', Fr h h' [] ∧
    loopx (M + d) (lChain_l8 n (c.map (intV .u8)) cb m (.int .i64 (nn : Int))) [.sl 1 s0 false, .sl 1 s1 false, .sl 1 (nlN (ordC c k)) false, .int .i64 (k : Int)] h = loopx M (lChain_l8 n (c.map (intV .u8)) cb m (.int .i64 (nn : Int))) [.sl 1 s0 false, .sl 1 s1 false, .sl 1 (nlN (ordC c nn)) false, .int .i64 (nn : Int)] h'
  | 0, k, M, h, hk => by
    obtain rfl : k = nn := by omega
    exact ⟨h, .refl _ _, rfl⟩
  | d + 1, k, M, h, hk => by
    obtain ⟨h', F, e⟩ := ch_loop1 n hc (cb := cb) (m := m) hnn (s0 := s0) (s1 := s1) d (k + 1) M (h ++ [.row 3 1 (nlN (ordC c k)) true]) (by omega)
    refine ⟨h', (Fr.app _ _).trans F, ?_⟩
    rw [show M + (d + 1) = (M + d) + 1 from rfl, loopx_succ, ch_round1 n hc (by omega) hnn, e]
theorem ch_loop2 (n : Nat) {c : List Int} (hc : ∀ x ∈ c, 0 <= x /\ x < 256) {cb : Bool} {nn w bo : Nat} {ord : List Nat} (O : OrdOk nn ord) (hw : w <= nn) (hnn : nn <= 9) {s0 s1 : List (List V)} {h : Heap} {z : Bool} (hb : h[bo]? = some (.row 3 1 (nlN ord) z)) : ∀ (d k M : Nat) (l : List Int) (b4 : V), k + d = w -> d < M -> CI nn ord k l -> ∃ l', CI nn ord w l' ∧
    loopx M (lChain_l63 n (c.map (intV .u8)) cb (.row bo 1 0 w)) [.sl 1 s0 false, .sl 1 s1 false, .sl 1 (l.map cel) false, .int .i64 (k : Int), b4] h = some (.ret [.row h.length 1 0 l'.length, .row bo 1 0 w], h ++ [.row 2 1 (l'.map cel) true])
  | 0, k, M + 1, l, b4 => by
    intro hk hM A
    obtain rfl : k = w := by omega
    refine ⟨l, A, ?_⟩
    have hol := O.len
    have hbl : (List.take k (nlN ord)).length = k := by rw [List.length_take, nl_len]; omega
    rw [loopx_succ]
    unfold lChain_l63
    simp only [gv, List.getD_cons_zero, List.getD_cons_succ, lsl]
    rw [slcH_row hb (Nat.zero_le _) (by rw [nl_len]; omega), bd_some]
    simp only [List.drop_zero, hbl]
    rw [bop_i64_lss, bd_some, bv_bool, if_neg (by simp), List.length_map]
  | d + 1, k, M + 1, l, b4 => by
    intro hk hM A
    obtain ⟨l', A', e⟩ := ch_loop2 n hc (cb := cb) O hw hnn (s0 := s0) (s1 := s1) hb d (k + 1) M (ciS c ord k l) (.bool false) (by omega) (by omega) (A.step O (by omega))
    refine ⟨l', A', ?_⟩
    rw [loopx_succ, ch_round2 n hc O (by omega) hw hnn A.len hb, e]
  | d, k, 0, l, b4 => by intro _ h; omega
theorem CI.zero {nn : Nat} {ord : List Nat} (O : OrdOk nn ord) (hnn : 1 <= nn) : CI nn ord 0 ((List.replicate (3 + 5 * nn) 0).set 2 50) := by
  have g : ∀ b : Int, 0 <= b -> b < 3 + 5 * (nn : Int) -> b ≠ 2 -> cget ((List.replicate (3 + 5 * nn) (0 : Int)).set 2 50) b = some 0 := by
    intro b h1 h2 h3
    unfold cget
    rw [if_neg (by omega), List.getElem?_set_ne (by omega), List.getElem?_replicate, if_pos (by omega)]
  refine ⟨by simp, ?_, fun j hj => ldV_of (g _ (by omega) (by omega) (by omega)), ?_, fun i hi => ?_, fun i hi => ?_⟩
  · refine ldV_of ?_
    unfold cget
    rw [if_neg (by decide), show (2 : Int).toNat = 2 from rfl, List.getElem?_set_self (by simp; omega)]
  · rw [if_pos rfl]; exact ldV_of (g 1 (by decide) (by omega) (by decide))
  · obtain ⟨j, h1, h2⟩ := O.at hi
    rw [if_neg (by omega)]
    exact ldV_of (g _ (by omega) (by omega) (by omega))
  · obtain ⟨j, h1, h2⟩ := O.at hi
    rw [if_neg (by omega)]
    exact g _ (by omega) (by omega) (by omega)
theorem nN_of {c : List Int} {x : Int} (h : c[0]? = some x) (hx : 0 <= x) : ((nC c : Nat) : Int) = 1 + x.tmod 9 := by
  cases c with
  | nil => cases h
  | cons y c =>
    obtain rfl : y = x := by simpa using h
    rw [Int.tmod_eq_emod_of_nonneg hx]
    show ((1 + y.toNat % 9 : Nat) : Int) = _
    omega
theorem chain_call (n : Nat) {c : List Int} (hc : ∀ x ∈ c, 0 <= x /\ x < 256) (cb : Bool) (m : Nat) (hm : m <= 100) (hn : 30 <= n) (h : Heap) :
    ∃ h' bl bo l w, call (n + 1) 31 [.sl 1 (c.map (intV .u8)) cb, .int .i64 (m : Int)] h = some (.ret [.row bl 1 0 l.length, .row bo 1 0 w], h') /\ w = min m (nC c) /\ ChL (nC c) (ordC c (nC c)) w l ∧
      h'[bl]? = some (.row 2 1 (l.map cel) true) /\ h'[bo]? = some (.row 3 1 (nlN (ordC c (nC c))) true) /\ bl ≠ bo /\ h.length <= bl /\ h.length <= bo /\ Fr h h' [] := by
  have hlim : 1000 < lim := by unfold lim; omega
  have hnn := nC_le c
  have O : OrdOk (nC c) (ordC c (nC c)) := ⟨ordC_len c _, fun x => ordC_mem c _, ordC_nd c _⟩
  obtain ⟨M, hM⟩ : ∃ M, n = M + 1 + nC c := ⟨n - 1 - nC c, by omega⟩
  obtain ⟨h1, F1, e1⟩ := ch_loop1 n hc (cb := cb) (m := (m : Int)) hnn.2 (s0 := []) (s1 := []) (nC c) 0 (M + 1) h (by omega)
  have hb : (h1 ++ [HB.row 3 1 (nlN (ordC c (nC c))) true])[h1.length]? = some (.row 3 1 (nlN (ordC c (nC c))) true) := List.getElem?_concat_length
  have hw : min m (nC c) <= nC c := Nat.min_le_right ..
  obtain ⟨l, A, e2⟩ := ch_loop2 n hc (cb := cb) O hw hnn.2 (s0 := []) (s1 := []) hb (min m (nC c)) 0 n ((List.replicate (3 + 5 * nC c) 0).set 2 50) (.bool false) (by omega) (by omega) (CI.zero O hnn.1)
  have key : loopx n (lChain_l8 n (c.map (intV .u8)) cb (m : Int) (.int .i64 ((nC c : Nat) : Int))) [.sl 1 [] false, .sl 1 [] false, .sl 1 [] false, .int .i64 0] h = some (.ret [.row (h1.length + 1) 1 0 l.length, .row h1.length 1 0 (min m (nC c))], (h1 ++ [HB.row 3 1 (nlN (ordC c (nC c))) true]) ++ [.row 2 1 (l.map cel) true]) := by
    rw [<- hM] at e1
    refine e1.trans ?_
    rw [loopx_succ]
    generalize (loopx M (lChain_l8 n (c.map (intV .u8)) cb (m : Int) (.int .i64 ((nC c : Nat) : Int)))) = nx
    unfold lChain_l8
    simp only [gv, List.getD_cons_zero, List.getD_cons_succ, lsl]
    have hol : (nlN (ordC c (nC c))).length = nC c := by rw [nl_len, ordC_len]
    have e3 : IntKind.i64.wrap (3 + IntKind.i64.wrap (5 * ((nC c : Nat) : Int))) = ((3 + 5 * nC c : Nat) : Int) := by
      rw [w64 (n := 5 * ((nC c : Nat) : Int)) (by omega) (by omega), w64 (by omega) (by omega)]; omega
    have e4 : mm false [V.int .i64 (m : Int), V.int .i64 ((nC c : Nat) : Int)] = some (V.int .i64 ((min m (nC c) : Nat) : Int)) := by
      rw [mm_min]
      by_cases h0 : ((nC c : Nat) : Int) < (m : Int)
      · rw [if_pos h0]; congr 2; omega
      · rw [if_neg h0]; congr 2; omega
    rw [bop_i64_lss, bd_some, bv_bool, if_neg (by simp), show evBsL [some (V.int .i64 (m : Int)), valB h1 (V.int .i64 ((nC c : Nat) : Int))] = some [V.int .i64 (m : Int), V.int .i64 ((nC c : Nat) : Int)] from rfl, bd_some, e4, bd_some, bd_some, nv_nat, bdS_some, sliceP_row (Nat.zero_le _) (by omega), bd_some, chn_mul, bd_some, bop_i64_add, bd_some, e3, nv_nat, bdS_some, bdS_some, if_pos ⟨Nat.le_refl _, by omega, by first | trivial | rfl⟩, if_pos ⟨by first | trivial | rfl, by simp; omega, by decide⟩]
    rw [show (List.replicate (3 + 5 * nC c) [V.int .i64 0])[2]? = some (cel 0) from by rw [List.getElem?_replicate, if_pos (by omega)]; rfl, bd_some]
    have e5 : (List.replicate (3 + 5 * nC c) [V.int .i64 0]).set 2 (setR (cel 0) 0 [V.int .i64 50]) = ((List.replicate (3 + 5 * nC c) (0 : Int)).set 2 50).map cel := by
      rw [List.map_set, List.map_replicate]; rfl
    rw [e5, Nat.zero_add, Nat.zero_add]
    refine e2.trans ?_
    simp
  refine ⟨(h1 ++ [HB.row 3 1 (nlN (ordC c (nC c))) true]) ++ [.row 2 1 (l.map cel) true], h1.length + 1, h1.length, l, min m (nC c), ?_, rfl, A.fin O hw hnn, ?_, ?_, by omega, by have := F1.len; omega, F1.len, F1.trans ((Fr.app _ _).trans (Fr.app _ _))⟩
  · rw [lChain_eq]
    unfold lChain
    cases hx : c[0]? with
    | some x =>
      have hkl := (List.getElem?_eq_some_iff.1 hx).1
      have hx2 := hc x (List.mem_of_getElem? hx)
      have hm : (x.tmod 9) = x % 9 := Int.tmod_eq_emod_of_nonneg hx2.1
      rw [if_pos (by simp; omega), idxP_sl (cu8_at hx), bd_some, cellsP_iptr, bd3_some, if_pos (by decide)]
      simp only [List.getElem?_cons_zero, bd_some]
      rw [chn_rem9, bd_some, chn_cvt, bd_some, w64 (by omega) (by omega), bop_i64_add, bd_some, w64 (by omega) (by omega), <- nN_of hx hx2.1]
      exact key
    | none =>
      have hkl : c = [] := List.length_eq_zero_iff.1 (by have := List.getElem?_eq_none_iff.1 hx; omega)
      subst hkl
      rw [if_neg (by decide), l154_eq]
      exact key
  · rw [List.getElem?_append_right (by simp)]; simp
  · rw [List.getElem?_append_left (by simp), List.getElem?_concat_length]
end Go.Proofs.Tryz
set_option linter.unusedVariables false
set_option linter.unusedSimpArgs false
namespace Go.Proofs.Tryz
open Go.L Go.Rp Go.Sk Go.Cm
set_option maxRecDepth 100000
def z13 : List V := [(V.int .i64 0), (V.int .i64 0), (V.int .i64 0), (V.int .i64 0), (V.int .i64 0), (V.int .i64 0), (V.int .i64 0), (V.int .i64 0), (V.int .i64 0), (V.int .i64 0), (V.int .i64 0), (V.int .i64 0), (V.sl 0 [] true)]
theorem dn_slc (h : Heap) (pp : Int) (cap : Nat) (x : Ps × List Int) (a : List It) (hx : x.1.xs.length <= 100) (ha : a.length <= 100000) : ∃ z l, slcH h (dnV cap x) = some (z, l) /\ (z = 3 \/ l.isEmpty = true) /\ app 87 3 (S.own 87 3 (a.map It.c)) l = some ((svN pp cap (x, a)).2.map It.c) /\ (svN pp cap (x, a)).2.length <= a.length + 100 := by
  have hlim : 1000000 < lim := by unfold lim; omega
  unfold dnV svN
  simp only
  by_cases h36 : x.1.T.pc = 36
  · have hrs := stkRun_len (cap : Int) (x.1.xs.map opO) x.2
    rw [List.length_map] at hrs
    have htl := tellK_len hrs x.1.xs.length
    rw [if_pos h36, if_pos h36]
    refine ⟨3, _, rfl, .inl rfl, ?_, by rw [List.length_append, htl]; omega⟩
    rw [app_own (by simp only [List.length_map]; omega), List.map_append]
  · rw [if_neg h36, if_neg h36]
    refine ⟨0, [], rfl, .inr rfl, ?_, by simp⟩
    rw [app_own (by simp only [List.length_map, List.length_nil]; omega)]
    simp
theorem sv_round (n : Nat) {pp : Int} {h : Heap} {m rb o s c cap : Nat} {sz : Int} {x : Ps × List Int} {a : List It} {bat : V} {i0 : List (List V)} {qb : Option Nat} {k : Nat} (A : SvR h m rb o s c cap sz x bat qb) (hS : 20 <= x.1.T.pc /\ x.1.T.pc <= 39) (hx : x.1.xs.length <= 100) (hl : x.1.l.length < lim) (ha : a.length <= 100 * k) (hk : k < 400) (hn : 200 <= n) :
    ∃ h' bat' qb', SvR h' m rb o s c cap sz (svN pp cap (x, a)).1 bat' qb' /\ (svN pp cap (x, a)).2.length <= 100 * (k + 1) /\ h.length <= h'.length /\ (∀ i, i < h.length -> i ≠ m -> i ≠ rb -> i ∉ soB o s qb -> h'[i]? = h[i]?) /\ (∀ i ∈ soB o s qb', i ∈ soB o s qb \/ h.length <= i) ∧
      ∀ next, lServe_l0 (n + 10) m o pp 400 [.agg z13, .sl 3 i0 false, .agg (x.1.T.v bat), .sl 3 (a.map It.c) false, .int .i64 (k : Int)] h next = next [.agg z13, .sl 3 i0 false, .agg ((svN pp cap (x, a)).1.1.T.v bat'), .sl 3 ((svN pp cap (x, a)).2.map It.c) false, .int .i64 ((k + 1 : Nat) : Int)] h' := by
  have hlim : 1000 < lim := by unfold lim; omega
  obtain ⟨h1, bat1, qb1, c1, A1, L1, F1, X1⟩ := sv_step n (pp := pp) A hS hx hl hn
  obtain ⟨z, l, e1, e2, e3, e4⟩ := dn_slc h1 pp cap x a hx (by omega)
  have cs := serves_call (n + 9) x.1.T bat h
  rw [show decide (20 <= x.1.T.pc /\ x.1.T.pc <= 39) = true from decide_eq_true hS] at cs
  have e5 : (svN pp cap (x, a)).1 = nxS pp cap x := rfl
  refine ⟨h1, bat1, qb1, A1, by omega, L1, F1, X1, fun next => ?_⟩
  rw [e5]
  unfold lServe_l0
  simp only [gv, List.getD_cons_zero, List.getD_cons_succ, lcs_agg, lsl]
  rw [bop_i64_lss, bd_some, bv_bool, if_pos (by simp; omega), cut13, cs, cl_ret, one1_one, bv_bool, if_pos rfl, c1, cl_ret]
  simp only [List.getElem?_cons_zero, List.getElem?_cons_succ, bd_some]
  rw [ca, set13 _ _ _ (by rfl), cut13, set13 _ _ _ (len13 _ _), if_pos (len13 _ _), if_pos (Nat.le_of_eq (len13 _ _)), if_pos (len13 _ _), if_pos (Nat.le_of_eq (len13 _ _)), e1, bdS_some, if_pos ⟨by first | trivial | rfl, e2⟩, e3, bd_some, bop_i64_add, bd_some, step64 (by omega)]
theorem serve_loop (n : Nat) {pp : Int} {m rb o s c cap : Nat} {sz : Int} {i0 : List (List V)} (hn : 200 <= n) {I : Ps × List Int -> Prop} (hI : ∀ x, I x -> x.1.xs.length <= 100 /\ x.1.l.length < lim) {j : Nat} {x y : (Ps × List Int) × List It} (g : Goes I (svN pp cap) j x y) :
    ∀ (M k : Nat) (h : Heap) (bat : V) (qb : Option Nat), x.2.length <= 100 * k -> k + j <= 400 -> SvR h m rb o s c cap sz x.1 bat qb →
      ∃ h' bat' qb', SvR h' m rb o s c cap sz y.1 bat' qb' /\ h.length <= h'.length /\ (∀ i, i < h.length -> i ≠ m -> i ≠ rb -> i ∉ soB o s qb -> h'[i]? = h[i]?) /\ (∀ i ∈ soB o s qb', i ∈ soB o s qb \/ h.length <= i) ∧
        loopx (M + j) (lServe_l0 (n + 10) m o pp 400) [.agg z13, .sl 3 i0 false, .agg (x.1.1.T.v bat), .sl 3 (x.2.map It.c) false, .int .i64 (k : Int)] h = loopx M (lServe_l0 (n + 10) m o pp 400) [.agg z13, .sl 3 i0 false, .agg (y.1.1.T.v bat'), .sl 3 (y.2.map It.c) false, .int .i64 ((k + j : Nat) : Int)] h' := by
  induction g with
  | nil x => intro M k h bat qb _ _ A; exact ⟨h, bat, qb, A, Nat.le_refl _, fun _ _ _ _ _ => rfl, fun _ hi => .inl hi, rfl⟩
  | @cons j x y hS hi _ ih =>
    intro M k h bat qb ha hk A
    obtain ⟨x, a⟩ := x
    obtain ⟨q1, q2⟩ := hI _ hi
    obtain ⟨h1, bat1, qb1, A1, ha1, L1, F1, X1, c1⟩ := sv_round n (pp := pp) (i0 := i0) (a := a) A hS q1 q2 (k := k) ha (by omega) hn
    obtain ⟨h', bat', qb', A', L', F', X', e⟩ := ih M (k + 1) h1 bat1 qb1 ha1 (by omega) A1
    refine ⟨h', bat', qb', A', by omega, fun i h1 h2 h3 h4 => (F' i (by omega) h2 h3 fun e => ?_).trans (F1 i h1 h2 h3 h4), fun i hi => ?_, ?_⟩
    · rcases X1 i e with e1 | e1
      · exact h4 e1
      · omega
    · rcases X' i hi with e1 | e1
      · exact X1 i e1
      · exact .inr (by omega)
    · rw [show M + (j + 1) = (M + j) + 1 from rfl, loopx_succ, c1, e, show k + 1 + j = k + (j + 1) by omega]
theorem serve_call (n : Nat) {pp : Int} {m rb o s c cap : Nat} {sz : Int} (hn : 500 <= n) {I : Ps × List Int -> Prop} (hI : ∀ x, I x -> x.1.xs.length <= 100 /\ x.1.l.length < lim) {j : Nat} {l : List Int} {st : Int} {q : List Int} {y : (Ps × List Int) × List It} (g : Goes I (svN pp cap) j ((⟨agT 20 0 0 0 0 0 0 0, [], l, st⟩, q), []) y) (hj : j < 400) (hy : y.1.1.T.pc = 40) {h : Heap} {qb : Option Nat} (A : SvR h m rb o s c cap sz (⟨agT 20 0 0 0 0 0 0 0, [], l, st⟩, q) (.sl 0 [] true) qb) :
    ∃ h' bat' qb', call (n + 11) 33 [.ptr m 0, .ptr o 0, .int .i64 pp, .int .i64 400] h = some (.ret [.agg (y.1.1.T.v bat'), .sl 3 (y.2.map It.c) false], h') /\ SvR h' m rb o s c cap sz y.1 bat' qb' /\ h.length <= h'.length /\ (∀ i, i < h.length -> i ≠ m -> i ≠ rb -> i ∉ soB o s qb -> h'[i]? = h[i]?) := by
  obtain ⟨h', bat', qb', A', L', F', _, e⟩ := serve_loop n (i0 := []) (by omega) hI g (n + 10 - j - 1 + 1) 0 h (.sl 0 [] true) qb (by simp) (by omega) A
  refine ⟨h', bat', qb', ?_, A', L', F'⟩
  rw [show n + 11 = (n + 10) + 1 from rfl, lServe_eq]
  unfold lServe
  rw [show n + 10 - j - 1 + 1 + j = n + 10 by omega] at e
  refine e.trans ?_
  rw [loopx_succ]
  generalize (loopx (n + 10 - j - 1) (lServe_l0 (n + 10) m o pp 400)) = nx
  have cs := serves_call (n + 9) y.1.1.T bat' h'
  rw [show decide (20 <= y.1.1.T.pc /\ y.1.1.T.pc <= 39) = false from decide_eq_false (by omega)] at cs
  unfold lServe_l0
  simp only [gv, List.getD_cons_zero, List.getD_cons_succ, lcs_agg, lsl]
  rw [bop_i64_lss, bd_some, bv_bool, if_pos (by simp; omega), cut13, cs, cl_ret, one1_one, bv_bool, if_neg (by decide), if_pos (len13 _ _), if_pos (Nat.le_of_eq (len13 _ _)), set13 _ _ _ (by rfl), cut13]
theorem set13z (T : Th) (bv : V) : setR [(V.int .i64 0), (V.int .i64 0), (V.int .i64 0), (V.int .i64 0), (V.int .i64 0), (V.int .i64 0), (V.int .i64 0), (V.int .i64 0), (V.int .i64 0), (V.int .i64 0), (V.int .i64 0), (V.int .i64 0), (V.sl 0 [] true)] 0 (T.v bv) = T.v bv := rfl
end Go.Proofs.Tryz
set_option linter.unusedVariables false
set_option linter.unusedSimpArgs false
namespace Go.Cm
open Go.L Go.Rp Go.Sk
def lW : Nat -> List Int -> List Int
  | 0, l => l
  | i + 1, l => stL (lW i l) (3 + 5 * (i : Int)) (wdO (3 + 5 * (i : Int)))
theorem lW_len (l : List Int) : ∀ i, (lW i l).length = l.length
  | 0 => rfl
  | i + 1 => by
    show (stL (lW i l) _ _).length = _
    rw [stL_len, lW_len l i]
theorem lW_cget (l : List Int) {b : Int} (h0 : 0 <= b) : ∀ i : Nat, (∀ j : Nat, j < i -> b ≠ 3 + 5 * (j : Int)) -> cget (lW i l) b = cget l b
  | 0, _ => rfl
  | i + 1, h => by
    show cget (stL (lW i l) _ _) b = _
    rw [cget_set_ne (Ne.symm (h i (by omega))) (by omega) h0, lW_cget l h0 i fun j hj => h j (by omega)]
theorem lW_ldV (l : List Int) {b : Int} (h0 : 0 <= b) (i : Nat) (h : ∀ j : Nat, j < i -> b ≠ 3 + 5 * (j : Int)) : ldV (lW i l) b = ldV l b := by unfold ldV; rw [lW_cget l h0 i h]
theorem lW_req {l : List Int} {nn : Nat} (hl : l.length = 3 + 5 * nn) : ∀ (i j : Nat), j < i -> i <= nn -> ldV (lW i l) (3 + 5 * (j : Int)) = wdO (3 + 5 * (j : Int))
  | 0, j, h, _ => absurd h (by omega)
  | i + 1, j, h, hi => by
    show ldV (stL (lW i l) _ _) _ = _
    by_cases e : j = i
    · subst e
      rw [ldV_set_eq (by rw [lW_len]; omega)]
    · rw [ldV_set_ne (by omega) (by omega) (by omega), lW_req hl i j (by omega) (by omega)]
theorem lW_ch {l : List Int} {v : Int} {r : List Nat} (hr : ∀ x ∈ r, ∃ j : Nat, x = 3 + 5 * j) (hc : Ch l v r) : ∀ i : Nat, Ch (lW i l) v r
  | 0 => hc
  | i + 1 => (lW_ch hr hc i).keep (fun x hx => by obtain ⟨j, rfl⟩ := hr x hx; omega) (by omega)
theorem ChL.fi {nn w : Nat} {ord : List Nat} {l : List Int} (C : ChL nn ord w l) (hw : 1 <= w) : ∃ h0 rest, ord.take w = h0 :: rest /\ FI nn h0 rest 0 (lW nn l) /\ (h0 :: rest).Nodup /\ (∀ x ∈ h0 :: rest, ∃ j : Nat, j < nn /\ x = 3 + 5 * j) /\ rest.length < nn /\ rest.length + 1 = w := by
  have hol := C.ok.len
  have hwl := C.wle
  have hlo := C.lo
  have htl : (ord.take w).length = w := by rw [List.length_take]; omega
  cases ht : ord.take w with
  | nil => rw [ht] at htl; simp at htl; omega
  | cons h0 rest =>
    rw [ht] at htl
    simp only [List.length_cons] at htl
    have hmem : ∀ x ∈ h0 :: rest, ∃ j : Nat, j < nn /\ x = 3 + 5 * j := fun x hx => (C.ok.mem x).1 (List.mem_of_mem_take (by rw [ht]; exact hx))
    have hch := C.ch
    rw [ht] at hch
    have hv := hch.1
    rw [hv] at hch
    refine ⟨h0, rest, rfl, ⟨by rw [lW_len, C.len], ?_, ?_, fun j _ h2 h3 => ?_, fun j _ h2 h3 => ?_, fun j hj => lW_req C.len nn j hj (Nat.le_refl _)⟩, ?_, hmem, by omega, htl⟩
    · rw [lW_ldV l (by decide) nn (fun j _ => by omega), hv]
    · exact lW_ch (fun x hx => by obtain ⟨j, _, h⟩ := hmem x hx; exact ⟨j, h⟩) hch nn
    · rw [lW_ldV l (by omega) nn (fun j _ => by omega)]
      exact C.act j h2 (by rw [ht]; exact h3)
    · rw [lW_cget l (by omega) nn (fun j _ => by omega)]
      exact C.off j h2 (by rw [ht]; exact h3)
    · rw [<- ht]
      exact List.Sublist.nodup (List.take_sublist w ord) C.ok.nd
end Go.Cm
namespace Go.Proofs.Tryz
open Go.L Go.Rp Go.Sk Go.Cm
set_option maxRecDepth 100000
theorem ord_cvt (x : Int) : cvt prog 3 21 (.int .i64 x) = some (.int .i32 (IntKind.i32.wrap x)) := by kernel_rfl
theorem ord_bld (v : Int) : bldV prog 33 [(0, .int .u8 1), (1, .int .i32 v)] = some [.int .u8 1, .int .i32 v] := by kernel_rfl
theorem place_call (n : Nat) {h : Heap} {bo w : Nat} {ord : List Nat} {z : Bool} (hb : h[bo]? = some (.row 3 1 (nlN ord) z)) (hw : w <= ord.length) (hn : w < n) (hlim : ord.length < 1000) (x : Nat) :
    ∃ r, call (n + 1) 45 [.row bo 1 0 w, .int .i64 (x : Int)] h = some (.ret [.int .i64 r], h) /\ (r < 0 ↔ x ∉ ord.take w) := by
  have hlim2 : 1000 < lim := by unfold lim; omega
  have hbl : (List.take w (nlN ord)).length = w := by rw [List.length_take, nl_len]; omega
  have es : slcH h (.row bo 1 0 w) = some (1, (nlN ord).take w) := by
    have := slcH_row hb (Nat.zero_le w) (by rw [nl_len]; exact hw)
    rwa [List.drop_zero] at this
  have loop : ∀ (d k M : Nat) (v0 : V), k + d = w -> d < M -> (∀ i, i < k -> ord.getD i 0 ≠ x) -> ∃ r, loopx M (r14Place_l0 n (.row bo 1 0 w) (x : Int)) [v0, .int .i64 (k : Int)] h = some (.ret [.int .i64 r], h) /\ (r < 0 ↔ x ∉ ord.take w) := by
    intro d
    induction d with
    | zero =>
      intro k M v0 hk hM hi
      obtain ⟨M, rfl⟩ : ∃ M', M = M' + 1 := ⟨M - 1, by omega⟩
      refine ⟨-1, ?_, ⟨fun _ hx => ?_, fun _ => by decide⟩⟩
      · rw [loopx_succ]
        unfold r14Place_l0
        simp only [gv, List.getD_cons_zero, List.getD_cons_succ]
        rw [es, bd_some]
        simp only [hbl]
        rw [bop_i64_lss, bd_some, bv_bool, if_neg (by simp; omega)]
      · obtain ⟨i, hi', e⟩ := List.getElem_of_mem hx
        simp only [List.length_take] at hi'
        rw [List.getElem_take] at e
        refine hi i (by omega) ?_
        rw [List.getD_eq_getElem?_getD, List.getElem?_eq_getElem (by omega)]
        exact e
    | succ d ih =>
      intro k M v0 hk hM hi
      obtain ⟨M, rfl⟩ : ∃ M', M = M' + 1 := ⟨M - 1, by omega⟩
      have hx : (nlN ord)[k]? = some (cel ((ord.getD k 0 : Nat) : Int)) := nl_at (by omega)
      by_cases e : ord.getD k 0 = x
      · refine ⟨k, ?_, ⟨fun h => absurd h (by omega), fun h => absurd ?_ h⟩⟩
        · rw [loopx_succ]
          unfold r14Place_l0
          simp only [gv, List.getD_cons_zero, List.getD_cons_succ]
          rw [es, bd_some]
          simp only [hbl]
          rw [bop_i64_lss, bd_some, bv_bool, if_pos (by simp; omega), nv_nat, bdS_some, idxP_row (by omega), bd_some, Nat.zero_add, cellsP_rptr hb (by decide) hx, bd3_some, if_pos (by decide), cel0, bd_some, bop_i64_eql, bd_some, bv_bool, if_pos (by rw [e]; simp)]
        · refine List.mem_take_iff_getElem.2 ⟨k, by omega, ?_⟩
          rw [List.getD_eq_getElem?_getD, List.getElem?_eq_getElem (by omega)] at e
          exact e
      · obtain ⟨r, e1, e2⟩ := ih (k + 1) M v0 (by omega) (by omega) (fun i h => by
          by_cases e' : i = k
          · subst e'; exact e
          · exact hi i (by omega))
        refine ⟨r, ?_, e2⟩
        rw [loopx_succ, <- e1]
        generalize loopx M (r14Place_l0 n (.row bo 1 0 w) (x : Int)) = nx
        unfold r14Place_l0
        simp only [gv, List.getD_cons_zero, List.getD_cons_succ]
        rw [es, bd_some]
        simp only [hbl]
        rw [bop_i64_lss, bd_some, bv_bool, if_pos (by simp; omega), nv_nat, bdS_some, idxP_row (by omega), bd_some, Nat.zero_add, cellsP_rptr hb (by decide) hx, bd3_some, if_pos (by decide), cel0, bd_some, bop_i64_eql, bd_some, bv_bool, if_neg (by simpa using fun h : ((ord.getD k 0 : Nat) : Int) = (x : Int) => e (by omega)), bop_i64_add, bd_some, step64 (by omega)]
  obtain ⟨r, e1, e2⟩ := loop w 0 n (.int .i64 0) (by omega) hn (fun i h => by omega)
  exact ⟨r, (r14Place_eq n _ _ h).trans e1, e2⟩
theorem cInts_call (n : Nat) {h : Heap} (l : List Int) (ba bb : Bool) (hl : l.length < lim) (hn : l.length < n) : call (n + 1) 49 [.sl 1 (l.map cel) ba, .sl 1 (l.map cel) bb] h = some (.ret [.bool true], h) := by
  have hll : (l.map cel).length = l.length := List.length_map ..
  have loop : ∀ (d i M : Nat) (v0 : V), i + d = l.length -> d < M -> loopx M (rInts_l2 n (.sl 1 (l.map cel) ba) (.sl 1 (l.map cel) bb)) [v0, .int .i64 (i : Int)] h = some (.ret [.bool true], h) := by
    intro d
    induction d with
    | zero =>
      intro i M v0 h1 h2
      obtain ⟨M, rfl⟩ : ∃ M', M = M' + 1 := ⟨M - 1, by omega⟩
      obtain rfl : i = l.length := by omega
      rw [loopx_succ]
      unfold rInts_l2
      simp only [gv, List.getD_cons_zero, List.getD_cons_succ, slcH, bd_some, hll, bop_i64_lss, bv_bool]
      rw [if_neg (by simp)]
    | succ d ih =>
      intro i M v0 h1 h2
      obtain ⟨M, rfl⟩ : ∃ M', M = M' + 1 := ⟨M - 1, by omega⟩
      have hx : (l.map cel)[i]? = some (cel (l[i]'(by omega))) := by rw [List.getElem?_map, List.getElem?_eq_getElem (by omega)]; rfl
      rw [loopx_succ, <- ih (i + 1) M v0 (by omega) (by omega)]
      generalize loopx M (rInts_l2 n (.sl 1 (l.map cel) ba) (.sl 1 (l.map cel) bb)) = nx
      unfold rInts_l2
      simp only [gv, List.getD_cons_zero, List.getD_cons_succ, slcH, bd_some, hll]
      rw [bop_i64_lss, bd_some, bv_bool, if_pos (by simp; omega), nv_nat, bdS_some, idxP_sl hx, bd_some, cellsP_iptr, bd3_some, if_pos (by decide), cel0, bd_some, bdS_some, idxP_sl hx, bd_some, cellsP_iptr, bd3_some, if_pos (by decide), cel0, bd_some, bop_i64_neq, bd_some, bv_bool, if_neg (by simp), bop_i64_add, bd_some, step64 (by omega)]
  refine (rInts_eq n _ _ h).trans ?_
  unfold rInts
  simp only [slcH, bd_some]
  rw [if_neg (by simp)]
  exact loop l.length 0 n (.bool false) (by omega) hn
theorem nl_snoc (l : List Nat) (x : Nat) : nlN l ++ [cel (x : Int)] = nlN (l ++ [x]) := by unfold nlN; simp
theorem or_loop1 (n : Nat) {l : List Int} {nn w bl bo : Nat} {ord : List Nat} (C : ChL nn ord w l) {h0 : Nat} {rest : List Nat} (ht : ord.take w = h0 :: rest) {z' : Bool} (hne : bl ≠ bo) (hn : 20 <= n) : ∀ (d i M : Nat) (h : Heap) (z : Bool), i + d = nn -> h[bl]? = some (.row 2 1 ((lW i l).map cel) z) -> h[bo]? = some (.row 3 1 (nlN ord) z') →
    ∃ h', h'[bl]? = some (.row 2 1 ((lW nn l).map cel) z) /\ h'[bo]? = some (.row 3 1 (nlN ord) z') /\ h'.length = h.length /\ loopx (M + d) (lawOr_l5 (n + 1) (.row bl 1 0 l.length) (.row bo 1 0 w)) [.sl 1 (nlN (hR (h0 :: rest) i).reverse) false, .int .i64 ((3 + 5 * i : Nat) : Int)] h = loopx M (lawOr_l5 (n + 1) (.row bl 1 0 l.length) (.row bo 1 0 w)) [.sl 1 (nlN (hR (h0 :: rest) nn).reverse) false, .int .i64 ((3 + 5 * nn : Nat) : Int)] h'
  | 0, i, M, h, z, hi, b1, b2 => by
    obtain rfl : i = nn := by omega
    exact ⟨h, b1, b2, rfl, rfl⟩
  | d + 1, i, M, h, z, hi, b1, b2 => by
    have hlim : 1000 < lim := by unfold lim; omega
    have hlen := C.len
    have hlo := C.lo
    have hol := C.ok.len
    have hwl := C.wle
    have hll : ((lW i l).map cel).length = l.length := by rw [List.length_map, lW_len]
    have es : slcH h (.row bl 1 0 l.length) = some (1, (lW i l).map cel) := by have := slcH_all b1; rwa [hll] at this
    have hx : ((lW i l).map cel)[3 + 5 * i]? = some (cel ((lW i l)[3 + 5 * i]'(by rw [lW_len]; omega))) := by rw [List.getElem?_map, List.getElem?_eq_getElem (by rw [lW_len]; omega)]; rfl
    have hset : ((lW i l).map cel).set (3 + 5 * i) (setR (cel ((lW i l)[3 + 5 * i]'(by rw [lW_len]; omega))) 0 [V.int .i64 (wdO ((3 + 5 * i : Nat) : Int))]) = (lW (i + 1) l).map cel := by
      rw [cel_set, <- stL_nat]
      show _ = (stL (lW i l) (3 + 5 * (i : Int)) (wdO (3 + 5 * (i : Int)))).map cel
      rw [show ((3 + 5 * i : Nat) : Int) = 3 + 5 * (i : Int) by omega]
    have c1 := ref_op n ((3 + 5 * i : Nat) : Int) (by omega) h
    have k1 : (h.set bl (.row 2 1 ((lW (i + 1) l).map cel) z))[bl]? = some (.row 2 1 ((lW (i + 1) l).map cel) z) := set_at (lt_of_at b1) _
    have k2 : (h.set bl (.row 2 1 ((lW (i + 1) l).map cel) z))[bo]? = some (.row 3 1 (nlN ord) z') := (List.getElem?_set_ne hne).trans b2
    obtain ⟨r, c2, hr⟩ := place_call n (w := w) k2 (by omega) (by omega) (by omega) (3 + 5 * i)
    rw [ht] at hr
    obtain ⟨h', q1, q2, q3, e⟩ := or_loop1 n C ht hne hn d (i + 1) M (h.set bl (.row 2 1 ((lW (i + 1) l).map cel) z)) z (by omega) k1 k2
    refine ⟨h', q1, q2, by rw [q3]; simp, ?_⟩
    rw [show M + (d + 1) = (M + d) + 1 from rfl, loopx_succ, <- e]
    generalize loopx (M + d) (lawOr_l5 (n + 1) (.row bl 1 0 l.length) (.row bo 1 0 w)) = nx
    have e5 : IntKind.i64.wrap (((3 + 5 * i : Nat) : Int) + 5) = ((3 + 5 * (i + 1) : Nat) : Int) := by rw [w64 (by omega) (by omega)]; omega
    have e6 : IntKind.i32.wrap ((3 + 5 * i : Nat) : Int) = ((3 + 5 * i : Nat) : Int) := by rw [IntKind.wrap_i32]; omega
    unfold lawOr_l5
    simp only [gv, List.getD_cons_zero, List.getD_cons_succ, lsl]
    rw [es, bd_some]
    simp only [hll]
    rw [bop_i64_lss, bd_some, bv_bool, if_pos (by simp; omega), ord_cvt, bd_some, e6, ord_bld, bd_some, c1, cl_ret, one1_one, nv_nat, bdS_some, idxP_row (by omega), bd_some, Nat.zero_add, ci, if_pos (by rfl), writeB_rptr b1 (by decide) (by simp) hx, bd2_some, hset, c2, cl_ret, one1_one, bop_i64_lss, bd_some, bv_bool]
    by_cases hin : 3 + 5 * i ∈ h0 :: rest
    · have hh : hR (h0 :: rest) (i + 1) = hR (h0 :: rest) i := by
        show (if 3 + 5 * i ∈ h0 :: rest then _ else _) = _
        rw [if_pos hin]
      rw [if_neg (by have h9 : ¬ r < 0 := fun h => hr.1 h hin; simp; omega), bop_i64_add, bd_some, e5, hh]
    · have hh : hR (h0 :: rest) (i + 1) = (3 + 5 * i) :: hR (h0 :: rest) i := by
        show (if 3 + 5 * i ∈ h0 :: rest then _ else _) = _
        rw [if_neg hin]
      have hl2 := hR_len (h0 :: rest) i
      rw [if_pos (by simpa using hr.2 hin), chn_bsl, bd_some, app_own (by simp [nl_len]; omega), bd_some, nl_snoc, bop_i64_add, bd_some, e5, hh, List.reverse_cons]
theorem or_loop2 (n : Nat) {v4 v40 v49 : V} {h : Heap} {off : List Nat} {r : List V} {T : Th} {bat : V} {h0 : Nat} (hol : off.length <= 20) {out : Option (Res × Heap)} (hend : ∀ b5 nx, lawOr_l56 n v4 v40 v49 [.sl 1 (nlN off.reverse) false, .agg r, .agg (T.v bat), .sl 1 (nlN (h0 :: off)) false, .int .i64 (-1), b5] h nx = out) :
    ∀ (d M : Nat) (b5 : V), d <= off.length -> d < M -> loopx M (lawOr_l56 n v4 v40 v49) [.sl 1 (nlN off.reverse) false, .agg r, .agg (T.v bat), .sl 1 (nlN (h0 :: off.take (off.length - d))) false, .int .i64 ((d : Int) - 1), b5] h = out := by
  intro d
  induction d with
  | zero =>
    intro M b5 hd hM
    obtain ⟨M, rfl⟩ : ∃ M', M = M' + 1 := ⟨M - 1, by omega⟩
    rw [loopx_succ, Nat.sub_zero, List.take_length]
    exact hend b5 _
  | succ d ih =>
    intro M b5 hd hM
    have hlim : 1000 < lim := by unfold lim; omega
    obtain ⟨M, rfl⟩ : ∃ M', M = M' + 1 := ⟨M - 1, by omega⟩
    rw [loopx_succ, <- ih M (.bool false) (by omega) (by omega)]
    generalize loopx M (lawOr_l56 n v4 v40 v49) = nx
    have hx : (nlN off.reverse)[d]? = some (cel ((off[off.length - (d + 1)]'(by omega) : Nat) : Int)) := by
      unfold nlN
      rw [List.getElem?_map, List.getElem?_eq_getElem (by simp; omega), List.getElem_reverse]
      simp only [Option.map_some, show off.length - 1 - d = off.length - (d + 1) by omega]
    have htk : off.take (off.length - d) = off.take (off.length - (d + 1)) ++ [off[off.length - (d + 1)]'(by omega)] := by
      rw [show off.length - d = (off.length - (d + 1)) + 1 by omega, List.take_add_one, List.getElem?_eq_getElem (by omega)]
      rfl
    unfold lawOr_l56
    simp only [gv, List.getD_cons_zero, List.getD_cons_succ, lcs_agg, lsl]
    rw [bop_i64_geq, bd_some, bv_bool, if_pos (by simp), show ((d + 1 : Nat) : Int) - 1 = (d : Int) by omega, nv_nat, bdS_some, if_pos ⟨by first | trivial | rfl, by rw [nl_len, List.length_reverse]; omega, by decide⟩, hx, bd_some, cel0, bd_some, chn_bsl, bd_some, app_own (by simp [nl_len]; omega), bd_some, bop_i64_sub, bd_some, w64 (by omega) (by omega), nl_snoc, htk]
    rfl
theorem or_loop3 (n : Nat) {v40 : V} {items : List It} {h : Heap} {s0 want : List (List V)} {r : List V} {T : Th} {bat : V} {out : Option (Res × Heap)} (hil : items.length <= 100) (hend : ∀ b6 b7 nx, lawOr_l72 n v40 (.sl 3 (items.map It.c) false) [.sl 1 s0 false, .agg r, .agg (T.v bat), .sl 1 want false, .sl 1 ((items.map It.r).map cel) false, .int .i64 (items.length : Int), b6, b7] h nx = out) :
    ∀ (d k M : Nat) (b6 b7 : V), k + d = items.length -> d < M -> loopx M (lawOr_l72 n v40 (.sl 3 (items.map It.c) false)) [.sl 1 s0 false, .agg r, .agg (T.v bat), .sl 1 want false, .sl 1 (((items.map It.r).take k).map cel) false, .int .i64 (k : Int), b6, b7] h = out := by
  have hlim : 1000 < lim := by unfold lim; omega
  intro d
  induction d with
  | zero =>
    intro k M b6 b7 hk hM
    obtain ⟨M, rfl⟩ : ∃ M', M = M' + 1 := ⟨M - 1, by omega⟩
    obtain rfl : k = items.length := by omega
    rw [loopx_succ, List.take_of_length_le (by simp)]
    exact hend b6 b7 _
  | succ d ih =>
    intro k M b6 b7 hk hM
    obtain ⟨M, rfl⟩ : ∃ M', M = M' + 1 := ⟨M - 1, by omega⟩
    rw [loopx_succ, <- ih (k + 1) M (.bool false) (.bool false) (by omega) (by omega)]
    generalize loopx M (lawOr_l72 n v40 (.sl 3 (items.map It.c) false)) = nx
    have hx : (items.map It.c)[k]? = some (It.c (items[k]'(by omega))) := by rw [List.getElem?_map, List.getElem?_eq_getElem (by omega)]; rfl
    have htk : ((items.map It.r).take (k + 1)).map cel = ((items.map It.r).take k).map cel ++ [cel (items[k]'(by omega)).r] := by
      rw [List.take_add_one, List.getElem?_map, List.getElem?_eq_getElem (by omega)]
      simp
    have hll : (items.map It.c).length = items.length := List.length_map ..
    unfold lawOr_l72
    simp only [gv, List.getD_cons_zero, List.getD_cons_succ, lcs_agg, lsl]
    rw [show slcH h (V.sl 3 (items.map It.c) false) = some (3, items.map It.c) from rfl, bd_some]
    simp only [hll]
    rw [bop_i64_lss, bd_some, bv_bool, if_pos (by simp; omega), nv_nat, bdS_some, idxP_sl hx, bd_some, show addP 0 (V.iptr 3 (It.c (items[k]'(by omega))) 0) = some (V.iptr 3 (It.c (items[k]'(by omega))) 0) from rfl, bd_some, cellsP_iptr, bd3_some, if_pos (by decide), show (It.c (items[k]'(by omega)))[0]? = some (V.int .i64 (items[k]'(by omega)).r) from rfl, bd_some, chn_bsl, bd_some, app_own (by simp; omega), bd_some, bop_i64_add, bd_some, step64 (by omega), htk]
theorem order_law16 (c : List Int) (cb : Bool) (hc : ∀ x ∈ c, 0 <= x /\ x < 256) (x1 : Int) (h1 : 0 <= x1 /\ x1 < 256) :
    call 1001 11 [.sl 1 (c.map (intV .u8)) cb, .int .u8 x1] [] = some (.ret [.bool true], []) := by
  refine (lawOr_eq 1000 (c.map (intV .u8)) cb x1 []).trans ?_
  have key : ∃ H, lawOr 1000 (c.map (intV .u8)) cb x1 = some (.ret [.bool true], H) := by
    have hlim : 1000 < lim := by unfold lim; omega
    obtain ⟨m0, hm0⟩ : ∃ p : Nat, (p : Int) = 1 + x1 % 9 := ⟨(1 + x1 % 9).toNat, by omega⟩
    have hmm : IntKind.i64.wrap (1 + (IntKind.i64.wrap (Int.tmod x1 9))) = (m0 : Int) := by
      rw [Int.tmod_eq_emod_of_nonneg h1.1, w64 (n := x1 % 9) (by omega) (by omega), w64 (by omega) (by omega), hm0]
    obtain ⟨g1, bl, bo, l, w, c1, hw, C, b1, b2, hne, hb1, hb2, F1⟩ := chain_call 999 hc cb m0 (by omega) (by omega) []
    have hnn := C.lo
    have hlen := C.len
    have hol := C.ok.len
    have hwl := C.wle
    obtain ⟨h0, rest, ht, A, hnd, hon, hrl, hrw⟩ := C.fi (by omega)
    obtain ⟨g2, q1, q2, q3, e2⟩ := or_loop1 999 C ht hne (by omega) (nC c) 0 (1000 - nC c) g1 true (by omega) b1 b2
    rw [show 1000 - nC c + nC c = 1000 by omega] at e2
    have hll : (lW (nC c) l).length = l.length := lW_len ..
    obtain ⟨g3, m, rb, b, r, st, c3, M3, B3, F3, hm, hrb, hb⟩ := memR_call 997 (by rw [hll]; omega) (by rw [hll]; omega) q1
    rw [hll] at c3 M3 B3
    obtain ⟨g4, o, s, cc, c4, O4, L4, F4, ho, hs⟩ := so_new 997 g3 1000
    have k2 := (F4 _ (by have := F3.len; have := lt_of_at q2; omega)).trans ((F3.old _ (lt_of_at q2) (by simp)).trans q2)
    have hml := M3.lt
    have M4 : MemAt g4 m rb l.length (lW (nC c) l) st := M3.keep (F4 m hml.1) (F4 rb hml.2)
    have A0 : SvR g4 m rb o s cc (capN 1000) l.length (⟨agT 20 0 0 0 0 0 0 0, [], lW (nC c) l, st⟩, []) (.sl 0 [] true) none :=
      ⟨M4, ⟨none, rfl, rfl⟩, O4, by simp [soB]; omega, by simp [soB]; omega⟩
    obtain ⟨j, y, q, items, hj, hy, hir, hql, hil, g⟩ := ord_all hnn (by rw [lW_ldV l (by decide) _ (fun j _ => by omega), C.pass]) hnd hon hrl A (st := st)
    obtain ⟨g5, bat, qb, c5, A5, L5, F5⟩ := serve_call 989 (pp := 1) (by omega) (fun x hx => ⟨by have := hx.1; omega, by have := hx.2; omega⟩) g (by omega) hy A0
    have hbo5 := (F5 bo (lt_of_at k2) (by have := lt_of_at q2; omega) (by have := lt_of_at q2; omega) (by have := F3.len; have := lt_of_at q2; simp [soB]; omega)).trans k2
    have c6 := known16_n 900 g5
    obtain ⟨g6, rr, c7, R7, L7, F7⟩ := so_items 996 A5.obj
    have hRl := hR_len (h0 :: rest) (nC c)
    have hwant : (items.map It.r).map cel = nlN (h0 :: (hR (h0 :: rest) (nC c) ++ rest)) := by rw [hir]; unfold nlN; rw [List.map_map]; rfl
    have hill : items.length = (h0 :: (hR (h0 :: rest) (nC c) ++ rest)).length := by have := congrArg List.length hir; simpa using this
    have c8 := cInts_call 999 (h := g5) (items.map It.r) false false (by rw [List.length_map]; omega) (by rw [List.length_map]; omega)
    refine ⟨g6, ?_⟩
    obtain ⟨r1, r2, r3, hr⟩ : ∃ a b c, r = [a, b, c] := ⟨_, _, _, B3.1⟩
    subst hr
    have es : slcH g2 (.row bl 1 0 l.length) = some (1, (lW (nC c) l).map cel) := by have := slcH_all q1; rwa [List.length_map, hll] at this
    have hgd : (ordC c (nC c)).getD 0 0 = h0 := by
      have h5 : ((ordC c (nC c)).take w)[0]? = some h0 := by rw [ht]; rfl
      rw [List.getElem?_take_of_lt (by omega)] at h5
      rw [List.getD_eq_getElem?_getD, h5]
      rfl
    have hdr : ((nlN (ordC c (nC c))).take w).drop 1 = nlN rest := by
      unfold nlN
      rw [<- List.map_take, ht]
      rfl
    unfold lawOr
    rw [hmm, c1, cl_ret]
    simp only [List.getElem?_cons_zero, List.getElem?_cons_succ, bd_some]
    refine e2.trans ?_
    rw [show 1000 - nC c = (999 - nC c) + 1 by omega, loopx_succ]
    generalize loopx (999 - nC c) (lawOr_l5 (999 + 1) (.row bl 1 0 l.length) (.row bo 1 0 w)) = nx
    unfold lawOr_l5
    simp only [gv, List.getD_cons_zero, List.getD_cons_succ, lsl]
    rw [es, bd_some]
    simp only [List.length_map, hll]
    rw [bop_i64_lss, bd_some, bv_bool, if_neg (by simp; omega), c3, cl_ret]
    simp only [List.getElem?_cons_zero, List.getElem?_cons_succ, bd_some]
    rw [ca, setR3, if_pos (by rfl), if_pos (by exact Nat.le_refl 3), c4, cl_ret, one1_one, bop_mem_nil, bd_some, bv_bool, if_neg (by decide), bop_obj_nil, bd_some, bv_bool, if_neg (by decide), c5, cl_ret]
    simp only [List.getElem?_cons_zero, List.getElem?_cons_succ, bd_some]
    rw [ca, if_pos (len13 _ _), if_pos (Nat.le_of_eq (len13 _ _)), idxP_row (by omega), bd_some, cellsP_rptr hbo5 (by decide) (nl_at (by omega)), bd3_some, if_pos (by decide), cel0, bd_some, hgd, chn_bsl, bd_some, set13z]
    have hin : ((nlN (hR (h0 :: rest) (nC c)).reverse).length : Int) = ((hR (h0 :: rest) (nC c)).length : Int) := by rw [nl_len, List.length_reverse]
    rw [hin, w64 (by omega) (by omega)]
    have e3 := or_loop2 1000 (v4 := .row bo 1 0 w) (v40 := .ptr o 0) (v49 := .sl 3 (items.map It.c) false) (h := g5) (off := hR (h0 :: rest) (nC c)) (r := [r1, r2, r3]) (T := y.T) (bat := bat) (h0 := h0) (by omega) (out := some (.ret [.bool true], g6)) (fun b5 nx => by
      have e4 := or_loop3 1000 (v40 := .ptr o 0) (items := items) (h := g5) (s0 := nlN (hR (h0 :: rest) (nC c)).reverse) (want := nlN (h0 :: (hR (h0 :: rest) (nC c) ++ rest))) (r := [r1, r2, r3]) (T := y.T) (bat := bat) (by omega) (out := some (.ret [.bool true], g6)) (fun b6 b7 nx => by
        unfold lawOr_l72
        simp only [gv, List.getD_cons_zero, List.getD_cons_succ, lcs_agg, lsl]
        rw [show slcH g5 (V.sl 3 (items.map It.c) false) = some (3, items.map It.c) from rfl, bd_some]
        simp only [List.length_map]
        rw [bop_i64_lss, bd_some, bv_bool, if_neg (by simp), c6, cl_ret, one1_one, bv_bool, if_pos rfl, <- hwant, c8, cl_ret, one1_one, bv_bool, if_pos rfl, c7, cl_ret, one1_one]
        obtain ⟨sz6, e6⟩ := R7.len
        rw [e6, bd_some]
        simp only [List.length_map]
        rw [hql, hill]
        simp) items.length 0 1000 (.bool false) (.bool false) (by omega) (by omega)
      unfold lawOr_l56
      simp only [gv, List.getD_cons_zero, List.getD_cons_succ, lcs_agg, lsl]
      rw [bop_i64_geq, bd_some, bv_bool, if_neg (by decide), lenP_row, bd_some, sliceP_row (by omega) (by omega), bd_some, slcH_row hbo5 (by omega) (by rw [nl_len]; omega), bdS_some]
      simp only [Nat.zero_add, Nat.sub_zero]
      rw [hdr, if_pos (by refine ⟨?_, ?_⟩ <;> first | trivial | rfl | exact .inl trivial | exact .inl rfl), app_own (by simp only [nl_len, List.length_cons]; omega), bd_some, show nlN (h0 :: hR (h0 :: rest) (nC c)) ++ nlN rest = nlN (h0 :: (hR (h0 :: rest) (nC c) ++ rest)) from by unfold nlN; simp]
      exact e4) (hR (h0 :: rest) (nC c)).length 1000 (.bool false) (Nat.le_refl _) (by omega)
    rw [Nat.sub_self, List.take_zero] at e3
    exact e3
  obtain ⟨H, key⟩ := key
  rw [key]
  exact gcw_ret (by simp [intV]) (by simp)
end Go.Proofs.Tryz
