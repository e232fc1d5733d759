import Derived.Test.YtodgpfffnnlbhaaKq
/-! sorted by contract: Plain -/
set_option linter.unusedVariables false
set_option linter.unusedSimpArgs false
namespace Go.Proofs.Try
open Go.L Go.Rp Go.Sk
set_option maxRecDepth 100000
/-- a list, a coin, places that are gone through: none is another's -/
structure Env (h : Heap) (s : Nat) (ts : List Tw) (most : Int) (c : Nat) (cb : Option Nat) (bits : List Bool) (p1 : Nat) (P : List Int) (p2 : Nat) (Q : List Int) : Prop where
  sk : ∃ N, SkAt h s ts most N
  bt : BitsAt h c cb bits
  r1 : RowI h p1 .i64 3 P
  r2 : RowI h p2 .i64 3 Q
  nc : c ∉ skB s ts
  ncb : ∀ b, cb = some b → b ∉ skB s ts
  n1 : p1 ∉ skB s ts ∧ p1 ≠ c
  n2 : p2 ∉ skB s ts ∧ p2 ≠ c
theorem BitsAt.lt {h : Heap} {c : Nat} {cb : Option Nat} {bits : List Bool} (hb : BitsAt h c cb bits) : c < h.length ∧ ∀ b, cb = some b → b < h.length := by
  cases cb with
  | none => exact ⟨lt_of_at hb.2, fun b e => by cases e⟩
  | some b =>
    obtain ⟨_, lo, l, z, h2, h3, _⟩ := hb
    exact ⟨lt_of_at h2, fun b' e => by cases e; exact lt_of_at h3⟩
theorem BitsAt.ne {h : Heap} {c : Nat} {cb : Option Nat} {bits : List Bool} (hb : BitsAt h c cb bits) : ∀ b, cb = some b → b ≠ c := fun b e => by subst e; exact hb.1
theorem Env.coin {h h' : Heap} {s : Nat} {ts : List Tw} {most : Int} {c : Nat} {cb : Option Nat} {bits bits' : List Bool} {p1 p2 : Nat} {P Q : List Int} (E : Env h s ts most c cb bits p1 P p2 Q) (hb : BitsAt h' c cb bits') (hk : ∀ i, i ≠ c → h'[i]? = h[i]?) : Env h' s ts most c cb bits' p1 P p2 Q :=
  ⟨by obtain ⟨N, S⟩ := E.sk; exact ⟨N, S.keep fun b hb => hk b fun e => E.nc (e ▸ hb)⟩, hb, E.r1.keep (hk _ E.n1.2), E.r2.keep (hk _ E.n2.2), E.nc, E.ncb, E.n1, E.n2⟩
theorem RowI.lt {h : Heap} {b : Nat} {k : IntKind} {e : Nat} {l : List Int} (r : RowI h b k e l) : b < h.length := by obtain ⟨z, hz⟩ := r; exact lt_of_at hz
theorem Env.grew {h h' : Heap} {s : Nat} {ts ts' : List Tw} {most : Int} {c : Nat} {cb : Option Nat} {bits : List Bool} {p1 p2 : Nat} {P Q : List Int} (E : Env h s ts most c cb bits p1 P p2 Q) (G : Grew h h' s ts ts' most) : Env h' s ts' most c cb bits p1 P p2 Q := by
  have l := E.bt.lt
  have hn : ∀ b, b < h.length → b ∉ skB s ts → b ∉ skB s ts' := fun b h1 h2 hm => by rcases G.new b hm with h | h; exact h2 h; omega
  exact ⟨G.sk, E.bt.keep (G.old c l.1 E.nc) fun b hb => G.old b (l.2 b hb) (E.ncb b hb), E.r1.keep (G.old _ E.r1.lt E.n1.1), E.r2.keep (G.old _ E.r2.lt E.n2.1), hn c l.1 E.nc, fun b hb => hn b (l.2 b hb) (E.ncb b hb), ⟨hn _ E.r1.lt E.n1.1, E.n1.2⟩, ⟨hn _ E.r2.lt E.n2.1, E.n2.2⟩⟩
theorem Env.push {h : Heap} {s : Nat} {ts : List Tw} {most : Int} {c : Nat} {cb : Option Nat} {bits : List Bool} {p1 p2 : Nat} {P Q : List Int} (E : Env h s ts most c cb bits p1 P p2 Q) (l : List HB) : Env (h ++ l) s ts most c cb bits p1 P p2 Q := by
  have hk : ∀ b, b < h.length → (h ++ l)[b]? = h[b]? := fun b hb => List.getElem?_append_left hb
  have lt := E.bt.lt
  obtain ⟨N, S⟩ := E.sk
  exact ⟨⟨N, S.keep fun b hb => hk b (S.lt b hb)⟩, E.bt.keep (hk c lt.1) fun b hb => hk b (lt.2 b hb), E.r1.keep (hk _ E.r1.lt), E.r2.keep (hk _ E.r2.lt), E.nc, E.ncb, E.n1, E.n2⟩
/-- what Apply and Plain leave -/
structure Did (h h' : Heap) (s : Nat) (ts ts' : List Tw) (most : Int) (c : Nat) (cb : Option Nat) (bits' : List Bool) (tb : Nat) (told : List R) : Prop where
  sk : ∃ N, SkAt h' s ts' most N
  bt : BitsAt h' c cb bits'
  tl : RowR h' tb told
  tb : h.length ≤ tb
  frm : Frm h h' (c :: skB s ts)
  new : ∀ b ∈ skB s ts', b ∈ skB s ts ∨ h.length ≤ b
  room : (ts'.length : Int) ≤ most
theorem hOf_hgt (bits : List Bool) : hOf ((hgt 1 bits).1 : Int) = (hgt 1 bits).1 := by
  have := hgt_pos bits 1 (Nat.le_refl _) (by omega)
  unfold hOf
  omega
theorem insI_len (l : List (Int × Nat)) (v : Int) (T : Nat) : (insI l v T).length = l.length + 1 := by
  unfold insI
  rw [List.length_append, List.length_cons]
  have := congrArg List.length (List.takeWhile_append_dropWhile (p := fun p : Int × Nat => decide (p.1 ≤ v)) (l := l))
  rw [List.length_append] at this
  omega
theorem itT_len (ts : List Tw) : (itT ts).length = ts.length := by simp [itT]
theorem stp_room {most : Int} {st : St} {o : O} (h : (st.1.length : Int) ≤ most) : ((stp most st o).1.1.length : Int) ≤ most := by
  unfold stp
  split
  · split
    · exact h
    · simp only [insI_len]; omega
  · split
    · split
      · exact h
      · rename_i p r e; rw [e] at h; simp at h; simp only; omega
    · exact h
theorem runO_room {os : List O} {most : Int} : ∀ (l : List Int) {st : St} {told : List R}, (st.1.length : Int) ≤ most → ((runO os most l st told).1.1.length : Int) ≤ most
  | [], st, told, h => h
  | k :: l, st, told, h => runO_room l (stp_room h)
theorem app_r0 (l : List R) : lsl (V.sl 2 (l.map R.w) false) = l.map R.w := rfl
theorem rw_set (x : R) (c : Int) : setR (R.w x) 0 [.int .u8 c] = R.w ⟨c, x.v⟩ := rfl
theorem plain_loop (n : Nat) {s c : Nat} {cb : Option Nat} {most : Int} (os : List O) (lb : Bool) (P : List Int) (hP : ∀ x ∈ P, 0 ≤ x ∧ x < (os.length : Int) ∧ (oAt os x).k = 1) (hnd : P.Nodup) (p1 p2 : Nat) (Q0 : List Int) (v6 : V) (hlim : P.length < lim) : ∀ (d i M : Nat) (h : Heap) (ts : List Tw) (bits : List Bool) (told : List R) (v0 v2 : V), i + d = P.length → d < M →
    Env h s ts most c cb bits p1 P p2 Q0 → ts.length + d < lim → ts.length + d + 10 < n → told.length = os.length → (∀ x ∈ P.drop i, told[x.toNat]? = some ⟨0, 0⟩) →
    ∃ h' ts' bits' told' v0' v2' M', loopx M (srtPlain_l8 (n + 3) s c (os.map O.w) lb (.row p1 1 0 P.length) v6 (1, iL P)) [v0, .sl 2 (told.map R.w) false, v2, .int .i64 (i : Int)] h = srtPlain_l8 (n + 3) s c (os.map O.w) lb (.row p1 1 0 P.length) v6 (1, iL P) [v0', .sl 2 (told'.map R.w) false, v2', .int .i64 (P.length : Int)] h' (loopx M' (srtPlain_l8 (n + 3) s c (os.map O.w) lb (.row p1 1 0 P.length) v6 (1, iL P))) ∧
      Env h' s ts' most c cb bits' p1 P p2 Q0 ∧ Frm h h' (c :: skB s ts) ∧ (∀ b ∈ skB s ts', b ∈ skB s ts ∨ h.length ≤ b) ∧ told'.length = os.length ∧ ts'.length ≤ ts.length + d ∧ runO os most (P.drop i) (itT ts, bits) told = ((itT ts', bits'), told') ∧ (∀ y : Nat, (∀ x ∈ P.drop i, x ≠ (y : Int)) → told'[y]? = told[y]?) := by
  intro d
  induction d with
  | zero =>
    intro i M h ts bits told v0 v2 h1 h2 E hts hn hlt h0
    obtain ⟨M, rfl⟩ : ∃ M', M = M' + 1 := ⟨M - 1, by omega⟩
    obtain rfl : i = P.length := by omega
    exact ⟨h, ts, bits, told, v0, v2, M, loopx_succ .., E, .refl _ _, fun b hb => .inl hb, hlt, Nat.le_refl _, by rw [List.drop_length]; rfl, fun _ _ => rfl⟩
  | succ d ih =>
    intro i M h ts bits told v0 v2 h1 h2 E hts hn hlt h0
    obtain ⟨M, rfl⟩ : ∃ M', M = M' + 1 := ⟨M - 1, by omega⟩
    obtain ⟨x, hx⟩ : ∃ x, P[i]? = some x := ⟨_, List.getElem?_eq_getElem (by omega)⟩
    have hdr : P.drop i = x :: P.drop (i + 1) := by
      rw [List.drop_eq_getElem_cons (by omega)]
      rw [List.getElem?_eq_getElem (by omega)] at hx
      rw [Option.some.inj hx]
    obtain ⟨x0, x1, xk⟩ := hP x (List.mem_of_getElem? hx)
    obtain ⟨k, rfl⟩ : ∃ k : Nat, x = (k : Int) := ⟨x.toNat, (Int.toNat_of_nonneg x0).symm⟩
    have hk : k < os.length := by omega
    obtain ⟨o, ho⟩ : ∃ o, os[k]? = some o := ⟨_, List.getElem?_eq_getElem hk⟩
    have hov : (os.map O.w)[k]? = some (O.w o) := by rw [get_os, ho]; rfl
    have hoo := oAt_some ho
    rw [hoo] at xk
    have ht0 : told[k]? = some ⟨0, 0⟩ := by
      have := h0 (k : Int) (by rw [hdr]; exact List.mem_cons_self ..)
      simpa using this
    have htk : k < told.length := by omega
    have htv : (told.map R.w)[k]? = some (R.w ⟨0, 0⟩) := by rw [get_rs, ht0]; rfl
    have hl1 : decide ((i : Int) < (P.length : Int)) = true := by simp; omega
    obtain ⟨g1, g2⟩ := E.r1.get hx
    have hnd2 : (P.drop i).Nodup := hnd.sublist (List.drop_sublist _ _)
    rw [hdr] at hnd2
    have hrest : ∀ (told2 : List R) (r : R), told2 = told.set k r → ∀ y ∈ P.drop (i + 1), told2[y.toNat]? = some ⟨0, 0⟩ := fun told2 r e y hy => by
      rw [e, List.getElem?_set_ne]
      · exact h0 y (by rw [hdr]; exact List.mem_cons_of_mem _ hy)
      · intro e2
        have hy0 := hP y (List.mem_of_mem_drop hy)
        have hyk : y = (k : Int) := by omega
        exact (List.nodup_cons.1 hnd2).1 (hyk ▸ hy)
    have hrun : runO os most (P.drop i) (itT ts, bits) told = runO os most (P.drop (i + 1)) (stp most (itT ts, bits) o).1 (told.set k (stp most (itT ts, bits) o).2) := by
      rw [hdr]; show runO os most _ (stp most (itT ts, bits) (oAt os (k : Int))).1 (told.set (k : Int).toNat (stp most (itT ts, bits) (oAt os (k : Int))).2) = _
      rw [hoo, Int.toNat_natCast]
    have hoth : ∀ (r : R) (told' : List R), (∀ y : Nat, (∀ x ∈ P.drop (i + 1), x ≠ (y : Int)) → told'[y]? = (told.set k r)[y]?) → ∀ y : Nat, (∀ x ∈ P.drop i, x ≠ (y : Int)) → told'[y]? = told[y]? := fun r told' hh y hy => by
      rw [hdr] at hy
      rw [hh y fun x hx => hy x (List.mem_cons_of_mem _ hx), List.getElem?_set_ne]
      intro e
      exact hy (k : Int) (List.mem_cons_self ..) (by omega)
    obtain ⟨N, hS⟩ := E.sk
    have hlenC := len_call (n + 2) hS
    have hmostC := most_call (n + 2) hS
    have hset3 : (told.map R.w).set k (setR (R.w ⟨0, 0⟩) 0 [.int .u8 3]) = (told.set k ⟨3, 0⟩).map R.w := by rw [rw_set, List.map_set]
    have c1 : (2 = 2 ∧ k < (told.map R.w).length ∧ (some 28 : Option Nat) ≠ some 7) := ⟨rfl, by rw [List.length_map]; exact htk, by decide⟩
    by_cases hfull : (ts.length : Int) < most
    · -- there is room
      obtain ⟨h2', e2, B2, l2, f2⟩ := height_call n E.bt (by omega)
      have E2 := E.coin B2 f2
      obtain ⟨N2, hS2⟩ := E2.sk
      obtain ⟨h3, ts3, e3, P3⟩ := insert_call n hS2 o.v ((hgt 1 bits).1 : Int) (by omega) (by omega) hfull
      have E3 := E2.grew P3.grew
      have hset1 : ((told.set k ⟨3, 0⟩).map R.w).set k (setR (R.w ⟨3, 0⟩) 0 [.int .u8 1]) = (told.set k ⟨1, 0⟩).map R.w := by rw [rw_set, ← List.map_set, List.set_set]
      have htv3 : ((told.set k ⟨3, 0⟩).map R.w)[k]? = some (R.w ⟨3, 0⟩) := by rw [get_rs, List.getElem?_set_self htk]; rfl
      have key : ∀ next, srtPlain_l8 (n + 3) s c (os.map O.w) lb (.row p1 1 0 P.length) v6 (1, iL P) [v0, .sl 2 (told.map R.w) false, v2, .int .i64 (i : Int)] h next = next [.sl 2 (lsl v0) false, .sl 2 ((told.set k ⟨1, 0⟩).map R.w) false, .bool false, .int .i64 ((i + 1 : Nat) : Int)] h3 := by
        intro next
        unfold srtPlain_l8
        simp only [gv, List.getD_cons_zero, List.getD_cons_succ, iL_len, bop_i64_lss, bd_some, bv_bool, hl1, if_true, nv_nat, bdS_some, g1, g2, bd3_some, Nat.zero_add, Nat.le_refl, Nat.reduceLT, and_self, List.getElem?_cons_zero, app_r0]
        rw [if_pos (by exact ⟨trivial, c1.2.1, by decide⟩), htv, bd_some, hlenC, cl_ret, one1_one, hmostC, cl_ret, one1_one, bop_i64_lss, bd_some, bv_bool, if_pos (by exact decide_eq_true hfull)]
        rw [idxP_sl hov, bd_some]
        simp only [esP, ow_get1, bd_some]
        rw [e2, clH_ret, one1_one, e3, clH_ret, one1_one, hset3]
        rw [if_pos (by exact ⟨trivial, by rw [List.length_map, List.length_set]; exact htk, by decide⟩), htv3, bd_some, bop_i64_add, bd_some, hset1, step64 (show i < lim by omega)]
      have hlen3 : ts3.length = ts.length + 1 := by
        have := congrArg List.length P3.items
        rwa [itT_len, insI_len, itT_len] at this
      obtain ⟨h', ts', bits', told', v0', v2', M', e, b1, b2, b3, b4, b5, b6, b7⟩ := ih (i + 1) M h3 ts3 (hgt 1 bits).2 (told.set k ⟨1, 0⟩) (.sl 2 (lsl v0) false) (.bool false) (by omega) (by omega) E3 (by omega) (by omega) (by rw [List.length_set]; exact hlt) (hrest _ ⟨1, 0⟩ rfl)
      refine ⟨h', ts', bits', told', v0', v2', M', by rw [loopx_succ, key]; exact e, b1, ?_, fun b hb => ?_, b4, by omega, ?_, hoth ⟨1, 0⟩ told' b7⟩
      · have f3 : Frm h h3 (c :: skB s ts) := Frm.trans (h1 := h2') ⟨Nat.le_of_eq l2.symm, fun j _ hj => f2 j fun e => hj (e ▸ List.mem_cons_self ..)⟩ P3.grew.frm fun y hy => .inl (List.mem_cons_of_mem _ hy)
        refine f3.trans b2 fun y hy => ?_
        rcases List.mem_cons.1 hy with e | hy
        · exact .inl (e ▸ List.mem_cons_self ..)
        · rcases P3.grew.new y hy with h | h
          · exact .inl (List.mem_cons_of_mem _ h)
          · exact .inr (by omega)
      · have hl3 := P3.len
        rcases b3 b hb with h | h
        · rcases P3.grew.new b h with h | h
          · exact .inl h
          · exact .inr (by omega)
        · exact .inr (by omega)
      · rw [hrun]
        have hst : stp most (itT ts, bits) o = ((insI (itT ts) o.v (hgt 1 bits).1, (hgt 1 bits).2), ⟨1, 0⟩) := by
          unfold stp
          rw [if_pos xk, if_neg (by simp only [itT_len]; omega)]
        rw [hst, ← hOf_hgt bits, ← P3.items]
        exact b6
    · have key : ∀ next, srtPlain_l8 (n + 3) s c (os.map O.w) lb (.row p1 1 0 P.length) v6 (1, iL P) [v0, .sl 2 (told.map R.w) false, v2, .int .i64 (i : Int)] h next = next [.sl 2 (lsl v0) false, .sl 2 ((told.set k ⟨3, 0⟩).map R.w) false, .bool false, .int .i64 ((i + 1 : Nat) : Int)] h := by
        intro next
        unfold srtPlain_l8
        simp only [gv, List.getD_cons_zero, List.getD_cons_succ, iL_len, bop_i64_lss, bd_some, bv_bool, hl1, if_true, nv_nat, bdS_some, g1, g2, bd3_some, Nat.zero_add, Nat.le_refl, Nat.reduceLT, and_self, List.getElem?_cons_zero, app_r0]
        rw [if_pos (by exact ⟨trivial, c1.2.1, by decide⟩), htv, bd_some, hlenC, cl_ret, one1_one, hmostC, cl_ret, one1_one, bop_i64_lss, bd_some, bv_bool, if_neg (by intro e; exact hfull (of_decide_eq_true e)), bop_i64_add, bd_some, hset3, step64 (show i < lim by omega)]
      obtain ⟨h', ts', bits', told', v0', v2', M', e, b1, b2, b3, b4, b5, b6, b7⟩ := ih (i + 1) M h ts bits (told.set k ⟨3, 0⟩) (.sl 2 (lsl v0) false) (.bool false) (by omega) (by omega) E (by omega) (by omega) (by rw [List.length_set]; exact hlt) (hrest _ ⟨3, 0⟩ rfl)
      refine ⟨h', ts', bits', told', v0', v2', M', by rw [loopx_succ, key]; exact e, b1, b2, b3, b4, by omega, ?_, hoth ⟨3, 0⟩ told' b7⟩
      rw [hrun]
      have hst : stp most (itT ts, bits) o = ((itT ts, bits), ⟨3, 0⟩) := by
        unfold stp
        rw [if_pos xk, if_pos (by simp only [itT_len]; omega)]
      rw [hst]
      exact b6
theorem rs_rep (n : Nat) : List.replicate n [V.int .u8 0, V.int .i32 0] = (List.replicate n (⟨0, 0⟩ : R)).map R.w := by rw [List.map_replicate]; rfl
/-- what the operations are told, and leave -/
def doneO (os : List O) (most : Int) (st : St) : St × List R := runO os most (sPuts os ++ others os) st (List.replicate os.length ⟨0, 0⟩)
theorem puts_others (os : List O) : ∀ x ∈ others os, ∀ y ∈ sPuts os, y ≠ x := fun x hx y hy e => by
  have h1 := restTo_mem os _ x hx
  have h2 := putsTo_mem os _ y ((sPuts_perm os).mem_iff.1 hy)
  rw [e] at h2
  exact h1.2.2 h2.2.2
theorem sPuts_nodup (os : List O) : (sPuts os).Nodup := (sPuts_perm os).nodup_iff.2 ((putsTo_up os os.length).imp fun h => by omega)
theorem sPuts_mem (os : List O) : ∀ x ∈ sPuts os, 0 ≤ x ∧ x < (os.length : Int) ∧ (oAt os x).k = 1 := fun x hx => putsTo_mem os _ x ((sPuts_perm os).mem_iff.1 hx)
/-- parted, and what it is for -/
theorem part_env {h : Heap} {s : Nat} {ts : List Tw} {most : Int} {c : Nat} {cb : Option Nat} {bits : List Bool} (os : List O) (S : ∃ N, SkAt h s ts most N) (B : BitsAt h c cb bits) (nc : c ∉ skB s ts) (ncb : ∀ b, cb = some b → b ∉ skB s ts) :
    Env (partH h os) s ts most c cb bits h.length (sPuts os) (h.length + 1) (others os) := by
  obtain ⟨N, S⟩ := S
  have l := B.lt
  have hk : ∀ b, b < h.length → (partH h os)[b]? = h[b]? := fun b hb => List.getElem?_append_left hb
  have h0 : (partH h os)[h.length]? = some (.row 3 1 (iL (sPuts os)) true) := by unfold partH; rw [List.getElem?_append_right (Nat.le_refl _), Nat.sub_self]; rfl
  have h1 : (partH h os)[h.length + 1]? = some (.row 3 1 (iL (others os)) true) := by unfold partH; rw [List.getElem?_append_right (by omega), Nat.add_sub_cancel_left]; rfl
  exact ⟨⟨N, S.keep fun b hb => hk b (S.lt b hb)⟩, B.keep (hk c l.1) fun b hb => hk b (l.2 b hb), ⟨_, h0⟩, ⟨_, h1⟩, nc, ncb, ⟨fun hm => by have := S.lt _ hm; omega, by omega⟩, ⟨fun hm => by have := S.lt _ hm; omega, by omega⟩⟩
/-- the end of both: those that do not put -/
theorem end_rest (n : Nat) {h hh : Heap} {s : Nat} {ts ts1 : List Tw} {most : Int} {c : Nat} {cb : Option Nat} {bits : List Bool} {p1 p2 : Nat} (os : List O) (lb : Bool) (told : List R) (E : Env hh s ts1 most c cb bits p1 (sPuts os) p2 (others os)) (hp2 : h.length ≤ p2) (hlt : told.length = os.length) (h0 : ∀ x ∈ others os, told[x.toNat]? = some ⟨0, 0⟩) (hts : ts1.length < lim) (hlim : os.length < lim) (hn : os.length + 8 < n) (hF : Frm h hh (c :: skB s ts)) (hN : ∀ b ∈ skB s ts1, b ∈ skB s ts ∨ h.length ≤ b) (hroom : (ts1.length : Int) ≤ most) :
    ∃ h' ts' told', call (n + 3) 38 [.ptr s 0, .sl 2 (os.map O.w) lb, .row p2 1 0 (others os).length, .row hh.length 2 0 os.length] (hh ++ [.row 34 2 (told.map R.w) true]) = some (.ret [.row hh.length 2 0 os.length], h') ∧
      Did h h' s ts ts' most c cb bits hh.length told' ∧ runO os most (others os) (itT ts1, bits) told = ((itT ts', bits), told') := by
  have E1 := E.push [.row 34 2 (told.map R.w) true]
  have rt : RowR (hh ++ [.row 34 2 (told.map R.w) true]) hh.length told := ⟨true, List.getElem?_concat_length⟩
  obtain ⟨N, S⟩ := E.sk
  have nt : hh.length ∉ skB s ts1 := fun hm => by have := S.lt _ hm; omega
  have hpl := E.r2.lt
  obtain ⟨h', ts', told', e, a1, a2, a3, a4, a5, a6⟩ := rest_call n os lb told hh.length p2 bits E1.sk hts rt E1.r2 hlt nt E.n2.1 (by omega) h0 hlim hn
  have hl := E.bt.lt
  refine ⟨h', ts', told', e, ⟨a1, ?_, a5, hF.len, ?_, fun b hb => ?_, ?_⟩, a6⟩
  · have hk : ∀ i, i < hh.length → i ∉ skB s ts1 → h'[i]? = hh[i]? := fun i h1 h2 => by
      rw [a3.old i (by rw [List.length_append]; omega) (fun hm => by rcases List.mem_cons.1 hm with e | hm; omega; exact h2 hm), List.getElem?_append_left h1]
    exact E.bt.keep (hk c hl.1 E.nc) fun b hb => hk b (hl.2 b hb) (E.ncb b hb)
  · refine (hF.trans (Frm.push hh _ []) (fun y hy => by cases hy)).trans a3 fun y hy => ?_
    rcases List.mem_cons.1 hy with e | hy
    · exact .inr (by have := hF.len; omega)
    · rcases hN y hy with h | h
      · exact .inl (List.mem_cons_of_mem _ h)
      · exact .inr h
  · exact hN b (a2 b hb)
  · have h1 := congrArg (fun p => (p.1.1.length : Int)) a6
    simp only [itT_len] at h1
    rw [← h1]
    exact runO_room _ (by simp only [itT_len]; exact hroom)
/-- Plain -/
theorem plain_call (n : Nat) {h : Heap} {s : Nat} {ts : List Tw} {most : Int} {c : Nat} {cb : Option Nat} {bits : List Bool} (os : List O) (lb : Bool) (S : ∃ N, SkAt h s ts most N) (B : BitsAt h c cb bits) (nc : c ∉ skB s ts) (ncb : ∀ b, cb = some b → b ∉ skB s ts) (hroom : (ts.length : Int) ≤ most) (hl : ts.length + 4 * os.length + 100 < lim) (hn : ts.length + 2 * os.length + 50 ≤ n) :
    ∃ h' ts' bits' tb told', call (n + 4) 47 [.ptr s 0, .ptr c 0, .sl 2 (os.map O.w) lb] h = some (.ret [.row tb 2 0 os.length], h') ∧ Did h h' s ts ts' most c cb bits' tb told' ∧ doneO os most (itT ts, bits) = ((itT ts', bits'), told') := by
  have hpl := puts_len os os.length
  have hsl := sPuts_len os
  have hpo : (puts os).length ≤ os.length := by unfold puts; omega
  have E0 := part_env os S B nc ncb
  have hlf : (partH h os).length = h.length + 2 := by simp [partH]
  obtain ⟨h1, ts1, bits1, told1, v0', v2', M', e, b1, b2, b3, b4, b5, b6, b7⟩ := plain_loop n os lb (sPuts os) (sPuts_mem os) (sPuts_nodup os) h.length (h.length + 1) (others os) (.row (h.length + 1) 1 0 (others os).length) (by omega) (sPuts os).length 0 (n + 3) (partH h os) ts bits (List.replicate os.length ⟨0, 0⟩) (.sl 2 [] false) (.bool false) (by omega) (by omega) E0 (by omega) (by omega) (by simp) (fun x hx => by
    have := sPuts_mem os x (List.mem_of_mem_drop hx)
    rw [List.getElem?_replicate, if_pos (by omega)])
  rw [List.drop_zero] at b6 b7
  have hF : Frm h h1 (c :: skB s ts) := Frm.trans (Frm.push h _ (c :: skB s ts)) b2 fun y hy => .inl hy
  have hN : ∀ b ∈ skB s ts1, b ∈ skB s ts ∨ h.length ≤ b := fun b hb => (b3 b hb).imp id fun h => by omega
  have hr1 : (ts1.length : Int) ≤ most := by
    have h1 := congrArg (fun p => (p.1.1.length : Int)) b6
    simp only [itT_len] at h1
    rw [← h1]
    exact runO_room _ (by simp only [itT_len]; exact hroom)
  obtain ⟨h', ts', told', e2, D, r⟩ := end_rest (ts := ts) n os lb told1 b1 (by omega) b4 (fun x hx => by
    have hm := restTo_mem os _ x hx
    rw [b7 x.toNat fun y hy => fun e => puts_others os x hx y hy (by omega), List.getElem?_replicate, if_pos (by omega)]) (by omega) (by omega) (by omega) hF hN hr1
  refine ⟨h', ts', bits1, h1.length, told', ?_, D, ?_⟩
  · refine (srtPlain_eq (n + 3) s c (os.map O.w) lb h).trans ?_
    unfold srtPlain
    have fN : nv (V.int .i64 (os.length : Int)) = some os.length := nv_nat _ _
    have hpc : call (n + 3) 34 [.sl 2 (os.map O.w) lb] h = some (.ret [.row h.length 1 0 (puts os).length, .row (h.length + 1) 1 0 (others os).length], partH h os) := parted_call (n + 1) h os lb (by omega) (by omega)
    simp only [List.length_map]
    rw [fN, bdS_some, bdS_some, if_pos (by first | exact ⟨rfl, by omega, rfl⟩ | exact ⟨trivial, by omega, trivial⟩ | exact ⟨rfl, by omega, trivial⟩), hpc, cl_ret]
    simp only [List.getElem?_cons_zero, List.getElem?_cons_succ, bd_some]
    rw [← hsl, E0.r1.slc, bd_some, rs_rep]
    refine e.trans ?_
    unfold srtPlain_l8
    simp only [gv, List.getD_cons_zero, List.getD_cons_succ, iL_len, bop_i64_lss, bd_some, bv_bool]
    rw [if_neg (by simp), app_r0, List.length_map, b4, e2, cl_ret, one1_one]
  · unfold doneO
    rw [runO_append, b6]
    exact r
end Go.Proofs.Try
