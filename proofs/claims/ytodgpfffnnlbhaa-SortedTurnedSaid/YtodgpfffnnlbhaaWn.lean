import Derived.Test.YtodgpfffnnlbhaaWm
/-! slices.Insert, without room -/
set_option linter.unusedVariables false
set_option linter.unusedSimpArgs false
namespace Go.Proofs.Try
open Go.RowKit Go.Lib
set_option maxRecDepth 100000

set_option maxHeartbeats 4000000 in
theorem insert_grow (w : World) (b cap : Nat) (cs : List Value) (vb vc : Nat) (vcur : Array Value) (te : TypeId) (vs : List Value) (i n m : Nat) (hn : n = cs.length) (hm : 0 < m) (hvl : vs.length = m) (hi : i < n) (C : List Value) (hb : w.heap[b]? = some (.cells C.toArray 21 (0, 0))) (hx : C.take n = cs)
    (hnc : n ≤ cap) (hroom : cap < n + m) (hbig : (n + m) * 4 ≤ 140737488355328) (hvb : w.heap[vb]? = some (.cells vcur te (0, 0))) (hv0 : ∀ (j : Nat) v, vs[j]? = some v → vcur[j]? = some v) (h1c : ∀ v ∈ cs, v.oneCell' = true) (h1v : ∀ v ∈ vs, v.oneCell' = true) :
    Calls prog 91 #[.slice (some ⟨b, 0, none⟩) n cap, .int .i64 i, .slice (some ⟨vb, 0, none⟩) m vc] w fun e w' => ∃ G, n + m ≤ G ∧ G ≤ maxLen ∧
      e = .returned (.slice (some ⟨w.heap.size, 0, none⟩) (n + m) G) ∧ ∃ R : List Value, R.length = G ∧ R.take (n + m) = cs.take i ++ vs ++ cs.drop i ∧ w'.heap[w.heap.size]? = some (.cells R.toArray 21 (0, 0)) ∧ w.grownBy w' none := by
  obtain ⟨i0, hi0, hz0, hzs, hzb⟩ := i32_info
  have hz1 : ¬ ((m : Int) = 0) := by omega
  have hz2 : ¬ ((i : Int) = (n : Int)) := by omega
  have hz3 : (cap : Int) < (n : Int) + (m : Int) := by omega
  have hsz : (prog.info? 21).map (·.size) = some 1 := by kernel_rfl
  have hu : prog.underlying 39 = some (.slice 21) := by kernel_rfl
  have hu3 : prog.underlying 3 = some (.int .i64) := by kernel_rfl
  have hbw : b < w.heap.size := (Array.getElem?_eq_some_iff.1 hb).1
  have hvw : vb < w.heap.size := (Array.getElem?_eq_some_iff.1 hvb).1
  have hcs : ∀ (j : Nat) v, cs[j]? = some v → w.cell? ⟨b, j, none⟩ = some v := fun j v hj => by
    simp only [World.cell?, hb]
    rw [← hx, List.getElem?_take] at hj
    split at hj
    · simpa using hj
    · cases hj
  have hvs : ∀ (j : Nat) v, vs[j]? = some v → w.cell? ⟨vb, j, none⟩ = some v := fun j v hj => by simp only [World.cell?, hvb]; simpa using hv0 j v hj
  have hcl : cs.length = n := hn.symm
  have hkk : (n : Int) + (m : Int) - (i : Int) = ((n + m - i : Nat) : Int) := by omega
  have hik : i + (n + m - i) = n + m := by omega
  have hold : (Builtin.firstCells i0.size i (.slice (some ⟨b, 0, none⟩) i cap)).run prog w.drew = .ok (cs.take i).toArray w.drew := by
    rw [hzs]
    exact run_firstCells_some w.drew 1 i ⟨b, 0, none⟩ i cap (cs.take i) (by rw [List.length_take]; omega) (fun j v hj => by
      rw [Addr.add_lit, Nat.zero_add]
      rw [List.getElem?_take] at hj
      split at hj
      · exact hcs j v hj
      · cases hj)
  have hrz : ∀ ty, (Builtin.append_ #[39, 3] ty #[.slice (some ⟨b, 0, none⟩) i cap, .int .i64 ((n : Int) + (m : Int) - (i : Int))]).run prog w =
      .ok (.slice (some ⟨w.heap.size, 0, none⟩) (n + m) (grownCap w (n + m) cap 21)) (w.drew.alloc (.cells ((cs.take i).toArray ++ Builtin.zeroCells (Value.int .i32 0).cells (n + m - i) ++ Builtin.zeroCells (Value.int .i32 0).cells (grownCap w (n + m) cap 21 - (n + m))) 21)) := fun ty => by
    have h := Lib.run_append_grow_zeros w 39 3 ty 21 i0 _ .i64 .i64 hu hu3 hi0 hz0 (some ⟨b, 0, none⟩) i cap (cs.take i) hold (n + m - i) (by omega) (by omega) (by omega) (by omega) (by rw [hzb]; omega) (by rw [hzb, hik]; exact growslice_fits hroom hbig)
    rw [hik] at h
    rw [hkk]
    exact h
  obtain ⟨G, hG⟩ : ∃ G, G = grownCap w (n + m) cap 21 := ⟨_, rfl⟩
  obtain ⟨ROW, hROW⟩ : ∃ ROW : Array Value, ROW = (cs.take i).toArray ++ Builtin.zeroCells (Value.int .i32 0).cells (n + m - i) ++ Builtin.zeroCells (Value.int .i32 0).cells (G - (n + m)) := ⟨_, rfl⟩
  rw [← hG] at hrz
  rw [← hROW] at hrz
  have hGn : n + m ≤ G := by rw [hG]; exact grownCap_ge w _ _ _
  have hGm : G ≤ maxLen := by rw [hG]; exact grownCap_le_maxLen w (n + m) cap 21 (by unfold maxLen; omega)
  have hRs : ROW.size = G := by
    rw [hROW]
    simp [Builtin.zeroCells, Value.cells]
    omega
  have hRl : n + m ≤ ROW.size := by omega
  have hRt : ROW.toList.take i = cs.take i := by
    rw [hROW]
    simp only [Array.toList_append, List.append_assoc]
    rw [List.take_append_of_le_length (by simp; omega), List.take_of_length_le (by simp; omega)]
  obtain ⟨W1, hW1⟩ : ∃ W1, W1 = w.drew.alloc (.cells ROW 21) := ⟨_, rfl⟩
  rw [← hW1] at hrz
  have hN : ∀ j, j < n + m → (W1.cell? ⟨w.heap.size, j, none⟩).isSome = true := fun j hj => by
    rw [hW1, World.cell?_alloc_at (w := w.drew) ROW _ w.heap.size j rfl, Array.getElem?_eq_getElem (by omega)]; rfl
  have hNf : ∀ j, W1.frozen? ⟨w.heap.size, j, none⟩ = false := fun j => by rw [hW1]; exact World.frozen?_alloc_at (w := w.drew) ROW _ w.heap.size j rfl
  have hOb : ∀ j v, w.cell? ⟨b, j, none⟩ = some v → W1.cell? ⟨b, j, none⟩ = some v := fun j v h => by rw [hW1, World.cell?_alloc_past (w := w.drew) _ b j hbw]; exact h
  have hOv : ∀ j v, w.cell? ⟨vb, j, none⟩ = some v → W1.cell? ⟨vb, j, none⟩ = some v := fun j v h => by rw [hW1, World.cell?_alloc_past (w := w.drew) _ vb j hvw]; exact h
  have hcpA : ∀ (W : World), (∀ x, W.cell? x = W1.cell? x) → (∀ x, W.frozen? x = W1.frozen? x) → ∀ ty dc, (Builtin.copy_ #[39, 39] ty #[.slice (some ⟨w.heap.size, i, none⟩) (n + m - i) dc, .slice (some ⟨vb, 0, none⟩) m vc]).run prog W = .ok (goInt vs.length) (W.setCells w.heap.size i vs) := fun W hWc hWf ty dc =>
    run_copy_cells W _ _ ty 21 w.heap.size i (n + m - i) dc ⟨vb, 0, none⟩ m vc vs hu hsz (by rw [hvl]; simp only [Nat.min_def]; split <;> omega)
      (fun j v hj => by rw [Addr.add_lit, Nat.zero_add, hWc]; exact hOv _ v (hvs j v hj))
      (fun j hj => by rw [hWc]; exact hN (i + j) (by omega)) (fun j hj => by rw [hWf]; exact hNf _) h1v
  have hGi : ¬ (G = i) := by omega
  have hGim : ¬ (G = i + m) := by omega
  have hci : ¬ (cap = i) := by omega
  have hbN : b ≠ w.heap.size := by omega
  have hdl : (cs.drop i).length = n - i := by rw [List.length_drop, hcl]
  have hcpB : ∀ (W : World), (∀ x, W.cell? x = (W1.setCells w.heap.size i vs).cell? x) → (∀ x, W.frozen? x = (W1.setCells w.heap.size i vs).frozen? x) → ∀ ty dc sc, (Builtin.copy_ #[39, 39] ty #[.slice (some ⟨w.heap.size, i + m, none⟩) (n + m - (i + m)) dc, .slice (some ⟨b, i, none⟩) (n - i) sc]).run prog W = .ok (goInt (cs.drop i).length) (W.setCells w.heap.size (i + m) (cs.drop i)) := fun W hWc hWf ty dc sc =>
    run_copy_cells W _ _ ty 21 w.heap.size (i + m) (n + m - (i + m)) dc ⟨b, i, none⟩ (n - i) sc (cs.drop i) hu hsz (by rw [hdl]; simp only [Nat.min_def]; split <;> omega)
      (fun j v hj => by
        rw [Addr.add_lit, hWc, World.cell?_setCells_out _ _ _ _ _ (fun h _ => absurd h hbN)]
        exact hOb _ v (hcs (i + j) v (by rwa [List.getElem?_drop] at hj)))
      (fun j hj => by rw [hWc]; exact isSome_setCells _ _ _ _ (fun t ht => hN (i + t) (by omega)) _ (hN (i + m + j) (by rw [hdl] at hj; omega)))
      (fun j hj => by rw [hWf, World.frozen?_setCells]; exact hNf _) (fun v hv => h1c v (List.mem_of_mem_drop hv))
  have hrow0 : RowAt W1 w.heap.size 21 ROW.toList W1 := RowAt.self (by rw [hW1]; exact heap_alloc_new w.drew _)
  have hrow1 := hrow0.cut i vs (by simp; omega)
  have hfin : ∀ W, RowAt W1 w.heap.size 21 ((ROW.toList.take i ++ vs ++ ROW.toList.drop (i + vs.length)).take (i + m) ++ cs.drop i ++ (ROW.toList.take i ++ vs ++ ROW.toList.drop (i + vs.length)).drop (i + m + (cs.drop i).length)) W →
      ∃ R : List Value, R.length = G ∧ R.take (n + m) = cs.take i ++ vs ++ cs.drop i ∧ W.heap[w.heap.size]? = some (.cells R.toArray 21 (0, 0)) ∧ w.grownBy W none := fun W hW => by
    refine ⟨_, ?_, ?_, hW.1, ?_⟩
    · simp; omega
    · have e1 : (ROW.toList.take i ++ vs ++ ROW.toList.drop (i + vs.length)).take (i + m) = cs.take i ++ vs := by
        rw [List.take_append_of_le_length (by simp; omega), List.take_of_length_le (by simp; omega), hRt]
      rw [e1, List.take_append_of_le_length (by simp; omega), List.take_of_length_le (by simp; omega)]
    · have h0 : w.grownBy W1 none := by
        rw [hW1]
        exact ⟨rfl, rfl, rfl, by simp, fun k hk _ => Below.heap_alloc w.drew _ _ hk⟩
      exact ⟨hW.2.os.trans h0.os, hW.2.tape.trans h0.tape, hW.2.output.trans h0.output, Nat.le_trans h0.size hW.2.size, fun k hk _ => (hW.2.block k (Nat.lt_of_lt_of_le hk h0.size) (by intro e; cases e; omega)).trans (h0.block k hk (by simp))⟩
  subst hW1
  have HFIN := Lib.hid hfin
  have HROW1 := Lib.hid hrow1
  have hG63 : G ≤ 9223372036854775807 := by simpa [maxLen] using hGm
  have hfit2 : i + m + (cs.drop i).length ≤ (ROW.toList.take i ++ vs ++ ROW.toList.drop (i + vs.length)).length := by rw [hdl]; simp; omega
  have HFIT2 := Lib.hid hfit2
  have HRZ := Lib.hid hrz
  have HCA := Lib.hid hcpA
  have HCB := Lib.hid (hcpB (((w.alloc (.cells ROW 21)).drew.setCells w.heap.size i vs).drew) (fun _ => rfl) (fun _ => rfl))
  have HGM := Lib.hid hGm
  have HDL := Lib.hid hdl
  have hw1 : IntKind.i64.wrap ((i : Int) + (m : Int)) = (i : Int) + (m : Int) := by rw [IntKind.wrap_i64]; omega
  have hb1 : (0 : Int) ≤ (i : Int) + (m : Int) := by omega
  have hin : i ≤ n := by omega
  have htn : ((i : Int) + (m : Int)).toNat = i + m := by omega
  have hb3 : (i : Int) ≤ (n : Int) := by omega
  clear hfin hrow1 hrow0 hrz hcpA hcpB hkk hik hold hROW hG hRl hRs hRt hN hNf hOb hOv hcs hvs hx hb hvb hv0 h1c h1v hcl hvl hn hi0 hz0 hzs hzb hsz hu hu3 hfit2 hdl hGm hbw hvw hbN
  go_enter func91, ntmps91
  go_wp2_with (first
    | (refine TR.wp_region_text (TR.cls_ok _) (by kernel_rfl) (by kernel_rfl) ?_; simp only [TR.withAsserts, TR.asserted, intT0, intT1, intT2, intT3, intT4, intT5, intT6, intT7, intT8, intT9, intT10, intT11, intT12, intT13, intT14, intT15, intT16, intT17, intT18, intT19, intT20, intT21, intT22, intT23, intT24, intT25, intT26, intT27, intT28, intT29, intT30, intT31, intT32, intT33, intT34, intT35, intT36, intT37, intT38, intT39, intT40, intT41, intT42, intT43, intT44, intT45, intT46, intT47, intT48, intT49, intT50, intT51, intT52, intT53, intT54, intT55, intT56, intT57, intT58, intT59, intT60, intT61, intT62, intT63, intT64, intT65, intT66, intT67, intT68, intT69, intT70, intT71, intT72, intT73, intT74, intT75, intT76, intT77, intT78, intT79, intT80, intT81, intT82, intT83, intT84, intT85, intT86, intT87, intT88, intT89, intT90, intT91, intT92, intT93, intT94, intT95, intT96, intT97, intT98, intT99, intT100, intT101, intT102, intT103, intT104, intT105, intT106, intT107, intT108, intT109, intT110, intT111, intT112, intT113, intT114, intT115, intT116, intT117, intT118, intT119, intT120, intT121, intT122, intT123, intT124, intT125, intT126, intT127, intT128, intT129, intT130, intT131, intT132, intT133, intT134, intT135, intT136, intT137, intT138, intT139, intT140, intT141, intT142, intT143, intT144, intT145, intT146, intT147, intT148, intT149, intT150, intT151, intT152, intT153, intT154, intT155, intT156, intT157, intT158, intT159, intT160, intT161, intT162, intT163, intT164, intT165, intT166, intT167, intT168, intT169, intT170, intT171, intT172, intT173, intT174, intT175, intT176, intT177, intT178, intT179, intT180, intT181, intT182, intT183, intT184, TR.isTmp, List.filter_cons, List.filter_nil, List.map_cons, List.map_nil, List.cons_append, List.nil_append, if_true, Bool.false_eq_true, if_false, Bool.and_self, Bool.and_false, Bool.false_and]) | (with_reducible refine TR.wpList_assert (by kernel_rfl) ?_)
    | (with_reducible show wpList _ _ _ (_ :: _) _ _; refine Lib.wpList_append_run _ rfl _ _ _ _ rfl _ _ rfl rfl _ _ (HRZ.out _) ?_)
    | (with_reducible show wpList _ _ _ (_ :: _) _ _; refine wpList_copy_runI _ rfl _ _ 39 39 rfl _ _ rfl rfl (HCA.out _ (fun _ => rfl) (fun _ => rfl) _ _) ?_)
    | (with_reducible show wpList _ _ _ (_ :: _) _ _; refine wpList_copy_runI _ rfl _ _ 39 39 rfl _ _ rfl rfl (HCB.out _ _ _) ?_))
  go_ret
  exact ⟨G, hGn, HGM.out, rfl, HFIN.out _ (RowAt.cut (RowAt.drew HROW1.out) _ _ HFIT2.out)⟩
end Go.Proofs.Try
/-! slices.Delete -/
set_option linter.unusedVariables false
set_option linter.unusedSimpArgs false
namespace Go.Proofs.Try
open Go.RowKit Go.Lib
set_option maxRecDepth 100000

theorem wpList_clear_runI {P : Program} (w : World) {ops : Array Oper} {rest : List Oper} {o : Oper} {a : Act} {Q : Exit → Act → World → Prop} (hgd : o.guard = none) (s : Operand) (t : TypeId)
    (ho : o.op = .call { callee := .builtin .clear, args := #[s], argTypes := #[t] }) (u : Value) (hs : a.eval s = u) {v' : Value} {w' : World}
    (hr : (Builtin.clear_ #[t] o.type #[u]).run P w = .ok v' w') (h : wpList P ops Q rest (a.put o.dst v') w') : wpList P ops Q (o :: rest) a w :=
  wpList_plain hgd fun _ hK => by
    unfold Oper.wp execOp
    simp only [ho, resolve, invoke, builtin, Sem.run_bind, Sem.run_pure, Result.andThen_ok, List.map_toArray, List.map_cons, List.map_nil, hs, hr]
    exact hK _ _ h

set_option maxHeartbeats 4000000 in
theorem delete_vals (w : World) (v : Value) (xs : List Value) (i j : Nat) (hown : w.ownsRow 0 21 1 v xs.length xs) (hij : i < j) (hj : j ≤ xs.length) (hl : xs.length < L.lim) (h1 : ∀ u ∈ xs, u.oneCell' = true) :
    Calls prog 92 #[v, .int .i64 i, .int .i64 j] w (L.NatPost w v 21 (xs.length - (j - i)) (xs.take i ++ xs.drop j)) := by
  unfold L.lim at hl
  have hrow := hown
  rcases hown.2 with ⟨rfl, h0⟩ | ⟨b, cap, cur, rfl, _, hb, hcap, hmx, hcs, htk⟩
  · omega
  obtain ⟨n, hn⟩ : ∃ n, n = xs.length := ⟨_, rfl⟩
  rw [← hn] at hj hl hcap htk ⊢
  rw [Nat.mul_one] at hcs htk
  obtain ⟨i0, hi0, hz0, hzs, hzb⟩ := i32_info
  have hu : prog.underlying 39 = some (.slice 21) := by kernel_rfl
  have hcells : ∀ (k : Nat) u, xs[k]? = some u → w.cell? ⟨b, k, none⟩ = some u := fun k u hk => by
    simp only [World.cell?, hb]
    rw [← htk, List.getElem?_take] at hk
    split at hk
    · simpa using hk
    · cases hk
  have hCl : cur.toList.length = cap := by simpa using hcs
  have hrow0 : RowAt w b 21 cur.toList w.drew := (RowAt.self (by simpa using hb)).drew
  obtain ⟨k, hk⟩ : ∃ k, k = i + (n - j) := ⟨_, rfl⟩
  obtain ⟨W2, hW2⟩ : ∃ W2, W2 = w.drew.setRow b (cur.toList.take i ++ xs.drop j ++ cur.toList.drop (i + (n - j))).toArray := ⟨_, rfl⟩
  have hdl : (xs.drop j).length = n - j := by rw [List.length_drop, hn]
  have happ : ∀ (q : Addr), (j < n → q = ⟨b, j, none⟩) → ∀ ty c, (Builtin.append_ #[39, 39] ty #[.slice (some ⟨b, 0, none⟩) i cap, .slice (some q) (n - j) c]).run prog w.drew = .ok (.slice (some ⟨b, 0, none⟩) (i + (n - j)) cap) W2 := fun q hq ty c => by
    have h := run_append_room (P := prog) (w := w.drew) 39 ty 21 i0 hu hi0 b i cap cur hb q (n - j) c (xs.drop j) (by rw [hzs, hdl]; omega)
      (fun k u hk => by
        have hkl := (List.getElem?_eq_some_iff.1 hk).1
        rw [List.getElem?_drop] at hk
        rw [hq (by omega), Addr.add_lit]
        exact hcells _ u hk) (fun u hu => h1 u (List.mem_of_mem_drop hu)) (by omega) (by rw [hzs, hdl]; omega)
    rw [h, hW2]
    simp only [hzs, Nat.mul_one, hdl]
  have hrow2 : RowAt w b 21 (cur.toList.take i ++ xs.drop j ++ cur.toList.drop (i + (n - j))) W2 := by
    rw [hW2]
    exact ⟨setRow_heap w.drew b cur _ _ _ hb, rfl, rfl, rfl, by simp [World.setRow], fun k hk hne => setRow_other w.drew b k _ (by intro e; exact hne (by rw [e]))⟩
  have hcl2 : (cur.toList.take i ++ xs.drop j ++ cur.toList.drop (i + (n - j))).length = cap := by simp; omega
  have hclr : ∀ W : World, (∀ x, W.cell? x = W2.cell? x) → (∀ x, W.frozen? x = W2.frozen? x) → ∀ ty c, (Builtin.clear_ #[39] ty #[.slice (some ⟨b, i + (n - j), none⟩) (n - (i + (n - j))) c]).run prog W = .ok (.tuple #[]) (W.setCells b (i + (n - j)) (List.replicate (n - (i + (n - j))) (.int .i32 0))) := fun W hWc hWf ty c =>
    run_clear_slice W 39 21 ty (.int .i32 0) hu (fun w => by simp [zeroValue, typeInfo, hi0, hz0]) rfl rfl b _ _ c (by omega) (fun t ht => by
      rw [hWc]
      simp only [World.cell?, hrow2.1]
      have : i + (n - j) + t < cap := by omega
      rw [List.getElem?_toArray, List.getElem?_eq_getElem (by rw [hcl2]; exact this)]
      rfl) (fun t ht => by rw [hWf]; simp [World.frozen?, hrow2.1])
  have hfin : ∀ W, RowAt w b 21 ((cur.toList.take i ++ xs.drop j ++ cur.toList.drop (i + (n - j))).take (i + (n - j)) ++ List.replicate (n - (i + (n - j))) (.int .i32 0) ++ (cur.toList.take i ++ xs.drop j ++ cur.toList.drop (i + (n - j))).drop (i + (n - j) + (List.replicate (n - (i + (n - j))) (Value.int .i32 0)).length)) W →
      L.NatPost w (.slice (some ⟨b, 0, none⟩) n cap) 21 (n - (j - i)) (xs.take i ++ xs.drop j) (.returned (.slice (some ⟨b, 0, none⟩) (i + (n - j)) cap)) W := fun W hW => by
    have hlen : n - (j - i) = i + (n - j) := by omega
    rw [hlen]
    refine ⟨_, rfl, ⟨by simp; omega, .inr ⟨b, cap, _, rfl, Nat.zero_le _, hW.1, by omega, hmx, by simp; omega, ?_⟩⟩, hW.2, fun β hβ => .inl hβ⟩
    have e0 : cur.toList.take i = xs.take i := by rw [← htk, List.take_take, Nat.min_eq_left (by omega)]
    simp only [Nat.mul_one]
    rw [List.append_assoc, List.take_append_of_le_length (by simp; omega), List.take_take, Nat.min_self, List.take_append_of_le_length (by simp; omega), List.take_of_length_le (by simp; omega), e0]
  have hrow3 := fun (W : World) (hW : RowAt w b 21 (cur.toList.take i ++ xs.drop j ++ cur.toList.drop (i + (n - j))) W) => hW.cut (i + (n - j)) (List.replicate (n - (i + (n - j))) (.int .i32 0)) (by rw [hcl2]; simp; omega)
  rw [← hk] at hfin hrow2 hrow3 happ hclr
  have HFIN := Lib.hid hfin
  have HROW2 := Lib.hid hrow2
  have HROW3 := Lib.hid hrow3
  have HAPP := Lib.hid happ
  have HCLR := Lib.hid hclr
  have hk1 : k ≤ n := by omega
  have hk2 : ¬ (cap = k) := by omega
  have hk3 : (k : Int) ≤ (n : Int) := by omega
  have hi2 : ¬ (n = i) := by omega
  have hi3 : ¬ ((i : Int) = (j : Int)) := by omega
  have hi4 : (i : Int) ≤ (j : Int) := by omega
  have hi5 : (j : Int) ≤ (n : Int) := by omega
  simp only [maxLen] at hmx
  clear hfin hrow3 hrow2 hrow0 happ hclr hW2 hcl2 hCl hcells hrow hown hcs htk hb h1 hi0 hz0 hzs hzb hu hdl hn hk
  by_cases hjc : j = cap
  · have hjn : n = j := by omega
    subst hjn
    subst hjc
    have ha2 := fun ty c => HAPP.out ⟨b, 0, none⟩ (fun h => absurd h (Nat.lt_irrefl _)) ty c
    rw [Nat.sub_self] at ha2
    have HA2 := Lib.hid ha2
    clear HAPP ha2
    go_enter func92, ntmps92
    go_wp2_with (first
      | (refine TR.wp_region_text (TR.cls_ok _) (by kernel_rfl) (by kernel_rfl) ?_; simp only [TR.withAsserts, TR.asserted, intT0, intT1, intT2, intT3, intT4, intT5, intT6, intT7, intT8, intT9, intT10, intT11, intT12, intT13, intT14, intT15, intT16, intT17, intT18, intT19, intT20, intT21, intT22, intT23, intT24, intT25, intT26, intT27, intT28, intT29, intT30, intT31, intT32, intT33, intT34, intT35, intT36, intT37, intT38, intT39, intT40, intT41, intT42, intT43, intT44, intT45, intT46, intT47, intT48, intT49, intT50, intT51, intT52, intT53, intT54, intT55, intT56, intT57, intT58, intT59, intT60, intT61, intT62, intT63, intT64, intT65, intT66, intT67, intT68, intT69, intT70, intT71, intT72, intT73, intT74, intT75, intT76, intT77, intT78, intT79, intT80, intT81, intT82, intT83, intT84, intT85, intT86, intT87, intT88, intT89, intT90, intT91, intT92, intT93, intT94, intT95, intT96, intT97, intT98, intT99, intT100, intT101, intT102, intT103, intT104, intT105, intT106, intT107, intT108, intT109, intT110, intT111, intT112, intT113, intT114, intT115, intT116, intT117, intT118, intT119, intT120, intT121, intT122, intT123, intT124, intT125, intT126, intT127, intT128, intT129, intT130, intT131, intT132, intT133, intT134, intT135, intT136, intT137, intT138, intT139, intT140, intT141, intT142, intT143, intT144, intT145, intT146, intT147, intT148, intT149, intT150, intT151, intT152, intT153, intT154, intT155, intT156, intT157, intT158, intT159, intT160, intT161, intT162, intT163, intT164, intT165, intT166, intT167, intT168, intT169, intT170, intT171, intT172, intT173, intT174, intT175, intT176, intT177, intT178, intT179, intT180, intT181, intT182, intT183, intT184, TR.isTmp, List.filter_cons, List.filter_nil, List.map_cons, List.map_nil, List.cons_append, List.nil_append, if_true, Bool.false_eq_true, if_false, Bool.and_self, Bool.and_false, Bool.false_and]) | (with_reducible refine TR.wpList_assert (by kernel_rfl) ?_)
      | (at_builtin; refine Lib.wpList_append_run _ rfl _ _ _ _ rfl _ _ rfl rfl _ _ (HA2.out _ _) ?_)
      | (with_reducible show wpList _ _ _ ({ dst := none, op := .call _, type := _, pos := _, after := _, guard := _} :: _) _ _; generalize hK : @wpList prog = K at *))
    subst hK
    refine wpList_clear_runI _ rfl _ 39 rfl _ rfl (HCLR.out _ (fun _ => rfl) (fun _ => rfl) _ _) ?_
    go_wp2_with fail
    go_ret
    exact HFIN.out _ (HROW3.out _ HROW2.out)
  · have HA2 := Lib.hid (fun ty c => HAPP.out ⟨b, j, none⟩ (fun _ => rfl) ty c)
    clear HAPP
    go_enter func92, ntmps92
    go_wp2_with (first
      | (refine TR.wp_region_text (TR.cls_ok _) (by kernel_rfl) (by kernel_rfl) ?_; simp only [TR.withAsserts, TR.asserted, intT0, intT1, intT2, intT3, intT4, intT5, intT6, intT7, intT8, intT9, intT10, intT11, intT12, intT13, intT14, intT15, intT16, intT17, intT18, intT19, intT20, intT21, intT22, intT23, intT24, intT25, intT26, intT27, intT28, intT29, intT30, intT31, intT32, intT33, intT34, intT35, intT36, intT37, intT38, intT39, intT40, intT41, intT42, intT43, intT44, intT45, intT46, intT47, intT48, intT49, intT50, intT51, intT52, intT53, intT54, intT55, intT56, intT57, intT58, intT59, intT60, intT61, intT62, intT63, intT64, intT65, intT66, intT67, intT68, intT69, intT70, intT71, intT72, intT73, intT74, intT75, intT76, intT77, intT78, intT79, intT80, intT81, intT82, intT83, intT84, intT85, intT86, intT87, intT88, intT89, intT90, intT91, intT92, intT93, intT94, intT95, intT96, intT97, intT98, intT99, intT100, intT101, intT102, intT103, intT104, intT105, intT106, intT107, intT108, intT109, intT110, intT111, intT112, intT113, intT114, intT115, intT116, intT117, intT118, intT119, intT120, intT121, intT122, intT123, intT124, intT125, intT126, intT127, intT128, intT129, intT130, intT131, intT132, intT133, intT134, intT135, intT136, intT137, intT138, intT139, intT140, intT141, intT142, intT143, intT144, intT145, intT146, intT147, intT148, intT149, intT150, intT151, intT152, intT153, intT154, intT155, intT156, intT157, intT158, intT159, intT160, intT161, intT162, intT163, intT164, intT165, intT166, intT167, intT168, intT169, intT170, intT171, intT172, intT173, intT174, intT175, intT176, intT177, intT178, intT179, intT180, intT181, intT182, intT183, intT184, TR.isTmp, List.filter_cons, List.filter_nil, List.map_cons, List.map_nil, List.cons_append, List.nil_append, if_true, Bool.false_eq_true, if_false, Bool.and_self, Bool.and_false, Bool.false_and]) | (with_reducible refine TR.wpList_assert (by kernel_rfl) ?_)
      | (at_builtin; refine Lib.wpList_append_run _ rfl _ _ _ _ rfl _ _ rfl rfl _ _ (HA2.out _ _) ?_)
      | (with_reducible show wpList _ _ _ ({ dst := none, op := .call _, type := _, pos := _, after := _, guard := _} :: _) _ _; generalize hK : @wpList prog = K at *))
    subst hK
    refine wpList_clear_runI _ rfl _ 39 rfl _ rfl (HCLR.out _ (fun _ => rfl) (fun _ => rfl) _ _) ?_
    go_wp2_with fail
    go_ret
    exact HFIN.out _ (HROW3.out _ HROW2.out)
end Go.Proofs.Try
/-! the functions of the library that L knows do what L says -/
set_option linter.unusedVariables false
set_option linter.unusedSimpArgs false
namespace Go.Proofs.Try
open Go.RowKit Go.Lib
set_option maxRecDepth 100000

theorem nat_tab : ((List.range prog.funcs.size).all fun f => match L.natF prog f with
    | none => true
    | some (k, e) => (k == 0 && f == 86 && e == 21) || (k == 1 && f == 91 && e == 21) || (k == 2 && f == 92 && e == 21)) = true := by kernel_rfl
theorem nat_at {f k e : Nat} (h : L.natF prog f = some (k, e)) : (k = 0 ∧ f = 86 ∧ e = 21) ∨ (k = 1 ∧ f = 91 ∧ e = 21) ∨ (k = 2 ∧ f = 92 ∧ e = 21) := by
  have hlt : f < prog.funcs.size := by
    unfold L.natF at h
    split at h
    · rename_i fn hf; exact (Array.getElem?_eq_some_iff.1 hf).1
    · cases h
  have := List.all_eq_true.1 nat_tab f (List.mem_range.2 hlt)
  rw [h] at this
  simp only [Bool.or_eq_true, Bool.and_eq_true, beq_iff_eq] at this
  rcases this with (⟨⟨h1, h2⟩, h3⟩ | ⟨⟨h1, h2⟩, h3⟩) | ⟨⟨h1, h2⟩, h3⟩
  · exact .inl ⟨h1, h2, h3⟩
  · exact .inr (.inl ⟨h1, h2, h3⟩)
  · exact .inr (.inr ⟨h1, h2, h3⟩)

theorem nat_ok : L.NatOk prog where
  fn f k e h := by
    rcases nat_at h with ⟨_, rfl, _⟩ | ⟨_, rfl, _⟩ | ⟨_, rfl, _⟩
    · exact ⟨_, func86, by kernel_rfl, by kernel_rfl⟩
    · exact ⟨_, func91, by kernel_rfl, by kernel_rfl⟩
    · exact ⟨_, func92, by kernel_rfl, by kernel_rfl⟩
  clone f e h w A cap ad xs h1 h2 h3 h4 := by
    rcases nat_at h with ⟨_, rfl, rfl⟩ | ⟨h0, _⟩ | ⟨h0, _⟩
    · exact clone_vals w A cap ad xs h1 h2 h3 h4
    · cases h0
    · cases h0
  delete f e h w v xs i j h1 h2 h3 h4 h5 := by
    rcases nat_at h with ⟨h0, _⟩ | ⟨h0, _⟩ | ⟨_, rfl, rfl⟩
    · cases h0
    · cases h0
    · exact delete_vals w v xs i j h1 h2 h3 h4 h5
  insert f e h w v vy xs x i h1 h2 h3 h4 h5 h6 h7 := by
    rcases nat_at h with ⟨h0, _⟩ | ⟨_, rfl, rfl⟩ | ⟨h0, _⟩
    · cases h0
    · have hl := h5
      unfold L.lim at hl
      rcases h2.2 with ⟨_, h0⟩ | ⟨vb, vc, vcur, rfl, _, hvb, hvc, hvm, hvs, hvt⟩
      · cases h0
      have hv0 : ∀ (j : Nat) v, [x][j]? = some v → vcur[j]? = some v := fun j v hj => by
        rw [← hvt, List.getElem?_take] at hj
        split at hj
        · simpa using hj
        · cases hj
      by_cases hi : i = xs.length
      · subst hi
        rw [List.take_length, List.drop_length, List.append_nil]
        exact insert_end w v xs vb vc x xs.length rfl h1 h5 (by simp only [World.cell?, hvb]; simpa using hv0 0 x rfl) h7
      · rcases h1.2 with ⟨_, h0⟩ | ⟨b, cap, cur, rfl, _, hb, hcap, hmx, hcs, htk⟩
        · omega
        have hne : vb ≠ b := fun e => h3 (by simp [Value.ownBlock, e])
        rw [Nat.mul_one] at hcs htk
        have hlt : i < xs.length := by omega
        have hmx' := hmx
        simp only [maxLen] at hmx'
        by_cases hr : xs.length + 1 ≤ cap
        · refine (insert_shift w b cap cur.toList xs vb vc vcur _ [x] i xs.length 1 rfl (by omega) rfl hlt (by simpa using hb) (by simpa using hcs) htk hr hmx' hvb hv0 hne h6 (fun v hv => by rw [List.mem_singleton] at hv; subst hv; exact h7)).mono ?_
          rintro en w' ⟨rfl, hrow⟩
          refine ⟨_, rfl, ⟨by simp; omega, .inr ⟨b, cap, _, rfl, Nat.zero_le _, hrow.1, hr, hmx, ?_, ?_⟩⟩, hrow.2, fun β hβ => .inl hβ⟩
          · simp; omega
          · have := shift_list cur.toList xs x i htk hlt (by simpa [hcs] using hr)
            simpa using this
        · refine (insert_grow w b cap xs vb vc vcur _ [x] i xs.length 1 rfl (by omega) rfl hlt cur.toList (by simpa using hb) htk hcap (by omega) (by omega) hvb hv0 h6 (fun v hv => by rw [List.mem_singleton] at hv; subst hv; exact h7)).mono ?_
          rintro en w' ⟨G, hG1, hG2, rfl, R, hR1, hR2, hR3, hR4⟩
          refine ⟨_, rfl, ⟨by simp; omega, .inr ⟨w.heap.size, G, _, rfl, Nat.zero_le _, hR3, hG1, hG2, by simpa using hR1, by simpa using hR2⟩⟩, ⟨hR4.os, hR4.tape, hR4.output, hR4.size, fun k hk _ => hR4.block k hk (by simp)⟩, fun β hβ => by
            simp [Value.ownBlock] at hβ
            exact .inr (by omega)⟩
    · cases h0
end Go.Proofs.Try
