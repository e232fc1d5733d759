import Derived.Test.YtooibfffneecfaaWa
namespace Go.Proofs.Try
open Go.RowKit Go.Rp
set_option linter.unusedSimpArgs false
set_option maxRecDepth 100000

set_option maxHeartbeats 800000 in
theorem do4_any (m : Int) (A : Option Addr) (cap : Nat) (s : List Int) (o : O) (w : World) (B : Nat) (hl : s.length ≤ 1000000) (hc1 : s.length ≤ cap) (hc2 : cap ≤ maxLen) (hr : TR.RdT w B 21 i32c 1 A s) :
    Calls prog 51 #[.int .i64 m, .slice A s.length cap, .agg o.cs.toArray] w fun e w' => ∃ v, e = .returned (.tuple #[v, .agg (do4 m s o).2.cs.toArray]) ∧ TR.SlT w' B 21 i32c 1 v (do4 m s o).1 ∧ Below w.heap.size w w' := by
  obtain ⟨ok, ov⟩ := o
  have HR := Lib.hid hr; clear hr
  have HC := Lib.hid hc2; clear hc2
  simp only [O.cs]
  by_cases h1 : ok = 1
  · subst h1
    by_cases hf : most m ≤ s.length
    · rw [show do4 m s ⟨1, ov⟩ = (s, ⟨3, 0⟩) from by simp [do4, hf]]
      have hd : decide (most m ≤ (s.length : Int)) = true := by simpa using hf
      go_enter func51, ntmps51
      go_wp2_with (go_at_call 79; refine (most_any _ _).mono ?_; rintro e w' ⟨rfl, rfl⟩)
      refine bodyPost_ret (v := .tuple #[.slice A s.length cap, .agg #[.int .u8 3, .int .i32 0]]) (by unfold results; simp only [results51]; go_simp) rfl ?_
      refine TR.with_below (a := w) (B := w.heap.size) ?_ (fun hb => ⟨_, rfl, TR.SlT.mk hc1 HC.out (HR.out.below hb), hb⟩)
      repeat (first | exact Below.refl _ _ | assumption | refine Below.drew ?_ | refine Below.drewN ?_ _ | refine Below.setCell ?_ (by first | (simp; done) | (simp; omega) | omega) _ | refine Below.alloc ?_ (by first | (simp; done) | (simp; omega) | omega) _)
    · rw [show do4 m s ⟨1, ov⟩ = (s ++ [ov], ⟨1, 0⟩) from by simp [do4, hf]]
      have hd : decide (most m ≤ (s.length : Int)) = false := by simpa using hf
      go_enter func51, ntmps51
      go_wp2_with (first | (go_at_call 79; refine (most_any _ _).mono ?_; rintro e w' ⟨rfl, rfl⟩) | (at_builtin; refine TR.wpList_append_rd (s := .tmp 26) (x := .tmp 27) rfl rfl (e := 21) (size := 1) (bytes := 4) (by kernel_rfl) (World.ownsRow_nil _ (w.heap.size + 2) _ _) rfl rfl (TR.flat_length i32c_len s) (TR.RdL.flat i32c_len ((HR.out.below (by repeat (first | exact Below.refl _ _ | assumption | refine Below.drew ?_ | refine Below.drewN ?_ _ | refine Below.setCell ?_ (by first | (simp; done) | (simp; omega) | omega) _ | refine Below.alloc ?_ (by first | (simp; done) | (simp; omega) | omega) _))).rd)) (TR.one_flat i32c_one s) (Below.refl _ _) (by simp) (show Below w.heap.size w _ by repeat (first | exact Below.refl _ _ | assumption | refine Below.drew ?_ | refine Below.drewN ?_ _ | refine Below.setCell ?_ (by first | (simp; done) | (simp; omega) | omega) _ | refine Below.alloc ?_ (by first | (simp; done) | (simp; omega) | omega) _)) (by simp) (by simp only [maxLen]; omega) (by omega) ?_; intro v1 w1 hown1 hg1 hb1 he1; obtain ⟨hc1', hf1'⟩ := TR.bcell hb1; have HO1 := Lib.hid hown1; have HG1 := Lib.hid hg1; have HB1 := Lib.hid hb1; have HE1 := Lib.hid he1; clear hown1 hg1 hb1 he1; skip) | (at_builtin; refine TR.wpList_append_lit (s := .tmp 29) (x := .tmp 32) rfl rfl (e := _) (size := 1) (bytes := 4) (by kernel_rfl) (HO1.out.alloc _) rfl rfl (TR.alloc_at (by first | rfl | (simp; done) | (simp; omega) | omega)) rfl rfl (HB1.out.alloc (by have hq := HB1.out.size; simpa using hq) _) (by simp) (HE1.out.alloc HE1.out.size _) (by simp) (by simp only [maxLen]; omega) (by omega) ?_; intro v2 w2 hown2 hg2 hb2 he2; obtain ⟨hc2', hf2'⟩ := TR.bcell hb2; have HO2 := Lib.hid hown2; have HG2 := Lib.hid hg2; have HB2 := Lib.hid hb2; have HE2 := Lib.hid he2; clear hown2 hg2 hb2 he2; skip))
      refine bodyPost_ret (v := .tuple #[v2, .agg #[.int .u8 1, .int .i32 0]]) (by unfold results; simp only [results51]; go_simp) rfl ?_
      refine TR.with_below (a := w) (B := w.heap.size) ?_ (fun hb => ⟨_, rfl, ?_, hb⟩)
      · repeat (first | exact HE2.out | refine Below.drew ?_ | refine Below.drewN ?_ _ | refine Below.setCell ?_ (by first | (simp; done) | (simp; omega) | omega) _ | refine Below.alloc ?_ (by first | (simp; done) | (simp; omega) | omega) _)
      · refine TR.SlT.of_own i32c_len (n := 0 + s.length + 1) (by simp) (base := w.heap.size + 2) ?_
        have ho := HO2.out
        simp only [List.nil_append] at ho
        rw [TR.flatMap_snoc]
        repeat (first | exact ho | refine TR.own_drew ?_ | refine TR.own_set ?_ (by simp) _ | refine World.ownsRow.alloc ?_ _)
  · by_cases h2 : ok = 2
    · subst h2
      by_cases hf : s.length = 0
      · rw [show do4 m s ⟨2, ov⟩ = (s, ⟨4, 0⟩) from by simp [do4, hf]]
        have hs : s = [] := List.eq_nil_of_length_eq_zero hf
        subst hs
        clear h1 hf
        go_enter func51, ntmps51
        go_wp2_with (go_at_call 79; refine (most_any _ _).mono ?_; rintro e w' ⟨rfl, rfl⟩)
        refine bodyPost_ret (v := .tuple #[.slice A 0 cap, .agg #[.int .u8 4, .int .i32 0]]) (by unfold results; simp only [results51]; go_simp) rfl ?_
        refine TR.with_below (a := w) (B := w.heap.size) ?_ (fun hb => ⟨_, rfl, TR.SlT.mk hc1 HC.out (HR.out.below hb), hb⟩)
        repeat (first | exact Below.refl _ _ | assumption | refine Below.drew ?_ | refine Below.drewN ?_ _ | refine Below.setCell ?_ (by first | (simp; done) | (simp; omega) | omega) _ | refine Below.alloc ?_ (by first | (simp; done) | (simp; omega) | omega) _)
      · have hpos : 0 < s.length := by omega
        obtain ⟨x, hx⟩ : ∃ x, s[s.length - 1]? = some x := ⟨_, List.getElem?_eq_getElem (by omega)⟩
        rw [show do4 m s ⟨2, ov⟩ = (s.take (s.length - 1), ⟨2, x⟩) from by simp [do4, hf, hx]]
        obtain ⟨ad, rfl, hb, hcell⟩ := HR.out.rd.one hx rfl
        have HX := Lib.hid hx; clear hx
        have HK := Lib.hid (show ∀ W, Below w.heap.size w W → W.cell? (ad.add (s.length - 1)) = some (.int .i32 x) from fun W hW => (hW.cell (p := ad.add (s.length - 1)) (by rw [TR.block_add]; exact hb)).trans hcell)
        have hlt : (s.take (s.length - 1)).length = s.length - 1 := by simp
        have HLT := Lib.hid hlt; clear hlt h1 hf
        have hd : decide (0 < s.length) = true := by simpa using hpos
        generalize hn : s.length = n at *
        obtain ⟨k, rfl⟩ : ∃ k, n = k + 1 := ⟨n - 1, by omega⟩
        simp only [Nat.add_sub_cancel] at *
        have HN := Lib.hid hn; clear hn
        go_enter func51, ntmps51
        go_wp2_with (first | (go_at_call 79; refine (most_any _ _).mono ?_; rintro e w' ⟨rfl, rfl⟩) | (refine TR.wp_region_text (TR.cls_ok _) (by kernel_rfl) (by kernel_rfl) ?_; simp only [TR.withAsserts, TR.asserted, intT0, intT1, intT2, intT3, intT4, intT5, intT6, intT7, intT8, intT9, intT10, intT11, intT12, intT13, intT14, intT15, intT16, intT17, intT18, intT19, intT20, intT21, intT22, intT23, intT24, intT25, intT26, intT27, intT28, intT29, intT30, intT31, intT32, intT33, intT34, intT35, intT36, intT37, intT38, intT39, intT40, intT41, intT42, intT43, intT44, intT45, intT46, intT47, intT48, intT49, intT50, intT51, intT52, intT53, intT54, intT55, intT56, intT57, intT58, intT59, intT60, intT61, intT62, intT63, intT64, intT65, intT66, intT67, intT68, intT69, intT70, intT71, intT72, intT73, intT74, intT75, intT76, intT77, intT78, intT79, intT80, intT81, intT82, intT83, intT84, intT85, intT86, intT87, intT88, intT89, intT90, intT91, intT92, intT93, intT94, intT95, intT96, intT97, intT98, intT99, intT100, intT101, intT102, intT103, intT104, intT105, intT106, intT107, intT108, intT109, intT110, intT111, intT112, intT113, intT114, intT115, intT116, intT117, intT118, intT119, intT120, intT121, intT122, intT123, intT124, intT125, intT126, intT127, intT128, intT129, intT130, intT131, intT132, intT133, intT134, intT135, intT136, intT137, intT138, intT139, intT140, intT141, intT142, intT143, intT144, intT145, intT146, intT147, intT148, intT149, intT150, intT151, intT152, intT153, intT154, intT155, intT156, intT157, intT158, intT159, intT160, intT161, intT162, intT163, intT164, intT165, intT166, intT167, intT168, intT169, intT170, intT171, intT172, intT173, intT174, intT175, intT176, intT177, intT178, intT179, intT180, intT181, intT182, intT183, intT184, intT185, intT186, intT187, intT188, intT189, intT190, intT191, intT192, intT193, intT194, intT195, intT196, intT197, intT198, intT199, intT200, intT201, intT202, intT203, intT204, intT205, intT206, intT207, intT208, intT209, intT210, intT211, intT212, intT213, intT214, intT215, intT216, intT217, intT218, intT219, intT220, intT221, intT222, TR.isTmp, List.filter_cons, List.filter_nil, List.map_cons, List.map_nil, List.cons_append, List.nil_append, if_true, Bool.false_eq_true, if_false, Bool.and_self, Bool.and_false, Bool.false_and]) | (with_reducible refine TR.wpList_assert (by kernel_rfl) ?_) | (at_builtin; refine TR.wpList_append_rd (s := .tmp 45) (x := .tmp 50) rfl rfl (e := 21) (size := 1) (bytes := 4) (by kernel_rfl) (World.ownsRow_nil _ (w.heap.size + 2) _ _) rfl rfl (by rw [TR.flat_length i32c_len]; rw [HLT.out]) (TR.RdL.flat i32c_len (((HR.out.take k).below (by repeat (first | exact Below.refl _ _ | assumption | refine Below.drew ?_ | refine Below.drewN ?_ _ | refine Below.setCell ?_ (by first | (simp; done) | (simp; omega) | omega) _ | refine Below.alloc ?_ (by first | (simp; done) | (simp; omega) | omega) _))).rd)) (TR.one_flat i32c_one (s.take k)) (Below.refl _ _) (by simp) (show Below w.heap.size w _ by repeat (first | exact Below.refl _ _ | assumption | refine Below.drew ?_ | refine Below.drewN ?_ _ | refine Below.setCell ?_ (by first | (simp; done) | (simp; omega) | omega) _ | refine Below.alloc ?_ (by first | (simp; done) | (simp; omega) | omega) _)) (by simp) (by simp only [maxLen]; omega) (by omega) ?_; intro v1 w1 hown1 hg1 hb1 he1; obtain ⟨hc1', hf1'⟩ := TR.bcell hb1; have HO1 := Lib.hid hown1; have HG1 := Lib.hid hg1; have HB1 := Lib.hid hb1; have HE1 := Lib.hid he1; clear hown1 hg1 hb1 he1; have hcell1 := HK.out w1 HE1.out))
        refine bodyPost_ret (v := .tuple #[v1, .agg #[.int .u8 2, .int .i32 x]]) (by unfold results; simp only [results51]; go_simp) rfl ?_
        refine TR.with_below (a := w) (B := w.heap.size) ?_ (fun hb => ⟨_, rfl, ?_, hb⟩)
        · repeat (first | exact HE1.out | refine Below.drew ?_ | refine Below.drewN ?_ _ | refine Below.setCell ?_ (by first | (simp; done) | (simp; omega) | omega) _ | refine Below.alloc ?_ (by first | (simp; done) | (simp; omega) | omega) _)
        · refine TR.SlT.of_own i32c_len (n := 0 + k) (by rw [HLT.out]; simp) (base := w.heap.size + 2) ?_
          have ho := HO1.out
          simp only [List.nil_append] at ho
          repeat (first | exact ho | refine TR.own_drew ?_ | refine TR.own_set ?_ (by simp) _ | refine World.ownsRow.alloc ?_ _)
    · rw [show do4 m s ⟨ok, ov⟩ = (s, ⟨5, 0⟩) from by simp [do4, h1, h2]]
      have hd1 : (ok == 1) = false := by simpa using h1
      have hd2 : (ok == 2) = false := by simpa using h2
      go_enter func51, ntmps51
      go_wp2_with (go_at_call 79; refine (most_any _ _).mono ?_; rintro e w' ⟨rfl, rfl⟩)
      refine bodyPost_ret (v := .tuple #[.slice A s.length cap, .agg #[.int .u8 5, .int .i32 0]]) (by unfold results; simp only [results51]; go_simp) rfl ?_
      refine TR.with_below (a := w) (B := w.heap.size) ?_ (fun hb => ⟨_, rfl, TR.SlT.mk hc1 HC.out (HR.out.below hb), hb⟩)
      repeat (first | exact Below.refl _ _ | assumption | refine Below.drew ?_ | refine Below.drewN ?_ _ | refine Below.setCell ?_ (by first | (simp; done) | (simp; omega) | omega) _ | refine Below.alloc ?_ (by first | (simp; done) | (simp; omega) | omega) _)
end Go.Proofs.Try
