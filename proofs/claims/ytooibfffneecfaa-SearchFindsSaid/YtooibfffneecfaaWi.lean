import Derived.Test.YtooibfffneecfaaWf
import Derived.Test.YtooibfffneecfaaWh
import Derived.Test.YtooibfffneecfaaPlain2
import Derived.Test.YtooibfffneecfaaMem2
namespace Go.Proofs.Try
open Go.RowKit Go.Rp
set_option linter.unusedSimpArgs false
set_option maxRecDepth 100000

set_option maxHeartbeats 3200000 in
theorem fits20_any (object m : Int) (A : Option Addr) (cap : Nat) (l : List Sp) (A2 : Option Addr) (cap2 : Nat) (order : List Int) (w : World) (hl : l.length ≤ 100000) (hl2 : order.length ≤ 100000)
    (hr : TR.RdL w w.heap.size Sp.cs 8 A l) (hr2 : TR.RdL w w.heap.size i64c 1 A2 order) :
    Calls prog 30 #[.int .u8 object, .int .i64 m, .slice A l.length cap, .slice A2 order.length cap2] w (TR.BoolIff (Fit object m l order) w) := by
  have HR := Lib.hid hr; clear hr
  have HR2 := Lib.hid hr2; clear hr2
  go_enter func30, ntmps30
  go_wp2
  go_loopw [9, 10] (fun vo i wr => ∃ k : Nat, k ≤ order.length ∧ i = .int .i64 k ∧ wr.ownsRow w.heap.size 34 2 vo k (((order.take k).map (opAt l)).flatMap O.cs) ∧ Front l order k ∧ Below w.heap.size w wr) (fun _ i _ => order.length - (intOf i).toNat)
  case atStart => exact ⟨0, by omega, rfl, World.ownsRow_nil _ _ _ _, Front.zero l order, Below.refl _ _⟩
  case round =>
    obtain ⟨k, hk, rfl, hown, hfr, hbel⟩ := hrel
    obtain ⟨wo, rfl⟩ : ∃ wo : World, wo = wr := ⟨_, rfl⟩
    have HO := Lib.hid hown; have HF := Lib.hid hfr; have HB := Lib.hid hbel; clear hown hfr hbel
    by_cases hlt : k < order.length
    · obtain ⟨n, hn⟩ : ∃ n, order[k]? = some n := ⟨_, List.getElem?_eq_getElem hlt⟩
      obtain ⟨ad2, rfl, hb2, hcell⟩ := (HR2.out.below HB.out).one hn rfl
      have HN := Lib.hid hn; clear hn
      by_cases h0 : n < 0
      · have hd : decide (n < 0) = true := by simpa using h0
        go_wp2
        go_ret
        refine TR.BoolIff.no (fun h => ?_) HB.out
        have := (h.inr k n HN.out).1
        omega
      · have hd : decide (n < 0) = false := by simpa using h0
        by_cases h1 : (l.length : Int) ≤ n
        · have hd1 : decide ((l.length : Int) ≤ n) = true := by simpa using h1
          go_wp2
          go_ret
          refine TR.BoolIff.no (fun h => ?_) HB.out
          have := (h.inr k n HN.out).2
          omega
        · have hd1 : decide ((l.length : Int) ≤ n) = false := by simpa using h1
          by_cases hp : place order n < k
          · have hd2 : decide (place order n < (k : Int)) = true := by simpa using hp
            go_wp2_with (first | (go_at_call 54; refine (place_any _ cap2 order _ _ (by simp only [maxLen]; omega) ((HR2.out.below HB.out).mono HB.out.size)).mono ?_; rintro e w' ⟨rfl, rfl⟩))
            go_ret
            refine TR.BoolIff.no (fun h => ?_) HB.out
            obtain ⟨j, hj, hjn⟩ := (place_lt HN.out).1 hp
            exact h.once j k n hj hjn HN.out
          · have hd2 : decide (place order n < (k : Int)) = false := by simpa using hp
            obtain ⟨y, hy⟩ : ∃ y, l[n.toNat]? = some y := ⟨_, List.getElem?_eq_getElem (by omega)⟩
            go_wp2_with (first | (go_at_call 54; refine (place_any _ cap2 order _ _ (by simp only [maxLen]; omega) ((HR2.out.below HB.out).mono HB.out.size)).mono ?_; rintro e w' ⟨rfl, rfl⟩))
            go_loopw [12] (fun i wj => ∃ j : Nat, j ≤ k ∧ i = .int .i64 j ∧ (∀ (t : Nat) a x, t < j → order[t]? = some a → l[a.toNat]? = some x → before y x = false) ∧ Below wo.heap.size wo wj) (fun i _ => k - (intOf i).toNat)
            case atStart => exact ⟨0, by omega, rfl, fun t a x h => by omega, Below.refl _ _⟩
            case round =>
              obtain ⟨j, hj, rfl, hbf, hbw⟩ := hrel
              have HBF := Lib.hid hbf; have HBW := Lib.hid hbw; clear hbf hbw
              by_cases hjk : j < k
              · obtain ⟨a, ha⟩ : ∃ a, order[j]? = some a := ⟨_, List.getElem?_eq_getElem (by omega)⟩
                have hain := HF.out.inr j a hjk ha
                obtain ⟨x, hx⟩ : ∃ x, l[a.toNat]? = some x := ⟨_, List.getElem?_eq_getElem (by omega)⟩
                obtain ⟨ad3, he3, hb3, hcelln⟩ := ((HR2.out.below HB.out).below (HBW.out.mono HB.out.size)).one HN.out rfl
                cases he3
                obtain ⟨ad3, he3, hb4, hcella⟩ := ((HR2.out.below HB.out).below (HBW.out.mono HB.out.size)).one ha rfl
                cases he3
                obtain ⟨ad, rfl, hb5, hc0, hc⟩ := ((HR.out.below HB.out).below (HBW.out.mono HB.out.size)).cells hx
                have hcell0 := hc0 _ rfl; have hcell1 := hc 1 _ (by decide) rfl; have hcell2 := hc 2 _ (by decide) rfl; have hcell3 := hc 3 _ (by decide) rfl; have hcell4 := hc 4 _ (by decide) rfl; have hcell5 := hc 5 _ (by decide) rfl; have hcell6 := hc 6 _ (by decide) rfl; have hcell7 := hc 7 _ (by decide) rfl
                clear hc0 hc
                obtain ⟨ad', he, hb6, hc0, hc⟩ := ((HR.out.below HB.out).below (HBW.out.mono HB.out.size)).cells hy
                cases he
                have hd0 := hc0 _ rfl
                have hd1' := hc 1 _ (by decide) rfl
                have hd2' := hc 2 _ (by decide) rfl
                have hd3 := hc 3 _ (by decide) rfl
                have hd4 := hc 4 _ (by decide) rfl
                have hd5 := hc 5 _ (by decide) rfl
                have hd6 := hc 6 _ (by decide) rfl
                have hd7 := hc 7 _ (by decide) rfl
                have HA := Lib.hid ha; have HX := Lib.hid hx; have HY := Lib.hid hy; clear ha hx hy hc0 hc
                have H19 := Lib.hid (fun W => before19_any y x W)
                by_cases hbe : before y x = true
                · have hbe' := Lib.hid hbe; clear hbe
                  obtain ⟨y1, y2, ⟨y3, y4⟩, ⟨y5, y6⟩, y7, y8⟩ := y
                  obtain ⟨x1, x2, ⟨x3, x4⟩, ⟨x5, x6⟩, x7, x8⟩ := x
                  simp only [Sp.cs] at *
                  go_wp2_with (first | (refine TR.wp_region_text (TR.cls_ok _) (by kernel_rfl) (by kernel_rfl) ?_; simp only [TR.withAsserts, TR.asserted, intT0, intT1, intT2, intT3, intT4, intT5, intT6, intT7, intT8, intT9, intT10, intT11, intT12, intT13, intT14, intT15, intT16, intT17, intT18, intT19, intT20, intT21, intT22, intT23, intT24, intT25, intT26, intT27, intT28, intT29, intT30, intT31, intT32, intT33, intT34, intT35, intT36, intT37, intT38, intT39, intT40, intT41, intT42, intT43, intT44, intT45, intT46, intT47, intT48, intT49, intT50, intT51, intT52, intT53, intT54, intT55, intT56, intT57, intT58, intT59, intT60, intT61, intT62, intT63, intT64, intT65, intT66, intT67, intT68, intT69, intT70, intT71, intT72, intT73, intT74, intT75, intT76, intT77, intT78, intT79, intT80, intT81, intT82, intT83, intT84, intT85, intT86, intT87, intT88, intT89, intT90, intT91, intT92, intT93, intT94, intT95, intT96, intT97, intT98, intT99, intT100, intT101, intT102, intT103, intT104, intT105, intT106, intT107, intT108, intT109, intT110, intT111, intT112, intT113, intT114, intT115, intT116, intT117, intT118, intT119, intT120, intT121, intT122, intT123, intT124, intT125, intT126, intT127, intT128, intT129, intT130, intT131, intT132, intT133, intT134, intT135, intT136, intT137, intT138, intT139, intT140, intT141, intT142, intT143, intT144, intT145, intT146, intT147, intT148, intT149, intT150, intT151, intT152, intT153, intT154, intT155, intT156, intT157, intT158, intT159, intT160, intT161, intT162, intT163, intT164, intT165, intT166, intT167, intT168, intT169, intT170, intT171, intT172, intT173, intT174, intT175, intT176, intT177, intT178, intT179, intT180, intT181, intT182, intT183, intT184, intT185, intT186, intT187, intT188, intT189, intT190, intT191, intT192, intT193, intT194, intT195, intT196, intT197, intT198, intT199, intT200, intT201, intT202, intT203, intT204, intT205, intT206, intT207, intT208, intT209, intT210, intT211, intT212, intT213, intT214, intT215, intT216, intT217, intT218, intT219, intT220, intT221, intT222, TR.isTmp, List.filter_cons, List.filter_nil, List.map_cons, List.map_nil, List.cons_append, List.nil_append, if_true, Bool.false_eq_true, if_false, Bool.and_self, Bool.and_false, Bool.false_and]) | (with_reducible refine TR.wpList_assert (by kernel_rfl) ?_) | (go_at_call 55; refine (H19.out _).mono ?_; rintro e w2 ⟨rfl, hb2⟩; rw [hbe'.out]))
                  go_ret
                  refine TR.BoolIff.no (fun h => ?_) ((HB.out.trans (HBW.out.mono HB.out.size)).trans (Below.trans (show Below w.heap.size wr _ by repeat (first | exact Below.refl _ _ | assumption | refine Below.drew ?_ | refine Below.drewN ?_ _ | refine Below.setCell ?_ (by first | (simp; done) | (simp; omega) | omega) _ | refine Below.alloc ?_ (by first | (simp; done) | (simp; omega) | omega) _)) (hb2.mono (Nat.le_trans HB.out.size HBW.out.size))))
                  have := h.ahead j k a n _ _ hjk HA.out HN.out HX.out HY.out
                  rw [hbe'.out] at this
                  cases this
                · have hbe' := Lib.hid (show before y x = false by simpa using hbe); clear hbe
                  have HT := Lib.hid (show ∀ (t : Nat) b z, t < j + 1 → order[t]? = some b → l[b.toNat]? = some z → before y z = false from fun t b z ht hb hz => by
                    rcases Nat.lt_or_ge t j with hlt' | hge
                    · exact HBF.out t b z hlt' hb hz
                    · obtain rfl : t = j := by omega
                      rw [HA.out] at hb; cases hb
                      rw [HX.out] at hz; cases hz
                      exact hbe'.out)
                  obtain ⟨y1, y2, ⟨y3, y4⟩, ⟨y5, y6⟩, y7, y8⟩ := y
                  obtain ⟨x1, x2, ⟨x3, x4⟩, ⟨x5, x6⟩, x7, x8⟩ := x
                  simp only [Sp.cs] at *
                  go_wp2_with (first | (refine TR.wp_region_text (TR.cls_ok _) (by kernel_rfl) (by kernel_rfl) ?_; simp only [TR.withAsserts, TR.asserted, intT0, intT1, intT2, intT3, intT4, intT5, intT6, intT7, intT8, intT9, intT10, intT11, intT12, intT13, intT14, intT15, intT16, intT17, intT18, intT19, intT20, intT21, intT22, intT23, intT24, intT25, intT26, intT27, intT28, intT29, intT30, intT31, intT32, intT33, intT34, intT35, intT36, intT37, intT38, intT39, intT40, intT41, intT42, intT43, intT44, intT45, intT46, intT47, intT48, intT49, intT50, intT51, intT52, intT53, intT54, intT55, intT56, intT57, intT58, intT59, intT60, intT61, intT62, intT63, intT64, intT65, intT66, intT67, intT68, intT69, intT70, intT71, intT72, intT73, intT74, intT75, intT76, intT77, intT78, intT79, intT80, intT81, intT82, intT83, intT84, intT85, intT86, intT87, intT88, intT89, intT90, intT91, intT92, intT93, intT94, intT95, intT96, intT97, intT98, intT99, intT100, intT101, intT102, intT103, intT104, intT105, intT106, intT107, intT108, intT109, intT110, intT111, intT112, intT113, intT114, intT115, intT116, intT117, intT118, intT119, intT120, intT121, intT122, intT123, intT124, intT125, intT126, intT127, intT128, intT129, intT130, intT131, intT132, intT133, intT134, intT135, intT136, intT137, intT138, intT139, intT140, intT141, intT142, intT143, intT144, intT145, intT146, intT147, intT148, intT149, intT150, intT151, intT152, intT153, intT154, intT155, intT156, intT157, intT158, intT159, intT160, intT161, intT162, intT163, intT164, intT165, intT166, intT167, intT168, intT169, intT170, intT171, intT172, intT173, intT174, intT175, intT176, intT177, intT178, intT179, intT180, intT181, intT182, intT183, intT184, intT185, intT186, intT187, intT188, intT189, intT190, intT191, intT192, intT193, intT194, intT195, intT196, intT197, intT198, intT199, intT200, intT201, intT202, intT203, intT204, intT205, intT206, intT207, intT208, intT209, intT210, intT211, intT212, intT213, intT214, intT215, intT216, intT217, intT218, intT219, intT220, intT221, intT222, TR.isTmp, List.filter_cons, List.filter_nil, List.map_cons, List.map_nil, List.cons_append, List.nil_append, if_true, Bool.false_eq_true, if_false, Bool.and_self, Bool.and_false, Bool.false_and]) | (with_reducible refine TR.wpList_assert (by kernel_rfl) ?_) | (go_at_call 55; refine (H19.out _).mono ?_; rintro e w2 ⟨rfl, hb2⟩; rw [hbe'.out]))
                  go_roundw
                  case rel => exact ⟨j + 1, by omega, by go_num, HT.out, HBW.out.trans (Below.trans (show Below wo.heap.size wr _ by repeat (first | exact Below.refl _ _ | assumption | refine Below.drew ?_ | refine Below.drewN ?_ _ | refine Below.setCell ?_ (by first | (simp; done) | (simp; omega) | omega) _ | refine Below.alloc ?_ (by first | (simp; done) | (simp; omega) | omega) _)) (hb2.mono HBW.out.size))⟩
                  case measure => simp [intOf]; omega
              · have HFK := Lib.hid (HF.out.succ HN.out (by omega) (by omega) (by omega) hy (fun t a x ht ha hx => HBF.out t a x (by omega) ha hx))
                obtain ⟨ad, rfl, hb5, hc0, hc⟩ := ((HR.out.below HB.out).below (HBW.out.mono HB.out.size)).cells hy
                obtain ⟨ad3, he3, hb3, hcelln⟩ := ((HR2.out.below HB.out).below (HBW.out.mono HB.out.size)).one HN.out rfl
                cases he3
                have hd2' := hc 2 _ (by decide) rfl
                have hd3 := hc 3 _ (by decide) rfl
                have HY := Lib.hid hy; clear hy hc0 hc
                have hop := Lib.hid (show opAt l n = y.op by unfold opAt; rw [List.getD_eq_getElem?_getD, HY.out]; rfl)
                have HBO := Lib.hid (HB.out.trans (HBW.out.mono HB.out.size))
                go_wp2_with (first | (refine TR.wp_region_text (TR.cls_ok _) (by kernel_rfl) (by kernel_rfl) ?_; simp only [TR.withAsserts, TR.asserted, intT0, intT1, intT2, intT3, intT4, intT5, intT6, intT7, intT8, intT9, intT10, intT11, intT12, intT13, intT14, intT15, intT16, intT17, intT18, intT19, intT20, intT21, intT22, intT23, intT24, intT25, intT26, intT27, intT28, intT29, intT30, intT31, intT32, intT33, intT34, intT35, intT36, intT37, intT38, intT39, intT40, intT41, intT42, intT43, intT44, intT45, intT46, intT47, intT48, intT49, intT50, intT51, intT52, intT53, intT54, intT55, intT56, intT57, intT58, intT59, intT60, intT61, intT62, intT63, intT64, intT65, intT66, intT67, intT68, intT69, intT70, intT71, intT72, intT73, intT74, intT75, intT76, intT77, intT78, intT79, intT80, intT81, intT82, intT83, intT84, intT85, intT86, intT87, intT88, intT89, intT90, intT91, intT92, intT93, intT94, intT95, intT96, intT97, intT98, intT99, intT100, intT101, intT102, intT103, intT104, intT105, intT106, intT107, intT108, intT109, intT110, intT111, intT112, intT113, intT114, intT115, intT116, intT117, intT118, intT119, intT120, intT121, intT122, intT123, intT124, intT125, intT126, intT127, intT128, intT129, intT130, intT131, intT132, intT133, intT134, intT135, intT136, intT137, intT138, intT139, intT140, intT141, intT142, intT143, intT144, intT145, intT146, intT147, intT148, intT149, intT150, intT151, intT152, intT153, intT154, intT155, intT156, intT157, intT158, intT159, intT160, intT161, intT162, intT163, intT164, intT165, intT166, intT167, intT168, intT169, intT170, intT171, intT172, intT173, intT174, intT175, intT176, intT177, intT178, intT179, intT180, intT181, intT182, intT183, intT184, intT185, intT186, intT187, intT188, intT189, intT190, intT191, intT192, intT193, intT194, intT195, intT196, intT197, intT198, intT199, intT200, intT201, intT202, intT203, intT204, intT205, intT206, intT207, intT208, intT209, intT210, intT211, intT212, intT213, intT214, intT215, intT216, intT217, intT218, intT219, intT220, intT221, intT222, TR.isTmp, List.filter_cons, List.filter_nil, List.map_cons, List.map_nil, List.cons_append, List.nil_append, if_true, Bool.false_eq_true, if_false, Bool.and_self, Bool.and_false, Bool.false_and]) | (with_reducible refine TR.wpList_assert (by kernel_rfl) ?_) | (at_builtin; refine TR.wpList_append_lit (s := .tmp 59) (x := .tmp 65) rfl rfl (e := _) (size := 2) (bytes := 8) (by kernel_rfl) ((TR.own_below HO.out HBW.out).alloc _) rfl rfl (TR.alloc_at (by first | rfl | (simp; done) | (simp; omega) | omega)) rfl rfl (HBO.out.alloc HBO.out.size _) (Nat.le_refl _) (HBO.out.alloc HBO.out.size _) (Nat.le_refl _) (by simp only [maxLen]; omega) (by omega) ?_; intro v1 w1 hown1 hg1 hb1 he1; obtain ⟨hc1', hf1'⟩ := TR.bcell hb1; have HO1 := Lib.hid hown1; have HG1 := Lib.hid hg1; have HB1 := Lib.hid hb1; have HE1 := Lib.hid he1; clear hown1 hg1 hb1 he1; skip))
                go_roundw
                case rel =>
                  refine ⟨k + 1, by omega, by go_num, ?_, HFK.out, HB1.out⟩
                  rw [List.take_add_one, HN.out]
                  show w1.ownsRow _ _ _ _ _ (((order.take k ++ [n]).map (opAt l)).flatMap O.cs)
                  rw [List.map_append, List.map_cons, List.map_nil, TR.flatMap_snoc, hop.out]
                  exact HO1.out
                case measure => simp [intOf]; omega
    · obtain rfl : k = order.length := by omega
      rw [List.take_length] at *
      generalize hos : order.map (opAt l) = os at HO
      have hosl : os.length = order.length := by rw [← hos]; simp
      obtain ⟨A3, cap3, rfl, hc3, hc4, hr3⟩ := TR.SlT.of_own (B := 0) O.cs_len hosl.symm HO.out
      have HOS := Lib.hid hos; have HOSL := Lib.hid hosl; have HC4 := Lib.hid hc4; have HR3 := Lib.hid hr3; clear hos hc4 hr3
      have hosl' : os.length ≤ 100000 := by omega
      clear hosl HO
      go_wp2_with (first | (at_builtin; generalize hK : wpList prog = K at *))
      go_loopw [13] (fun i wj => ∃ j : Nat, j ≤ l.length ∧ i = .int .i64 j ∧ (∀ (t : Nat) s, t < j → l[t]? = some s → 0 ≤ s.to → (t : Int) ∈ order) ∧ wj = wo) (fun i _ => l.length - (intOf i).toNat)
      case atStart => exact ⟨0, by omega, rfl, fun t s h => by omega, rfl⟩
      case round =>
        obtain ⟨j, hj, rfl, hwh, rfl⟩ := hrel
        have HWH := Lib.hid hwh; clear hwh
        by_cases hjl : j < l.length
        · obtain ⟨x, hx⟩ : ∃ x, l[j]? = some x := ⟨_, List.getElem?_eq_getElem hjl⟩
          obtain ⟨ad, rfl, hb5, hc0, hc⟩ := (HR.out.below HB.out).cells hx
          have hd7 := hc 7 _ (by decide) rfl
          have HX := Lib.hid hx; clear hx hc0 hc
          by_cases hto : 0 ≤ x.to
          · have hd : decide (0 ≤ x.to) = true := by simpa using hto
            by_cases hp : place order j < 0
            · have hd2 : decide (place order j < 0) = true := by simpa using hp
              go_wp2_with (first | (go_at_call 54; refine (place_any _ cap2 order _ _ (by simp only [maxLen]; omega) ((HR2.out.below HB.out).mono HB.out.size)).mono ?_; rintro e w' ⟨rfl, rfl⟩))
              go_ret
              refine TR.BoolIff.no (fun h => ?_) HB.out
              exact (place_neg order j).1 hp (h.whole j x HX.out hto)
            · have hd2 : decide (place order j < 0) = false := by simpa using hp
              have HT := Lib.hid (show ∀ (t : Nat) s, t < j + 1 → l[t]? = some s → 0 ≤ s.to → (t : Int) ∈ order from fun t s ht hs h0 => by
                rcases Nat.lt_or_ge t j with hlt' | hge
                · exact HWH.out t s hlt' hs h0
                · obtain rfl : t = j := by omega
                  have := mt (place_neg order t).2 hp
                  simpa using this)
              go_wp2_with (first | (go_at_call 54; refine (place_any _ cap2 order _ _ (by simp only [maxLen]; omega) ((HR2.out.below HB.out).mono HB.out.size)).mono ?_; rintro e w' ⟨rfl, rfl⟩))
              go_roundw
              case rel => exact ⟨j + 1, by omega, by go_num, HT.out, trivial⟩
              case measure => simp [intOf]; omega
          · have hd : decide (0 ≤ x.to) = false := by simpa using hto
            have HT := Lib.hid (show ∀ (t : Nat) s, t < j + 1 → l[t]? = some s → 0 ≤ s.to → (t : Int) ∈ order from fun t s ht hs h0 => by
              rcases Nat.lt_or_ge t j with hlt' | hge
              · exact HWH.out t s hlt' hs h0
              · obtain rfl : t = j := by omega
                rw [HX.out] at hs; cases hs
                exact absurd h0 hto)
            go_wp2_with (first | (go_at_call 54; refine (place_any _ cap2 order _ _ (by simp only [maxLen]; omega) ((HR2.out.below HB.out).mono HB.out.size)).mono ?_; rintro e w' ⟨rfl, rfl⟩))
            go_roundw
            case rel => exact ⟨j + 1, by omega, by go_num, HT.out, trivial⟩
            case measure => simp [intOf]; omega
        · obtain rfl : j = l.length := by omega
          have hrl := (run_len object m os []).2
          have HRL := Lib.hid hrl; clear hrl
          go_wp2_with (first | (go_at_call 56; refine (run_any object m none 0 [] A3 cap3 os _ 0 (by simp; omega) (by simp) (by simp) (Nat.zero_le _) TR.RdT.nil (HR3.out.rd)).mono ?_; rintro e w4 ⟨v1, v2, rfl, hs1, hown2, hb4⟩; obtain ⟨A5, cap5, rfl, hc5, hc6, hr5⟩ := TR.SlT.of_own (B := 0) R.cs_len HRL.out.symm hown2; have HR5 := Lib.hid hr5; have HB4 := Lib.hid hb4; clear hs1 hown2 hb4 hr5 hc6 hc5))
          go_loopw [16] (fun i wj => ∃ j : Nat, j ≤ order.length ∧ i = .int .i64 j ∧ (∀ (t : Nat) n s, t < j → order[t]? = some n → l[n.toNat]? = some s → 0 ≤ s.to → (run object m [] os).2[t]? = some s.res) ∧ ∃ n, wj = w4.drewN n) (fun i _ => order.length - (intOf i).toNat)
          case atStart => exact ⟨0, by omega, rfl, fun t n s h => by omega, 0, rfl⟩
          case round =>
            obtain ⟨j, hj, rfl, htd, nd, rfl⟩ := hrel
            have HTD := Lib.hid htd; clear htd
            have hosl := HOSL.out
            by_cases hjl : j < order.length
            · obtain ⟨n, hn⟩ : ∃ n, order[j]? = some n := ⟨_, List.getElem?_eq_getElem hjl⟩
              have hin := HF.out.inr j n hjl hn
              obtain ⟨y, hy⟩ : ∃ y, l[n.toNat]? = some y := ⟨_, List.getElem?_eq_getElem (by omega)⟩
              obtain ⟨r, hr⟩ : ∃ r, (run object m [] os).2[j]? = some r := ⟨_, List.getElem?_eq_getElem (by rw [HRL.out]; omega)⟩
              have HBW := Lib.hid (HB.out.trans (HB4.out.mono HB.out.size))
              obtain ⟨ad, rfl, hb5, hc0, hc⟩ := (HR.out.below HBW.out).cells hy
              have hcell0 := hc0 _ rfl; have hcell1 := hc 1 _ (by decide) rfl; have hcell2 := hc 2 _ (by decide) rfl; have hcell3 := hc 3 _ (by decide) rfl; have hcell4 := hc 4 _ (by decide) rfl; have hcell5 := hc 5 _ (by decide) rfl; have hcell6 := hc 6 _ (by decide) rfl; have hcell7 := hc 7 _ (by decide) rfl
              clear hc0 hc
              obtain ⟨ad2, rfl, hb6, hcelln⟩ := (HR2.out.below HBW.out).one hn rfl
              obtain ⟨ad5, rfl, hb7, hc0, hc⟩ := HR5.out.rd.cells hr
              have he0 := hc0 _ rfl
              have he1 := hc 1 _ (by decide) rfl
              have HN := Lib.hid hn; have HY := Lib.hid hy; have HRR := Lib.hid hr; clear hn hy hr hc0 hc
              have hjr : j < (run object m [] os).2.length := by rw [HRL.out]; omega
              clear hosl
              have HBX := Lib.hid (show Below w.heap.size w (w4.drewN nd) from HBW.out.drewN _)
              by_cases hto : 0 ≤ y.to
              · have hd : decide (0 ≤ y.to) = true := by simpa using hto
                obtain ⟨rc, rv⟩ := r
                by_cases hrc : rc = y.res.c
                · subst hrc
                  by_cases hrv : rv = y.res.v
                  · subst hrv
                    have HT := Lib.hid (show ∀ (t : Nat) n s, t < j + 1 → order[t]? = some n → l[n.toNat]? = some s → 0 ≤ s.to → (run object m [] os).2[t]? = some s.res from fun t n' s ht hn hs h0 => by
                      rcases Nat.lt_or_ge t j with hlt' | hge
                      · exact HTD.out t n' s hlt' hn hs h0
                      · obtain rfl : t = j := by omega
                        rw [HN.out] at hn; cases hn
                        rw [HY.out] at hs; cases hs
                        exact HRR.out)
                    go_wp2_with (first | (refine TR.wp_region_text (TR.cls_ok _) (by kernel_rfl) (by kernel_rfl) ?_; simp only [TR.withAsserts, TR.asserted, intT0, intT1, intT2, intT3, intT4, intT5, intT6, intT7, intT8, intT9, intT10, intT11, intT12, intT13, intT14, intT15, intT16, intT17, intT18, intT19, intT20, intT21, intT22, intT23, intT24, intT25, intT26, intT27, intT28, intT29, intT30, intT31, intT32, intT33, intT34, intT35, intT36, intT37, intT38, intT39, intT40, intT41, intT42, intT43, intT44, intT45, intT46, intT47, intT48, intT49, intT50, intT51, intT52, intT53, intT54, intT55, intT56, intT57, intT58, intT59, intT60, intT61, intT62, intT63, intT64, intT65, intT66, intT67, intT68, intT69, intT70, intT71, intT72, intT73, intT74, intT75, intT76, intT77, intT78, intT79, intT80, intT81, intT82, intT83, intT84, intT85, intT86, intT87, intT88, intT89, intT90, intT91, intT92, intT93, intT94, intT95, intT96, intT97, intT98, intT99, intT100, intT101, intT102, intT103, intT104, intT105, intT106, intT107, intT108, intT109, intT110, intT111, intT112, intT113, intT114, intT115, intT116, intT117, intT118, intT119, intT120, intT121, intT122, intT123, intT124, intT125, intT126, intT127, intT128, intT129, intT130, intT131, intT132, intT133, intT134, intT135, intT136, intT137, intT138, intT139, intT140, intT141, intT142, intT143, intT144, intT145, intT146, intT147, intT148, intT149, intT150, intT151, intT152, intT153, intT154, intT155, intT156, intT157, intT158, intT159, intT160, intT161, intT162, intT163, intT164, intT165, intT166, intT167, intT168, intT169, intT170, intT171, intT172, intT173, intT174, intT175, intT176, intT177, intT178, intT179, intT180, intT181, intT182, intT183, intT184, intT185, intT186, intT187, intT188, intT189, intT190, intT191, intT192, intT193, intT194, intT195, intT196, intT197, intT198, intT199, intT200, intT201, intT202, intT203, intT204, intT205, intT206, intT207, intT208, intT209, intT210, intT211, intT212, intT213, intT214, intT215, intT216, intT217, intT218, intT219, intT220, intT221, intT222, TR.isTmp, List.filter_cons, List.filter_nil, List.map_cons, List.map_nil, List.cons_append, List.nil_append, if_true, Bool.false_eq_true, if_false, Bool.and_self, Bool.and_false, Bool.false_and]) | (with_reducible refine TR.wpList_assert (by kernel_rfl) ?_))
                    go_roundw
                    case rel => exact ⟨j + 1, by omega, by go_num, HT.out, nd + 1, rfl⟩
                    case measure => simp [intOf]; omega
                  · have hdv : (rv == y.res.v) = false := by simpa using hrv
                    have HV := Lib.hid hrv; clear hrv
                    go_wp2_with (first | (refine TR.wp_region_text (TR.cls_ok _) (by kernel_rfl) (by kernel_rfl) ?_; simp only [TR.withAsserts, TR.asserted, intT0, intT1, intT2, intT3, intT4, intT5, intT6, intT7, intT8, intT9, intT10, intT11, intT12, intT13, intT14, intT15, intT16, intT17, intT18, intT19, intT20, intT21, intT22, intT23, intT24, intT25, intT26, intT27, intT28, intT29, intT30, intT31, intT32, intT33, intT34, intT35, intT36, intT37, intT38, intT39, intT40, intT41, intT42, intT43, intT44, intT45, intT46, intT47, intT48, intT49, intT50, intT51, intT52, intT53, intT54, intT55, intT56, intT57, intT58, intT59, intT60, intT61, intT62, intT63, intT64, intT65, intT66, intT67, intT68, intT69, intT70, intT71, intT72, intT73, intT74, intT75, intT76, intT77, intT78, intT79, intT80, intT81, intT82, intT83, intT84, intT85, intT86, intT87, intT88, intT89, intT90, intT91, intT92, intT93, intT94, intT95, intT96, intT97, intT98, intT99, intT100, intT101, intT102, intT103, intT104, intT105, intT106, intT107, intT108, intT109, intT110, intT111, intT112, intT113, intT114, intT115, intT116, intT117, intT118, intT119, intT120, intT121, intT122, intT123, intT124, intT125, intT126, intT127, intT128, intT129, intT130, intT131, intT132, intT133, intT134, intT135, intT136, intT137, intT138, intT139, intT140, intT141, intT142, intT143, intT144, intT145, intT146, intT147, intT148, intT149, intT150, intT151, intT152, intT153, intT154, intT155, intT156, intT157, intT158, intT159, intT160, intT161, intT162, intT163, intT164, intT165, intT166, intT167, intT168, intT169, intT170, intT171, intT172, intT173, intT174, intT175, intT176, intT177, intT178, intT179, intT180, intT181, intT182, intT183, intT184, intT185, intT186, intT187, intT188, intT189, intT190, intT191, intT192, intT193, intT194, intT195, intT196, intT197, intT198, intT199, intT200, intT201, intT202, intT203, intT204, intT205, intT206, intT207, intT208, intT209, intT210, intT211, intT212, intT213, intT214, intT215, intT216, intT217, intT218, intT219, intT220, intT221, intT222, TR.isTmp, List.filter_cons, List.filter_nil, List.map_cons, List.map_nil, List.cons_append, List.nil_append, if_true, Bool.false_eq_true, if_false, Bool.and_self, Bool.and_false, Bool.false_and]) | (with_reducible refine TR.wpList_assert (by kernel_rfl) ?_))
                    go_ret
                    refine TR.BoolIff.no (fun h => ?_) (HBW.out.drewN _)
                    have := h.told j n y HN.out HY.out hto
                    unfold toldOf at this
                    rw [HOS.out, HRR.out] at this
                    injection this with this
                    exact HV.out (by rw [← this])
                · have hdc : (rc == y.res.c) = false := by simpa using hrc
                  have HC := Lib.hid hrc; clear hrc
                  go_wp2_with (first | (refine TR.wp_region_text (TR.cls_ok _) (by kernel_rfl) (by kernel_rfl) ?_; simp only [TR.withAsserts, TR.asserted, intT0, intT1, intT2, intT3, intT4, intT5, intT6, intT7, intT8, intT9, intT10, intT11, intT12, intT13, intT14, intT15, intT16, intT17, intT18, intT19, intT20, intT21, intT22, intT23, intT24, intT25, intT26, intT27, intT28, intT29, intT30, intT31, intT32, intT33, intT34, intT35, intT36, intT37, intT38, intT39, intT40, intT41, intT42, intT43, intT44, intT45, intT46, intT47, intT48, intT49, intT50, intT51, intT52, intT53, intT54, intT55, intT56, intT57, intT58, intT59, intT60, intT61, intT62, intT63, intT64, intT65, intT66, intT67, intT68, intT69, intT70, intT71, intT72, intT73, intT74, intT75, intT76, intT77, intT78, intT79, intT80, intT81, intT82, intT83, intT84, intT85, intT86, intT87, intT88, intT89, intT90, intT91, intT92, intT93, intT94, intT95, intT96, intT97, intT98, intT99, intT100, intT101, intT102, intT103, intT104, intT105, intT106, intT107, intT108, intT109, intT110, intT111, intT112, intT113, intT114, intT115, intT116, intT117, intT118, intT119, intT120, intT121, intT122, intT123, intT124, intT125, intT126, intT127, intT128, intT129, intT130, intT131, intT132, intT133, intT134, intT135, intT136, intT137, intT138, intT139, intT140, intT141, intT142, intT143, intT144, intT145, intT146, intT147, intT148, intT149, intT150, intT151, intT152, intT153, intT154, intT155, intT156, intT157, intT158, intT159, intT160, intT161, intT162, intT163, intT164, intT165, intT166, intT167, intT168, intT169, intT170, intT171, intT172, intT173, intT174, intT175, intT176, intT177, intT178, intT179, intT180, intT181, intT182, intT183, intT184, intT185, intT186, intT187, intT188, intT189, intT190, intT191, intT192, intT193, intT194, intT195, intT196, intT197, intT198, intT199, intT200, intT201, intT202, intT203, intT204, intT205, intT206, intT207, intT208, intT209, intT210, intT211, intT212, intT213, intT214, intT215, intT216, intT217, intT218, intT219, intT220, intT221, intT222, TR.isTmp, List.filter_cons, List.filter_nil, List.map_cons, List.map_nil, List.cons_append, List.nil_append, if_true, Bool.false_eq_true, if_false, Bool.and_self, Bool.and_false, Bool.false_and]) | (with_reducible refine TR.wpList_assert (by kernel_rfl) ?_))
                  go_ret
                  refine TR.BoolIff.no (fun h => ?_) (HBW.out.drewN _)
                  have := h.told j n y HN.out HY.out hto
                  unfold toldOf at this
                  rw [HOS.out, HRR.out] at this
                  injection this with this
                  exact HC.out (by rw [← this])
              · have hd : decide (0 ≤ y.to) = false := by simpa using hto
                have HT := Lib.hid (show ∀ (t : Nat) n s, t < j + 1 → order[t]? = some n → l[n.toNat]? = some s → 0 ≤ s.to → (run object m [] os).2[t]? = some s.res from fun t n' s ht hn hs h0 => by
                  rcases Nat.lt_or_ge t j with hlt' | hge
                  · exact HTD.out t n' s hlt' hn hs h0
                  · obtain rfl : t = j := by omega
                    rw [HN.out] at hn; cases hn
                    rw [HY.out] at hs; cases hs
                    exact absurd h0 hto)
                go_wp2_with (first | (refine TR.wp_region_text (TR.cls_ok _) (by kernel_rfl) (by kernel_rfl) ?_; simp only [TR.withAsserts, TR.asserted, intT0, intT1, intT2, intT3, intT4, intT5, intT6, intT7, intT8, intT9, intT10, intT11, intT12, intT13, intT14, intT15, intT16, intT17, intT18, intT19, intT20, intT21, intT22, intT23, intT24, intT25, intT26, intT27, intT28, intT29, intT30, intT31, intT32, intT33, intT34, intT35, intT36, intT37, intT38, intT39, intT40, intT41, intT42, intT43, intT44, intT45, intT46, intT47, intT48, intT49, intT50, intT51, intT52, intT53, intT54, intT55, intT56, intT57, intT58, intT59, intT60, intT61, intT62, intT63, intT64, intT65, intT66, intT67, intT68, intT69, intT70, intT71, intT72, intT73, intT74, intT75, intT76, intT77, intT78, intT79, intT80, intT81, intT82, intT83, intT84, intT85, intT86, intT87, intT88, intT89, intT90, intT91, intT92, intT93, intT94, intT95, intT96, intT97, intT98, intT99, intT100, intT101, intT102, intT103, intT104, intT105, intT106, intT107, intT108, intT109, intT110, intT111, intT112, intT113, intT114, intT115, intT116, intT117, intT118, intT119, intT120, intT121, intT122, intT123, intT124, intT125, intT126, intT127, intT128, intT129, intT130, intT131, intT132, intT133, intT134, intT135, intT136, intT137, intT138, intT139, intT140, intT141, intT142, intT143, intT144, intT145, intT146, intT147, intT148, intT149, intT150, intT151, intT152, intT153, intT154, intT155, intT156, intT157, intT158, intT159, intT160, intT161, intT162, intT163, intT164, intT165, intT166, intT167, intT168, intT169, intT170, intT171, intT172, intT173, intT174, intT175, intT176, intT177, intT178, intT179, intT180, intT181, intT182, intT183, intT184, intT185, intT186, intT187, intT188, intT189, intT190, intT191, intT192, intT193, intT194, intT195, intT196, intT197, intT198, intT199, intT200, intT201, intT202, intT203, intT204, intT205, intT206, intT207, intT208, intT209, intT210, intT211, intT212, intT213, intT214, intT215, intT216, intT217, intT218, intT219, intT220, intT221, intT222, TR.isTmp, List.filter_cons, List.filter_nil, List.map_cons, List.map_nil, List.cons_append, List.nil_append, if_true, Bool.false_eq_true, if_false, Bool.and_self, Bool.and_false, Bool.false_and]) | (with_reducible refine TR.wpList_assert (by kernel_rfl) ?_))
                go_roundw
                case rel => exact ⟨j + 1, by omega, by go_num, HT.out, nd + 1, rfl⟩
                case measure => simp [intOf]; omega
            · obtain rfl : j = order.length := by omega
              have HFIT := Lib.hid (show Fit object m l order from ⟨fun k n h => HF.out.inr k n (List.getElem?_eq_some_iff.1 h).1 h, fun j k n h h1 h2 => HF.out.once j k n h (List.getElem?_eq_some_iff.1 h2).1 h1 h2,
                fun j k a b x y h h1 h2 h3 h4 => HF.out.ahead j k a b x y h (List.getElem?_eq_some_iff.1 h2).1 h1 h2 h3 h4, fun k s h h0 => HWH.out k s (List.getElem?_eq_some_iff.1 h).1 h h0,
                fun k n s h1 h2 h0 => by unfold toldOf; rw [HOS.out]; exact HTD.out k n s (List.getElem?_eq_some_iff.1 h1).1 h1 h2 h0⟩)
              clear hosl
              go_wp2_with (first | (refine TR.wp_region_text (TR.cls_ok _) (by kernel_rfl) (by kernel_rfl) ?_; simp only [TR.withAsserts, TR.asserted, intT0, intT1, intT2, intT3, intT4, intT5, intT6, intT7, intT8, intT9, intT10, intT11, intT12, intT13, intT14, intT15, intT16, intT17, intT18, intT19, intT20, intT21, intT22, intT23, intT24, intT25, intT26, intT27, intT28, intT29, intT30, intT31, intT32, intT33, intT34, intT35, intT36, intT37, intT38, intT39, intT40, intT41, intT42, intT43, intT44, intT45, intT46, intT47, intT48, intT49, intT50, intT51, intT52, intT53, intT54, intT55, intT56, intT57, intT58, intT59, intT60, intT61, intT62, intT63, intT64, intT65, intT66, intT67, intT68, intT69, intT70, intT71, intT72, intT73, intT74, intT75, intT76, intT77, intT78, intT79, intT80, intT81, intT82, intT83, intT84, intT85, intT86, intT87, intT88, intT89, intT90, intT91, intT92, intT93, intT94, intT95, intT96, intT97, intT98, intT99, intT100, intT101, intT102, intT103, intT104, intT105, intT106, intT107, intT108, intT109, intT110, intT111, intT112, intT113, intT114, intT115, intT116, intT117, intT118, intT119, intT120, intT121, intT122, intT123, intT124, intT125, intT126, intT127, intT128, intT129, intT130, intT131, intT132, intT133, intT134, intT135, intT136, intT137, intT138, intT139, intT140, intT141, intT142, intT143, intT144, intT145, intT146, intT147, intT148, intT149, intT150, intT151, intT152, intT153, intT154, intT155, intT156, intT157, intT158, intT159, intT160, intT161, intT162, intT163, intT164, intT165, intT166, intT167, intT168, intT169, intT170, intT171, intT172, intT173, intT174, intT175, intT176, intT177, intT178, intT179, intT180, intT181, intT182, intT183, intT184, intT185, intT186, intT187, intT188, intT189, intT190, intT191, intT192, intT193, intT194, intT195, intT196, intT197, intT198, intT199, intT200, intT201, intT202, intT203, intT204, intT205, intT206, intT207, intT208, intT209, intT210, intT211, intT212, intT213, intT214, intT215, intT216, intT217, intT218, intT219, intT220, intT221, intT222, TR.isTmp, List.filter_cons, List.filter_nil, List.map_cons, List.map_nil, List.cons_append, List.nil_append, if_true, Bool.false_eq_true, if_false, Bool.and_self, Bool.and_false, Bool.false_and]) | (with_reducible refine TR.wpList_assert (by kernel_rfl) ?_))
              go_ret
              exact TR.BoolIff.yes HFIT.out ((HB.out.trans (HB4.out.mono HB.out.size)).drewN _)
end Go.Proofs.Try
