import Derived.Test.YtooibfffneecfaaWf
import Derived.Test.YtooibfffneecfaaPlain2
import Derived.Test.YtooibfffneecfaaMem2
namespace Go.Proofs.Try
open Go.RowKit Go.Rp
set_option linter.unusedSimpArgs false
set_option maxRecDepth 100000

set_option maxHeartbeats 3200000 in
theorem spans_any (object m : Int) (A : Option Addr) (cap : Nat) (c : List Int) (A2 : Option Addr) (cap2 : Nat) (d : List Int) (w : World) (hl : c.length ≤ 9223372036854775807) (hl2 : d.length ≤ 9223372036854775807)
    (hr : TR.RdL w w.heap.size u8c 1 A c) (hv : ∀ x ∈ c, 0 ≤ x ∧ x ≤ 255) (hr2 : TR.RdL w w.heap.size u8c 1 A2 d) (hv2 : ∀ x ∈ d, 0 ≤ x ∧ x ≤ 255) :
    Calls prog 14 #[.int .u8 object, .int .i64 m, .slice A c.length cap, .slice A2 d.length cap2] w fun e w' => ∃ v v2, e = .returned (.tuple #[v, v2]) ∧
      w'.ownsRow w.heap.size 36 8 v (spans object m c d).length ((spans object m c d).flatMap Sp.cs) ∧ w'.ownsRow w.heap.size 64 7 v2 (logs object m c).length ((logs object m c).flatMap Ap.cs) ∧ Below w.heap.size w w' := by
  have HR := Lib.hid hr; clear hr
  have HV := Lib.hid hv; clear hv
  have HR2 := Lib.hid hr2; clear hr2
  have HV2 := Lib.hid hv2; clear hv2
  by_cases h14 : 14 < (ops c 4).length
  · have h14b : decide (14 < ((ops c 4).length : Int)) = true := by simp; omega
    have hn : (done c).length = 14 := by unfold done; simp; omega
    have HN := Lib.hid hn; clear hn
    have HX0 := Lib.hid (show ∀ (k : Nat) x, (done c)[k]? = some x → (ops c 4)[k]? = some x from fun k x h => by unfold done at h; rw [List.getElem?_take] at h; split at h <;> simp_all)
    go_enter func14, ntmps14
    go_wp2_with (first | (go_at_call 28; refine (ops_any A cap c 4 _ (by simp only [maxLen]; omega) (by omega) (by omega) HR.out HV.out).mono ?_; rintro e w0 ⟨v0, rfl, hown0, hb0⟩; obtain ⟨A0, cap0, rfl, hc0, hc1, hr0⟩ := TR.SlT.of_own (B := 0) O.cs_len rfl hown0; have HB0 := Lib.hid hb0; have HR0 := Lib.hid hr0; have HC1 := Lib.hid hc1; clear hown0 hb0 hr0 hc1))

    go_loopw [11, 12, 13, 14] (fun vl vg vs i wr => ∃ k : Nat, k ≤ 14 ∧ i = .int .i64 k ∧ wr.ownsRow w0.heap.size 36 8 vl k ((spansTo object m (done c) d k).flatMap Sp.cs) ∧ wr.ownsRow w0.heap.size 64 7 vg k ((logTo object m (done c) k).flatMap Ap.cs) ∧
        TR.SlT wr w0.heap.size 21 i32c 1 vs (run object m [] ((done c).take k)).1 ∧ Below w0.heap.size w0 wr) (fun _ _ _ i _ => 14 - (intOf i).toNat)
    case atStart => exact ⟨0, by omega, rfl, World.ownsRow_nil _ _ _ _, World.ownsRow_nil _ _ _ _, TR.SlT.nil, Below.refl _ _⟩
    case round =>
      obtain ⟨k, hk, rfl, ho1, ho2, hs, hbel⟩ := hrel
      have HRL := Lib.hid ho1; have HRG := Lib.hid ho2; have HB := Lib.hid hbel; clear ho1 ho2 hbel
      by_cases hlt : k < 14
      · obtain ⟨x, hx⟩ : ∃ x, ((done c))[k]? = some x := ⟨_, List.getElem?_eq_getElem (by rw [HN.out]; exact hlt)⟩
        have hlen := (run_len object m ((done c).take k) []).1
        have hsn := run_snoc object m ((done c).take k) [] x
        have htk : ((done c).take k).length = k := by rw [List.length_take, HN.out]; omega
        have hgd : (done c).getD k ⟨0, 0⟩ = x := by simp [hx]
        obtain ⟨ad, rfl, hb, hc0, hc⟩ := (HR0.out.below HB.out).rd.cells (HX0.out k x hx)
        have hcell0 := hc0 _ rfl; have hcell1 := hc 1 _ (by decide) rfl
        rw [htk] at hlen
        have HSN := Lib.hid hsn; have HX := Lib.hid hx; have HTK := Lib.hid htk; have HGD := Lib.hid hgd; clear hsn hx hc hc0 htk hgd
        generalize hq : run object m [] ((done c).take k) = q at hs hlen
        obtain ⟨l, t⟩ := q
        have HQ := Lib.hid hq; clear hq
        obtain ⟨A3, cap3, rfl, hc3, hc4, hr3⟩ := hs
        have HC4 := Lib.hid hc4; have HR3 := Lib.hid hr3; clear hc4 hr3
        simp only [List.length_nil] at hlen
        generalize hap : apply object m l x = ap at *
        obtain ⟨l2, rc, rv⟩ := ap
        have HAP := Lib.hid hap; clear hap
        have hP := fun w cap h1 h2 h3 h4 h5 => apply_any object m A3 cap l x w w0.heap.size h1 h2 h3 h4 h5
        rw [HAP.out] at hP
        have hP := Lib.hid hP
        obtain ⟨ok, ov⟩ := x
        simp only [O.cs, R.cs] at *
        have HK := Lib.hid (show ∀ W, Below w0.heap.size w0 W → W.cell? (ad.add (k * 2)) = some (.int .u8 ok) ∧ W.cell? ⟨(ad.add (k * 2)).block, (ad.add (k * 2)).off + 1, none⟩ = some (.int .i32 ov) from fun W hW => by
          obtain ⟨ad', he, _, h0, h1⟩ := (HR0.out.below hW).rd.cells (HX0.out k _ HX.out)
          cases he
          exact ⟨h0 _ rfl, h1 1 _ (by decide) rfl⟩)
        rcases Nat.lt_or_ge k d.length with hkd | hkd
        · obtain ⟨y, hy⟩ : ∃ y, d[k]? = some y := ⟨_, List.getElem?_eq_getElem hkd⟩
          have hyv := HV2.out y (List.mem_of_getElem? hy)
          obtain ⟨ad2, rfl, hb2, _⟩ := HR2.out.one hy rfl
          have HD := Lib.hid (show ∀ W, Below w0.heap.size w0 W → W.cell? (ad2.add k) = some (.int .u8 y) from fun W hW => by
            obtain ⟨ad', he, _, h0⟩ := (HR2.out.below (HB0.out.trans (hW.mono HB0.out.size))).one hy rfl
            cases he
            exact h0)
          have hd1 : decide ((k : Int) < (d.length : Int)) = true := by simp; omega
          have hmx : (if y % 9 < 4 * (k : Int) then 4 * (k : Int) - y % 9 else 0) = max 0 (4 * (k : Int) - y % 9) := by split <;> omega
          by_cases h240 : 240 ≤ y
          · have hsp : spanAt d k ⟨ok, ov⟩ ⟨rc, rv⟩ = ⟨(k : Int) % 3, (k : Int) / 3 + 1, ⟨ok, ov⟩, ⟨0, 0⟩, max 0 (4 * k - y % 9), -1⟩ := by
              unfold spanAt; rw [hy]; simp [h240]
            have HSP := Lib.hid hsp; have HY := Lib.hid hy; clear hsp hy
            have hd2 : decide (240 ≤ y) = true := by simpa using h240
            go_wp2_with (first | (go_at_call 29; refine (hP.out _ _ (by omega) hc3 HC4.out HB.out.size HR3.out).mono ?_; rintro e w1 ⟨v1, rfl, hs1, hb1⟩; have hsz1 : w0.heap.size ≤ w1.heap.size := Nat.le_trans HB.out.size hb1.size; have HS1 := Lib.hid hs1; have HB1 := Lib.hid hb1; clear hs1 hb1; obtain ⟨hca, hcb⟩ := HK.out w1 (HB.out.trans (HB1.out.mono HB.out.size)); have hca1 := TR.cell_alloc hca; have hcb1 := TR.cell_alloc hcb; have hca2 := TR.cell_alloc2 hca; have hcb2 := TR.cell_alloc2 hcb; have hda := HD.out w1 (HB.out.trans (HB1.out.mono HB.out.size)); have hda1 := TR.cell_alloc hda; have hda2 := TR.cell_alloc2 hda) | (refine TR.wp_region_text (TR.cls_ok _) (by kernel_rfl) (by kernel_rfl) ?_; simp only [TR.withAsserts, TR.asserted, intT0, intT1, intT2, intT3, intT4, intT5, intT6, intT7, intT8, intT9, intT10, intT11, intT12, intT13, intT14, intT15, intT16, intT17, intT18, intT19, intT20, intT21, intT22, intT23, intT24, intT25, intT26, intT27, intT28, intT29, intT30, intT31, intT32, intT33, intT34, intT35, intT36, intT37, intT38, intT39, intT40, intT41, intT42, intT43, intT44, intT45, intT46, intT47, intT48, intT49, intT50, intT51, intT52, intT53, intT54, intT55, intT56, intT57, intT58, intT59, intT60, intT61, intT62, intT63, intT64, intT65, intT66, intT67, intT68, intT69, intT70, intT71, intT72, intT73, intT74, intT75, intT76, intT77, intT78, intT79, intT80, intT81, intT82, intT83, intT84, intT85, intT86, intT87, intT88, intT89, intT90, intT91, intT92, intT93, intT94, intT95, intT96, intT97, intT98, intT99, intT100, intT101, intT102, intT103, intT104, intT105, intT106, intT107, intT108, intT109, intT110, intT111, intT112, intT113, intT114, intT115, intT116, intT117, intT118, intT119, intT120, intT121, intT122, intT123, intT124, intT125, intT126, intT127, intT128, intT129, intT130, intT131, intT132, intT133, intT134, intT135, intT136, intT137, intT138, intT139, intT140, intT141, intT142, intT143, intT144, intT145, intT146, intT147, intT148, intT149, intT150, intT151, intT152, intT153, intT154, intT155, intT156, intT157, intT158, intT159, intT160, intT161, intT162, intT163, intT164, intT165, intT166, intT167, intT168, intT169, intT170, intT171, intT172, intT173, intT174, intT175, intT176, intT177, intT178, intT179, intT180, intT181, intT182, intT183, intT184, intT185, intT186, intT187, intT188, intT189, intT190, intT191, intT192, intT193, intT194, intT195, intT196, intT197, intT198, intT199, intT200, intT201, intT202, intT203, intT204, intT205, intT206, intT207, intT208, intT209, intT210, intT211, intT212, intT213, intT214, intT215, intT216, intT217, intT218, intT219, intT220, intT221, intT222, TR.isTmp, List.filter_cons, List.filter_nil, List.map_cons, List.map_nil, List.cons_append, List.nil_append, if_true, Bool.false_eq_true, if_false, Bool.and_self, Bool.and_false, Bool.false_and]) | (with_reducible refine TR.wpList_assert (by kernel_rfl) ?_) | (at_builtin; refine TR.wpList_append_lit (s := .tmp 96) (x := .tmp 98) rfl rfl (e := _) (size := 8) (bytes := 48) (by kernel_rfl) (TR.own_below (TR.own_below HRL.out HB1.out) (show Below w1.heap.size w1 _ by repeat (first | exact Below.refl _ _ | assumption | refine Below.drew ?_ | refine Below.drewN ?_ _ | refine Below.setCell ?_ (by first | (simp; done) | (simp; omega) | omega) _ | refine Below.alloc ?_ (by first | (simp; done) | (simp; omega) | omega) _))) rfl rfl (TR.alloc_at (by first | rfl | (simp; done) | (simp; omega) | omega)) rfl rfl ((HB.out.trans (HB1.out.mono HB.out.size)).trans (show Below w0.heap.size w1 _ by repeat (first | exact Below.refl _ _ | assumption | refine Below.drew ?_ | refine Below.drewN ?_ _ | refine Below.setCell ?_ (by first | (simp; done) | (simp; omega) | omega) _ | refine Below.alloc ?_ (by first | (simp; done) | (simp; omega) | omega) _))) (Nat.le_refl _) ((HB.out.trans (HB1.out.mono HB.out.size)).trans (show Below w0.heap.size w1 _ by repeat (first | exact Below.refl _ _ | assumption | refine Below.drew ?_ | refine Below.drewN ?_ _ | refine Below.setCell ?_ (by first | (simp; done) | (simp; omega) | omega) _ | refine Below.alloc ?_ (by first | (simp; done) | (simp; omega) | omega) _))) (Nat.le_refl _) (by simp only [maxLen]; omega) (by omega) ?_; intro v2 w2 hown2 hg2 hb2 he2; obtain ⟨hc2', hf2'⟩ := TR.bcell hb2; have HO2 := Lib.hid hown2; have HG2 := Lib.hid hg2; have HB2 := Lib.hid hb2; have HE2 := Lib.hid he2; clear hown2 hg2 hb2 he2; have hsz2 : w0.heap.size ≤ w2.heap.size := HB2.out.size; obtain ⟨hca', hcb'⟩ := HK.out w2 HB2.out; have hrb : w2.heap[w1.heap.size]? = some (.cells #[.int .u8 rc, .int .i32 rv] 32 (0, 0)) := (TR.grown_new (TR.own_below HRL.out HB1.out) HG2.out (g := w1.heap.size) (Nat.le_refl _) (by simp; omega)).trans (TR.heap_alloc_old (TR.heap_alloc_old (TR.alloc_at rfl) _) _); have hrc0 : w2.cell? ⟨w1.heap.size, 0, none⟩ = some (.int .u8 rc) := TR.cell_row hrb 0; have hrc1 : w2.cell? ⟨w1.heap.size, 1, none⟩ = some (.int .i32 rv) := TR.cell_row hrb 1; clear hrb; have HRG2 := Lib.hid (TR.own_kept (TR.own_below (TR.own_below HRG.out HB1.out) (show Below w1.heap.size w1 _ by repeat (first | exact Below.refl _ _ | assumption | refine Below.drew ?_ | refine Below.drewN ?_ _ | refine Below.setCell ?_ (by first | (simp; done) | (simp; omega) | omega) _ | refine Below.alloc ?_ (by first | (simp; done) | (simp; omega) | omega) _))) (TR.own_below (TR.own_below HRL.out HB1.out) (show Below w1.heap.size w1 _ by repeat (first | exact Below.refl _ _ | assumption | refine Below.drew ?_ | refine Below.drewN ?_ _ | refine Below.setCell ?_ (by first | (simp; done) | (simp; omega) | omega) _ | refine Below.alloc ?_ (by first | (simp; done) | (simp; omega) | omega) _))) HG2.out (by decide)); have HS2 := Lib.hid ((HS1.out.below (show Below w1.heap.size w1 _ by repeat (first | exact Below.refl _ _ | assumption | refine Below.drew ?_ | refine Below.drewN ?_ _ | refine Below.setCell ?_ (by first | (simp; done) | (simp; omega) | omega) _ | refine Below.alloc ?_ (by first | (simp; done) | (simp; omega) | omega) _))).grown (TR.own_below (TR.own_below HRL.out HB1.out) (show Below w1.heap.size w1 _ by repeat (first | exact Below.refl _ _ | assumption | refine Below.drew ?_ | refine Below.drewN ?_ _ | refine Below.setCell ?_ (by first | (simp; done) | (simp; omega) | omega) _ | refine Below.alloc ?_ (by first | (simp; done) | (simp; omega) | omega) _))) HG2.out (Nat.le_refl _) (by decide)); clear hc2' hf2' HE2 hca hcb hca1 hcb1 hca2 hcb2) | (at_builtin; generalize hK : wpList prog = K at *))
            (subst hK; refine TR.wpList_append_lit (s := .tmp 100) (x := .tmp 112) rfl rfl (e := _) (size := 7) (bytes := 40) (by kernel_rfl) (HRG2.out.alloc _) rfl rfl (TR.alloc_at (by first | rfl | (simp; done) | (simp; omega))) rfl rfl (HB2.out.trans (show Below w0.heap.size w2 _ by repeat (first | exact Below.refl _ _ | assumption | refine Below.drew ?_ | refine Below.drewN ?_ _ | refine Below.setCell ?_ (by first | (simp; done) | (simp; omega) | omega) _ | refine Below.alloc ?_ (by first | (simp; done) | (simp; omega) | omega) _))) (Nat.le_refl _) (HB2.out.trans (show Below w0.heap.size w2 _ by repeat (first | exact Below.refl _ _ | assumption | refine Below.drew ?_ | refine Below.drewN ?_ _ | refine Below.setCell ?_ (by first | (simp; done) | (simp; omega) | omega) _ | refine Below.alloc ?_ (by first | (simp; done) | (simp; omega) | omega) _))) (Nat.le_refl _) (by simp only [maxLen]; omega) (by omega) ?_; intro v3 w3 hown3 hg3 hb3 he3; obtain ⟨hc3', hf3'⟩ := TR.bcell hb3; have HO3 := Lib.hid hown3; have HG3 := Lib.hid hg3; have HB3 := Lib.hid hb3; have HE3 := Lib.hid he3; clear hown3 hg3 hb3 he3)
            go_wp2
            go_roundw
            case rel =>
              have hR : run object m [] ((done c).take (k + 1)) = (l2, t ++ [⟨rc, rv⟩]) := by
                rw [List.take_add_one, HX.out]
                show run object m [] ((done c).take k ++ [_]) = _
                rw [HSN.out, HQ.out]
                simp only []
                rw [HAP.out]
              have hS : spansTo object m (done c) d (k + 1) = spansTo object m (done c) d k ++ [spanAt d k ⟨ok, ov⟩ ⟨rc, rv⟩] := by
                show _ ++ [_] = _
                rw [HGD.out, HQ.out]
                simp only []
                rw [HAP.out]
              have hG : logTo object m (done c) (k + 1) = logTo object m (done c) k ++ [logAt k ⟨ok, ov⟩ ⟨rc, rv⟩] := by
                show _ ++ [_] = _
                rw [HGD.out, HQ.out]
                simp only []
                rw [HAP.out]
              refine ⟨k + 1, by omega, by go_num, ?_, ?_, ?_, HB3.out⟩
              · rw [hS, TR.flatMap_snoc, HSP.out]
                exact TR.own_cast (by simp [Sp.cs]; try omega) (TR.own_kept (TR.own_drew (HO2.out.alloc _)) (TR.own_drew (HRG2.out.alloc _)) HG3.out (by decide))
              · rw [hG, TR.flatMap_snoc]
                exact TR.own_cast (by simp [Ap.cs, logAt]) HO3.out
              · rw [hR]
                exact (HS2.out.below ((Below.refl _ w2).alloc (Nat.le_refl _) _).drew).grown (TR.own_drew (HRG2.out.alloc _)) HG3.out (Nat.le_refl _) (by decide)
            case measure => simp [intOf]; omega
          · have hsp : spanAt d k ⟨ok, ov⟩ ⟨rc, rv⟩ = ⟨(k : Int) % 3, (k : Int) / 3 + 1, ⟨ok, ov⟩, ⟨rc, rv⟩, max 0 (4 * k - y % 9), 4 * k + y / 9 % 9⟩ := by
              unfold spanAt; rw [hy]; simp [h240]
            have HSP := Lib.hid hsp; have HY := Lib.hid hy; clear hsp hy
            have hd2 : decide (240 ≤ y) = false := by simpa using h240
            go_wp2_with (first | (go_at_call 29; refine (hP.out _ _ (by omega) hc3 HC4.out HB.out.size HR3.out).mono ?_; rintro e w1 ⟨v1, rfl, hs1, hb1⟩; have hsz1 : w0.heap.size ≤ w1.heap.size := Nat.le_trans HB.out.size hb1.size; have HS1 := Lib.hid hs1; have HB1 := Lib.hid hb1; clear hs1 hb1; obtain ⟨hca, hcb⟩ := HK.out w1 (HB.out.trans (HB1.out.mono HB.out.size)); have hca1 := TR.cell_alloc hca; have hcb1 := TR.cell_alloc hcb; have hca2 := TR.cell_alloc2 hca; have hcb2 := TR.cell_alloc2 hcb; have hda := HD.out w1 (HB.out.trans (HB1.out.mono HB.out.size)); have hda1 := TR.cell_alloc hda; have hda2 := TR.cell_alloc2 hda) | (refine TR.wp_region_text (TR.cls_ok _) (by kernel_rfl) (by kernel_rfl) ?_; simp only [TR.withAsserts, TR.asserted, intT0, intT1, intT2, intT3, intT4, intT5, intT6, intT7, intT8, intT9, intT10, intT11, intT12, intT13, intT14, intT15, intT16, intT17, intT18, intT19, intT20, intT21, intT22, intT23, intT24, intT25, intT26, intT27, intT28, intT29, intT30, intT31, intT32, intT33, intT34, intT35, intT36, intT37, intT38, intT39, intT40, intT41, intT42, intT43, intT44, intT45, intT46, intT47, intT48, intT49, intT50, intT51, intT52, intT53, intT54, intT55, intT56, intT57, intT58, intT59, intT60, intT61, intT62, intT63, intT64, intT65, intT66, intT67, intT68, intT69, intT70, intT71, intT72, intT73, intT74, intT75, intT76, intT77, intT78, intT79, intT80, intT81, intT82, intT83, intT84, intT85, intT86, intT87, intT88, intT89, intT90, intT91, intT92, intT93, intT94, intT95, intT96, intT97, intT98, intT99, intT100, intT101, intT102, intT103, intT104, intT105, intT106, intT107, intT108, intT109, intT110, intT111, intT112, intT113, intT114, intT115, intT116, intT117, intT118, intT119, intT120, intT121, intT122, intT123, intT124, intT125, intT126, intT127, intT128, intT129, intT130, intT131, intT132, intT133, intT134, intT135, intT136, intT137, intT138, intT139, intT140, intT141, intT142, intT143, intT144, intT145, intT146, intT147, intT148, intT149, intT150, intT151, intT152, intT153, intT154, intT155, intT156, intT157, intT158, intT159, intT160, intT161, intT162, intT163, intT164, intT165, intT166, intT167, intT168, intT169, intT170, intT171, intT172, intT173, intT174, intT175, intT176, intT177, intT178, intT179, intT180, intT181, intT182, intT183, intT184, intT185, intT186, intT187, intT188, intT189, intT190, intT191, intT192, intT193, intT194, intT195, intT196, intT197, intT198, intT199, intT200, intT201, intT202, intT203, intT204, intT205, intT206, intT207, intT208, intT209, intT210, intT211, intT212, intT213, intT214, intT215, intT216, intT217, intT218, intT219, intT220, intT221, intT222, TR.isTmp, List.filter_cons, List.filter_nil, List.map_cons, List.map_nil, List.cons_append, List.nil_append, if_true, Bool.false_eq_true, if_false, Bool.and_self, Bool.and_false, Bool.false_and]) | (with_reducible refine TR.wpList_assert (by kernel_rfl) ?_) | (at_builtin; refine TR.wpList_append_lit (s := .tmp 96) (x := .tmp 98) rfl rfl (e := _) (size := 8) (bytes := 48) (by kernel_rfl) (TR.own_below (TR.own_below HRL.out HB1.out) (show Below w1.heap.size w1 _ by repeat (first | exact Below.refl _ _ | assumption | refine Below.drew ?_ | refine Below.drewN ?_ _ | refine Below.setCell ?_ (by first | (simp; done) | (simp; omega) | omega) _ | refine Below.alloc ?_ (by first | (simp; done) | (simp; omega) | omega) _))) rfl rfl (TR.alloc_at (by first | rfl | (simp; done) | (simp; omega) | omega)) rfl rfl ((HB.out.trans (HB1.out.mono HB.out.size)).trans (show Below w0.heap.size w1 _ by repeat (first | exact Below.refl _ _ | assumption | refine Below.drew ?_ | refine Below.drewN ?_ _ | refine Below.setCell ?_ (by first | (simp; done) | (simp; omega) | omega) _ | refine Below.alloc ?_ (by first | (simp; done) | (simp; omega) | omega) _))) (Nat.le_refl _) ((HB.out.trans (HB1.out.mono HB.out.size)).trans (show Below w0.heap.size w1 _ by repeat (first | exact Below.refl _ _ | assumption | refine Below.drew ?_ | refine Below.drewN ?_ _ | refine Below.setCell ?_ (by first | (simp; done) | (simp; omega) | omega) _ | refine Below.alloc ?_ (by first | (simp; done) | (simp; omega) | omega) _))) (Nat.le_refl _) (by simp only [maxLen]; omega) (by omega) ?_; intro v2 w2 hown2 hg2 hb2 he2; obtain ⟨hc2', hf2'⟩ := TR.bcell hb2; have HO2 := Lib.hid hown2; have HG2 := Lib.hid hg2; have HB2 := Lib.hid hb2; have HE2 := Lib.hid he2; clear hown2 hg2 hb2 he2; have hsz2 : w0.heap.size ≤ w2.heap.size := HB2.out.size; obtain ⟨hca', hcb'⟩ := HK.out w2 HB2.out; have hrb : w2.heap[w1.heap.size]? = some (.cells #[.int .u8 rc, .int .i32 rv] 32 (0, 0)) := (TR.grown_new (TR.own_below HRL.out HB1.out) HG2.out (g := w1.heap.size) (Nat.le_refl _) (by simp; omega)).trans (TR.heap_alloc_old (TR.heap_alloc_old (TR.alloc_at rfl) _) _); have hrc0 : w2.cell? ⟨w1.heap.size, 0, none⟩ = some (.int .u8 rc) := TR.cell_row hrb 0; have hrc1 : w2.cell? ⟨w1.heap.size, 1, none⟩ = some (.int .i32 rv) := TR.cell_row hrb 1; clear hrb; have HRG2 := Lib.hid (TR.own_kept (TR.own_below (TR.own_below HRG.out HB1.out) (show Below w1.heap.size w1 _ by repeat (first | exact Below.refl _ _ | assumption | refine Below.drew ?_ | refine Below.drewN ?_ _ | refine Below.setCell ?_ (by first | (simp; done) | (simp; omega) | omega) _ | refine Below.alloc ?_ (by first | (simp; done) | (simp; omega) | omega) _))) (TR.own_below (TR.own_below HRL.out HB1.out) (show Below w1.heap.size w1 _ by repeat (first | exact Below.refl _ _ | assumption | refine Below.drew ?_ | refine Below.drewN ?_ _ | refine Below.setCell ?_ (by first | (simp; done) | (simp; omega) | omega) _ | refine Below.alloc ?_ (by first | (simp; done) | (simp; omega) | omega) _))) HG2.out (by decide)); have HS2 := Lib.hid ((HS1.out.below (show Below w1.heap.size w1 _ by repeat (first | exact Below.refl _ _ | assumption | refine Below.drew ?_ | refine Below.drewN ?_ _ | refine Below.setCell ?_ (by first | (simp; done) | (simp; omega) | omega) _ | refine Below.alloc ?_ (by first | (simp; done) | (simp; omega) | omega) _))).grown (TR.own_below (TR.own_below HRL.out HB1.out) (show Below w1.heap.size w1 _ by repeat (first | exact Below.refl _ _ | assumption | refine Below.drew ?_ | refine Below.drewN ?_ _ | refine Below.setCell ?_ (by first | (simp; done) | (simp; omega) | omega) _ | refine Below.alloc ?_ (by first | (simp; done) | (simp; omega) | omega) _))) HG2.out (Nat.le_refl _) (by decide)); clear hc2' hf2' HE2 hca hcb hca1 hcb1 hca2 hcb2) | (at_builtin; generalize hK : wpList prog = K at *))
            (subst hK; refine TR.wpList_append_lit (s := .tmp 100) (x := .tmp 112) rfl rfl (e := _) (size := 7) (bytes := 40) (by kernel_rfl) (HRG2.out.alloc _) rfl rfl (TR.alloc_at (by first | rfl | (simp; done) | (simp; omega))) rfl rfl (HB2.out.trans (show Below w0.heap.size w2 _ by repeat (first | exact Below.refl _ _ | assumption | refine Below.drew ?_ | refine Below.drewN ?_ _ | refine Below.setCell ?_ (by first | (simp; done) | (simp; omega) | omega) _ | refine Below.alloc ?_ (by first | (simp; done) | (simp; omega) | omega) _))) (Nat.le_refl _) (HB2.out.trans (show Below w0.heap.size w2 _ by repeat (first | exact Below.refl _ _ | assumption | refine Below.drew ?_ | refine Below.drewN ?_ _ | refine Below.setCell ?_ (by first | (simp; done) | (simp; omega) | omega) _ | refine Below.alloc ?_ (by first | (simp; done) | (simp; omega) | omega) _))) (Nat.le_refl _) (by simp only [maxLen]; omega) (by omega) ?_; intro v3 w3 hown3 hg3 hb3 he3; obtain ⟨hc3', hf3'⟩ := TR.bcell hb3; have HO3 := Lib.hid hown3; have HG3 := Lib.hid hg3; have HB3 := Lib.hid hb3; have HE3 := Lib.hid he3; clear hown3 hg3 hb3 he3)
            go_wp2
            go_roundw
            case rel =>
              have hR : run object m [] ((done c).take (k + 1)) = (l2, t ++ [⟨rc, rv⟩]) := by
                rw [List.take_add_one, HX.out]
                show run object m [] ((done c).take k ++ [_]) = _
                rw [HSN.out, HQ.out]
                simp only []
                rw [HAP.out]
              have hS : spansTo object m (done c) d (k + 1) = spansTo object m (done c) d k ++ [spanAt d k ⟨ok, ov⟩ ⟨rc, rv⟩] := by
                show _ ++ [_] = _
                rw [HGD.out, HQ.out]
                simp only []
                rw [HAP.out]
              have hG : logTo object m (done c) (k + 1) = logTo object m (done c) k ++ [logAt k ⟨ok, ov⟩ ⟨rc, rv⟩] := by
                show _ ++ [_] = _
                rw [HGD.out, HQ.out]
                simp only []
                rw [HAP.out]
              refine ⟨k + 1, by omega, by go_num, ?_, ?_, ?_, HB3.out⟩
              · rw [hS, TR.flatMap_snoc, HSP.out]
                exact TR.own_cast (by simp [Sp.cs]; try omega) (TR.own_kept (TR.own_drew (HO2.out.alloc _)) (TR.own_drew (HRG2.out.alloc _)) HG3.out (by decide))
              · rw [hG, TR.flatMap_snoc]
                exact TR.own_cast (by simp [Ap.cs, logAt]) HO3.out
              · rw [hR]
                exact (HS2.out.below ((Below.refl _ w2).alloc (Nat.le_refl _) _).drew).grown (TR.own_drew (HRG2.out.alloc _)) HG3.out (Nat.le_refl _) (by decide)
            case measure => simp [intOf]; omega
        · have hd1 : decide ((k : Int) < (d.length : Int)) = false := by simp; omega
          have hsp : spanAt d k ⟨ok, ov⟩ ⟨rc, rv⟩ = ⟨(k : Int) % 3, (k : Int) / 3 + 1, ⟨ok, ov⟩, ⟨rc, rv⟩, max 0 (4 * k - 0), 4 * k + 1⟩ := by
            unfold spanAt; rw [List.getElem?_eq_none hkd]
          have HSP := Lib.hid hsp; clear hsp
          have hmx : (if (0 : Int) < 4 * (k : Int) then 4 * (k : Int) else 0) = 4 * (k : Int) := by split <;> omega
          go_wp2_with (first | (go_at_call 29; refine (hP.out _ _ (by omega) hc3 HC4.out HB.out.size HR3.out).mono ?_; rintro e w1 ⟨v1, rfl, hs1, hb1⟩; have hsz1 : w0.heap.size ≤ w1.heap.size := Nat.le_trans HB.out.size hb1.size; have HS1 := Lib.hid hs1; have HB1 := Lib.hid hb1; clear hs1 hb1; obtain ⟨hca, hcb⟩ := HK.out w1 (HB.out.trans (HB1.out.mono HB.out.size)); have hca1 := TR.cell_alloc hca; have hcb1 := TR.cell_alloc hcb; have hca2 := TR.cell_alloc2 hca; have hcb2 := TR.cell_alloc2 hcb) | (refine TR.wp_region_text (TR.cls_ok _) (by kernel_rfl) (by kernel_rfl) ?_; simp only [TR.withAsserts, TR.asserted, intT0, intT1, intT2, intT3, intT4, intT5, intT6, intT7, intT8, intT9, intT10, intT11, intT12, intT13, intT14, intT15, intT16, intT17, intT18, intT19, intT20, intT21, intT22, intT23, intT24, intT25, intT26, intT27, intT28, intT29, intT30, intT31, intT32, intT33, intT34, intT35, intT36, intT37, intT38, intT39, intT40, intT41, intT42, intT43, intT44, intT45, intT46, intT47, intT48, intT49, intT50, intT51, intT52, intT53, intT54, intT55, intT56, intT57, intT58, intT59, intT60, intT61, intT62, intT63, intT64, intT65, intT66, intT67, intT68, intT69, intT70, intT71, intT72, intT73, intT74, intT75, intT76, intT77, intT78, intT79, intT80, intT81, intT82, intT83, intT84, intT85, intT86, intT87, intT88, intT89, intT90, intT91, intT92, intT93, intT94, intT95, intT96, intT97, intT98, intT99, intT100, intT101, intT102, intT103, intT104, intT105, intT106, intT107, intT108, intT109, intT110, intT111, intT112, intT113, intT114, intT115, intT116, intT117, intT118, intT119, intT120, intT121, intT122, intT123, intT124, intT125, intT126, intT127, intT128, intT129, intT130, intT131, intT132, intT133, intT134, intT135, intT136, intT137, intT138, intT139, intT140, intT141, intT142, intT143, intT144, intT145, intT146, intT147, intT148, intT149, intT150, intT151, intT152, intT153, intT154, intT155, intT156, intT157, intT158, intT159, intT160, intT161, intT162, intT163, intT164, intT165, intT166, intT167, intT168, intT169, intT170, intT171, intT172, intT173, intT174, intT175, intT176, intT177, intT178, intT179, intT180, intT181, intT182, intT183, intT184, intT185, intT186, intT187, intT188, intT189, intT190, intT191, intT192, intT193, intT194, intT195, intT196, intT197, intT198, intT199, intT200, intT201, intT202, intT203, intT204, intT205, intT206, intT207, intT208, intT209, intT210, intT211, intT212, intT213, intT214, intT215, intT216, intT217, intT218, intT219, intT220, intT221, intT222, TR.isTmp, List.filter_cons, List.filter_nil, List.map_cons, List.map_nil, List.cons_append, List.nil_append, if_true, Bool.false_eq_true, if_false, Bool.and_self, Bool.and_false, Bool.false_and]) | (with_reducible refine TR.wpList_assert (by kernel_rfl) ?_) | (at_builtin; refine TR.wpList_append_lit (s := .tmp 96) (x := .tmp 98) rfl rfl (e := _) (size := 8) (bytes := 48) (by kernel_rfl) (TR.own_below (TR.own_below HRL.out HB1.out) (show Below w1.heap.size w1 _ by repeat (first | exact Below.refl _ _ | assumption | refine Below.drew ?_ | refine Below.drewN ?_ _ | refine Below.setCell ?_ (by first | (simp; done) | (simp; omega) | omega) _ | refine Below.alloc ?_ (by first | (simp; done) | (simp; omega) | omega) _))) rfl rfl (TR.alloc_at (by first | rfl | (simp; done) | (simp; omega) | omega)) rfl rfl ((HB.out.trans (HB1.out.mono HB.out.size)).trans (show Below w0.heap.size w1 _ by repeat (first | exact Below.refl _ _ | assumption | refine Below.drew ?_ | refine Below.drewN ?_ _ | refine Below.setCell ?_ (by first | (simp; done) | (simp; omega) | omega) _ | refine Below.alloc ?_ (by first | (simp; done) | (simp; omega) | omega) _))) (Nat.le_refl _) ((HB.out.trans (HB1.out.mono HB.out.size)).trans (show Below w0.heap.size w1 _ by repeat (first | exact Below.refl _ _ | assumption | refine Below.drew ?_ | refine Below.drewN ?_ _ | refine Below.setCell ?_ (by first | (simp; done) | (simp; omega) | omega) _ | refine Below.alloc ?_ (by first | (simp; done) | (simp; omega) | omega) _))) (Nat.le_refl _) (by simp only [maxLen]; omega) (by omega) ?_; intro v2 w2 hown2 hg2 hb2 he2; obtain ⟨hc2', hf2'⟩ := TR.bcell hb2; have HO2 := Lib.hid hown2; have HG2 := Lib.hid hg2; have HB2 := Lib.hid hb2; have HE2 := Lib.hid he2; clear hown2 hg2 hb2 he2; have hsz2 : w0.heap.size ≤ w2.heap.size := HB2.out.size; obtain ⟨hca', hcb'⟩ := HK.out w2 HB2.out; have hrb : w2.heap[w1.heap.size]? = some (.cells #[.int .u8 rc, .int .i32 rv] 32 (0, 0)) := (TR.grown_new (TR.own_below HRL.out HB1.out) HG2.out (g := w1.heap.size) (Nat.le_refl _) (by simp; omega)).trans (TR.heap_alloc_old (TR.heap_alloc_old (TR.alloc_at rfl) _) _); have hrc0 : w2.cell? ⟨w1.heap.size, 0, none⟩ = some (.int .u8 rc) := TR.cell_row hrb 0; have hrc1 : w2.cell? ⟨w1.heap.size, 1, none⟩ = some (.int .i32 rv) := TR.cell_row hrb 1; clear hrb; have HRG2 := Lib.hid (TR.own_kept (TR.own_below (TR.own_below HRG.out HB1.out) (show Below w1.heap.size w1 _ by repeat (first | exact Below.refl _ _ | assumption | refine Below.drew ?_ | refine Below.drewN ?_ _ | refine Below.setCell ?_ (by first | (simp; done) | (simp; omega) | omega) _ | refine Below.alloc ?_ (by first | (simp; done) | (simp; omega) | omega) _))) (TR.own_below (TR.own_below HRL.out HB1.out) (show Below w1.heap.size w1 _ by repeat (first | exact Below.refl _ _ | assumption | refine Below.drew ?_ | refine Below.drewN ?_ _ | refine Below.setCell ?_ (by first | (simp; done) | (simp; omega) | omega) _ | refine Below.alloc ?_ (by first | (simp; done) | (simp; omega) | omega) _))) HG2.out (by decide)); have HS2 := Lib.hid ((HS1.out.below (show Below w1.heap.size w1 _ by repeat (first | exact Below.refl _ _ | assumption | refine Below.drew ?_ | refine Below.drewN ?_ _ | refine Below.setCell ?_ (by first | (simp; done) | (simp; omega) | omega) _ | refine Below.alloc ?_ (by first | (simp; done) | (simp; omega) | omega) _))).grown (TR.own_below (TR.own_below HRL.out HB1.out) (show Below w1.heap.size w1 _ by repeat (first | exact Below.refl _ _ | assumption | refine Below.drew ?_ | refine Below.drewN ?_ _ | refine Below.setCell ?_ (by first | (simp; done) | (simp; omega) | omega) _ | refine Below.alloc ?_ (by first | (simp; done) | (simp; omega) | omega) _))) HG2.out (Nat.le_refl _) (by decide)); clear hc2' hf2' HE2 hca hcb hca1 hcb1 hca2 hcb2) | (at_builtin; generalize hK : wpList prog = K at *))
          (subst hK; refine TR.wpList_append_lit (s := .tmp 100) (x := .tmp 112) rfl rfl (e := _) (size := 7) (bytes := 40) (by kernel_rfl) (HRG2.out.alloc _) rfl rfl (TR.alloc_at (by first | rfl | (simp; done) | (simp; omega))) rfl rfl (HB2.out.trans (show Below w0.heap.size w2 _ by repeat (first | exact Below.refl _ _ | assumption | refine Below.drew ?_ | refine Below.drewN ?_ _ | refine Below.setCell ?_ (by first | (simp; done) | (simp; omega) | omega) _ | refine Below.alloc ?_ (by first | (simp; done) | (simp; omega) | omega) _))) (Nat.le_refl _) (HB2.out.trans (show Below w0.heap.size w2 _ by repeat (first | exact Below.refl _ _ | assumption | refine Below.drew ?_ | refine Below.drewN ?_ _ | refine Below.setCell ?_ (by first | (simp; done) | (simp; omega) | omega) _ | refine Below.alloc ?_ (by first | (simp; done) | (simp; omega) | omega) _))) (Nat.le_refl _) (by simp only [maxLen]; omega) (by omega) ?_; intro v3 w3 hown3 hg3 hb3 he3; obtain ⟨hc3', hf3'⟩ := TR.bcell hb3; have HO3 := Lib.hid hown3; have HG3 := Lib.hid hg3; have HB3 := Lib.hid hb3; have HE3 := Lib.hid he3; clear hown3 hg3 hb3 he3)
          go_wp2
          go_roundw
          case rel =>
            have hR : run object m [] ((done c).take (k + 1)) = (l2, t ++ [⟨rc, rv⟩]) := by
              rw [List.take_add_one, HX.out]
              show run object m [] ((done c).take k ++ [_]) = _
              rw [HSN.out, HQ.out]
              simp only []
              rw [HAP.out]
            have hS : spansTo object m (done c) d (k + 1) = spansTo object m (done c) d k ++ [spanAt d k ⟨ok, ov⟩ ⟨rc, rv⟩] := by
              show _ ++ [_] = _
              rw [HGD.out, HQ.out]
              simp only []
              rw [HAP.out]
            have hG : logTo object m (done c) (k + 1) = logTo object m (done c) k ++ [logAt k ⟨ok, ov⟩ ⟨rc, rv⟩] := by
              show _ ++ [_] = _
              rw [HGD.out, HQ.out]
              simp only []
              rw [HAP.out]
            refine ⟨k + 1, by omega, by go_num, ?_, ?_, ?_, HB3.out⟩
            · rw [hS, TR.flatMap_snoc, HSP.out]
              exact TR.own_cast (by simp [Sp.cs]; try omega) (TR.own_kept (TR.own_drew (HO2.out.alloc _)) (TR.own_drew (HRG2.out.alloc _)) HG3.out (by decide))
            · rw [hG, TR.flatMap_snoc]
              exact TR.own_cast (by simp [Ap.cs, logAt]) HO3.out
            · rw [hR]
              exact (HS2.out.below ((Below.refl _ w2).alloc (Nat.le_refl _) _).drew).grown (TR.own_drew (HRG2.out.alloc _)) HG3.out (Nat.le_refl _) (by decide)
          case measure => simp [intOf]; omega
      · have hS : spans object m c d = spansTo object m (done c) d k := by unfold spans; rw [HN.out]; congr 1; omega
        have hG : logs object m c = logTo object m (done c) k := by unfold logs; rw [HN.out]; congr 1; omega
        have HS := Lib.hid hS; have HG := Lib.hid hG; clear hS hG
        go_wp2
        go_ret2
        refine ⟨_, _, rfl, ?_, ?_, HB0.out.trans (HB.out.mono HB0.out.size)⟩
        · rw [HS.out, spansTo_len]; exact TR.own_base HRL.out HB0.out.size
        · rw [HG.out, logTo_len]; exact TR.own_base HRG.out HB0.out.size
  
  · have h14b : decide (14 < ((ops c 4).length : Int)) = false := by simp; omega
    have hn : (done c).length = (ops c 4).length := by unfold done; simp; omega
    have HN := Lib.hid hn; clear hn
    have HX0 := Lib.hid (show ∀ (k : Nat) x, (done c)[k]? = some x → (ops c 4)[k]? = some x from fun k x h => by unfold done at h; rw [List.getElem?_take] at h; split at h <;> simp_all)
    go_enter func14, ntmps14
    go_wp2_with (first | (go_at_call 28; refine (ops_any A cap c 4 _ (by simp only [maxLen]; omega) (by omega) (by omega) HR.out HV.out).mono ?_; rintro e w0 ⟨v0, rfl, hown0, hb0⟩; obtain ⟨A0, cap0, rfl, hc0, hc1, hr0⟩ := TR.SlT.of_own (B := 0) O.cs_len rfl hown0; have HB0 := Lib.hid hb0; have HR0 := Lib.hid hr0; have HC1 := Lib.hid hc1; clear hown0 hb0 hr0 hc1))

    go_loopw [11, 12, 13, 14] (fun vl vg vs i wr => ∃ k : Nat, k ≤ (ops c 4).length ∧ i = .int .i64 k ∧ wr.ownsRow w0.heap.size 36 8 vl k ((spansTo object m (done c) d k).flatMap Sp.cs) ∧ wr.ownsRow w0.heap.size 64 7 vg k ((logTo object m (done c) k).flatMap Ap.cs) ∧
        TR.SlT wr w0.heap.size 21 i32c 1 vs (run object m [] ((done c).take k)).1 ∧ Below w0.heap.size w0 wr) (fun _ _ _ i _ => (ops c 4).length - (intOf i).toNat)
    case atStart => exact ⟨0, by omega, rfl, World.ownsRow_nil _ _ _ _, World.ownsRow_nil _ _ _ _, TR.SlT.nil, Below.refl _ _⟩
    case round =>
      obtain ⟨k, hk, rfl, ho1, ho2, hs, hbel⟩ := hrel
      have HRL := Lib.hid ho1; have HRG := Lib.hid ho2; have HB := Lib.hid hbel; clear ho1 ho2 hbel
      by_cases hlt : k < (ops c 4).length
      · obtain ⟨x, hx⟩ : ∃ x, ((done c))[k]? = some x := ⟨_, List.getElem?_eq_getElem (by rw [HN.out]; exact hlt)⟩
        have hlen := (run_len object m ((done c).take k) []).1
        have hsn := run_snoc object m ((done c).take k) [] x
        have htk : ((done c).take k).length = k := by rw [List.length_take, HN.out]; omega
        have hgd : (done c).getD k ⟨0, 0⟩ = x := by simp [hx]
        obtain ⟨ad, rfl, hb, hc0, hc⟩ := (HR0.out.below HB.out).rd.cells (HX0.out k x hx)
        have hcell0 := hc0 _ rfl; have hcell1 := hc 1 _ (by decide) rfl
        rw [htk] at hlen
        have HSN := Lib.hid hsn; have HX := Lib.hid hx; have HTK := Lib.hid htk; have HGD := Lib.hid hgd; clear hsn hx hc hc0 htk hgd
        generalize hq : run object m [] ((done c).take k) = q at hs hlen
        obtain ⟨l, t⟩ := q
        have HQ := Lib.hid hq; clear hq
        obtain ⟨A3, cap3, rfl, hc3, hc4, hr3⟩ := hs
        have HC4 := Lib.hid hc4; have HR3 := Lib.hid hr3; clear hc4 hr3
        simp only [List.length_nil] at hlen
        generalize hap : apply object m l x = ap at *
        obtain ⟨l2, rc, rv⟩ := ap
        have HAP := Lib.hid hap; clear hap
        have hP := fun w cap h1 h2 h3 h4 h5 => apply_any object m A3 cap l x w w0.heap.size h1 h2 h3 h4 h5
        rw [HAP.out] at hP
        have hP := Lib.hid hP
        obtain ⟨ok, ov⟩ := x
        simp only [O.cs, R.cs] at *
        have HK := Lib.hid (show ∀ W, Below w0.heap.size w0 W → W.cell? (ad.add (k * 2)) = some (.int .u8 ok) ∧ W.cell? ⟨(ad.add (k * 2)).block, (ad.add (k * 2)).off + 1, none⟩ = some (.int .i32 ov) from fun W hW => by
          obtain ⟨ad', he, _, h0, h1⟩ := (HR0.out.below hW).rd.cells (HX0.out k _ HX.out)
          cases he
          exact ⟨h0 _ rfl, h1 1 _ (by decide) rfl⟩)
        rcases Nat.lt_or_ge k d.length with hkd | hkd
        · obtain ⟨y, hy⟩ : ∃ y, d[k]? = some y := ⟨_, List.getElem?_eq_getElem hkd⟩
          have hyv := HV2.out y (List.mem_of_getElem? hy)
          obtain ⟨ad2, rfl, hb2, _⟩ := HR2.out.one hy rfl
          have HD := Lib.hid (show ∀ W, Below w0.heap.size w0 W → W.cell? (ad2.add k) = some (.int .u8 y) from fun W hW => by
            obtain ⟨ad', he, _, h0⟩ := (HR2.out.below (HB0.out.trans (hW.mono HB0.out.size))).one hy rfl
            cases he
            exact h0)
          have hd1 : decide ((k : Int) < (d.length : Int)) = true := by simp; omega
          have hmx : (if y % 9 < 4 * (k : Int) then 4 * (k : Int) - y % 9 else 0) = max 0 (4 * (k : Int) - y % 9) := by split <;> omega
          by_cases h240 : 240 ≤ y
          · have hsp : spanAt d k ⟨ok, ov⟩ ⟨rc, rv⟩ = ⟨(k : Int) % 3, (k : Int) / 3 + 1, ⟨ok, ov⟩, ⟨0, 0⟩, max 0 (4 * k - y % 9), -1⟩ := by
              unfold spanAt; rw [hy]; simp [h240]
            have HSP := Lib.hid hsp; have HY := Lib.hid hy; clear hsp hy
            have hd2 : decide (240 ≤ y) = true := by simpa using h240
            go_wp2_with (first | (go_at_call 29; refine (hP.out _ _ (by omega) hc3 HC4.out HB.out.size HR3.out).mono ?_; rintro e w1 ⟨v1, rfl, hs1, hb1⟩; have hsz1 : w0.heap.size ≤ w1.heap.size := Nat.le_trans HB.out.size hb1.size; have HS1 := Lib.hid hs1; have HB1 := Lib.hid hb1; clear hs1 hb1; obtain ⟨hca, hcb⟩ := HK.out w1 (HB.out.trans (HB1.out.mono HB.out.size)); have hca1 := TR.cell_alloc hca; have hcb1 := TR.cell_alloc hcb; have hca2 := TR.cell_alloc2 hca; have hcb2 := TR.cell_alloc2 hcb; have hda := HD.out w1 (HB.out.trans (HB1.out.mono HB.out.size)); have hda1 := TR.cell_alloc hda; have hda2 := TR.cell_alloc2 hda) | (refine TR.wp_region_text (TR.cls_ok _) (by kernel_rfl) (by kernel_rfl) ?_; simp only [TR.withAsserts, TR.asserted, intT0, intT1, intT2, intT3, intT4, intT5, intT6, intT7, intT8, intT9, intT10, intT11, intT12, intT13, intT14, intT15, intT16, intT17, intT18, intT19, intT20, intT21, intT22, intT23, intT24, intT25, intT26, intT27, intT28, intT29, intT30, intT31, intT32, intT33, intT34, intT35, intT36, intT37, intT38, intT39, intT40, intT41, intT42, intT43, intT44, intT45, intT46, intT47, intT48, intT49, intT50, intT51, intT52, intT53, intT54, intT55, intT56, intT57, intT58, intT59, intT60, intT61, intT62, intT63, intT64, intT65, intT66, intT67, intT68, intT69, intT70, intT71, intT72, intT73, intT74, intT75, intT76, intT77, intT78, intT79, intT80, intT81, intT82, intT83, intT84, intT85, intT86, intT87, intT88, intT89, intT90, intT91, intT92, intT93, intT94, intT95, intT96, intT97, intT98, intT99, intT100, intT101, intT102, intT103, intT104, intT105, intT106, intT107, intT108, intT109, intT110, intT111, intT112, intT113, intT114, intT115, intT116, intT117, intT118, intT119, intT120, intT121, intT122, intT123, intT124, intT125, intT126, intT127, intT128, intT129, intT130, intT131, intT132, intT133, intT134, intT135, intT136, intT137, intT138, intT139, intT140, intT141, intT142, intT143, intT144, intT145, intT146, intT147, intT148, intT149, intT150, intT151, intT152, intT153, intT154, intT155, intT156, intT157, intT158, intT159, intT160, intT161, intT162, intT163, intT164, intT165, intT166, intT167, intT168, intT169, intT170, intT171, intT172, intT173, intT174, intT175, intT176, intT177, intT178, intT179, intT180, intT181, intT182, intT183, intT184, intT185, intT186, intT187, intT188, intT189, intT190, intT191, intT192, intT193, intT194, intT195, intT196, intT197, intT198, intT199, intT200, intT201, intT202, intT203, intT204, intT205, intT206, intT207, intT208, intT209, intT210, intT211, intT212, intT213, intT214, intT215, intT216, intT217, intT218, intT219, intT220, intT221, intT222, TR.isTmp, List.filter_cons, List.filter_nil, List.map_cons, List.map_nil, List.cons_append, List.nil_append, if_true, Bool.false_eq_true, if_false, Bool.and_self, Bool.and_false, Bool.false_and]) | (with_reducible refine TR.wpList_assert (by kernel_rfl) ?_) | (at_builtin; refine TR.wpList_append_lit (s := .tmp 96) (x := .tmp 98) rfl rfl (e := _) (size := 8) (bytes := 48) (by kernel_rfl) (TR.own_below (TR.own_below HRL.out HB1.out) (show Below w1.heap.size w1 _ by repeat (first | exact Below.refl _ _ | assumption | refine Below.drew ?_ | refine Below.drewN ?_ _ | refine Below.setCell ?_ (by first | (simp; done) | (simp; omega) | omega) _ | refine Below.alloc ?_ (by first | (simp; done) | (simp; omega) | omega) _))) rfl rfl (TR.alloc_at (by first | rfl | (simp; done) | (simp; omega) | omega)) rfl rfl ((HB.out.trans (HB1.out.mono HB.out.size)).trans (show Below w0.heap.size w1 _ by repeat (first | exact Below.refl _ _ | assumption | refine Below.drew ?_ | refine Below.drewN ?_ _ | refine Below.setCell ?_ (by first | (simp; done) | (simp; omega) | omega) _ | refine Below.alloc ?_ (by first | (simp; done) | (simp; omega) | omega) _))) (Nat.le_refl _) ((HB.out.trans (HB1.out.mono HB.out.size)).trans (show Below w0.heap.size w1 _ by repeat (first | exact Below.refl _ _ | assumption | refine Below.drew ?_ | refine Below.drewN ?_ _ | refine Below.setCell ?_ (by first | (simp; done) | (simp; omega) | omega) _ | refine Below.alloc ?_ (by first | (simp; done) | (simp; omega) | omega) _))) (Nat.le_refl _) (by simp only [maxLen]; omega) (by omega) ?_; intro v2 w2 hown2 hg2 hb2 he2; obtain ⟨hc2', hf2'⟩ := TR.bcell hb2; have HO2 := Lib.hid hown2; have HG2 := Lib.hid hg2; have HB2 := Lib.hid hb2; have HE2 := Lib.hid he2; clear hown2 hg2 hb2 he2; have hsz2 : w0.heap.size ≤ w2.heap.size := HB2.out.size; obtain ⟨hca', hcb'⟩ := HK.out w2 HB2.out; have hrb : w2.heap[w1.heap.size]? = some (.cells #[.int .u8 rc, .int .i32 rv] 32 (0, 0)) := (TR.grown_new (TR.own_below HRL.out HB1.out) HG2.out (g := w1.heap.size) (Nat.le_refl _) (by simp; omega)).trans (TR.heap_alloc_old (TR.heap_alloc_old (TR.alloc_at rfl) _) _); have hrc0 : w2.cell? ⟨w1.heap.size, 0, none⟩ = some (.int .u8 rc) := TR.cell_row hrb 0; have hrc1 : w2.cell? ⟨w1.heap.size, 1, none⟩ = some (.int .i32 rv) := TR.cell_row hrb 1; clear hrb; have HRG2 := Lib.hid (TR.own_kept (TR.own_below (TR.own_below HRG.out HB1.out) (show Below w1.heap.size w1 _ by repeat (first | exact Below.refl _ _ | assumption | refine Below.drew ?_ | refine Below.drewN ?_ _ | refine Below.setCell ?_ (by first | (simp; done) | (simp; omega) | omega) _ | refine Below.alloc ?_ (by first | (simp; done) | (simp; omega) | omega) _))) (TR.own_below (TR.own_below HRL.out HB1.out) (show Below w1.heap.size w1 _ by repeat (first | exact Below.refl _ _ | assumption | refine Below.drew ?_ | refine Below.drewN ?_ _ | refine Below.setCell ?_ (by first | (simp; done) | (simp; omega) | omega) _ | refine Below.alloc ?_ (by first | (simp; done) | (simp; omega) | omega) _))) HG2.out (by decide)); have HS2 := Lib.hid ((HS1.out.below (show Below w1.heap.size w1 _ by repeat (first | exact Below.refl _ _ | assumption | refine Below.drew ?_ | refine Below.drewN ?_ _ | refine Below.setCell ?_ (by first | (simp; done) | (simp; omega) | omega) _ | refine Below.alloc ?_ (by first | (simp; done) | (simp; omega) | omega) _))).grown (TR.own_below (TR.own_below HRL.out HB1.out) (show Below w1.heap.size w1 _ by repeat (first | exact Below.refl _ _ | assumption | refine Below.drew ?_ | refine Below.drewN ?_ _ | refine Below.setCell ?_ (by first | (simp; done) | (simp; omega) | omega) _ | refine Below.alloc ?_ (by first | (simp; done) | (simp; omega) | omega) _))) HG2.out (Nat.le_refl _) (by decide)); clear hc2' hf2' HE2 hca hcb hca1 hcb1 hca2 hcb2) | (at_builtin; generalize hK : wpList prog = K at *))
            (subst hK; refine TR.wpList_append_lit (s := .tmp 100) (x := .tmp 112) rfl rfl (e := _) (size := 7) (bytes := 40) (by kernel_rfl) (HRG2.out.alloc _) rfl rfl (TR.alloc_at (by first | rfl | (simp; done) | (simp; omega))) rfl rfl (HB2.out.trans (show Below w0.heap.size w2 _ by repeat (first | exact Below.refl _ _ | assumption | refine Below.drew ?_ | refine Below.drewN ?_ _ | refine Below.setCell ?_ (by first | (simp; done) | (simp; omega) | omega) _ | refine Below.alloc ?_ (by first | (simp; done) | (simp; omega) | omega) _))) (Nat.le_refl _) (HB2.out.trans (show Below w0.heap.size w2 _ by repeat (first | exact Below.refl _ _ | assumption | refine Below.drew ?_ | refine Below.drewN ?_ _ | refine Below.setCell ?_ (by first | (simp; done) | (simp; omega) | omega) _ | refine Below.alloc ?_ (by first | (simp; done) | (simp; omega) | omega) _))) (Nat.le_refl _) (by simp only [maxLen]; omega) (by omega) ?_; intro v3 w3 hown3 hg3 hb3 he3; obtain ⟨hc3', hf3'⟩ := TR.bcell hb3; have HO3 := Lib.hid hown3; have HG3 := Lib.hid hg3; have HB3 := Lib.hid hb3; have HE3 := Lib.hid he3; clear hown3 hg3 hb3 he3)
            go_wp2
            go_roundw
            case rel =>
              have hR : run object m [] ((done c).take (k + 1)) = (l2, t ++ [⟨rc, rv⟩]) := by
                rw [List.take_add_one, HX.out]
                show run object m [] ((done c).take k ++ [_]) = _
                rw [HSN.out, HQ.out]
                simp only []
                rw [HAP.out]
              have hS : spansTo object m (done c) d (k + 1) = spansTo object m (done c) d k ++ [spanAt d k ⟨ok, ov⟩ ⟨rc, rv⟩] := by
                show _ ++ [_] = _
                rw [HGD.out, HQ.out]
                simp only []
                rw [HAP.out]
              have hG : logTo object m (done c) (k + 1) = logTo object m (done c) k ++ [logAt k ⟨ok, ov⟩ ⟨rc, rv⟩] := by
                show _ ++ [_] = _
                rw [HGD.out, HQ.out]
                simp only []
                rw [HAP.out]
              refine ⟨k + 1, by omega, by go_num, ?_, ?_, ?_, HB3.out⟩
              · rw [hS, TR.flatMap_snoc, HSP.out]
                exact TR.own_cast (by simp [Sp.cs]; try omega) (TR.own_kept (TR.own_drew (HO2.out.alloc _)) (TR.own_drew (HRG2.out.alloc _)) HG3.out (by decide))
              · rw [hG, TR.flatMap_snoc]
                exact TR.own_cast (by simp [Ap.cs, logAt]) HO3.out
              · rw [hR]
                exact (HS2.out.below ((Below.refl _ w2).alloc (Nat.le_refl _) _).drew).grown (TR.own_drew (HRG2.out.alloc _)) HG3.out (Nat.le_refl _) (by decide)
            case measure => simp [intOf]; omega
          · have hsp : spanAt d k ⟨ok, ov⟩ ⟨rc, rv⟩ = ⟨(k : Int) % 3, (k : Int) / 3 + 1, ⟨ok, ov⟩, ⟨rc, rv⟩, max 0 (4 * k - y % 9), 4 * k + y / 9 % 9⟩ := by
              unfold spanAt; rw [hy]; simp [h240]
            have HSP := Lib.hid hsp; have HY := Lib.hid hy; clear hsp hy
            have hd2 : decide (240 ≤ y) = false := by simpa using h240
            go_wp2_with (first | (go_at_call 29; refine (hP.out _ _ (by omega) hc3 HC4.out HB.out.size HR3.out).mono ?_; rintro e w1 ⟨v1, rfl, hs1, hb1⟩; have hsz1 : w0.heap.size ≤ w1.heap.size := Nat.le_trans HB.out.size hb1.size; have HS1 := Lib.hid hs1; have HB1 := Lib.hid hb1; clear hs1 hb1; obtain ⟨hca, hcb⟩ := HK.out w1 (HB.out.trans (HB1.out.mono HB.out.size)); have hca1 := TR.cell_alloc hca; have hcb1 := TR.cell_alloc hcb; have hca2 := TR.cell_alloc2 hca; have hcb2 := TR.cell_alloc2 hcb; have hda := HD.out w1 (HB.out.trans (HB1.out.mono HB.out.size)); have hda1 := TR.cell_alloc hda; have hda2 := TR.cell_alloc2 hda) | (refine TR.wp_region_text (TR.cls_ok _) (by kernel_rfl) (by kernel_rfl) ?_; simp only [TR.withAsserts, TR.asserted, intT0, intT1, intT2, intT3, intT4, intT5, intT6, intT7, intT8, intT9, intT10, intT11, intT12, intT13, intT14, intT15, intT16, intT17, intT18, intT19, intT20, intT21, intT22, intT23, intT24, intT25, intT26, intT27, intT28, intT29, intT30, intT31, intT32, intT33, intT34, intT35, intT36, intT37, intT38, intT39, intT40, intT41, intT42, intT43, intT44, intT45, intT46, intT47, intT48, intT49, intT50, intT51, intT52, intT53, intT54, intT55, intT56, intT57, intT58, intT59, intT60, intT61, intT62, intT63, intT64, intT65, intT66, intT67, intT68, intT69, intT70, intT71, intT72, intT73, intT74, intT75, intT76, intT77, intT78, intT79, intT80, intT81, intT82, intT83, intT84, intT85, intT86, intT87, intT88, intT89, intT90, intT91, intT92, intT93, intT94, intT95, intT96, intT97, intT98, intT99, intT100, intT101, intT102, intT103, intT104, intT105, intT106, intT107, intT108, intT109, intT110, intT111, intT112, intT113, intT114, intT115, intT116, intT117, intT118, intT119, intT120, intT121, intT122, intT123, intT124, intT125, intT126, intT127, intT128, intT129, intT130, intT131, intT132, intT133, intT134, intT135, intT136, intT137, intT138, intT139, intT140, intT141, intT142, intT143, intT144, intT145, intT146, intT147, intT148, intT149, intT150, intT151, intT152, intT153, intT154, intT155, intT156, intT157, intT158, intT159, intT160, intT161, intT162, intT163, intT164, intT165, intT166, intT167, intT168, intT169, intT170, intT171, intT172, intT173, intT174, intT175, intT176, intT177, intT178, intT179, intT180, intT181, intT182, intT183, intT184, intT185, intT186, intT187, intT188, intT189, intT190, intT191, intT192, intT193, intT194, intT195, intT196, intT197, intT198, intT199, intT200, intT201, intT202, intT203, intT204, intT205, intT206, intT207, intT208, intT209, intT210, intT211, intT212, intT213, intT214, intT215, intT216, intT217, intT218, intT219, intT220, intT221, intT222, TR.isTmp, List.filter_cons, List.filter_nil, List.map_cons, List.map_nil, List.cons_append, List.nil_append, if_true, Bool.false_eq_true, if_false, Bool.and_self, Bool.and_false, Bool.false_and]) | (with_reducible refine TR.wpList_assert (by kernel_rfl) ?_) | (at_builtin; refine TR.wpList_append_lit (s := .tmp 96) (x := .tmp 98) rfl rfl (e := _) (size := 8) (bytes := 48) (by kernel_rfl) (TR.own_below (TR.own_below HRL.out HB1.out) (show Below w1.heap.size w1 _ by repeat (first | exact Below.refl _ _ | assumption | refine Below.drew ?_ | refine Below.drewN ?_ _ | refine Below.setCell ?_ (by first | (simp; done) | (simp; omega) | omega) _ | refine Below.alloc ?_ (by first | (simp; done) | (simp; omega) | omega) _))) rfl rfl (TR.alloc_at (by first | rfl | (simp; done) | (simp; omega) | omega)) rfl rfl ((HB.out.trans (HB1.out.mono HB.out.size)).trans (show Below w0.heap.size w1 _ by repeat (first | exact Below.refl _ _ | assumption | refine Below.drew ?_ | refine Below.drewN ?_ _ | refine Below.setCell ?_ (by first | (simp; done) | (simp; omega) | omega) _ | refine Below.alloc ?_ (by first | (simp; done) | (simp; omega) | omega) _))) (Nat.le_refl _) ((HB.out.trans (HB1.out.mono HB.out.size)).trans (show Below w0.heap.size w1 _ by repeat (first | exact Below.refl _ _ | assumption | refine Below.drew ?_ | refine Below.drewN ?_ _ | refine Below.setCell ?_ (by first | (simp; done) | (simp; omega) | omega) _ | refine Below.alloc ?_ (by first | (simp; done) | (simp; omega) | omega) _))) (Nat.le_refl _) (by simp only [maxLen]; omega) (by omega) ?_; intro v2 w2 hown2 hg2 hb2 he2; obtain ⟨hc2', hf2'⟩ := TR.bcell hb2; have HO2 := Lib.hid hown2; have HG2 := Lib.hid hg2; have HB2 := Lib.hid hb2; have HE2 := Lib.hid he2; clear hown2 hg2 hb2 he2; have hsz2 : w0.heap.size ≤ w2.heap.size := HB2.out.size; obtain ⟨hca', hcb'⟩ := HK.out w2 HB2.out; have hrb : w2.heap[w1.heap.size]? = some (.cells #[.int .u8 rc, .int .i32 rv] 32 (0, 0)) := (TR.grown_new (TR.own_below HRL.out HB1.out) HG2.out (g := w1.heap.size) (Nat.le_refl _) (by simp; omega)).trans (TR.heap_alloc_old (TR.heap_alloc_old (TR.alloc_at rfl) _) _); have hrc0 : w2.cell? ⟨w1.heap.size, 0, none⟩ = some (.int .u8 rc) := TR.cell_row hrb 0; have hrc1 : w2.cell? ⟨w1.heap.size, 1, none⟩ = some (.int .i32 rv) := TR.cell_row hrb 1; clear hrb; have HRG2 := Lib.hid (TR.own_kept (TR.own_below (TR.own_below HRG.out HB1.out) (show Below w1.heap.size w1 _ by repeat (first | exact Below.refl _ _ | assumption | refine Below.drew ?_ | refine Below.drewN ?_ _ | refine Below.setCell ?_ (by first | (simp; done) | (simp; omega) | omega) _ | refine Below.alloc ?_ (by first | (simp; done) | (simp; omega) | omega) _))) (TR.own_below (TR.own_below HRL.out HB1.out) (show Below w1.heap.size w1 _ by repeat (first | exact Below.refl _ _ | assumption | refine Below.drew ?_ | refine Below.drewN ?_ _ | refine Below.setCell ?_ (by first | (simp; done) | (simp; omega) | omega) _ | refine Below.alloc ?_ (by first | (simp; done) | (simp; omega) | omega) _))) HG2.out (by decide)); have HS2 := Lib.hid ((HS1.out.below (show Below w1.heap.size w1 _ by repeat (first | exact Below.refl _ _ | assumption | refine Below.drew ?_ | refine Below.drewN ?_ _ | refine Below.setCell ?_ (by first | (simp; done) | (simp; omega) | omega) _ | refine Below.alloc ?_ (by first | (simp; done) | (simp; omega) | omega) _))).grown (TR.own_below (TR.own_below HRL.out HB1.out) (show Below w1.heap.size w1 _ by repeat (first | exact Below.refl _ _ | assumption | refine Below.drew ?_ | refine Below.drewN ?_ _ | refine Below.setCell ?_ (by first | (simp; done) | (simp; omega) | omega) _ | refine Below.alloc ?_ (by first | (simp; done) | (simp; omega) | omega) _))) HG2.out (Nat.le_refl _) (by decide)); clear hc2' hf2' HE2 hca hcb hca1 hcb1 hca2 hcb2) | (at_builtin; generalize hK : wpList prog = K at *))
            (subst hK; refine TR.wpList_append_lit (s := .tmp 100) (x := .tmp 112) rfl rfl (e := _) (size := 7) (bytes := 40) (by kernel_rfl) (HRG2.out.alloc _) rfl rfl (TR.alloc_at (by first | rfl | (simp; done) | (simp; omega))) rfl rfl (HB2.out.trans (show Below w0.heap.size w2 _ by repeat (first | exact Below.refl _ _ | assumption | refine Below.drew ?_ | refine Below.drewN ?_ _ | refine Below.setCell ?_ (by first | (simp; done) | (simp; omega) | omega) _ | refine Below.alloc ?_ (by first | (simp; done) | (simp; omega) | omega) _))) (Nat.le_refl _) (HB2.out.trans (show Below w0.heap.size w2 _ by repeat (first | exact Below.refl _ _ | assumption | refine Below.drew ?_ | refine Below.drewN ?_ _ | refine Below.setCell ?_ (by first | (simp; done) | (simp; omega) | omega) _ | refine Below.alloc ?_ (by first | (simp; done) | (simp; omega) | omega) _))) (Nat.le_refl _) (by simp only [maxLen]; omega) (by omega) ?_; intro v3 w3 hown3 hg3 hb3 he3; obtain ⟨hc3', hf3'⟩ := TR.bcell hb3; have HO3 := Lib.hid hown3; have HG3 := Lib.hid hg3; have HB3 := Lib.hid hb3; have HE3 := Lib.hid he3; clear hown3 hg3 hb3 he3)
            go_wp2
            go_roundw
            case rel =>
              have hR : run object m [] ((done c).take (k + 1)) = (l2, t ++ [⟨rc, rv⟩]) := by
                rw [List.take_add_one, HX.out]
                show run object m [] ((done c).take k ++ [_]) = _
                rw [HSN.out, HQ.out]
                simp only []
                rw [HAP.out]
              have hS : spansTo object m (done c) d (k + 1) = spansTo object m (done c) d k ++ [spanAt d k ⟨ok, ov⟩ ⟨rc, rv⟩] := by
                show _ ++ [_] = _
                rw [HGD.out, HQ.out]
                simp only []
                rw [HAP.out]
              have hG : logTo object m (done c) (k + 1) = logTo object m (done c) k ++ [logAt k ⟨ok, ov⟩ ⟨rc, rv⟩] := by
                show _ ++ [_] = _
                rw [HGD.out, HQ.out]
                simp only []
                rw [HAP.out]
              refine ⟨k + 1, by omega, by go_num, ?_, ?_, ?_, HB3.out⟩
              · rw [hS, TR.flatMap_snoc, HSP.out]
                exact TR.own_cast (by simp [Sp.cs]; try omega) (TR.own_kept (TR.own_drew (HO2.out.alloc _)) (TR.own_drew (HRG2.out.alloc _)) HG3.out (by decide))
              · rw [hG, TR.flatMap_snoc]
                exact TR.own_cast (by simp [Ap.cs, logAt]) HO3.out
              · rw [hR]
                exact (HS2.out.below ((Below.refl _ w2).alloc (Nat.le_refl _) _).drew).grown (TR.own_drew (HRG2.out.alloc _)) HG3.out (Nat.le_refl _) (by decide)
            case measure => simp [intOf]; omega
        · have hd1 : decide ((k : Int) < (d.length : Int)) = false := by simp; omega
          have hsp : spanAt d k ⟨ok, ov⟩ ⟨rc, rv⟩ = ⟨(k : Int) % 3, (k : Int) / 3 + 1, ⟨ok, ov⟩, ⟨rc, rv⟩, max 0 (4 * k - 0), 4 * k + 1⟩ := by
            unfold spanAt; rw [List.getElem?_eq_none hkd]
          have HSP := Lib.hid hsp; clear hsp
          have hmx : (if (0 : Int) < 4 * (k : Int) then 4 * (k : Int) else 0) = 4 * (k : Int) := by split <;> omega
          go_wp2_with (first | (go_at_call 29; refine (hP.out _ _ (by omega) hc3 HC4.out HB.out.size HR3.out).mono ?_; rintro e w1 ⟨v1, rfl, hs1, hb1⟩; have hsz1 : w0.heap.size ≤ w1.heap.size := Nat.le_trans HB.out.size hb1.size; have HS1 := Lib.hid hs1; have HB1 := Lib.hid hb1; clear hs1 hb1; obtain ⟨hca, hcb⟩ := HK.out w1 (HB.out.trans (HB1.out.mono HB.out.size)); have hca1 := TR.cell_alloc hca; have hcb1 := TR.cell_alloc hcb; have hca2 := TR.cell_alloc2 hca; have hcb2 := TR.cell_alloc2 hcb) | (refine TR.wp_region_text (TR.cls_ok _) (by kernel_rfl) (by kernel_rfl) ?_; simp only [TR.withAsserts, TR.asserted, intT0, intT1, intT2, intT3, intT4, intT5, intT6, intT7, intT8, intT9, intT10, intT11, intT12, intT13, intT14, intT15, intT16, intT17, intT18, intT19, intT20, intT21, intT22, intT23, intT24, intT25, intT26, intT27, intT28, intT29, intT30, intT31, intT32, intT33, intT34, intT35, intT36, intT37, intT38, intT39, intT40, intT41, intT42, intT43, intT44, intT45, intT46, intT47, intT48, intT49, intT50, intT51, intT52, intT53, intT54, intT55, intT56, intT57, intT58, intT59, intT60, intT61, intT62, intT63, intT64, intT65, intT66, intT67, intT68, intT69, intT70, intT71, intT72, intT73, intT74, intT75, intT76, intT77, intT78, intT79, intT80, intT81, intT82, intT83, intT84, intT85, intT86, intT87, intT88, intT89, intT90, intT91, intT92, intT93, intT94, intT95, intT96, intT97, intT98, intT99, intT100, intT101, intT102, intT103, intT104, intT105, intT106, intT107, intT108, intT109, intT110, intT111, intT112, intT113, intT114, intT115, intT116, intT117, intT118, intT119, intT120, intT121, intT122, intT123, intT124, intT125, intT126, intT127, intT128, intT129, intT130, intT131, intT132, intT133, intT134, intT135, intT136, intT137, intT138, intT139, intT140, intT141, intT142, intT143, intT144, intT145, intT146, intT147, intT148, intT149, intT150, intT151, intT152, intT153, intT154, intT155, intT156, intT157, intT158, intT159, intT160, intT161, intT162, intT163, intT164, intT165, intT166, intT167, intT168, intT169, intT170, intT171, intT172, intT173, intT174, intT175, intT176, intT177, intT178, intT179, intT180, intT181, intT182, intT183, intT184, intT185, intT186, intT187, intT188, intT189, intT190, intT191, intT192, intT193, intT194, intT195, intT196, intT197, intT198, intT199, intT200, intT201, intT202, intT203, intT204, intT205, intT206, intT207, intT208, intT209, intT210, intT211, intT212, intT213, intT214, intT215, intT216, intT217, intT218, intT219, intT220, intT221, intT222, TR.isTmp, List.filter_cons, List.filter_nil, List.map_cons, List.map_nil, List.cons_append, List.nil_append, if_true, Bool.false_eq_true, if_false, Bool.and_self, Bool.and_false, Bool.false_and]) | (with_reducible refine TR.wpList_assert (by kernel_rfl) ?_) | (at_builtin; refine TR.wpList_append_lit (s := .tmp 96) (x := .tmp 98) rfl rfl (e := _) (size := 8) (bytes := 48) (by kernel_rfl) (TR.own_below (TR.own_below HRL.out HB1.out) (show Below w1.heap.size w1 _ by repeat (first | exact Below.refl _ _ | assumption | refine Below.drew ?_ | refine Below.drewN ?_ _ | refine Below.setCell ?_ (by first | (simp; done) | (simp; omega) | omega) _ | refine Below.alloc ?_ (by first | (simp; done) | (simp; omega) | omega) _))) rfl rfl (TR.alloc_at (by first | rfl | (simp; done) | (simp; omega) | omega)) rfl rfl ((HB.out.trans (HB1.out.mono HB.out.size)).trans (show Below w0.heap.size w1 _ by repeat (first | exact Below.refl _ _ | assumption | refine Below.drew ?_ | refine Below.drewN ?_ _ | refine Below.setCell ?_ (by first | (simp; done) | (simp; omega) | omega) _ | refine Below.alloc ?_ (by first | (simp; done) | (simp; omega) | omega) _))) (Nat.le_refl _) ((HB.out.trans (HB1.out.mono HB.out.size)).trans (show Below w0.heap.size w1 _ by repeat (first | exact Below.refl _ _ | assumption | refine Below.drew ?_ | refine Below.drewN ?_ _ | refine Below.setCell ?_ (by first | (simp; done) | (simp; omega) | omega) _ | refine Below.alloc ?_ (by first | (simp; done) | (simp; omega) | omega) _))) (Nat.le_refl _) (by simp only [maxLen]; omega) (by omega) ?_; intro v2 w2 hown2 hg2 hb2 he2; obtain ⟨hc2', hf2'⟩ := TR.bcell hb2; have HO2 := Lib.hid hown2; have HG2 := Lib.hid hg2; have HB2 := Lib.hid hb2; have HE2 := Lib.hid he2; clear hown2 hg2 hb2 he2; have hsz2 : w0.heap.size ≤ w2.heap.size := HB2.out.size; obtain ⟨hca', hcb'⟩ := HK.out w2 HB2.out; have hrb : w2.heap[w1.heap.size]? = some (.cells #[.int .u8 rc, .int .i32 rv] 32 (0, 0)) := (TR.grown_new (TR.own_below HRL.out HB1.out) HG2.out (g := w1.heap.size) (Nat.le_refl _) (by simp; omega)).trans (TR.heap_alloc_old (TR.heap_alloc_old (TR.alloc_at rfl) _) _); have hrc0 : w2.cell? ⟨w1.heap.size, 0, none⟩ = some (.int .u8 rc) := TR.cell_row hrb 0; have hrc1 : w2.cell? ⟨w1.heap.size, 1, none⟩ = some (.int .i32 rv) := TR.cell_row hrb 1; clear hrb; have HRG2 := Lib.hid (TR.own_kept (TR.own_below (TR.own_below HRG.out HB1.out) (show Below w1.heap.size w1 _ by repeat (first | exact Below.refl _ _ | assumption | refine Below.drew ?_ | refine Below.drewN ?_ _ | refine Below.setCell ?_ (by first | (simp; done) | (simp; omega) | omega) _ | refine Below.alloc ?_ (by first | (simp; done) | (simp; omega) | omega) _))) (TR.own_below (TR.own_below HRL.out HB1.out) (show Below w1.heap.size w1 _ by repeat (first | exact Below.refl _ _ | assumption | refine Below.drew ?_ | refine Below.drewN ?_ _ | refine Below.setCell ?_ (by first | (simp; done) | (simp; omega) | omega) _ | refine Below.alloc ?_ (by first | (simp; done) | (simp; omega) | omega) _))) HG2.out (by decide)); have HS2 := Lib.hid ((HS1.out.below (show Below w1.heap.size w1 _ by repeat (first | exact Below.refl _ _ | assumption | refine Below.drew ?_ | refine Below.drewN ?_ _ | refine Below.setCell ?_ (by first | (simp; done) | (simp; omega) | omega) _ | refine Below.alloc ?_ (by first | (simp; done) | (simp; omega) | omega) _))).grown (TR.own_below (TR.own_below HRL.out HB1.out) (show Below w1.heap.size w1 _ by repeat (first | exact Below.refl _ _ | assumption | refine Below.drew ?_ | refine Below.drewN ?_ _ | refine Below.setCell ?_ (by first | (simp; done) | (simp; omega) | omega) _ | refine Below.alloc ?_ (by first | (simp; done) | (simp; omega) | omega) _))) HG2.out (Nat.le_refl _) (by decide)); clear hc2' hf2' HE2 hca hcb hca1 hcb1 hca2 hcb2) | (at_builtin; generalize hK : wpList prog = K at *))
          (subst hK; refine TR.wpList_append_lit (s := .tmp 100) (x := .tmp 112) rfl rfl (e := _) (size := 7) (bytes := 40) (by kernel_rfl) (HRG2.out.alloc _) rfl rfl (TR.alloc_at (by first | rfl | (simp; done) | (simp; omega))) rfl rfl (HB2.out.trans (show Below w0.heap.size w2 _ by repeat (first | exact Below.refl _ _ | assumption | refine Below.drew ?_ | refine Below.drewN ?_ _ | refine Below.setCell ?_ (by first | (simp; done) | (simp; omega) | omega) _ | refine Below.alloc ?_ (by first | (simp; done) | (simp; omega) | omega) _))) (Nat.le_refl _) (HB2.out.trans (show Below w0.heap.size w2 _ by repeat (first | exact Below.refl _ _ | assumption | refine Below.drew ?_ | refine Below.drewN ?_ _ | refine Below.setCell ?_ (by first | (simp; done) | (simp; omega) | omega) _ | refine Below.alloc ?_ (by first | (simp; done) | (simp; omega) | omega) _))) (Nat.le_refl _) (by simp only [maxLen]; omega) (by omega) ?_; intro v3 w3 hown3 hg3 hb3 he3; obtain ⟨hc3', hf3'⟩ := TR.bcell hb3; have HO3 := Lib.hid hown3; have HG3 := Lib.hid hg3; have HB3 := Lib.hid hb3; have HE3 := Lib.hid he3; clear hown3 hg3 hb3 he3)
          go_wp2
          go_roundw
          case rel =>
            have hR : run object m [] ((done c).take (k + 1)) = (l2, t ++ [⟨rc, rv⟩]) := by
              rw [List.take_add_one, HX.out]
              show run object m [] ((done c).take k ++ [_]) = _
              rw [HSN.out, HQ.out]
              simp only []
              rw [HAP.out]
            have hS : spansTo object m (done c) d (k + 1) = spansTo object m (done c) d k ++ [spanAt d k ⟨ok, ov⟩ ⟨rc, rv⟩] := by
              show _ ++ [_] = _
              rw [HGD.out, HQ.out]
              simp only []
              rw [HAP.out]
            have hG : logTo object m (done c) (k + 1) = logTo object m (done c) k ++ [logAt k ⟨ok, ov⟩ ⟨rc, rv⟩] := by
              show _ ++ [_] = _
              rw [HGD.out, HQ.out]
              simp only []
              rw [HAP.out]
            refine ⟨k + 1, by omega, by go_num, ?_, ?_, ?_, HB3.out⟩
            · rw [hS, TR.flatMap_snoc, HSP.out]
              exact TR.own_cast (by simp [Sp.cs]; try omega) (TR.own_kept (TR.own_drew (HO2.out.alloc _)) (TR.own_drew (HRG2.out.alloc _)) HG3.out (by decide))
            · rw [hG, TR.flatMap_snoc]
              exact TR.own_cast (by simp [Ap.cs, logAt]) HO3.out
            · rw [hR]
              exact (HS2.out.below ((Below.refl _ w2).alloc (Nat.le_refl _) _).drew).grown (TR.own_drew (HRG2.out.alloc _)) HG3.out (Nat.le_refl _) (by decide)
          case measure => simp [intOf]; omega
      · have hS : spans object m c d = spansTo object m (done c) d k := by unfold spans; rw [HN.out]; congr 1; omega
        have hG : logs object m c = logTo object m (done c) k := by unfold logs; rw [HN.out]; congr 1; omega
        have HS := Lib.hid hS; have HG := Lib.hid hG; clear hS hG
        go_wp2
        go_ret2
        refine ⟨_, _, rfl, ?_, ?_, HB0.out.trans (HB.out.mono HB0.out.size)⟩
        · rw [HS.out, spansTo_len]; exact TR.own_base HRL.out HB0.out.size
        · rw [HG.out, logTo_len]; exact TR.own_base HRG.out HB0.out.size
  
end Go.Proofs.Try

