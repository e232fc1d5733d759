import Derived.Test.YtooibfffneecfaaWe
import Derived.Test.YtooibfffneecfaaMem2
namespace Go.Proofs.Try
open Go.RowKit Go.Rp
set_option linter.unusedSimpArgs false
set_option maxRecDepth 100000

set_option maxHeartbeats 1600000 in
theorem run_any (object m : Int) (A : Option Addr) (cap : Nat) (s : List Int) (A2 : Option Addr) (cap2 : Nat) (os : List O) (w : World) (B : Nat) (hl : s.length + os.length ≤ 1000000) (hc1 : s.length ≤ cap) (hc2 : cap ≤ maxLen) (hB : B ≤ w.heap.size)
    (hr : TR.RdT w B 21 i32c 1 A s) (hr2 : TR.RdL w w.heap.size O.cs 2 A2 os) :
    Calls prog 56 #[.int .u8 object, .int .i64 m, .slice A s.length cap, .slice A2 os.length cap2] w fun e w' => ∃ v v2, e = .returned (.tuple #[v, v2]) ∧ TR.SlT w' B 21 i32c 1 v (run object m s os).1 ∧ w'.ownsRow w.heap.size 32 2 v2 os.length ((run object m s os).2.flatMap R.cs) ∧ Below w.heap.size w w' := by
  have HR := Lib.hid (TR.SlT.mk hc1 hc2 hr); clear hr hc1 hc2
  have HR2 := Lib.hid hr2; clear hr2
  have HP := Lib.hid (fun w A cap s o h1 h2 h3 h4 h5 => apply_any object m A cap s o w B h1 h2 h3 h4 h5)
  go_enter func56, ntmps56
  go_wp2
  go_loopw [2, 10, 11] (fun vs vt i wr => ∃ k : Nat, k ≤ os.length ∧ i = .int .i64 k ∧ TR.SlT wr B 21 i32c 1 vs (run object m s (os.take k)).1 ∧ wr.ownsRow w.heap.size 32 2 vt k ((run object m s (os.take k)).2.flatMap R.cs) ∧ Below w.heap.size w wr) (fun _ _ i _ => os.length - (intOf i).toNat)
  case atStart => exact ⟨0, by omega, rfl, by simpa [run] using HR.out, World.ownsRow_nil _ _ _ _, Below.refl _ _⟩
  case round =>
    obtain ⟨k, hk, rfl, hs, hown, hbel⟩ := hrel
    by_cases hlt : k < os.length
    · obtain ⟨x, hx⟩ : ∃ x, os[k]? = some x := ⟨_, List.getElem?_eq_getElem hlt⟩
      have hlen := (run_len object m (os.take k) s).1
      have hsn := run_snoc object m (os.take k) s x
      have htk : (os.take k).length = k := by simp; omega
      obtain ⟨ad, rfl, hb, hc0, hc⟩ := (HR2.out.below hbel).cells hx
      have hcell0 := hc0 _ rfl; have hcell1 := hc 1 _ (by decide) rfl
      rw [htk] at hlen
      have HSN := Lib.hid hsn; have HX := Lib.hid hx; have HTK := Lib.hid htk; clear hsn hx hc hc0 htk
      generalize hq : run object m s (os.take k) = q at hs hown hlen
      obtain ⟨l, t⟩ := q
      have HQ := Lib.hid hq; clear hq
      obtain ⟨A3, cap3, rfl, hc3, hc4, hr3⟩ := hs
      have HO := Lib.hid hown; have HB := Lib.hid hbel; have HC4 := Lib.hid hc4; have HR3 := Lib.hid hr3; clear hown hbel hc4 hr3
      simp only [] at *
      generalize hap : apply object m l x = ap at *
      obtain ⟨l2, rc, rv⟩ := ap
      have HAP := Lib.hid hap; clear hap
      have hP := fun w cap h1 h2 h3 h4 h5 => HP.out w A3 cap l x h1 h2 h3 h4 h5
      rw [HAP.out] at hP
      have hP := Lib.hid hP
      obtain ⟨ok, ov⟩ := x
      simp only [O.cs, R.cs] at *
      go_wp2_with (first | (go_at_call 29; refine (hP.out _ _ (by omega) hc3 HC4.out (by have := HB.out.size; omega) HR3.out).mono ?_; rintro e w1 ⟨v1, rfl, hs1, hb1⟩; have hsz1 : w.heap.size ≤ w1.heap.size := Nat.le_trans HB.out.size hb1.size; have HS1 := Lib.hid hs1; have HB1 := Lib.hid hb1; clear hs1 hb1) | (refine TR.wp_region_text (TR.cls_ok _) (by kernel_rfl) (by kernel_rfl) ?_; simp only [TR.withAsserts, TR.asserted, intT0, intT1, intT2, intT3, intT4, intT5, intT6, intT7, intT8, intT9, intT10, intT11, intT12, intT13, intT14, intT15, intT16, intT17, intT18, intT19, intT20, intT21, intT22, intT23, intT24, intT25, intT26, intT27, intT28, intT29, intT30, intT31, intT32, intT33, intT34, intT35, intT36, intT37, intT38, intT39, intT40, intT41, intT42, intT43, intT44, intT45, intT46, intT47, intT48, intT49, intT50, intT51, intT52, intT53, intT54, intT55, intT56, intT57, intT58, intT59, intT60, intT61, intT62, intT63, intT64, intT65, intT66, intT67, intT68, intT69, intT70, intT71, intT72, intT73, intT74, intT75, intT76, intT77, intT78, intT79, intT80, intT81, intT82, intT83, intT84, intT85, intT86, intT87, intT88, intT89, intT90, intT91, intT92, intT93, intT94, intT95, intT96, intT97, intT98, intT99, intT100, intT101, intT102, intT103, intT104, intT105, intT106, intT107, intT108, intT109, intT110, intT111, intT112, intT113, intT114, intT115, intT116, intT117, intT118, intT119, intT120, intT121, intT122, intT123, intT124, intT125, intT126, intT127, intT128, intT129, intT130, intT131, intT132, intT133, intT134, intT135, intT136, intT137, intT138, intT139, intT140, intT141, intT142, intT143, intT144, intT145, intT146, intT147, intT148, intT149, intT150, intT151, intT152, intT153, intT154, intT155, intT156, intT157, intT158, intT159, intT160, intT161, intT162, intT163, intT164, intT165, intT166, intT167, intT168, intT169, intT170, intT171, intT172, intT173, intT174, intT175, intT176, intT177, intT178, intT179, intT180, intT181, intT182, intT183, intT184, intT185, intT186, intT187, intT188, intT189, intT190, intT191, intT192, intT193, intT194, intT195, intT196, intT197, intT198, intT199, intT200, intT201, intT202, intT203, intT204, intT205, intT206, intT207, intT208, intT209, intT210, intT211, intT212, intT213, intT214, intT215, intT216, intT217, intT218, intT219, intT220, intT221, intT222, TR.isTmp, List.filter_cons, List.filter_nil, List.map_cons, List.map_nil, List.cons_append, List.nil_append, if_true, Bool.false_eq_true, if_false, Bool.and_self, Bool.and_false, Bool.false_and]) | (with_reducible refine TR.wpList_assert (by kernel_rfl) ?_) | (at_builtin; refine TR.wpList_append_lit (s := .tmp 32) (x := .tmp 34) rfl rfl (e := _) (size := 2) (bytes := 8) (by kernel_rfl) (TR.own_below (TR.own_below HO.out HB1.out) (show Below w1.heap.size w1 _ by repeat (first | exact Below.refl _ _ | assumption | refine Below.drew ?_ | refine Below.drewN ?_ _ | refine Below.setCell ?_ (by first | (simp; done) | (simp; omega) | omega) _ | refine Below.alloc ?_ (by first | (simp; done) | (simp; omega) | omega) _))) rfl rfl (TR.alloc_at (by first | rfl | (simp; done) | (simp; omega) | omega)) rfl rfl ((HB.out.trans (HB1.out.mono HB.out.size)).trans (show Below w.heap.size w1 _ by repeat (first | exact Below.refl _ _ | assumption | refine Below.drew ?_ | refine Below.drewN ?_ _ | refine Below.setCell ?_ (by first | (simp; done) | (simp; omega) | omega) _ | refine Below.alloc ?_ (by first | (simp; done) | (simp; omega) | omega) _))) (Nat.le_refl _) ((HB.out.trans (HB1.out.mono HB.out.size)).trans (show Below w.heap.size w1 _ by repeat (first | exact Below.refl _ _ | assumption | refine Below.drew ?_ | refine Below.drewN ?_ _ | refine Below.setCell ?_ (by first | (simp; done) | (simp; omega) | omega) _ | refine Below.alloc ?_ (by first | (simp; done) | (simp; omega) | omega) _))) (Nat.le_refl _) (by simp only [maxLen]; omega) (by omega) ?_; intro v2 w2 hown2 hg2 hb2 he2; obtain ⟨hc2', hf2'⟩ := TR.bcell hb2; have HO2 := Lib.hid hown2; have HG2 := Lib.hid hg2; have HB2 := Lib.hid hb2; have HE2 := Lib.hid he2; clear hown2 hg2 hb2 he2; skip))
      go_roundw
      case rel =>
        have hE : run object m s (os.take (k + 1)) = (l2, t ++ [⟨rc, rv⟩]) := by
          rw [List.take_add_one, HX.out]
          show run object m s (os.take k ++ [_]) = _
          rw [HSN.out, HQ.out]
          simp only []
          rw [HAP.out]
        refine ⟨k + 1, by omega, by go_num, ?_, ?_, HB2.out⟩
        · rw [hE]
          exact (HS1.out.below (show Below w1.heap.size w1 _ by repeat (first | exact Below.refl _ _ | assumption | refine Below.drew ?_ | refine Below.drewN ?_ _ | refine Below.setCell ?_ (by first | (simp; done) | (simp; omega) | omega) _ | refine Below.alloc ?_ (by first | (simp; done) | (simp; omega) | omega) _))).grown (TR.own_below (TR.own_below HO.out HB1.out) (show Below w1.heap.size w1 _ by repeat (first | exact Below.refl _ _ | assumption | refine Below.drew ?_ | refine Below.drewN ?_ _ | refine Below.setCell ?_ (by first | (simp; done) | (simp; omega) | omega) _ | refine Below.alloc ?_ (by first | (simp; done) | (simp; omega) | omega) _))) HG2.out hB (by decide)
        · rw [hE, TR.flatMap_snoc]
          exact HO2.out
      case measure => simp [intOf]; omega
    · have hfin : os.take k = os := List.take_of_length_le (by omega)
      have hkk : k = os.length := by omega
      rw [hfin] at hs hown
      subst hkk
      have HS := Lib.hid hs; have HO := Lib.hid hown; have HB := Lib.hid hbel; clear hs hown hbel hfin
      go_wp2
      go_ret2
      exact ⟨_, _, rfl, HS.out, HO.out, HB.out⟩
end Go.Proofs.Try
