import Derived.Test.YtooibfffneecfaaInts
import Derived.Test.YtooibfffneecfaaPlain
import Derived.WalkLawsBesides
import Derived.WalkSpells
import Derived.BigQuiet
import Derived.Deep.DeepMust
namespace Go.Proofs.Try
open Go.RowKit Go.Rp
set_option linter.unusedSimpArgs false
set_option maxRecDepth 100000

set_option maxHeartbeats 400000 in
theorem most_any (n : Int) (w : World) : Calls prog 79 #[.int .i64 n] w fun e w' => e = .returned (.int .i64 (most n)) ∧ w = w' := by
  go_enter func79, ntmps79
  go_wp2
  all_goals (go_ret; refine ⟨TR.ret_int ?_, rfl⟩; unfold most; omega)

set_option maxHeartbeats 400000 in
theorem place_any (A : Option Addr) (cap : Nat) (l : List Int) (n : Int) (w : World) (hl : l.length ≤ maxLen) (hr : TR.RdL w w.heap.size i64c 1 A l) :
    Calls prog 54 #[.slice A l.length cap, .int .i64 n] w fun e w' => e = .returned (.int .i64 (place l n)) ∧ w = w' := by
  unfold maxLen at hl
  have HR := Lib.hid hr; clear hr
  go_enter func54, ntmps54
  go_wp2
  go_loop [5] (fun i => ∃ k : Nat, k ≤ l.length ∧ i = .int .i64 k ∧ ∀ x ∈ l.take k, x ≠ n) (fun i => l.length - (intOf i).toNat)
  case atStart => exact ⟨0, by omega, rfl, by simp⟩
  case round =>
    obtain ⟨k, hk, rfl, hne⟩ := hrel
    have HN := Lib.hid hne; clear hne
    by_cases hlt : k < l.length
    · obtain ⟨x, hx⟩ : ∃ x, l[k]? = some x := ⟨_, List.getElem?_eq_getElem hlt⟩
      obtain ⟨ad, rfl, hb, hcell⟩ := HR.out.one hx rfl
      have HX := Lib.hid hx; clear hx
      by_cases hxn : x = n
      · have hd : (x == n) = true := by simpa using hxn
        have HXN := Lib.hid hxn; clear hxn
        go_wp2
        go_ret
        refine ⟨TR.ret_int ?_, rfl⟩
        have : place l n = k := by
          unfold place
          have := List.findIdx?_eq_some_iff_getElem (xs := l) (p := (· == n)) (i := k)
          rw [this.2 ⟨hlt, by have := HX.out; rw [List.getElem?_eq_getElem hlt] at this; injection this with this; simp [this, HXN.out], fun j hj => by
            have := HN.out l[j] (List.mem_take_iff_getElem.2 ⟨j, by omega, rfl⟩)
            simpa using this⟩]
        rw [this]
      · have hd : (x == n) = false := by simpa using hxn
        go_wp2
        go_round
        case rel =>
          refine ⟨k + 1, by omega, by go_num, ?_⟩
          intro y hy
          rw [List.take_add_one, HX.out] at hy
          rcases List.mem_append.1 hy with hy | hy
          · exact HN.out y hy
          · simp at hy; rw [hy]; exact hxn
        case measure => simp [intOf]; omega
    · go_wp2
      go_ret
      refine ⟨TR.ret_int ?_, rfl⟩
      have hk : k = l.length := by omega
      have : place l n = -1 := by
        unfold place
        rw [List.findIdx?_eq_none_iff.2 (fun x hx => by have := HN.out x (by rw [hk, List.take_length]; exact hx); simpa using this)]
      rw [this]

set_option maxHeartbeats 400000 in
theorem ops_any (A : Option Addr) (cap : Nat) (c : List Int) (kinds : Int) (w : World) (hl : c.length ≤ maxLen) (hk1 : 1 ≤ kinds) (hk2 : kinds ≤ 255)
    (hr : TR.RdL w w.heap.size u8c 1 A c) (hv : ∀ x ∈ c, 0 ≤ x ∧ x ≤ 255) :
    Calls prog 28 #[.slice A c.length cap, .int .u8 kinds] w fun e w' => ∃ v, e = .returned v ∧ w'.ownsRow w.heap.size 34 2 v (ops c kinds).length ((ops c kinds).flatMap O.cs) ∧ Below w.heap.size w w' := by
  unfold maxLen at hl
  have HR := Lib.hid hr; clear hr
  have HV := Lib.hid hv; clear hv
  go_enter func28, ntmps28
  go_wp2
  go_loopw [5, 6] (fun v i wr => ∃ k : Nat, k ≤ c.length ∧ k ≤ 80 ∧ i = .int .i64 k ∧ wr.ownsRow w.heap.size 34 2 v k (((c.take k).map (opOf kinds)).flatMap O.cs) ∧ Below w.heap.size w wr) (fun _ i _ => c.length - (intOf i).toNat)
  case atStart => exact ⟨0, by omega, by omega, rfl, World.ownsRow_nil _ _ _ _, Below.refl _ _⟩
  case round =>
    obtain ⟨k, hk, hk80, rfl, hown, hbel⟩ := hrel
    have HO := Lib.hid hown; clear hown
    have HB := Lib.hid hbel; clear hbel
    by_cases hlt : k < c.length ∧ k < 80
    · obtain ⟨hlt, hlt2⟩ := hlt
      obtain ⟨x, hx⟩ : ∃ x, c[k]? = some x := ⟨_, List.getElem?_eq_getElem hlt⟩
      have hv := HV.out x (List.mem_of_getElem? hx)
      obtain ⟨ad, rfl, hb, hcell⟩ := (HR.out.below HB.out).one hx rfl
      have hmod1 : 0 ≤ x % kinds := Int.emod_nonneg _ (by omega)
      have hmod2 : x % kinds ≤ 254 := by have := Int.emod_lt_of_pos x (show 0 < kinds by omega); omega
      have HX := Lib.hid hx; clear hx
      have hd1 : decide ((k : Int) < (c.length : Int)) = true := by simp; omega
      have hd2 : decide ((k : Int) < 80) = true := by simp; omega
      go_wp2_with (first | (refine TR.wp_region_text (TR.cls_ok _) (by kernel_rfl) (by kernel_rfl) ?_; simp only [TR.withAsserts, TR.asserted, intT0, intT1, intT2, intT3, intT4, intT5, intT6, intT7, intT8, intT9, intT10, intT11, intT12, intT13, intT14, intT15, intT16, intT17, intT18, intT19, intT20, intT21, intT22, intT23, intT24, intT25, intT26, intT27, intT28, intT29, intT30, intT31, intT32, intT33, intT34, intT35, intT36, intT37, intT38, intT39, intT40, intT41, intT42, intT43, intT44, intT45, intT46, intT47, intT48, intT49, intT50, intT51, intT52, intT53, intT54, intT55, intT56, intT57, intT58, intT59, intT60, intT61, intT62, intT63, intT64, intT65, intT66, intT67, intT68, intT69, intT70, intT71, intT72, intT73, intT74, intT75, intT76, intT77, intT78, intT79, intT80, intT81, intT82, intT83, intT84, intT85, intT86, intT87, intT88, intT89, intT90, intT91, intT92, intT93, intT94, intT95, intT96, intT97, intT98, intT99, intT100, intT101, intT102, intT103, intT104, intT105, intT106, intT107, intT108, intT109, intT110, intT111, intT112, intT113, intT114, intT115, intT116, intT117, intT118, intT119, intT120, intT121, intT122, intT123, intT124, intT125, intT126, intT127, intT128, intT129, intT130, intT131, intT132, intT133, intT134, intT135, intT136, intT137, intT138, intT139, intT140, intT141, intT142, intT143, intT144, intT145, intT146, intT147, intT148, intT149, intT150, intT151, intT152, intT153, intT154, intT155, intT156, intT157, intT158, intT159, intT160, intT161, intT162, intT163, intT164, intT165, intT166, intT167, intT168, intT169, intT170, intT171, intT172, intT173, intT174, intT175, intT176, intT177, intT178, intT179, intT180, intT181, intT182, intT183, intT184, intT185, intT186, intT187, intT188, intT189, intT190, intT191, intT192, intT193, intT194, intT195, intT196, intT197, intT198, intT199, intT200, intT201, intT202, intT203, intT204, intT205, intT206, intT207, intT208, intT209, intT210, intT211, intT212, intT213, intT214, intT215, intT216, intT217, intT218, intT219, intT220, intT221, intT222, TR.isTmp, List.filter_cons, List.filter_nil, List.map_cons, List.map_nil, List.cons_append, List.nil_append, if_true, Bool.false_eq_true, if_false, Bool.and_self, Bool.and_false, Bool.false_and]) | (with_reducible refine TR.wpList_assert (by kernel_rfl) ?_) | (at_builtin; refine TR.wpList_append_lit (s := .tmp 17) (x := .tmp 33) rfl rfl (e := _) (size := 2) (bytes := 8) (by kernel_rfl) (HO.out.alloc _) rfl rfl (TR.alloc_at (by first | rfl | (simp; done) | (simp; omega) | omega)) rfl rfl ((HB.out.alloc HB.out.size _).drew) (Nat.le_refl _) ((HB.out.alloc HB.out.size _).drew) (Nat.le_refl _) (by simp only [maxLen]; omega) (by omega) ?_; intro v1 w1 hown1 hg1 hb1 he1; obtain ⟨hc1', hf1'⟩ := TR.bcell hb1; have HO1 := Lib.hid hown1; have HG1 := Lib.hid hg1; have HB1 := Lib.hid hb1; have HE1 := Lib.hid he1; clear hown1 hg1 hb1 he1; skip))
      go_roundw
      case rel => exact ⟨k + 1, by omega, by omega, by go_num, by rw [List.take_add_one, HX.out]; simpa [opOf, O.cs] using HO1.out, HB1.out⟩
      case measure => simp [intOf]; omega
    · have hfin : (ops c kinds) = (c.take k).map (opOf kinds) := by
        unfold ops
        rcases Nat.lt_or_ge k c.length with h | h
        · rw [show k = 80 from by omega]
        · rw [List.take_of_length_le (by omega), List.take_of_length_le h]
      have hlen : (ops c kinds).length = k := by rw [hfin]; simp; omega
      have HF := Lib.hid hfin; clear hfin
      have HL := Lib.hid hlen; clear hlen
      by_cases h1 : k < c.length
      all_goals
        go_wp2
        go_ret
        refine ⟨_, rfl, ?_, HB.out⟩
        rw [HL.out, HF.out]
        exact HO.out
end Go.Proofs.Try
