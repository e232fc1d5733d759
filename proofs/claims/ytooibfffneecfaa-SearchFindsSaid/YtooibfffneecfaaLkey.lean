import Derived.Test.YtooibfffneecfaaLgc
import Derived.Test.YtooibfffneecfaaPlain4
import Derived.Laws.Strings
/-! search.key: items as a text; no two lists have the same -/
set_option linter.unusedVariables false
set_option linter.unusedSimpArgs false
namespace Go.Proofs.Try
open Go.L Go.Rp
set_option maxRecDepth 100000
def bytesOf (v : Int) : List Int := [IntKind.u8.wrap (Int.fdiv v 16777216), IntKind.u8.wrap (Int.fdiv v 65536), IntKind.u8.wrap (Int.fdiv v 256), IntKind.u8.wrap v]
def keyB (s : List Int) : ByteArray := strOfNums (s.flatMap bytesOf)
theorem shr24 (v : Int) : bop prog .shr 21 (.int .i32 v) (.int .u64 24) = some (.int .i32 (Int.fdiv v 16777216)) := by kernel_rfl
theorem shr16 (v : Int) : bop prog .shr 21 (.int .i32 v) (.int .u64 16) = some (.int .i32 (Int.fdiv v 65536)) := by kernel_rfl
theorem shr8 (v : Int) : bop prog .shr 21 (.int .i32 v) (.int .u64 8) = some (.int .i32 (Int.fdiv v 256)) := by kernel_rfl
theorem cvt_u8 (v : Int) : cvt prog 21 5 (.int .i32 v) = some (.int .u8 (IntKind.u8.wrap v)) := by kernel_rfl
theorem bsl_u8 (a b c d : Int) : bslV prog 24 4 [(0, .int .u8 a), (1, .int .u8 b), (2, .int .u8 c), (3, .int .u8 d)] = some (1, [[.int .u8 a], [.int .u8 b], [.int .u8 c], [.int .u8 d]]) := by kernel_rfl
theorem u8s_map : ∀ l : List Int, u8s (l.map (intV .u8)) = some l
  | [] => rfl
  | n :: l => by simp only [List.map_cons, intV, u8s]; rw [show u8s (List.map (intV .u8) l) = some l from u8s_map l]
theorem bytes_len (s : List Int) : (s.flatMap bytesOf).length = 4 * s.length := by
  induction s with
  | nil => rfl
  | cons v s ih => rw [List.flatMap_cons, List.length_append, ih]; simp [bytesOf]; omega
theorem key_loop (N : Nat) (z : Nat) (s : List Int) (b : Bool) (p : Nat) (hz : z = 1 ∨ s = []) (hs : 4 * s.length + 4 < lim) : ∀ (d k M : Nat), k + d = s.length → d < M →
    loopx M (lKey_l1 N (.sl z (s.map (intV .i32)) b) (p, s.map (intV .i32))) [.sl 1 (((s.take k).flatMap bytesOf).map (intV .u8)) false, .int .i64 (k : Int)] [] = some (.ret [.str (keyB s)], [])
  | d, k, 0, _, h => by omega
  | 0, k, M + 1, hk, _ => by
    obtain rfl : k = s.length := by omega
    rw [loopx_succ]
    simp only [lKey_l1, gv, List.getD_cons_succ, List.getD_cons_zero, List.length_map, bop_i64_lss, bd_some, bv_bool, Int.lt_irrefl, decide_false, Bool.false_eq_true, if_false, lsl, u8s_map, Option.map_some, List.take_length]
    rfl
  | d + 1, k, M + 1, hk, hM => by
    have hlt : (k : Int) < (s.length : Int) := by omega
    obtain ⟨x, hx⟩ : ∃ x, s[k]? = some x := ⟨_, List.getElem?_eq_getElem (by omega)⟩
    obtain rfl : z = 1 := hz.resolve_right (by rintro rfl; simp at hx)
    have htk : s.take (k + 1) = s.take k ++ [x] := by rw [List.take_add_one, hx]; rfl
    have happ : app 5 1 (.own 5 1 (((s.take k).flatMap bytesOf).map (intV .u8))) [[.int .u8 (IntKind.u8.wrap (Int.fdiv x 16777216))], [.int .u8 (IntKind.u8.wrap (Int.fdiv x 65536))], [.int .u8 (IntKind.u8.wrap (Int.fdiv x 256))], [.int .u8 (IntKind.u8.wrap x)]] = some (((s.take (k + 1)).flatMap bytesOf).map (intV .u8)) := by
      rw [htk]
      have hl : ((s.take k).flatMap bytesOf).length + 4 < lim := by rw [bytes_len, List.length_take]; omega
      have hl2 : (((s.take k).flatMap bytesOf).map (intV .u8)).length + 4 < lim := by rw [List.length_map]; exact hl
      unfold app
      simp only [and_self, true_and, List.length_cons, List.length_nil]
      rw [if_pos hl2]
      simp [bytesOf, intV]
    rw [loopx_succ]
    simp only [lKey_l1, gv, List.getD_cons_succ, List.getD_cons_zero, List.length_map, bop_i64_lss, bd_some, bv_bool, hlt, decide_true, if_true, nv_nat, bdS_some, slk_sl, get_ints, hx, Option.map_some, intV, List.getElem?_cons_zero, shr24, shr16, shr8, cvt_u8, bsl_u8, lsl, happ, bop_i64_add, step64 (show k < lim by omega)]
    exact key_loop N 1 s b p (.inl rfl) hs d (k + 1) M (by omega) (by omega)
theorem key_call (n : Nat) (z : Nat) (s : List Int) (b : Bool) (h : Heap) (hz : z = 1 ∨ s = []) (hs : 4 * s.length + 4 < lim) (hn : s.length + 2 ≤ n) : call n 41 [.sl z (s.map (intV .i32)) b] h = some (.ret [.str (keyB s)], h) := by
  obtain ⟨N, rfl⟩ : ∃ N, n = N + 1 := ⟨n - 1, by omega⟩
  rw [lKey_eq, lKey]
  simp only [slc_sl, bd_some]
  have := key_loop N z s b z hz hs s.length 0 N (by omega) (by omega)
  refine (congrArg (fun o => gcw _ o h) this).trans ?_
  exact gcw_ret (by simp) (by rfl)
/-- no two lists have the same text -/
def InR (s : List Int) : Prop := ∀ x ∈ s, -2147483648 ≤ x ∧ x ≤ 2147483647
theorem byte_inj {a b : Int} (h : UInt8.ofNat (IntKind.u8.wrap a).toNat = UInt8.ofNat (IntKind.u8.wrap b).toNat) : a % 256 = b % 256 := by
  have := congrArg UInt8.toNat h
  rw [IntKind.wrap_u8, IntKind.wrap_u8] at this
  simp at this
  omega
theorem bytes_inj {v w : Int} (hv : -2147483648 ≤ v ∧ v ≤ 2147483647) (hw : -2147483648 ≤ w ∧ w ≤ 2147483647) (h : (bytesOf v).map (fun n => UInt8.ofNat n.toNat) = (bytesOf w).map (fun n => UInt8.ofNat n.toNat)) : v = w := by
  simp only [bytesOf, List.map_cons, List.map_nil, List.cons.injEq, and_true] at h
  obtain ⟨h1, h2, h3, h4⟩ := h
  have h1 := byte_inj h1
  have h2 := byte_inj h2
  have h3 := byte_inj h3
  have h4 := byte_inj h4
  rw [Int.fdiv_eq_ediv_of_nonneg _ (by decide), Int.fdiv_eq_ediv_of_nonneg _ (by decide)] at h1 h2 h3
  omega
theorem key_inj : ∀ {s t : List Int}, InR s → InR t → (keyB s).toList = (keyB t).toList → s = t
  | [], [], _, _, _ => rfl
  | [], w :: t, _, _, h => by
    have := congrArg List.length h
    simp [keyB, ByteArray.toList_eq, strOfNums, bytesOf] at this
  | v :: s, [], _, _, h => by
    have := congrArg List.length h
    simp [keyB, ByteArray.toList_eq, strOfNums, bytesOf] at this
  | v :: s, w :: t, hs, ht, h => by
    unfold keyB at h
    rw [ByteArray.toList_eq, ByteArray.toList_eq, strOfNums_data, strOfNums_data, List.flatMap_cons, List.flatMap_cons, List.map_append, List.map_append] at h
    obtain ⟨h1, h2⟩ := List.append_inj h (by simp [bytesOf])
    have hvw := bytes_inj (hs v List.mem_cons_self) (ht w List.mem_cons_self) h1
    subst hvw
    have := key_inj (s := s) (t := t) (fun x hx => hs x (List.mem_cons_of_mem _ hx)) (fun x hx => ht x (List.mem_cons_of_mem _ hx)) (by
      unfold keyB
      rw [ByteArray.toList_eq, ByteArray.toList_eq, strOfNums_data, strOfNums_data]
      exact h2)
    rw [this]
end Go.Proofs.Try
