import Derived.Test.YtodgpfffnnlbhaaKa
import Derived.Test.YtodgpfffnnlbhaaLmw
import Derived.Test.YtodgpfffnnlbhaaLrow
/-! coin by contract -/
set_option linter.unusedVariables false
set_option linter.unusedSimpArgs false
namespace Go.L
theorem writeB_box {h : Heap} {b n o : Nat} {cs vs : List V} (hb : h[b]? = some (.box n cs)) (ho : o + vs.length ≤ n) : writeB h vs (.ptr b o) = some (b, .box n (setR cs o vs)) := by
  simp only [writeB, hb]
  rw [if_pos ho]
theorem get_part {α : Type} {l : List α} {lo hi i : Nat} (h : lo + i < hi) : ((l.take hi).drop lo)[i]? = l[lo + i]? := by
  rw [List.getElem?_drop, List.getElem?_take, if_pos h]
theorem set_at {h : Heap} {b : Nat} (hb : b < h.length) (x : HB) : (h.set b x)[b]? = some x := List.getElem?_set_self hb
theorem lt_of_at {h : Heap} {b : Nat} {x : HB} (hb : h[b]? = some x) : b < h.length := (List.getElem?_eq_some_iff.1 hb).1
end Go.L
namespace Go.Sk
open Go.L
/-- one more than tosses in a row -/
def hgt : Nat → List Bool → Nat × List Bool
  | n, [] => (n, [])
  | n, b :: r => if n = 8 then (n, b :: r) else if b then hgt (n + 1) r else (n, r)
def boolV (x : Bool) : List V := [.bool x]
theorem hgt_pos : ∀ (l : List Bool) (n : Nat), 1 ≤ n → n ≤ 8 → 1 ≤ (hgt n l).1 ∧ (hgt n l).1 ≤ 8
  | [], n, h1, h2 => ⟨h1, h2⟩
  | b :: r, n, h1, h2 => by
    simp only [hgt]
    split
    · exact ⟨h1, h2⟩
    · split
      · exact hgt_pos r (n + 1) (by omega) (by omega)
      · exact ⟨h1, h2⟩
end Go.Sk
namespace Go.Proofs.Try
open Go.L Go.Rp Go.Sk
set_option maxRecDepth 100000
/-- a coin's bits lie there: in no row, or in one -/
def BitsAt (h : Heap) (c : Nat) (cb : Option Nat) (bits : List Bool) : Prop := match cb with
  | none => bits = [] ∧ h[c]? = some (.box 1 [.sl 0 [] true])
  | some b => b ≠ c ∧ ∃ lo l z, h[c]? = some (.box 1 [.row b 1 lo (lo + bits.length)]) ∧ h[b]? = some (.row 4 1 l z) ∧ lo + bits.length ≤ l.length ∧ (l.take (lo + bits.length)).drop lo = bits.map boolV
theorem BitsAt.keep {h h' : Heap} {c : Nat} {cb : Option Nat} {bits : List Bool} (hb : BitsAt h c cb bits) (hc : h'[c]? = h[c]?) (hk : ∀ b, cb = some b → h'[b]? = h[b]?) : BitsAt h' c cb bits := by
  cases cb with
  | none => exact ⟨hb.1, hc.trans hb.2⟩
  | some b =>
    obtain ⟨h1, lo, l, z, h2, h3, h4⟩ := hb
    exact ⟨h1, lo, l, z, hc.trans h2, (hk b rfl).trans h3, h4⟩
theorem bop_coin_nil (h : Heap) (c : Nat) : bopH prog h .eql 28 (V.ptr c 0) (V.val (.pointer none)) = some (.bool false) := by kernel_rfl
theorem left_call (n : Nat) {h : Heap} {c : Nat} {cb : Option Nat} {bits : List Bool} (hb : BitsAt h c cb bits) : call (n + 1) 20 [.ptr c 0] h = some (.ret [.int .i64 (bits.length : Int)], h) := by
  refine (coinLeft_eq n c h).trans ?_
  unfold coinLeft
  rw [bop_coin_nil, bd_some, bv_bool, if_neg (by decide)]
  cases cb with
  | none =>
    obtain ⟨rfl, hc⟩ := hb
    rw [cellsP_box hc, bd3_some, if_pos (by decide)]
    rfl
  | some b =>
    obtain ⟨h1, lo, l, z, h2, h3, h4, h5⟩ := hb
    rw [cellsP_box h2, bd3_some, if_pos (by decide)]
    simp only [List.getElem?_cons_zero, bd_some]
    rw [slcH_row h3 (by omega) h4, bd_some, h5]
    simp
theorem toss_call (n : Nat) {h : Heap} {c : Nat} {cb : Option Nat} {bits : List Bool} (hb : BitsAt h c cb bits) :
    ∃ h', call (n + 2) 39 [.ptr c 0] h = some (.ret [.bool (bits.headD false)], h') ∧ BitsAt h' c cb bits.tail ∧ h'.length = h.length ∧ ∀ i, i ≠ c → h'[i]? = h[i]? := by
  rw [show n + 2 = (n + 1) + 1 from rfl, coinToss_eq]
  unfold coinToss
  rw [left_call n hb, cl_ret, one1_one, bop_i64_eql, bd_some, bv_bool]
  cases bits with
  | nil =>
    rw [if_pos (by rfl)]
    exact ⟨h, rfl, hb, rfl, fun _ _ => rfl⟩
  | cons x r =>
    rw [if_neg (by simp; omega)]
    cases cb with
    | none => exact absurd hb.1 (by simp)
    | some b =>
      obtain ⟨h1, lo, l, z, h2, h3, h4, h5⟩ := hb
      have hx : l[lo]? = some [.bool x] := by
        have := get_part (l := l) (lo := lo) (hi := lo + (x :: r).length) (i := 0) (by simp)
        rw [h5] at this
        simpa [boolV] using this.symm
      have hr : (l.take (lo + 1 + r.length)).drop (lo + 1) = r.map boolV := by
        have : ((l.take (lo + (x :: r).length)).drop lo).drop 1 = r.map boolV := by rw [h5]; rfl
        rw [List.drop_drop] at this
        rw [show lo + 1 + r.length = lo + (x :: r).length by simp; omega]
        exact this
      have hs : sliceP 1 1 (x :: r).length none true (.row b 1 lo (lo + (x :: r).length)) = some (.row b 1 (lo + 1) (lo + 1 + r.length)) := by
        rw [sliceP_row (by simp) (by omega)]
        congr 2
        simp; omega
      have hcl := lt_of_at h2
      rw [cellsP_box h2, bd3_some, if_pos (by decide)]
      simp only [List.getElem?_cons_zero, bd_some]
      rw [idxP_row (by simp), bd_some, Nat.add_zero, cellsP_rptr h3 (by decide) hx, bd3_some, if_pos (by decide)]
      simp only [List.getElem?_cons_zero, bd_some]
      rw [bd3_some, if_pos (by decide)]
      simp only [List.getElem?_cons_zero, bd_some]
      rw [lenP_row, bd_some, Nat.add_sub_cancel_left, hs, bd_some]
      simp only [V.cells, List.length_cons, List.length_nil, Nat.zero_add, if_true]
      rw [writeB_box h2 (by simp), bd2_some]
      refine ⟨_, rfl, ⟨h1, lo + 1, l, z, ?_, ?_, ?_, hr⟩, by rw [List.length_set], fun i hi => List.getElem?_set_ne (Ne.symm hi)⟩
      · rw [set_at hcl]; rfl
      · rw [List.getElem?_set_ne (Ne.symm h1)]; exact h3
      · simp at h4 ⊢; omega
theorem height_loop (n : Nat) {c : Nat} {cb : Option Nat} : ∀ (bits : List Bool) (k N : Nat) (h : Heap), BitsAt h c cb bits → 1 ≤ k → k ≤ 8 → 8 < N + k →
    ∃ h', loopx N (coinHeight_l0 (n + 2) c) [.int .i64 (k : Int)] h = some (.ret [.int .i64 ((hgt k bits).1 : Int)], h') ∧ BitsAt h' c cb (hgt k bits).2 ∧ h'.length = h.length ∧ ∀ i, i ≠ c → h'[i]? = h[i]? := by
  intro bits
  induction bits with
  | nil =>
    intro k N h hb h1 h2 hN
    obtain ⟨N, rfl⟩ : ∃ N', N = N' + 1 := ⟨N - 1, by omega⟩
    rw [loopx_succ]
    unfold coinHeight_l0
    simp only [gv, List.getD_cons_zero, bop_i64_eql, bd_some, bv_bool]
    by_cases h8 : k = 8
    · subst h8
      exact ⟨h, rfl, hb, rfl, fun _ _ => rfl⟩
    · rw [if_neg (by simp; omega)]
      obtain ⟨h', e, b1, b2, b3⟩ := toss_call n hb
      rw [e, cl_ret, one1_one]
      exact ⟨h', rfl, b1, b2, b3⟩
  | cons x r ih =>
    intro k N h hb h1 h2 hN
    obtain ⟨N, rfl⟩ : ∃ N', N = N' + 1 := ⟨N - 1, by omega⟩
    rw [loopx_succ]
    unfold coinHeight_l0
    simp only [gv, List.getD_cons_zero, bop_i64_eql, bd_some, bv_bool]
    by_cases h8 : k = 8
    · subst h8
      exact ⟨h, rfl, by simpa [hgt] using hb, rfl, fun _ _ => rfl⟩
    · rw [if_neg (by simp; omega)]
      obtain ⟨h', e, b1, b2, b3⟩ := toss_call n hb
      rw [e, cl_ret, one1_one]
      simp only [hgt, if_neg h8]
      cases x with
      | false => exact ⟨h', rfl, b1, b2, b3⟩
      | true =>
        simp only [List.headD_cons, uop_not, Bool.not_true, bd_some, bv_bool, Bool.false_eq_true, if_false, bop_i64_add, if_true]
        rw [step64 (show k < lim by unfold lim; omega)]
        obtain ⟨h'', e', d1, d2, d3⟩ := ih (k + 1) N h' b1 (by omega) (by omega) (by omega)
        exact ⟨h'', e', d1, d2.trans b2, fun i hi => (d3 i hi).trans (b3 i hi)⟩
/-- Height -/
theorem height_call (n : Nat) {h : Heap} {c : Nat} {cb : Option Nat} {bits : List Bool} (hb : BitsAt h c cb bits) (hn : 8 ≤ n) :
    ∃ h', call (n + 3) 19 [.ptr c 0] h = some (.ret [.int .i64 ((hgt 1 bits).1 : Int)], h') ∧ BitsAt h' c cb (hgt 1 bits).2 ∧ h'.length = h.length ∧ ∀ i, i ≠ c → h'[i]? = h[i]? := by
  rw [show n + 3 = (n + 2) + 1 from rfl, coinHeight_eq]
  unfold coinHeight
  exact height_loop n bits 1 (n + 2) h hb (Nat.le_refl _) (by omega) (by omega)
/-- a bit of a byte -/
def bitAt (y : Int) (i : Nat) : Bool := decide (y.toNat / 2 ^ i % 2 = 1)
def bitsOf (y : Int) : List Bool := (List.range 8).map (bitAt y)
theorem bop_u8_shr (a : Int) (i : Nat) (hi : i ≤ 8) : bop prog .shr 5 (.int .u8 a) (.int .i64 (i : Int)) = some (.int .u8 (a.fdiv (2 ^ i))) := by
  have e : bop prog .shr 5 (.int .u8 a) (.int .i64 (i : Int)) = bopS .shr .u8 a (i : Int) := by kernel_rfl
  rw [e]
  unfold bopS
  rw [if_neg (by omega)]
  simp only [Int.toNat_natCast]
  rw [Nat.min_eq_left (by exact hi)]
theorem bop_u8_and (a : Int) : bop prog .and 5 (.int .u8 a) (.int .u8 1) = some (.int .u8 (IntKind.u8.wrap (BitVec.ofInt 8 a &&& BitVec.ofInt 8 1).toNat)) := by kernel_rfl
theorem and1 : ∀ m : Fin 256, IntKind.u8.wrap ((BitVec.ofInt 8 (m.val : Int) &&& BitVec.ofInt 8 1).toNat : Int) = ((m.val % 2 : Nat) : Int) := by decide +kernel
theorem bop_u8_eql1 (a : Int) : bop prog .eql 5 (.int .u8 a) (.int .u8 1) = some (.bool (a == 1)) := by kernel_rfl
theorem bit_word {y : Int} (h0 : 0 ≤ y) (h1 : y < 256) (i : Nat) : (IntKind.u8.wrap (BitVec.ofInt 8 (y.fdiv (2 ^ i)) &&& BitVec.ofInt 8 1).toNat == (1 : Int)) = bitAt y i := by
  obtain ⟨m, rfl⟩ : ∃ m : Nat, y = (m : Int) := ⟨y.toNat, (Int.toNat_of_nonneg h0).symm⟩
  have hp : ((2 : Int) ^ i) = ((2 ^ i : Nat) : Int) := by simp
  have hf : (m : Int).fdiv (2 ^ i) = ((m / 2 ^ i : Nat) : Int) := by rw [hp, Int.fdiv_eq_ediv_of_nonneg _ (Int.natCast_nonneg _)]; rfl
  have hlt : m / 2 ^ i < 256 := Nat.lt_of_le_of_lt (Nat.div_le_self _ _) (by omega)
  have := and1 ⟨m / 2 ^ i, hlt⟩
  simp only at this
  rw [hf, this]
  unfold bitAt
  rw [Int.toNat_natCast]
  by_cases h : m / 2 ^ i % 2 = 1
  · simp [h]
  · have h' : m / 2 ^ i % 2 = 0 := by omega
    simp [h']
theorem bsl_bool (b : Bool) : bslV prog 74 1 [(0, .bool b)] = some (1, [[.bool b]]) := by kernel_rfl
/-- what Feed leaves as it was -/
structure Fed (h h' : Heap) (c : Nat) (cb cb' : Option Nat) : Prop where
  len : h.length ≤ h'.length
  old : ∀ i, i < h.length → i ≠ c → cb ≠ some i → h'[i]? = h[i]?
  own : ∀ b, cb' = some b → cb = some b ∨ h.length ≤ b
theorem Fed.refl (h : Heap) (c : Nat) (cb : Option Nat) : Fed h h c cb cb := ⟨Nat.le_refl _, fun _ _ _ _ => rfl, fun _ h => .inl h⟩
theorem Fed.trans {h h' h'' : Heap} {c : Nat} {cb cb' cb'' : Option Nat} (a : Fed h h' c cb cb') (b : Fed h' h'' c cb' cb'') : Fed h h'' c cb cb'' :=
  ⟨Nat.le_trans a.len b.len, fun i h1 h2 h3 => (b.old i (by have := a.len; omega) h2 fun e => by rcases a.own i e with h | h; exact h3 h; omega).trans (a.old i h1 h2 h3), fun x hx => by
    rcases b.own x hx with h | h
    · exact a.own x h
    · exact .inr (by have := a.len; omega)⟩
theorem feed_bit (n : Nat) {h : Heap} {c : Nat} {cb : Option Nat} {bits : List Bool} (hb : BitsAt h c cb bits) (st4 : List V) (next6 next18 : List V → Heap → Option (Res × Heap)) {y : Int} (y0 : 0 ≤ y) (y1 : y < 256) (i : Nat) (hi : i < 8) (hl : bits.length < 20000) :
    ∃ h' cb', coinFeed_l15 n c st4 next6 (.int .u8 y) [.int .i64 (i : Int)] h next18 = next18 [.int .i64 ((i + 1 : Nat) : Int)] h' ∧ BitsAt h' c cb' (bits ++ [bitAt y i]) ∧ Fed h h' c cb cb' := by
  have hlt : decide ((i : Int) < 8) = true := by simp; omega
  have w1 := bop_u8_shr y i (by omega)
  have w2 := bit_word y0 y1 i
  have hne : (((bits.length : Nat) : Int) == 20000) = false := by simp; omega
  unfold coinFeed_l15
  simp only [gv, List.getD_cons_zero, bop_i64_lss, bd_some, bv_bool, hlt, if_true]
  cases cb with
  | none =>
    obtain ⟨rfl, hc⟩ := hb
    have hcl := lt_of_at hc
    rw [cellsP_box hc, bd3_some, if_pos (by decide)]
    simp only [List.getElem?_cons_zero, bd_some]
    rw [slcH_sl, bd_some, if_neg (by decide), bd3_some, if_pos (by decide)]
    simp only [List.getElem?_cons_zero, bd_some]
    rw [w1, bd_some, bop_u8_and, bd_some, bop_u8_eql1, bd_some, w2, bsl_bool, bd_some]
    have happ : appP 4 1 h [[.bool (bitAt y i)]] (.sl 0 [] true) = some (.row h.length 1 0 1, h ++ [.row 4 1 [[.bool (bitAt y i)]] true]) := rfl
    simp only [happ, bd2_some, V.cells, List.length_cons, List.length_nil, Nat.zero_add, if_true]
    have hc' : (h ++ [HB.row 4 1 [[.bool (bitAt y i)]] true])[c]? = some (.box 1 [.sl 0 [] true]) := by rw [List.getElem?_append_left hcl]; exact hc
    rw [writeB_box hc' (by simp), bd2_some, bop_i64_add, bd_some, step64 (show i < lim by unfold lim; omega)]
    refine ⟨_, some h.length, rfl, ⟨by omega, 0, [[.bool (bitAt y i)]], true, ?_, ?_, ?_, ?_⟩, ⟨by simp, fun j h1 h2 h3 => ?_, fun b hb => .inr (by cases hb; exact Nat.le_refl _)⟩⟩
    · rw [set_at (by simp; omega)]; rfl
    · rw [List.getElem?_set_ne (by omega)]; exact List.getElem?_concat_length
    · simp
    · simp [boolV]
    · rw [List.getElem?_set_ne (by omega), List.getElem?_append_left h1]
  | some b =>
    obtain ⟨h1, lo, l, z, h2, h3, h4, h5⟩ := hb
    have hcl := lt_of_at h2
    have hbl := lt_of_at h3
    rw [cellsP_box h2, bd3_some, if_pos (by decide)]
    simp only [List.getElem?_cons_zero, bd_some]
    rw [slcH_row h3 (by omega) h4, bd_some, h5]
    simp only [List.length_map, hne, Bool.false_eq_true, if_false]
    rw [bd3_some, if_pos (by decide)]
    simp only [List.getElem?_cons_zero, bd_some]
    rw [w1, bd_some, bop_u8_and, bd_some, bop_u8_eql1, bd_some, w2, bsl_bool, bd_some]
    have happ : appP 4 1 h [[.bool (bitAt y i)]] (.row b 1 lo (lo + bits.length)) = some (.row h.length 1 0 (bits.length + 1), h.set b .dead ++ [.row 4 1 (bits.map boolV ++ [[.bool (bitAt y i)]]) (z && lo == 0)]) := by
      simp only [appP, h3]
      rw [if_pos (by refine ⟨⟨?_, ?_, ?_⟩, ⟨by omega, h4⟩, by simp [lim]; omega⟩ <;> first | trivial | rfl), h5, Nat.add_sub_cancel_left]
      rfl
    simp only [happ, bd2_some, V.cells, List.length_cons, List.length_nil, Nat.zero_add, if_true]
    have hc' : (h.set b .dead ++ [HB.row 4 1 (bits.map boolV ++ [[.bool (bitAt y i)]]) (z && lo == 0)])[c]? = some (.box 1 [.row b 1 lo (lo + bits.length)]) := by
      rw [List.getElem?_append_left (by rw [List.length_set]; exact hcl), List.getElem?_set_ne h1]; exact h2
    rw [writeB_box hc' (by simp), bd2_some, bop_i64_add, bd_some, step64 (show i < lim by unfold lim; omega)]
    refine ⟨_, some h.length, rfl, ⟨by omega, 0, (bits.map boolV ++ [[.bool (bitAt y i)]]), (z && (lo == 0)), ?_, ?_, ?_, ?_⟩, ⟨by simp, fun j h1 h2 h3 => ?_, fun b hb => .inr (by cases hb; exact Nat.le_refl _)⟩⟩
    · rw [set_at (by simp; omega)]; simp [setR]
    · rw [List.getElem?_set_ne (by omega)]
      have : h.length = (h.set b .dead).length := by rw [List.length_set]
      rw [this]; exact List.getElem?_concat_length
    · simp
    · simp [boolV, List.take_of_length_le]
    · rw [List.getElem?_set_ne (by omega), List.getElem?_append_left (by rw [List.length_set]; exact h1), List.getElem?_set_ne (fun e => h3 (by rw [e]))]
theorem feed_byte (n : Nat) {c : Nat} (st4 : List V) (next6 : List V → Heap → Option (Res × Heap)) {y : Int} (y0 : 0 ≤ y) (y1 : y < 256) : ∀ (d i N : Nat) (h : Heap) (cb : Option Nat) (bits : List Bool), BitsAt h c cb bits → i + d = 8 → d < N → bits.length + d ≤ 20000 →
    ∃ h' cb', loopx N (coinFeed_l15 n c st4 next6 (.int .u8 y)) [.int .i64 (i : Int)] h = next6 [.int .i64 (IntKind.i64.wrap ((match gv st4 0 with | .int _ k => k | _ => 0) + 1))] h' ∧ BitsAt h' c cb' (bits ++ ((List.range 8).drop i).map (bitAt y)) ∧ Fed h h' c cb cb' ∨ (∀ k, gv st4 0 ≠ .int .i64 k) := by
  intro d
  induction d with
  | zero =>
    intro i N h cb bits hb h1 h2 h3
    obtain ⟨N, rfl⟩ : ∃ N', N = N' + 1 := ⟨N - 1, by omega⟩
    obtain rfl : i = 8 := by omega
    rcases Classical.em (∃ k, gv st4 0 = .int .i64 k) with ⟨k, hk⟩ | hk
    · refine ⟨h, cb, .inl ⟨?_, by rw [show (List.range 8).drop 8 = [] from rfl]; simpa using hb, .refl _ _ _⟩⟩
      rw [loopx_succ]
      unfold coinFeed_l15
      have hg : gv [V.int .i64 ((8 : Nat) : Int)] 0 = .int .i64 8 := rfl
      rw [hg, bop_i64_lss, bd_some, bv_bool, if_neg (by decide), hk, bop_i64_add, bd_some]
    · exact ⟨h, cb, .inr fun k e => hk ⟨k, e⟩⟩
  | succ d ih =>
    intro i N h cb bits hb h1 h2 h3
    obtain ⟨N, rfl⟩ : ∃ N', N = N' + 1 := ⟨N - 1, by omega⟩
    obtain ⟨h', cb', e, b1, b2⟩ := feed_bit n hb st4 next6 (loopx N (coinFeed_l15 n c st4 next6 (.int .u8 y))) y0 y1 i (by omega) (by omega)
    obtain ⟨h'', cb'', e' | e'⟩ := ih (i + 1) N h' cb' (bits ++ [bitAt y i]) b1 (by omega) (by omega) (by rw [List.length_append, List.length_cons, List.length_nil]; omega)
    · obtain ⟨e', d1, d2⟩ := e'
      refine ⟨h'', cb'', .inl ⟨?_, ?_, b2.trans d2⟩⟩
      · rw [loopx_succ, e]; exact e'
      · have hd : (List.range 8).drop i = i :: (List.range 8).drop (i + 1) := by
          rw [List.drop_eq_getElem_cons (by simp; omega)]; simp
        rw [hd, List.map_cons]
        rwa [List.append_assoc] at d1
    · exact ⟨h'', cb'', .inr e'⟩
theorem feed_loop (n : Nat) {c : Nat} (bs : List Int) (bb : Bool) (hs : small bs = true) (hn : 8 < n) (hlim : bs.length < lim) : ∀ (d k N : Nat) (h : Heap) (cb : Option Nat) (bits : List Bool), BitsAt h c cb bits → k + d = bs.length → d < N → bits.length + 8 * d ≤ 20000 →
    ∃ h' cb', loopx N (coinFeed_l3 n c (.sl 1 (bs.map (intV .u8)) bb) (1, bs.map (intV .u8))) [.int .i64 (k : Int)] h = some (.ret [], h') ∧ BitsAt h' c cb' (bits ++ (bs.drop k).flatMap bitsOf) ∧ Fed h h' c cb cb' := by
  intro d
  induction d with
  | zero =>
    intro k N h cb bits hb h1 h2 h3
    obtain ⟨N, rfl⟩ : ∃ N', N = N' + 1 := ⟨N - 1, by omega⟩
    refine ⟨h, cb, ?_, by rw [List.drop_of_length_le (by omega)]; simpa using hb, .refl _ _ _⟩
    rw [loopx_succ]
    unfold coinFeed_l3
    simp only [gv, List.getD_cons_zero, List.length_map, bop_i64_lss, bd_some, bv_bool]
    rw [if_neg (by simp; omega)]
  | succ d ih =>
    intro k N h cb bits hb h1 h2 h3
    obtain ⟨N, rfl⟩ : ∃ N', N = N' + 1 := ⟨N - 1, by omega⟩
    obtain ⟨y, hy⟩ : ∃ y, bs[k]? = some y := ⟨_, List.getElem?_eq_getElem (by omega)⟩
    have hyv : (bs.map (intV .u8))[k]? = some [.int .u8 y] := by rw [get_ints, hy]; rfl
    have hyb : 0 ≤ y ∧ y < 256 := by
      unfold small at hs
      have := List.all_eq_true.1 hs y (List.mem_of_getElem? hy)
      simp at this
      omega
    have hlt : decide ((k : Int) < (bs.length : Int)) = true := by simp; omega
    obtain ⟨h', cb', e | e⟩ := feed_byte n (c := c) [.int .i64 (k : Int)] (loopx N (coinFeed_l3 n c (.sl 1 (bs.map (intV .u8)) bb) (1, bs.map (intV .u8)))) hyb.1 hyb.2 8 0 n h cb bits hb (by omega) hn (by omega)
    · obtain ⟨e, b1, b2⟩ := e
      obtain ⟨h'', cb'', e', d1, d2⟩ := ih (k + 1) N h' cb' _ b1 (by omega) (by omega) (by simp; omega)
      refine ⟨h'', cb'', ?_, ?_, b2.trans d2⟩
      · have key : ∀ next, coinFeed_l3 n c (.sl 1 (bs.map (intV .u8)) bb) (1, bs.map (intV .u8)) [.int .i64 (k : Int)] h next = loopx n (coinFeed_l15 n c [.int .i64 (k : Int)] next (.int .u8 y)) [.int .i64 ((0 : Nat) : Int)] h := by
          intro next
          unfold coinFeed_l3
          simp only [gv, List.getD_cons_zero, List.length_map, bop_i64_lss, bd_some, bv_bool, hlt, if_true, nv_nat, bdS_some, idxP_sl hyv, cellsP_iptr, bd3_some, Nat.zero_add, Nat.le_refl, Nat.reduceLT, and_self, List.getElem?_cons_zero]
          rfl
        rw [loopx_succ, key]
        refine e.trans ?_
        simp only [gv, List.getD_cons_zero]
        rw [step64 (show k < lim by omega)]
        exact e'
      · have hd : bs.drop k = y :: bs.drop (k + 1) := by
          rw [List.drop_eq_getElem_cons (by omega)]
          rw [List.getElem?_eq_getElem (by omega)] at hy
          rw [Option.some.inj hy]
        rw [hd, List.flatMap_cons]
        rw [List.append_assoc] at d1
        exact d1
    · exact absurd rfl (e (k : Int))
/-- Feed -/
theorem feed_call (n : Nat) {h : Heap} {c : Nat} {cb : Option Nat} {bits : List Bool} (hb : BitsAt h c cb bits) (bs : List Int) (bb : Bool) (hs : small bs = true) (hl : bits.length + 8 * bs.length ≤ 20000) (hn : bs.length + 8 < n) :
    ∃ h' cb', call (n + 1) 17 [.ptr c 0, .sl 1 (bs.map (intV .u8)) bb] h = some (.ret [], h') ∧ BitsAt h' c cb' (bits ++ bs.flatMap bitsOf) ∧ Fed h h' c cb cb' := by
  obtain ⟨h', cb', e, b1, b2⟩ := feed_loop n bs bb hs (by omega) (by unfold lim; omega) bs.length 0 n h cb bits hb (by omega) (by omega) hl
  refine ⟨h', cb', (coinFeed_eq n c _ h).trans ?_, b1, b2⟩
  unfold coinFeed
  rw [bop_coin_nil, bd_some, bv_bool, if_neg (by decide), slcH_sl, bd_some]
  exact e
theorem coin_new_call (n : Nat) (h : Heap) : call (n + 1) 16 [] h = some (.ret [.ptr h.length 0], h ++ [.box 1 [.sl 0 [] true]]) := coinNew_eq n h
end Go.Proofs.Try
