/- So1 Kp Kq Kr Kv Krf Kx Lops Sops Kyw Ko Tj Tk Vn Pq Pd Pl Ra Ro Rp Rq Ue Tl: what the law needs of these -/
import Derived.Test.YtclhmdhdpejhhaaGreatRon13
set_option linter.unusedVariables false
set_option linter.unusedSimpArgs false
namespace Go.Proofs.Tryz
open Go.L Go.Rp
set_option maxRecDepth 100000
abbrev iL (l : List Int) : List (List V) := l.map (XL .i64)
theorem wN {e : Int} {n : Nat} (h : e = (n : Int)) (hn : n < lim) : IntKind.i64.wrap e = (n : Int) := by unfold lim at hn; subst h; rw [w64] <;> omega
theorem zgb (l : List Int) (i : Nat) (x : Int) : (iL l).set i [V.int .i64 x] = iL (l.set i x) := by
 unfold iL; rw [Jp]; rfl
theorem Ql (l : List Int) : (iL l).length = l.length := by simp
theorem QV {l : List Int} {i : Nat} {x : Int} (h : l[i]? = some x) : (iL l)[i]? = some [V.int .i64 x] := by
 unfold iL; rw [zJ, h]; rfl
theorem zbQ (a b : V) : setR [a] 0 [b] = [b] := rfl
theorem Kh {n m k : Nat} : (1 = 1 /\ n < m /\ (some k : Option Nat) ≠ some 0) ↔ (n < m /\ (k == 0) = false) := by simp
theorem zbR : (1 = 1 /\ 0 < 1 /\ 0 + 1 <= 1) ↔ True := by decide
theorem WP {α : Type} (P : List α) (x : α) (R : List α) {i : Nat} (h : i = P.length) : (P ++ x :: R)[i]? = some x := by subst h; simp
theorem jv {α : Type} (P : List α) (x y : α) (R : List α) {i : Nat} (h : i = P.length) : (P ++ x :: R).set i y = P ++ y :: R := by subst h; simp
theorem zqW (P A M B S : List Int) (x y : Int) {i j : Nat} (hi : i = P.length) (hj : j = P.length + 1 + A.length + M.length) :
    (P ++ (x :: A ++ (M ++ (y :: B ++ S))))[i]? = some x /\ (P ++ (x :: A ++ (M ++ (y :: B ++ S))))[j]? = some y /\ (P ++ (y :: A ++ (M ++ (y :: B ++ S))))[j]? = some y ∧
    (P ++ (x :: A ++ (M ++ (y :: B ++ S)))).set i y = P ++ (y :: A ++ (M ++ (y :: B ++ S))) /\ (P ++ (y :: A ++ (M ++ (y :: B ++ S)))).set j x = (P ++ [y]) ++ (A ++ ((M ++ [x]) ++ (B ++ S))) := by
 have e : ∀ u : Int, P ++ (u :: A ++ (M ++ (y :: B ++ S))) = (P ++ u :: (A ++ M)) ++ y :: (B ++ S) := fun u => by simp
 have hl : ∀ u : Int, j = (P ++ u :: (A ++ M)).length := fun u => by simp; omega
 refine ⟨WP P x _ hi, ?_, ?_, jv P x y _ hi, ?_⟩
 · rw [e]; exact WP _ _ _ (hl x)
 · rw [e]; exact WP _ _ _ (hl y)
 · rw [e, jv _ _ _ _ (hl y)]; simp
theorem zeN (n : Nat) (H : zd) (a b k : Nat) (S : List Int) : ∀ (A B P M : List Int) (i Mx : Nat), B.length = A.length -> i + A.length = k -> a + i = P.length -> b + i = P.length + A.length + M.length -> P.length + A.length + M.length + B.length < lim -> A.length < Mx →
    zY Mx (qV n a b k) [.sl 1 (iL (P ++ (A ++ (M ++ (B ++ S))))) false, .int .i64 (i : Int)] H = some (.ret [.sl 1 (iL (P ++ (B ++ (M ++ (A ++ S))))) false], H)
 | _, _, _, _, i, 0, _, _, _, _, _, h => by omega
 | [], B, P, M, i, Mx + 1, hB, hk, ha, hb, hl, hm => by
   obtain rfl : B = [] := by cases B <;> simp_all
   have hik : ¬ (i : Int) < (k : Int) := by simp at hk; omega
   rw [zH]
   simp only [qV, gv, zh, zf, zw, za, zm, hik, decide_false, zo, if_false, lsl, zV]
 | x :: A, [], P, M, i, Mx + 1, hB, hk, ha, hb, hl, hm => by simp at hB
 | x :: A, y :: B, P, M, i, Mx + 1, hB, hk, ha, hb, hl, hm => by
   simp only [zE] at hB hk hb hl hm
   have hik : (i : Int) < (k : Int) := by omega
   have e1 : IntKind.i64.wrap ((a : Int) + (i : Int)) = ((a + i : Nat) : Int) := wN (by omega) (by omega)
   have e2 : IntKind.i64.wrap ((b : Int) + (i : Int)) = ((b + i : Nat) : Int) := wN (by omega) (by omega)
   have e3 : IntKind.i64.wrap ((i : Int) + 1) = ((i + 1 : Nat) : Int) := wN (by omega) (by omega)
   obtain ⟨s1, s2, s3, s4, s5⟩ := zqW P A M B S x y ha (show b + i = P.length + 1 + A.length + M.length by omega)
   have l1 : a + i < (P ++ (x :: A ++ (M ++ (y :: B ++ S)))).length := (zj.1 s1).1
   have l2 : b + i < (P ++ (x :: A ++ (M ++ (y :: B ++ S)))).length := (zj.1 s2).1
   have l3 : b + i < (P ++ (y :: A ++ (M ++ (y :: B ++ S)))).length := (zj.1 s3).1
   have ih := zeN n H a b k S A B (P ++ [y]) (M ++ [x]) (i + 1) Mx (by omega) (by omega) (by simp; omega) (by simp; omega) (by simp; omega) (by omega)
   rw [zH]
   simp only [qV, gv, zh, zf, zw, za, zm, hik, decide_true, if_true, zN, e1, e2, e3, Zh, zx, lsl, Ql, Kh, Nat.reduceBEq, and_true, if_true, l1, l2, l3, QV s1, QV s2, zb, V.cells, zE, zG, zu, zbR, zbQ, zgb, s4,
    QV s3, s5, ih]
   simp
theorem zaJ (n : Nat) (H : zd) (c : V) (a b k : Nat) (P A M B S : List Int) (hB : B.length = A.length) (hk : A.length = k) (ha : a = P.length) (hb : b = P.length + A.length + M.length) (hl : P.length + A.length + M.length + B.length < lim) (hn : k + 2 <= n) :
    call n 251 [.sl 1 (iL (P ++ (A ++ (M ++ (B ++ S))))) false, .int .i64 (a : Int), .int .i64 (b : Int), .int .i64 (k : Int), c] H = some (.ret [.sl 1 (iL (P ++ (B ++ (M ++ (A ++ S))))) false], H) := by
 obtain ⟨N, rfl⟩ : ∃ N, n = N + 1 := ⟨n - 1, by omega⟩
 rw [zoa]
 unfold zpU
 exact zeN N H a b k S A B P M 0 N hB (by omega) (by omega) (by omega) hl (by omega)
theorem zda (n : Nat) (H : zd) (c : V) (m : Nat) : ∀ (Mx : Nat) (A B P S : List Int), A ≠ [] -> B ≠ [] -> m = P.length + A.length -> P.length + A.length + B.length < lim -> A.length + B.length <= Mx -> A.length + B.length + 2 <= n →
    zY Mx (qW n m c) [.sl 1 (iL (P ++ (A ++ (B ++ S)))) false, .int .i64 (A.length : Int), .int .i64 (B.length : Int)] H = some (.ret [.sl 1 (iL (P ++ (B ++ (A ++ S)))) false], H)
 | 0, A, B, P, S, hA, hB, _, _, h, _ => by
   cases A with
   | nil => exact absurd rfl hA
   | cons => simp at h
 | Mx + 1, A, B, P, S, hA, hB, hm, hl, hx, hn => by
   have a0 : 0 < A.length := ZF.2 hA
   have b0 : 0 < B.length := ZF.2 hB
   have e1 : IntKind.i64.wrap ((m : Int) - (A.length : Int)) = ((P.length : Nat) : Int) := wN (by omega) (by omega)
   rw [zH]
   by_cases h1 : A.length = B.length
   · have hne : ((A.length : Int) != (B.length : Int)) = false := by simp [h1]
     have hs := zaJ n H c P.length m A.length P A [] B S h1.symm rfl rfl (by simpa using hm) (by simp; omega) (by omega)
     simp only [zV] at hs
     simp only [qW, gv, zh, zf, KV, za, zm, hne, zo, if_false, ZK, e1, lsl]
     rw [hs, JT]
   · have hne : ((A.length : Int) != (B.length : Int)) = true := by simp; omega
     by_cases h2 : B.length < A.length
     ·
      have hgt : (A.length : Int) > (B.length : Int) := by omega
      obtain ⟨A1, A2, rfl, hA1⟩ : ∃ A1 A2, A = A1 ++ A2 /\ A1.length = B.length := ⟨A.take B.length, A.drop B.length, (Zw _ _).symm, by rw [Zf]; omega⟩
      rw [zF] at *
      have hs := zaJ n H c P.length m B.length P A1 A2 B S hA1.symm hA1 rfl (by omega) (by omega) (by omega)
      have e2 : IntKind.i64.wrap (((A1.length + A2.length : Nat) : Int) - (B.length : Int)) = ((A2.length : Nat) : Int) := wN (by omega) (by omega)
      have ih := zda n H c m Mx A2 A1 (P ++ B) S (by rintro rfl; simp at h2; omega) (by rintro rfl; simp at hA1; omega) (by simp; omega) (by simp; omega) (by omega) (by omega)
      simp only [List.append_assoc] at hs ih ⊢
      rw [hA1] at ih
      simp only [qW, gv, zh, zf, KV, za, zm, hne, if_true, XQ, hgt, decide_true, ZK, e1, lsl]
      rw [hs, JT, e2, ih]
     · have hgt : ¬ (A.length : Int) > (B.length : Int) := by omega
       obtain ⟨B1, B2, rfl, hB2⟩ : ∃ B1 B2, B = B1 ++ B2 /\ B2.length = A.length := ⟨B.take (B.length - A.length), B.drop (B.length - A.length), (Zw _ _).symm, by rw [Xk]; omega⟩
       rw [zF] at *
       have hs := zaJ n H c P.length (P.length + A.length + B1.length) A.length P A B1 B2 S hB2 rfl rfl rfl (by omega) (by omega)
       have e2 : IntKind.i64.wrap ((m : Int) + ((B1.length + B2.length : Nat) : Int)) = ((m + (B1.length + B2.length) : Nat) : Int) := wN (by omega) (by omega)
       have e3 : IntKind.i64.wrap (((m + (B1.length + B2.length) : Nat) : Int) - (A.length : Int)) = ((P.length + A.length + B1.length : Nat) : Int) := wN (by omega) (by omega)
       have e4 : IntKind.i64.wrap (((B1.length + B2.length : Nat) : Int) - (A.length : Int)) = ((B1.length : Nat) : Int) := wN (by omega) (by omega)
       have ih := zda n H c m Mx B2 B1 P (A ++ S) (by rintro rfl; simp at hB2; omega) (by rintro rfl; simp at h1; omega) (by omega) (by omega) (by omega) (by omega)
       simp only [List.append_assoc] at hs ih ⊢
       rw [hB2] at ih
       simp only [qW, gv, zh, zf, KV, za, zm, hne, if_true, XQ, hgt, decide_false, zo, if_false, ZK, zN, e1, e2, e3, lsl]
       rw [hs, JT, e4, ih]
theorem zod (n : Nat) (H : zd) (c : V) (a m b : Nat) (P A B S : List Int) (hA : A ≠ []) (hB : B ≠ []) (ha : a = P.length) (hm : m = P.length + A.length) (hb : b = P.length + A.length + B.length) (hl : P.length + A.length + B.length < lim) (hn : A.length + B.length + 3 <= n) :
    call n 250 [.sl 1 (iL (P ++ (A ++ (B ++ S)))) false, .int .i64 (a : Int), .int .i64 (m : Int), .int .i64 (b : Int), c] H = some (.ret [.sl 1 (iL (P ++ (B ++ (A ++ S)))) false], H) := by
 obtain ⟨N, rfl⟩ : ∃ N, n = N + 1 := ⟨n - 1, by omega⟩
 have e1 : IntKind.i64.wrap ((m : Int) - (a : Int)) = ((A.length : Nat) : Int) := wN (by omega) (by omega)
 have e2 : IntKind.i64.wrap ((b : Int) - (m : Int)) = ((B.length : Nat) : Int) := wN (by omega) (by omega)
 rw [zpf]
 unfold zqR
 rw [e1, e2]
 exact zda N H c m N A B P S hA hB hm hl (by omega) (by omega)
end Go.Proofs.Tryz
namespace Go.Proofs.Tryz
open Go.L Go.Rp
set_option maxRecDepth 100000
structure CmpOk (n0 : Nat) (c : V) (H : zd) (K : Int -> Int) (D : Int -> Prop) : Prop where
 ex : ∃ f caps, c = .fn f caps /\ okV prog 3 f = true /\ Qf f = true /\ ∀ n, n0 <= n -> ∀ x y, D x -> D y -> ∃ q, call n f ([.int .i64 x, .int .i64 y] ++ caps) H = some (.ret [.int .i64 q], H) /\ (q < 0 ↔ K x < K y)
theorem adj (Q T : List Int) (y x : Int) {i j : Nat} (hi : i = Q.length) (hj : j = Q.length + 1) :
    (Q ++ y :: x :: T)[i]? = some y /\ (Q ++ y :: x :: T)[j]? = some x /\ (Q ++ y :: x :: T).set j y = Q ++ y :: y :: T /\ (Q ++ y :: x :: T).set i x = Q ++ x :: x :: T ∧
    (Q ++ y :: y :: T)[i]? = some y /\ (Q ++ x :: x :: T)[j]? = some x /\ (Q ++ y :: y :: T).set i x = Q ++ x :: y :: T /\ (Q ++ x :: x :: T).set j y = Q ++ x :: y :: T := by
 have e : ∀ u v : Int, Q ++ u :: v :: T = (Q ++ [u]) ++ v :: T := fun u v => by simp
 have hl : ∀ u : Int, j = (Q ++ [u]).length := fun u => by simp; omega
 refine ⟨WP _ _ _ hi, ?_, ?_, jv _ _ _ _ hi, WP _ _ _ hi, ?_, jv _ _ _ _ hi, ?_⟩
 · rw [e]; exact WP _ _ _ (hl y)
 · rw [e, jv _ _ _ _ (hl y)]; simp
 · rw [e]; exact WP _ _ _ (hl x)
 · rw [e, jv _ _ _ _ (hl x)]; simp
section
variable {K : Int -> Int} {D : Int -> Prop} {H : zd} {c : V} {n0 : Nat} {p : Nat -> Int}
theorem zeO (hc : CmpOk n0 c H K D) (n a i : Nat) (st1 : List V) (next3 : List V -> zd -> Option (Res × zd)) (hst : gv st1 1 = .int .i64 (i : Int)) (hi : i + 1 < lim) (hn : n0 <= n) (R : List Int) : ∀ (r : List Int) (x : Int) (b P : List Int) (j Mx : Nat),
    a = P.length -> j = P.length + r.length -> j + b.length + R.length + 1 < lim -> (∀ y ∈ r, D y) -> D x -> r.length < Mx →
    zY Mx (zbO n a c st1 next3) [.sl 1 (iL (P ++ (r.reverse ++ (x :: (b ++ R))))) false, .int .i64 (j : Int)] H = next3 [.sl 1 (iL (P ++ (zc8 K r x b ++ R))) false, .int .i64 ((i + 1 : Nat) : Int)] H
 | _, _, _, _, _, 0, _, _, _, _, _, h => by omega
 | [], x, b, P, j, Mx + 1, ha, hj, hl, hr, hx, hM => by
   have hja : ¬ (j : Int) > (a : Int) := by simp at hj; omega
   have e1 : IntKind.i64.wrap ((i : Int) + 1) = ((i + 1 : Nat) : Int) := wN (by omega) hi
   rw [zH]
   simp only [zbO, gv, zh, zf, XQ, za, zm, hja, decide_false, zo, if_false, lsl]
   simp only [gv] at hst
   simp only [hst, zN, za, e1, zc8, List.reverse_nil, zV, Z2]
 | y :: r, x, b, P, j, Mx + 1, ha, hj, hl, hr, hx, hM => by
   obtain ⟨f, caps, hcf, hok, hk, hcmp⟩ := hc.ex
   have hfn : ∀ k : Nat -> List V -> Option (Res × zd), fnK c k = k f caps := fun k => by rw [hcf]; rfl
   simp only [zE] at hj hM
   have hja : (j : Int) > (a : Int) := by omega
   have hL : P ++ ((y :: r).reverse ++ (x :: (b ++ R))) = (P ++ r.reverse) ++ y :: x :: (b ++ R) := by simp
   have e1 : IntKind.i64.wrap ((i : Int) + 1) = ((i + 1 : Nat) : Int) := wN (by omega) hi
   have e2 : IntKind.i64.wrap ((j : Int) - 1) = ((j - 1 : Nat) : Int) := wN (by omega) (by omega)
   obtain ⟨s1, s2, s3, s4, s5, s6, s7, s8⟩ := adj (P ++ r.reverse) (b ++ R) y x (i := j - 1) (j := j) (by simp; omega) (by simp; omega)
   have l1 := (zj.1 s1).1
   have l2 := (zj.1 s2).1
   have l5 := (zj.1 s5).1
   obtain ⟨q, hq, hqk⟩ := hcmp n hn x y hx (hr y (by simp))
   have ih := zeO hc n a i st1 next3 hst hi hn R r x (y :: b) P (j - 1) Mx ha (by omega) (by simp; omega) (fun z hz => hr z (zp _ hz)) hx (by omega)
   rw [zH, hL]
   simp only [zbO, gv, zh, zf, XQ, za, zm, hja, decide_true, if_true, Zh, zx, lsl, Ql, Kh, Nat.reduceBEq, and_true, l1, l2, QV s1, QV s2, zb, ZK, e2, hfn, hok, hk]
   rw [hq, zM]
   simp only [zy, zw, za, zm]
   by_cases hxy : K x < K y
   · have hq0 : q < 0 := hqk.2 hxy
     simp only [hq0, decide_true, if_true, Zh, zx, za, QV s1, QV s2, zb, V.cells, zE, zG, zu, zbR, zbQ, zgb, s3, Ql, l1, l2, l5, QV s5, s7, if_true]
     rw [zc8, if_pos hxy]
     have hL2 : (P ++ r.reverse) ++ x :: y :: (b ++ R) = P ++ (r.reverse ++ (x :: (y :: b ++ R))) := by simp
     rw [hL2]
     exact ih
   · have hq0 : ¬ q < 0 := fun h => hxy (hqk.1 h)
     simp only [gv] at hst
     simp only [hq0, decide_false, zo, if_false, hst, zN, za, e1]
     rw [zc8, if_neg hxy]
     simp
theorem zit (hc : CmpOk n0 c H K D) (n lo len : Nat) (hn : n0 <= n) (hn2 : len <= n) (hlim : lo + len + 1 < lim) (P S : List Int) (hP : lo = P.length) (hD : ∀ x ∈ rng p lo len, D x) (hS : lo + len + S.length < lim) : ∀ (d k Mx : Nat), 1 <= k -> (k + d = len \/ (len = 0 /\ k = 1 /\ d = 0)) -> d < Mx →
    zY Mx (qY n lo ((lo + len : Nat) : Int) c) [.sl 1 (iL (P ++ (sR K p lo (min k len) ++ (rng p (lo + k) (len - k) ++ S)))) false, .int .i64 ((lo + k : Nat) : Int)] H = some (.ret [.sl 1 (iL (P ++ (sR K p lo len ++ S))) false], H)
 | d, k, 0, _, _, h => by omega
 | 0, k, Mx + 1, h1, hk, _ => by
   have hik : ¬ ((lo + k : Nat) : Int) < ((lo + len : Nat) : Int) := by omega
   have hmin : min k len = len := by omega
   have hz : len - k = 0 := by omega
   rw [zH]
   simp only [qY, gv, zh, zf, zw, za, zm, hik, decide_false, zo, if_false, lsl, hmin, hz]
   rfl
 | d + 1, k, Mx + 1, h1, hk, hM => by
   have hkl : k + (d + 1) = len := by omega
   have hik : ((lo + k : Nat) : Int) < ((lo + len : Nat) : Int) := by omega
   have hmin : min k len = k := by omega
   have hr : rng p (lo + k) (len - k) = p (lo + k) :: rng p (lo + (k + 1)) (len - (k + 1)) := by
    rw [show len - k = (len - (k + 1)) + 1 by omega, ziq, ZO]
   have ih := zit hc n lo len hn hn2 hlim P S hP hD hS d (k + 1) Mx (by omega) (by omega) (by omega)
   have hm2 : min (k + 1) len = k + 1 := by omega
   rw [hm2] at ih
   have hDk : ∀ y ∈ (sR K p lo k).reverse, D y := fun y hy => hD y (by
    obtain ⟨i, h1, h2, h3⟩ := zaI.1 (List.mem_reverse.1 hy)
    exact Kf.2 ⟨i, h1, by omega, h3⟩)
   have inner := zeO hc n lo (lo + k) [.sl 1 (iL (P ++ (sR K p lo k ++ (rng p (lo + k) (len - k) ++ S)))) false, .int .i64 ((lo + k : Nat) : Int)] (zY Mx (qY n lo ((lo + len : Nat) : Int) c)) rfl (by omega) hn (rng p (lo + (k + 1)) (len - (k + 1)) ++ S)
    (sR K p lo k).reverse (p (lo + k)) [] P (lo + k) n hP (by rw [List.length_reverse, Yx]; omega) (by rw [zF, zbP]; simp; omega) hDk (hD _ (Kf.2 ⟨_, by omega, by omega, rfl⟩)) (by rw [List.length_reverse, Yx]; omega)
   rw [List.reverse_reverse, zV] at inner
   rw [zH, hmin]
   simp only [qY, gv, zh, zf, zw, za, zm, hik, decide_true, if_true, lsl]
   have hL : P ++ (sR K p lo k ++ (rng p (lo + k) (len - k) ++ S)) = P ++ (sR K p lo k ++ (p (lo + k) :: (rng p (lo + (k + 1)) (len - (k + 1)) ++ S))) := by rw [hr]; rfl
   simp only [hL] at inner ⊢
   rw [inner]
   exact ih
theorem ziu (hc : CmpOk n0 c H K D) (n lo len : Nat) (P S : List Int) (hP : lo = P.length) (hD : ∀ x ∈ rng p lo len, D x) (hS : lo + len + S.length + 1 < lim) (hn : n0 + 1 <= n) (hn2 : len + 2 <= n) :
    call n 248 [.sl 1 (iL (P ++ (rng p lo len ++ S))) false, .int .i64 (lo : Int), .int .i64 ((lo + len : Nat) : Int), c] H = some (.ret [.sl 1 (iL (P ++ (sR K p lo len ++ S))) false], H) := by
 obtain ⟨N, rfl⟩ : ∃ N, n = N + 1 := ⟨n - 1, by omega⟩
 have e1 : IntKind.i64.wrap ((lo : Int) + 1) = ((lo + 1 : Nat) : Int) := wN (by omega) (by omega)
 rw [zph]
 unfold zqT
 rw [e1]
 have h1 : rng p lo len = sR K p lo (min 1 len) ++ rng p (lo + 1) (len - 1) := by
  cases len with
  | zero => simp [rng, sR]
  | succ l =>
    have : min 1 (l + 1) = 1 := by omega
    rw [this, ziq]; simp [sR, zc8]
 rw [h1, List.append_assoc]
 exact zit hc N lo len (by omega) (by omega) (by omega) P S hP hD (by omega) (len - 1) 1 N (by omega) (by omega) (by omega)
theorem zdb {l : V} {body : List V -> zd -> (List V -> zd -> Option (Res × zd)) -> Option (Res × zd)} {fin : Nat -> Option (Res × zd)} {Q : Nat -> Prop} (lo hi : Nat)
    (step : ∀ i j : Nat, lo <= i -> i < j -> j <= hi -> ∀ next, (Q ((i + j) / 2) /\ body [l, .int .i64 (i : Int), .int .i64 (j : Int)] H next = next [l, .int .i64 (((i + j) / 2 + 1 : Nat) : Int), .int .i64 (j : Int)] H) \/ (¬ Q ((i + j) / 2) /\ body [l, .int .i64 (i : Int), .int .i64 (j : Int)] H next = next [l, .int .i64 (i : Int), .int .i64 (((i + j) / 2 : Nat) : Int)] H))
    (stop : ∀ i : Nat, lo <= i -> i <= hi -> ∀ next, body [l, .int .i64 (i : Int), .int .i64 (i : Int)] H next = fin i) : ∀ (M i j : Nat), j - i < M -> lo <= i -> i <= j -> j <= hi -> (i = lo \/ Q (i - 1)) -> (j = hi \/ ¬ Q j) →
    ∃ r, lo <= r /\ r <= hi /\ (r = lo \/ Q (r - 1)) /\ (r = hi \/ ¬ Q r) /\ zY M body [l, .int .i64 (i : Int), .int .i64 (j : Int)] H = fin r
 | 0, i, j, h, _, _, _, _, _ => by omega
 | M + 1, i, j, h, h1, h2, h3, h4, h5 => by
   by_cases hij : i = j
   · subst hij
     exact ⟨i, h1, h3, h4, h5, by rw [zH]; exact stop i h1 h3 _⟩
   · rcases step i j h1 (by omega) h3 (zY M body) with ⟨q, e⟩ | ⟨q, e⟩
     · obtain ⟨r, r1, r2, r3, r4, r5⟩ := zdb lo hi step stop M ((i + j) / 2 + 1) j (by omega) (by omega) (by omega) h3 (.inr (by simpa using q)) h5
       exact ⟨r, r1, r2, r3, r4, by rw [zH, e]; exact r5⟩
     · obtain ⟨r, r1, r2, r3, r4, r5⟩ := zdb lo hi step stop M i ((i + j) / 2) (by omega) h1 (by omega) (by omega) h4 (.inr q)
       exact ⟨r, r1, r2, r3, r4, by rw [zH, e]; exact r5⟩
end
theorem zjU (a : Int) : cvt prog 3 204 (.int .i64 a) = some (.int .u64 (IntKind.u64.wrap a)) := by kernel_rfl
theorem zgc (a : Int) : cvt prog 204 3 (.int .u64 a) = some (.int .i64 (IntKind.i64.wrap a)) := by kernel_rfl
theorem zk4 (a : Int) : bop prog .shr 204 (.int .u64 a) (.int .u64 1) = some (.int .u64 (a.fdiv (2 ^ (min (1 : Int).toNat 64)))) := by kernel_rfl
theorem zbS {i j : Nat} (h : i + j < lim) : IntKind.i64.wrap ((IntKind.u64.wrap (((i + j : Nat) : Int))).fdiv (2 ^ (min (1 : Int).toNat 64))) = (((i + j) / 2 : Nat) : Int) := by
 have e : IntKind.u64.wrap (((i + j : Nat) : Int)) = ((i + j : Nat) : Int) := by rw [IntKind.wrap_u64]; unfold lim at h; omega
 rw [e]
 have e2 : (2 : Int) ^ (min (1 : Int).toNat 64) = 2 := by decide
 rw [e2, Int.fdiv_eq_ediv_of_nonneg _ (by decide)]
 exact wN (by omega) (by omega)
end Go.Proofs.Tryz
namespace Go.Proofs.Tryz
open Go.L Go.Rp
set_option maxRecDepth 100000
noncomputable def zjV (n : Nat) (b : Int) (c : V) (v100 v138 : V) (l : List (List V)) (h : zd) : Option (Res × zd) :=
 bd (bop prog .lss 3 v100 v138) fun v153 =>
 bv v153 fun b154 => if b154 then
  bd (bop prog .lss 3 v138 (V.int .i64 b)) fun v155 =>
  bv v155 fun b156 => if b156 then
   clm (call n 249 (V.sl 1 l false :: [v100, v138, (V.int .i64 b), c]) h) 1 fun l157 r158 h159 => some (Res.ret (V.sl 1 l157 false :: []), h159)
  else some (Res.ret (V.sl 1 l false :: []), h)
 else some (Res.ret (V.sl 1 l false :: []), h)
noncomputable def zme (n : Nat) (a b : Int) (c : V) (v100 v138 v1 : V) (l : List (List V)) (h : zd) : Option (Res × zd) :=
 bd (bop prog .lss 3 (V.int .i64 a) v1) fun v146 =>
 bv v146 fun b147 => if b147 then
  bd (bop prog .lss 3 v1 v100) fun v148 =>
  bv v148 fun b149 => if b149 then
   clm (call n 249 (V.sl 1 l false :: [(V.int .i64 a), v1, v100, c]) h) 1 fun l150 r151 h152 => zjV n b c v100 v138 l150 h152
  else zjV n b c v100 v138 l h
 else zjV n b c v100 v138 l h
noncomputable def zoe (n : Nat) (a m b : Int) (c : V) (v100 v101 v1 : V) (l : List (List V)) (hh : zd) : Option (Res × zd) :=
 bd (bop prog .sub 3 v101 v1) fun v138 =>
 bd (bop prog .lss 3 v1 (V.int .i64 m)) fun v139 =>
 bv v139 fun b140 => if b140 then
  bd (bop prog .lss 3 (V.int .i64 m) v138) fun v141 =>
  bv v141 fun b142 => if b142 then
   clm (call n 250 (V.sl 1 l false :: [v1, (V.int .i64 m), v138, c]) hh) 1 fun l143 r144 h145 => zme n a b c v100 v138 v1 l143 h145
  else zme n a b c v100 v138 v1 l hh
 else zme n a b c v100 v138 v1 l hh
def zk5 (c : V) (H : zd) (K : Int -> Int) (D : Int -> Prop) (n sz : Nat) : Prop := ∀ (A B P S : List Int) (a m b : Nat), A ≠ [] -> B ≠ [] -> A.length + B.length <= sz -> a = P.length -> m = P.length + A.length -> b = P.length + A.length + B.length -> 2 * b + 1 < lim →
 Sd K A -> Sd K B -> (∀ x ∈ A, ∀ y ∈ B, x < y) -> (∀ x ∈ A, D x) -> (∀ y ∈ B, D y) -> ∃ C, C.Perm (A ++ B) /\ Sd K C ∧
  call n 249 [.sl 1 (iL (P ++ (A ++ (B ++ S)))) false, .int .i64 (a : Int), .int .i64 (m : Int), .int .i64 (b : Int), c] H = some (.ret [.sl 1 (iL (P ++ (C ++ S))) false], H)
section
variable {K : Int -> Int} {D : Int -> Prop} {H : zd} {c : V}
theorem zpj {n sz : Nat} (ih : zk5 c H K D n sz) (A B P S : List Int) (mid e b : Nat) (hsz : A.length + B.length <= sz) (hm : mid = P.length) (he : e = P.length + A.length) (hb : b = P.length + A.length + B.length) (hl : 2 * b + 1 < lim)
    (hA : Sd K A) (hB : Sd K B) (hlt : ∀ x ∈ A, ∀ y ∈ B, x < y) (dA : ∀ x ∈ A, D x) (dB : ∀ y ∈ B, D y) : ∃ C, C.Perm (A ++ B) /\ Sd K C ∧
    zjV n b c (.int .i64 (mid : Int)) (.int .i64 (e : Int)) (iL (P ++ (A ++ (B ++ S)))) H = some (.ret [.sl 1 (iL (P ++ (C ++ S))) false], H) := by
 unfold zjV
 by_cases h1 : A = []
 · subst h1
   have hc : ¬ (mid : Int) < (e : Int) := by simp at he; omega
   exact ⟨B, .refl _, hB, by simp only [zw, za, zm, hc, decide_false, zo, if_false, zV]⟩
 · have hA0 : 0 < A.length := ZF.2 h1
   have hc : (mid : Int) < (e : Int) := by omega
   by_cases h2 : B = []
   · subst h2
     have hc2 : ¬ (e : Int) < (b : Int) := by simp at hb; omega
     exact ⟨A, by simp, hA, by simp only [zw, za, zm, hc, hc2, decide_true, decide_false, zo, if_false, if_true, zV]⟩
   · have hB0 : 0 < B.length := ZF.2 h2
     have hc2 : (e : Int) < (b : Int) := by omega
     obtain ⟨C, p, s, e1⟩ := ih A B P S mid e b h1 h2 hsz hm he hb hl hA hB hlt dA dB
     refine ⟨C, p, s, ?_⟩
     simp only [zw, za, zm, hc, hc2, decide_true, if_true]
     rw [e1, JT]
theorem zpk {n sz : Nat} (ih : zk5 c H K D n sz) (A1 A2 B1 B2 P S : List Int) (a r mid e b : Nat) (h1z : A1.length + B1.length <= sz) (h2z : A2.length + B2.length <= sz) (ha : a = P.length) (hr : r = P.length + A1.length) (hm : mid = P.length + A1.length + B1.length) (he : e = mid + A2.length) (hb : b = e + B2.length) (hl : 2 * b + 1 < lim)
    (s1 : Sd K A1) (t1 : Sd K B1) (s2 : Sd K A2) (t2 : Sd K B2) (hlt : ∀ x ∈ A1 ++ A2, ∀ y ∈ B1 ++ B2, x < y) (dA : ∀ x ∈ A1 ++ A2, D x) (dB : ∀ y ∈ B1 ++ B2, D y) : ∃ C1 C2, C1.Perm (A1 ++ B1) /\ Sd K C1 /\ C2.Perm (A2 ++ B2) /\ Sd K C2 ∧
    zme n a b c (.int .i64 (mid : Int)) (.int .i64 (e : Int)) (.int .i64 (r : Int)) (iL (P ++ (A1 ++ (B1 ++ (A2 ++ (B2 ++ S)))))) H = some (.ret [.sl 1 (iL (P ++ (C1 ++ (C2 ++ S)))) false], H) := by
 have hU : ∀ C1 : List Int, C1.length = A1.length + B1.length -> ∃ C2, C2.Perm (A2 ++ B2) /\ Sd K C2 /\ zjV n b c (.int .i64 (mid : Int)) (.int .i64 (e : Int)) (iL (P ++ (C1 ++ (A2 ++ (B2 ++ S))))) H = some (.ret [.sl 1 (iL (P ++ (C1 ++ (C2 ++ S)))) false], H) := fun C1 hC => by
  obtain ⟨C2, p, s, e1⟩ := zpj ih A2 B2 (P ++ C1) S mid e b h2z (by simp; omega) (by simp; omega) (by simp; omega) hl s2 t2 (fun x hx y hy => hlt x (Z3 _ hx) y (Z3 _ hy)) (fun x hx => dA x (Z3 _ hx)) (fun y hy => dB y (Z3 _ hy))
  exact ⟨C2, p, s, by simpa only [List.append_assoc] using e1⟩
 unfold zme
 by_cases h1 : A1 = []
 · subst h1
   have hc : ¬ (a : Int) < (r : Int) := by simp at hr; omega
   obtain ⟨C2, p, s, e1⟩ := hU B1 (by simp)
   exact ⟨B1, C2, .refl _, t1, p, s, by simp only [zw, za, zm, hc, decide_false, zo, if_false, zV]; exact e1⟩
 · have hA0 : 0 < A1.length := ZF.2 h1
   have hc : (a : Int) < (r : Int) := by omega
   by_cases h2 : B1 = []
   · subst h2
     have hc2 : ¬ (r : Int) < (mid : Int) := by simp at hm; omega
     obtain ⟨C2, p, s, e1⟩ := hU A1 (by simp)
     exact ⟨A1, C2, by simp, s1, p, s, by simp only [zw, za, zm, hc, hc2, decide_true, decide_false, zo, if_false, if_true, zV]; exact e1⟩
   · have hB0 : 0 < B1.length := ZF.2 h2
     have hc2 : (r : Int) < (mid : Int) := by omega
     obtain ⟨C1, p1, q1, e1⟩ := ih A1 B1 P (A2 ++ (B2 ++ S)) a r mid h1 h2 h1z ha hr hm (by omega) s1 t1 (fun x hx y hy => hlt x (Zd _ hx) y (Zd _ hy)) (fun x hx => dA x (Zd _ hx)) (fun y hy => dB y (Zd _ hy))
     obtain ⟨C2, p2, q2, e2⟩ := hU C1 (by rw [p1.length_eq]; simp)
     refine ⟨C1, C2, p1, q1, p2, q2, ?_⟩
     simp only [zw, za, zm, hc, hc2, decide_true, if_true]
     rw [e1, JT, e2]
theorem zpl {n sz : Nat} (ih : zk5 c H K D n sz) (A1 A2 B1 B2 P S : List Int) (a r m mid nn b : Nat) (h1z : A1.length + B1.length <= sz) (h2z : A2.length + B2.length <= sz) (ha : a = P.length) (hr : r = P.length + A1.length) (hmm : m = r + A2.length) (hm : mid = P.length + A1.length + B1.length) (hnn : nn = mid + m) (hb : b = m + B1.length + B2.length) (hl : 2 * b + 1 < lim) (hn : A2.length + B1.length + 3 <= n)
    (s1 : Sd K A1) (t1 : Sd K B1) (s2 : Sd K A2) (t2 : Sd K B2) (hlt : ∀ x ∈ A1 ++ A2, ∀ y ∈ B1 ++ B2, x < y) (dA : ∀ x ∈ A1 ++ A2, D x) (dB : ∀ y ∈ B1 ++ B2, D y) : ∃ C1 C2, C1.Perm (A1 ++ B1) /\ Sd K C1 /\ C2.Perm (A2 ++ B2) /\ Sd K C2 ∧
    zoe n a m b c (.int .i64 (mid : Int)) (.int .i64 (nn : Int)) (.int .i64 (r : Int)) (iL (P ++ ((A1 ++ A2) ++ ((B1 ++ B2) ++ S)))) H = some (.ret [.sl 1 (iL (P ++ (C1 ++ (C2 ++ S)))) false], H) := by
 obtain ⟨C1, C2, p1, q1, p2, q2, e1⟩ := zpk ih A1 A2 B1 B2 P S a r mid (m + B1.length) b h1z h2z ha hr hm (by omega) (by omega) hl s1 t1 s2 t2 hlt dA dB
 refine ⟨C1, C2, p1, q1, p2, q2, ?_⟩
 have e2 : IntKind.i64.wrap ((nn : Int) - (r : Int)) = ((m + B1.length : Nat) : Int) := wN (by omega) (by omega)
 unfold zoe
 simp only [ZK, za, e2, zw, zm]
 by_cases h1 : A2 = []
 · subst h1
   have hc : ¬ (r : Int) < (m : Int) := by simp at hmm; omega
   simp only [hc, decide_false, zo, if_false]
   simpa only [Zm, zV, List.append_assoc] using e1
 · have hA0 : 0 < A2.length := ZF.2 h1
   have hc : (r : Int) < (m : Int) := by omega
   by_cases h2 : B1 = []
   · subst h2
     have hc2 : ¬ (m : Int) < ((m + ([] : List Int).length : Nat) : Int) := by simp
     simp only [hc, hc2, decide_true, decide_false, zo, if_false, if_true]
     simpa only [Zm, zV, List.append_assoc] using e1
   · have hB0 : 0 < B1.length := ZF.2 h2
     have hc2 : (m : Int) < ((m + B1.length : Nat) : Int) := by omega
     have hrot := zod n H c r m (m + B1.length) (P ++ A1) A2 B1 (B2 ++ S) h1 h2 (by simp; omega) (by simp; omega) (by simp; omega) (by simp; omega) hn
     simp only [hc, hc2, decide_true, if_true]
     simp only [List.append_assoc] at hrot e1 ⊢
     rw [hrot, JT, e1]
end
end Go.Proofs.Tryz
namespace Go.Proofs.Tryz
open Go.L Go.Rp
set_option maxRecDepth 100000
theorem q8 {k : Nat} : ((some k : Option Nat) ≠ some 0) = ((k == 0) = false) := by simp
theorem zlo : (0 : Nat) < 1 := by decide
theorem ole : (1 : Nat) <= 1 := by decide
theorem zbT (P A S : List Int) {h : Nat} (h1 : P.length <= h) (h2 : h < P.length + A.length) : (P ++ (A ++ S))[h]? = some (A.getD (h - P.length) 0) := by
 rw [zD h1, zk (by omega), zP, zg (by omega)]; rfl
theorem q9 {A : List Int} {k : Nat} (h : k < A.length) : A.getD k 0 ∈ A := by
 rw [zP, zg h]; exact Xm h
section
variable {K : Int -> Int} {D : Int -> Prop} {H : zd} {c : V} {n0 : Nat} {p : Nat -> Int}
theorem ziv (n i : Nat) (st1 : List V) (hst : st1.getD 1 (.bool false) = .int .i64 (i : Int)) (hi : i + 1 < lim) (x : Int) (R : List Int) : ∀ (B P : List Int) (k Mx : Nat), k = P.length -> i = k + 1 + B.length -> B.length < Mx →
    zY Mx (ja n st1) [.sl 1 (iL (P ++ (x :: (B ++ R)))) false, .int .i64 (k : Int)] H = some (.ret [.sl 1 (iL (P ++ (B ++ (x :: R)))) false], H)
 | _, _, _, 0, _, _, h => by omega
 | [], P, k, Mx + 1, hk, hi', hM => by
   have e1 : IntKind.i64.wrap ((i : Int) - 1) = ((i - 1 : Nat) : Int) := wN (by omega) (by omega)
   have hc : ¬ (k : Int) < ((i - 1 : Nat) : Int) := by simp at hi'; omega
   rw [zH]
   simp only [ja, gv, zh, zf, hst, ZK, za, e1, zw, zm, hc, decide_false, zo, if_false, lsl, zV]
 | y :: B, P, k, Mx + 1, hk, hi', hM => by
   simp only [zE] at hi' hM
   have e1 : IntKind.i64.wrap ((i : Int) - 1) = ((i - 1 : Nat) : Int) := wN (by omega) (by omega)
   have e2 : IntKind.i64.wrap ((k : Int) + 1) = ((k + 1 : Nat) : Int) := wN (by omega) (by omega)
   have hc : (k : Int) < ((i - 1 : Nat) : Int) := by omega
   obtain ⟨s1, s2, s3, s4, s5, s6, s7, s8⟩ := adj P (B ++ R) x y hk (show k + 1 = P.length + 1 by omega)
   have l1 := (zj.1 s1).1
   have l2 := (zj.1 s2).1
   have l6 := (zj.1 s6).1
   have ih := ziv n i st1 hst hi x R B (P ++ [y]) (k + 1) Mx (by simp; omega) (by omega) (by omega)
   rw [zH, Z2]
   simp only [ja, gv, zh, zf, hst, ZK, zN, za, e1, e2, zw, zm, hc, decide_true, if_true, Zh, zx, lsl, Ql, Kh, q8, true_and, zlo, ole, Nat.reduceBEq, and_true, l1, l2, l6, QV s1, QV s2, zb, V.cells, zE, zG, zu, zbR, zbQ, zgb, s4, QV s6, s8]
   simpa only [List.append_assoc, Z2, zV] using ih
theorem ziw (n i : Nat) (st50 : List V) (hst : st50.getD 1 (.bool false) = .int .i64 (i : Int)) (x : Int) : ∀ (r R P : List Int) (k Mx : Nat), i = P.length -> k = P.length + r.length -> k + 1 < lim -> r.length < Mx →
    zY Mx (jb n st50) [.sl 1 (iL (P ++ (r.reverse ++ (x :: R)))) false, .int .i64 (k : Int)] H = some (.ret [.sl 1 (iL (P ++ (x :: (r.reverse ++ R)))) false], H)
 | _, _, _, _, 0, _, _, _, h => by omega
 | [], R, P, k, Mx + 1, hi, hk, hl, hM => by
   have hc : ¬ (k : Int) > (i : Int) := by simp at hk; omega
   rw [zH]
   simp only [jb, gv, zh, zf, hst, XQ, za, zm, hc, decide_false, zo, if_false, lsl, zV, List.reverse_nil]
 | y :: r, R, P, k, Mx + 1, hi, hk, hl, hM => by
   simp only [zE] at hk hM
   have e1 : IntKind.i64.wrap ((k : Int) - 1) = ((k - 1 : Nat) : Int) := wN (by omega) (by omega)
   have hc : (k : Int) > (i : Int) := by omega
   have hL : P ++ ((y :: r).reverse ++ (x :: R)) = (P ++ r.reverse) ++ y :: x :: R := by simp
   obtain ⟨s1, s2, s3, s4, s5, s6, s7, s8⟩ := adj (P ++ r.reverse) R y x (i := k - 1) (j := k) (by simp; omega) (by simp; omega)
   have l1 := (zj.1 s1).1
   have l2 := (zj.1 s2).1
   have l5 := (zj.1 s5).1
   have ih := ziw n i st50 hst x r (y :: R) P (k - 1) Mx hi (by omega) (by omega) (by omega)
   rw [zH, hL]
   simp only [jb, gv, zh, zf, hst, ZK, za, e1, XQ, zm, hc, decide_true, if_true, Zh, zx, lsl, Ql, Kh, q8, true_and, zlo, ole, Nat.reduceBEq, and_true, l1, l2, l5, QV s1, QV s2, zb, V.cells, zE, zG, zu, zbR, zbQ, zgb, s3, QV s5, s7]
   simpa only [List.append_assoc, J5, Z2, zV] using ih
theorem zpm (hc : CmpOk n0 c H K D) (n : Nat) (x : Int) (B P S : List Int) (a m b : Nat) (ha : a = P.length) (hm : m = P.length + 1) (hb : b = P.length + 1 + B.length) (hl : 2 * b + 1 < lim) (hB : Sd K B) (hlt : ∀ y ∈ B, x < y) (dx : D x) (dB : ∀ y ∈ B, D y) (hn : n0 <= n) (hn2 : B.length + 2 <= n) :
    ∃ C, C.Perm (x :: B) /\ Sd K C /\ zY n (qX n a c) [.sl 1 (iL (P ++ (x :: (B ++ S)))) false, .int .i64 (m : Int), .int .i64 (b : Int)] H = some (.ret [.sl 1 (iL (P ++ (C ++ S))) false], H) := by
 obtain ⟨f, caps, hcf, hok, hk, hcmp⟩ := hc.ex
 have hfn : ∀ k : Nat -> List V -> Option (Res × zd), fnK c k = k f caps := fun k => by rw [hcf]; rfl
 have gx : (P ++ (x :: (B ++ S)))[a]? = some x := WP _ _ _ ha
 have gB : ∀ h, m <= h -> h < b -> (P ++ (x :: (B ++ S)))[h]? = some (B.getD (h - m) 0) := fun h h1 h2 => by
  have := zbT (P ++ [x]) B S (h := h) (by simp; omega) (by simp; omega)
  simp only [List.append_assoc, Z2, zV, zF, Zt] at this
  rw [this, hm]
 obtain ⟨r, r1, r2, r3, r4, r5⟩ := zdb (H := H) (l := .sl 1 (iL (P ++ (x :: (B ++ S)))) false) (body := qX n a c) (fin := fun i => zY n (ja n [.sl 1 (iL (P ++ (x :: (B ++ S)))) false, .int .i64 (i : Int), .int .i64 (i : Int)]) [.sl 1 (iL (P ++ (x :: (B ++ S)))) false, .int .i64 (a : Int)] H) (Q := fun h => K (B.getD (h - m) 0) < K x) m b
  (fun i j h1 h2 h3 next => by
   have hij : (i : Int) < (j : Int) := by omega
   have e1 : IntKind.i64.wrap ((i : Int) + (j : Int)) = ((i + j : Nat) : Int) := wN (by omega) (by omega)
   have g1 := gB ((i + j) / 2) (by omega) (by omega)
   have l1 := (zj.1 g1).1
   have l2 := (zj.1 gx).1
   have e2 : IntKind.i64.wrap ((((i + j) / 2 : Nat) : Int) + 1) = (((i + j) / 2 + 1 : Nat) : Int) := wN (by omega) (by omega)
   obtain ⟨q, hq, hqk⟩ := hcmp n hn (B.getD ((i + j) / 2 - m) 0) x (dB _ (q9 (by omega))) dx
   simp only [qX, gv, zh, zf, zw, za, zm, hij, decide_true, if_true, zN, e1, zjU, zk4, zgc, zbS (show i + j < lim by omega), Zh, zx, lsl, Ql, Kh, q8, true_and, zlo, ole, Nat.reduceBEq, and_true, l1, l2, QV g1, QV gx, zb, hfn, hok, hk]
   rw [hq, zM]
   simp only [zy, zw, za, zm, zN, e2]
   by_cases h : K (B.getD ((i + j) / 2 - m) 0) < K x
   · exact .inl ⟨h, by simp only [hqk.2 h, decide_true, if_true]⟩
   · exact .inr ⟨h, by simp only [show ¬ q < 0 from fun h' => h (hqk.1 h'), decide_false, zo, if_false]⟩)
  (fun i h1 h2 next => by
   have hii : ¬ (i : Int) < (i : Int) := by omega
   simp only [qX, gv, zh, zf, zw, za, zm, hii, decide_false, zo, if_false, lsl])
  n m b (by omega) (zl _) (by omega) (zl _) (.inl rfl) (.inl rfl)
 rw [r5]
 have hB2 : B = B.take (r - m) ++ B.drop (r - m) := (Zw _ _).symm
 refine ⟨B.take (r - m) ++ x :: B.drop (r - m), ?_, zmb hB (by omega) hlt ?_ ?_, ?_⟩
 · refine List.perm_middle.trans ?_
   rw [<- hB2]
 · rcases r3 with h | h
   · exact .inl (by omega)
   · exact .inr (by rw [show r - m - 1 = r - 1 - m by omega]; exact h)
 · rcases r4 with h | h
   · exact .inl (by omega)
   · exact .inr h
 · have := ziv (H := H) n r [.sl 1 (iL (P ++ (x :: (B ++ S)))) false, .int .i64 (r : Int), .int .i64 (r : Int)] rfl (by omega) x (B.drop (r - m) ++ S) (B.take (r - m)) P a n ha (by rw [Zf]; omega) (by rw [Zf]; omega)
   have e : B ++ S = B.take (r - m) ++ (B.drop (r - m) ++ S) := by rw [<- List.append_assoc, <- hB2]
   rw [e]
   rw [e] at this
   rw [this]
   simp
theorem zof (hc : CmpOk n0 c H K D) (n : Nat) (x : Int) (A P S : List Int) (a m : Nat) (ha : a = P.length) (hm : m = P.length + A.length) (hl : 2 * (m + 1) + 1 < lim) (hA : Sd K A) (hlt : ∀ y ∈ A, y < x) (dx : D x) (dA : ∀ y ∈ A, D y) (hn : n0 <= n) (hn2 : A.length + 2 <= n) :
    ∃ C, C.Perm (A ++ [x]) /\ Sd K C /\ zY n (jc n m c) [.sl 1 (iL (P ++ (A ++ (x :: S)))) false, .int .i64 (a : Int), .int .i64 (m : Int)] H = some (.ret [.sl 1 (iL (P ++ (C ++ S))) false], H) := by
 obtain ⟨f, caps, hcf, hok, hk, hcmp⟩ := hc.ex
 have hfn : ∀ k : Nat -> List V -> Option (Res × zd), fnK c k = k f caps := fun k => by rw [hcf]; rfl
 have gx : (P ++ (A ++ (x :: S)))[m]? = some x := by rw [<- List.append_assoc]; exact WP _ _ _ (by simp; omega)
 have gA : ∀ h, a <= h -> h < m -> (P ++ (A ++ (x :: S)))[h]? = some (A.getD (h - a) 0) := fun h h1 h2 => by
  rw [zbT P A (x :: S) (h := h) (by omega) (by omega), ha]
 obtain ⟨r, r1, r2, r3, r4, r5⟩ := zdb (H := H) (l := .sl 1 (iL (P ++ (A ++ (x :: S)))) false) (body := jc n m c) (fin := fun i => zY n (jb n [.sl 1 (iL (P ++ (A ++ (x :: S)))) false, .int .i64 (i : Int), .int .i64 (i : Int)]) [.sl 1 (iL (P ++ (A ++ (x :: S)))) false, .int .i64 (m : Int)] H) (Q := fun h => ¬ K x < K (A.getD (h - a) 0)) a m
  (fun i j h1 h2 h3 next => by
   have hij : (i : Int) < (j : Int) := by omega
   have e1 : IntKind.i64.wrap ((i : Int) + (j : Int)) = ((i + j : Nat) : Int) := wN (by omega) (by omega)
   have g1 := gA ((i + j) / 2) (by omega) (by omega)
   have l1 := (zj.1 g1).1
   have l2 := (zj.1 gx).1
   have e2 : IntKind.i64.wrap ((((i + j) / 2 : Nat) : Int) + 1) = (((i + j) / 2 + 1 : Nat) : Int) := wN (by omega) (by omega)
   obtain ⟨q, hq, hqk⟩ := hcmp n hn x (A.getD ((i + j) / 2 - a) 0) dx (dA _ (q9 (by omega)))
   simp only [jc, gv, zh, zf, zw, za, zm, hij, decide_true, if_true, zN, e1, zjU, zk4, zgc, zbS (show i + j < lim by omega), Zh, zx, lsl, Ql, Kh, q8, true_and, zlo, ole, Nat.reduceBEq, and_true, l1, l2, QV g1, QV gx, zb, hfn, hok, hk]
   rw [hq, zM]
   simp only [zy, zw, za, zbK, zm, zN, e2]
   by_cases h : K x < K (A.getD ((i + j) / 2 - a) 0)
   · exact .inr ⟨fun h' => h' h, by simp only [hqk.2 h, decide_true, QO, zo, if_false]⟩
   · exact .inl ⟨h, by simp only [show ¬ q < 0 from fun h' => h (hqk.1 h'), decide_false, Bool.not_false, if_true]⟩)
  (fun i h1 h2 next => by
   have hii : ¬ (i : Int) < (i : Int) := by omega
   simp only [jc, gv, zh, zf, zw, za, zm, hii, decide_false, zo, if_false, lsl])
  n a m (by omega) (zl _) (by omega) (zl _) (.inl rfl) (.inl rfl)
 rw [r5]
 have hA2 : A = A.take (r - a) ++ A.drop (r - a) := (Zw _ _).symm
 refine ⟨A.take (r - a) ++ x :: A.drop (r - a), ?_, zjT hA (by omega) hlt ?_ ?_, ?_⟩
 · refine List.perm_middle.trans ?_
   rw [<- hA2]
   exact (List.perm_append_singleton x A).symm
 · rcases r3 with h | h
   · exact .inl (by omega)
   · exact .inr (by rw [show r - a - 1 = r - 1 - a by omega]; exact h)
 · rcases r4 with h | h
   · exact .inl (by omega)
   · exact .inr (by simpa using h)
 · have := ziw (H := H) n r [.sl 1 (iL (P ++ (A ++ (x :: S)))) false, .int .i64 (r : Int), .int .i64 (r : Int)] rfl x (A.drop (r - a)).reverse S (P ++ A.take (r - a)) m n (by simp; omega) (by simp; omega) (by omega) (by simp; omega)
   rw [List.reverse_reverse] at this
   have e : P ++ (A ++ (x :: S)) = (P ++ A.take (r - a)) ++ (A.drop (r - a) ++ (x :: S)) := by
    conv => lhs; rw [hA2]
    simp only [List.append_assoc]
   rw [e]
   rw [e] at this
   rw [this]
   simp
end
end Go.Proofs.Tryz
namespace Go.Proofs.Tryz
open Go.L Go.Rp
set_option maxRecDepth 100000
section
variable {K : Int -> Int} {D : Int -> Prop} {H : zd} {c : V} {n0 : Nat} {p : Nat -> Int}
theorem zjW (hc : CmpOk n0 c H K D) (n : Nat) (A B P S : List Int) (a m b mid nn lo hi : Nat) (body : List V -> zd -> (List V -> zd -> Option (Res × zd)) -> Option (Res × zd))
    (hbody : ∀ st hh next, body st hh next = YJ n a m b c (.int .i64 (mid : Int)) (.int .i64 (nn : Int)) (.int .i64 ((nn - 1 : Nat) : Int)) st hh next)
    (ha : a = P.length) (hm : m = P.length + A.length) (hb : b = P.length + A.length + B.length) (hmid : mid = (a + b) / 2) (hnn : nn = mid + m) (hl : 2 * b + 1 < lim)
    (hlo : (m > mid /\ lo = nn - b /\ hi = mid) \/ (m <= mid /\ lo = a /\ hi = m)) (hA0 : 0 < A.length) (hB0 : 0 < B.length)
    (dA : ∀ x ∈ A, D x) (dB : ∀ y ∈ B, D y) (hn : n0 <= n) (hn2 : hi < n + lo) :
    ∃ r, a <= r /\ r <= m /\ r <= mid /\ mid <= r + B.length /\ (r - a = 0 \/ B.length <= mid - r \/ ¬ K (B.getD (mid - r) 0) < K (A.getD (r - a - 1) 0)) /\ (mid - r = 0 \/ A.length <= r - a \/ K (B.getD (mid - r - 1) 0) < K (A.getD (r - a) 0)) ∧
     zY n body [.sl 1 (iL (P ++ (A ++ (B ++ S)))) false, .int .i64 (lo : Int), .int .i64 (hi : Int)] H = zoe n a m b c (.int .i64 (mid : Int)) (.int .i64 (nn : Int)) (.int .i64 (r : Int)) (iL (P ++ (A ++ (B ++ S)))) H := by
 obtain ⟨f, caps, hcf, hok, hk, hcmp⟩ := hc.ex
 have hfn : ∀ k : Nat -> List V -> Option (Res × zd), fnK c k = k f caps := fun k => by rw [hcf]; rfl
 have gA : ∀ h, a <= h -> h < m -> (P ++ (A ++ (B ++ S)))[h]? = some (A.getD (h - a) 0) := fun h h1 h2 => by
  rw [zbT P A (B ++ S) (h := h) (by omega) (by omega), ha]
 have gB : ∀ h, m <= h -> h < b -> (P ++ (A ++ (B ++ S)))[h]? = some (B.getD (h - m) 0) := fun h h1 h2 => by
  have := zbT (P ++ A) B S (h := h) (by simp; omega) (by simp; omega)
  simp only [List.append_assoc, zF] at this
  rw [this, hm]
 have hlom : a <= lo /\ lo <= hi /\ hi <= m /\ hi <= mid /\ mid <= lo + B.length := by
  rcases hlo with ⟨h1, h2, h3⟩ | ⟨h1, h2, h3⟩ <;> omega
 obtain ⟨r, r1, r2, r3, r4, r5⟩ := zdb (H := H) (l := .sl 1 (iL (P ++ (A ++ (B ++ S)))) false) (body := body) (fin := fun i => zoe n a m b c (.int .i64 (mid : Int)) (.int .i64 (nn : Int)) (.int .i64 (i : Int)) (iL (P ++ (A ++ (B ++ S)))) H) (Q := fun h => ¬ K (B.getD (mid - 1 - h) 0) < K (A.getD (h - a) 0)) lo hi
  (fun i j h1 h2 h3 next => by
   rw [hbody]
   have hij : (i : Int) < (j : Int) := by omega
   have e1 : IntKind.i64.wrap ((i : Int) + (j : Int)) = ((i + j : Nat) : Int) := wN (by omega) (by omega)
   have g1 := gA ((i + j) / 2) (by omega) (by omega)
   have g2 := gB (nn - 1 - (i + j) / 2) (by omega) (by omega)
   have l1 := (zj.1 g1).1
   have l2 := (zj.1 g2).1
   have e2 : IntKind.i64.wrap ((((i + j) / 2 : Nat) : Int) + 1) = (((i + j) / 2 + 1 : Nat) : Int) := wN (by omega) (by omega)
   have e3 : IntKind.i64.wrap (((nn - 1 : Nat) : Int) - (((i + j) / 2 : Nat) : Int)) = ((nn - 1 - (i + j) / 2 : Nat) : Int) := wN (by omega) (by omega)
   have e4 : nn - 1 - (i + j) / 2 - m = mid - 1 - (i + j) / 2 := by omega
   rw [e4] at g2
   obtain ⟨q, hq, hqk⟩ := hcmp n hn (B.getD (mid - 1 - (i + j) / 2) 0) (A.getD ((i + j) / 2 - a) 0) (dB _ (q9 (by omega))) (dA _ (q9 (by omega)))
   simp only [YJ, gv, zh, zf, zw, za, zm, hij, decide_true, if_true, zN, e1, zjU, zk4, zgc, zbS (show i + j < lim by omega), ZK, e3, Zh, zx, lsl, Ql, Kh, q8, true_and, zlo, ole, Nat.reduceBEq, and_true, l1, l2, QV g1, QV g2, zb, hfn, hok, hk]
   rw [hq, zM]
   simp only [zy, zw, za, zbK, zm, zN, e2]
   by_cases h : K (B.getD (mid - 1 - (i + j) / 2) 0) < K (A.getD ((i + j) / 2 - a) 0)
   · exact .inr ⟨fun h' => h' h, by simp only [hqk.2 h, decide_true, QO, zo, if_false]⟩
   · exact .inl ⟨h, by simp only [show ¬ q < 0 from fun h' => h (hqk.1 h'), decide_false, Bool.not_false, if_true]⟩)
  (fun i h1 h2 next => by
   have hii : ¬ (i : Int) < (i : Int) := by omega
   rw [hbody]
   simp only [YJ, gv, zh, zf, zw, za, zm, hii, decide_false, zo, if_false, lsl, zoe, zme, zjV])
  n lo hi (by omega) (zl _) hlom.2.1 (zl _) (.inl rfl) (.inl rfl)
 refine ⟨r, by omega, by omega, by omega, by omega, ?_, ?_, r5⟩
 · rcases r3 with h | h
   · rcases hlo with ⟨h1, h2, h3⟩ | ⟨h1, h2, h3⟩
     · exact .inr (.inl (by omega))
     · exact .inl (by omega)
   · by_cases h0 : r - a = 0
     · exact .inl h0
     · refine .inr (.inr ?_)
       rw [show mid - r = mid - 1 - (r - 1) by omega, show r - a - 1 = r - 1 - a by omega]
       exact h
 · rcases r4 with h | h
   · rcases hlo with ⟨h1, h2, h3⟩ | ⟨h1, h2, h3⟩
     · exact .inl (by omega)
     · exact .inr (.inl (by omega))
   · refine .inr (.inr ?_)
     rw [show mid - r - 1 = mid - 1 - r by omega]
     simpa using h
theorem zeP (hc : CmpOk n0 c H K D) : ∀ (sz n : Nat), n0 + 2 * sz + 8 <= n -> zk5 c H K D n sz
 | 0, n, _ => fun A B P S a m b hA hB hsz => by
   have := ZF.2 hA; omega
 | sz + 1, n, hn => fun A B P S a m b hA hB hsz ha hm hb hl sA sB hlt dA dB => by
   obtain ⟨N, rfl⟩ : ∃ N, n = N + 1 := ⟨n - 1, by omega⟩
   have ih := zeP hc sz N (by omega)
   have hA0 := ZF.2 hA
   have hB0 := ZF.2 hB
   have e1 : IntKind.i64.wrap ((m : Int) - (a : Int)) = ((A.length : Nat) : Int) := wN (by omega) (by omega)
   have e2 : IntKind.i64.wrap ((b : Int) - (m : Int)) = ((B.length : Nat) : Int) := wN (by omega) (by omega)
   have e3 : IntKind.i64.wrap ((a : Int) + (b : Int)) = ((a + b : Nat) : Int) := wN (by omega) (by omega)
   rw [zpg]
   unfold zqS
   rw [e1, e2, e3]
   by_cases h1 : A.length = 1
   · obtain ⟨x, rfl⟩ := ZP.1 h1
     have hc1 : ((([x] : List Int).length : Int) == 1) = true := by simp
     rw [if_pos hc1]
     obtain ⟨C, p, s, e⟩ := zpm hc N x B P S a m b ha (by simpa using hm) (by simpa using hb) hl sB (fun y hy => hlt x (by simp) y hy) (dA x (by simp)) dB (by omega) (by omega)
     exact ⟨C, by simpa using p, s, by simpa using e⟩
   · have hc1 : ¬ (((A.length : Nat) : Int) == 1) = true := by simp; omega
     rw [if_neg hc1]
     by_cases h2 : B.length = 1
     · obtain ⟨x, rfl⟩ := ZP.1 h2
       have hc2 : ((([x] : List Int).length : Int) == 1) = true := by simp
       rw [if_pos hc2]
       obtain ⟨C, p, s, e⟩ := zof hc N x A P S a m ha hm (by simp at hb; omega) sA (fun y hy => hlt y hy x (by simp)) (dB x (by simp)) dA (by omega) (by simp at hsz; omega)
       exact ⟨C, p, s, by simpa using e⟩
     · have hc2 : ¬ (((B.length : Nat) : Int) == 1) = true := by simp; omega
       rw [if_neg hc2]
       obtain ⟨mid, hmid⟩ : ∃ mid, mid = (a + b) / 2 := ⟨_, rfl⟩
       obtain ⟨nn, hnn⟩ : ∃ nn, nn = mid + m := ⟨_, rfl⟩
       have e4 : IntKind.i64.wrap ((mid : Int) + (m : Int)) = ((nn : Nat) : Int) := wN (by omega) (by omega)
       have e5 : IntKind.i64.wrap ((nn : Int) - 1) = ((nn - 1 : Nat) : Int) := wN (by omega) (by omega)
       have e6 := zbS (show a + b < lim by omega)
       rw [<- hmid] at e6
       simp only [zk4, za, zgc, e6, zN, e4, XQ, zm]
       have key : ∀ (lo hi : Nat) (body : List V -> zd -> (List V -> zd -> Option (Res × zd)) -> Option (Res × zd)), (∀ st hh next, body st hh next = YJ N a m b c (.int .i64 (mid : Int)) (.int .i64 (nn : Int)) (.int .i64 ((nn - 1 : Nat) : Int)) st hh next) →
           ((m > mid /\ lo = nn - b /\ hi = mid) \/ (m <= mid /\ lo = a /\ hi = m)) -> ∃ C, C.Perm (A ++ B) /\ Sd K C /\ zY N body [.sl 1 (iL (P ++ (A ++ (B ++ S)))) false, .int .i64 (lo : Int), .int .i64 (hi : Int)] H = some (.ret [.sl 1 (iL (P ++ (C ++ S))) false], H) := fun lo hi body hbody hlo => by
        obtain ⟨r, r1, r2, r3, r4, r5, r6, r7⟩ := zjW hc N A B P S a m b mid nn lo hi body hbody ha hm hb hmid hnn hl hlo hA0 hB0 dA dB (by omega) (by omega)
        have hAt : A = A.take (r - a) ++ A.drop (r - a) := (Zw _ _).symm
        have hBt : B = B.take (mid - r) ++ B.drop (mid - r) := (Zw _ _).symm
        have hcr := zqU sA sB (by omega) (by omega) hlt r5 r6
        have tA : (A.take (r - a)).length = r - a := by rw [Zf]; omega
        have tB : (B.take (mid - r)).length = mid - r := by rw [Zf]; omega
        have dA' : (A.drop (r - a)).length = A.length - (r - a) := Xk
        have dB' : (B.drop (mid - r)).length = B.length - (mid - r) := Xk
        obtain ⟨C1, C2, p1, q1, p2, q2, e⟩ := zpl ih (A.take (r - a)) (A.drop (r - a)) (B.take (mid - r)) (B.drop (mid - r)) P S a r m mid nn b (by omega) (by omega) ha (by omega) (by omega) (by omega) hnn (by omega) hl (by omega)
         (sA.sublist (J4 _ _)) (sB.sublist (J4 _ _)) (sA.sublist (Qh _ _)) (sB.sublist (Qh _ _)) (by rw [<- hAt, <- hBt]; exact hlt) (by rw [<- hAt]; exact dA) (by rw [<- hBt]; exact dB)
        rw [<- hAt, <- hBt] at e
        refine ⟨C1 ++ C2, ?_, ZG.2 ⟨q1, q2, fun u hu v hv => hcr u (p1.mem_iff.1 hu) v (p2.mem_iff.1 hv)⟩, ?_⟩
        · refine (p1.append p2).trans ?_
          conv => rhs; rw [hAt, hBt]
          simp only [List.append_assoc]
          refine List.Perm.append_left _ ?_
          rw [<- List.append_assoc, <- List.append_assoc]
          exact List.Perm.append_right _ List.perm_append_comm
        · rw [r7, e]; simp only [List.append_assoc]
       by_cases hg : (m : Int) > (mid : Int)
       · have e7 : IntKind.i64.wrap ((nn : Int) - (b : Int)) = ((nn - b : Nat) : Int) := wN (by omega) (by omega)
         simp only [hg, decide_true, if_true, ZK, za, e7, e5]
         exact key (nn - b) mid _ (fun _ _ _ => rfl) (.inl ⟨by omega, rfl, rfl⟩)
       · simp only [hg, decide_false, zo, if_false, ZK, za, e5]
         exact key a m _ (fun _ _ _ => rfl) (.inr ⟨by omega, rfl, rfl⟩)
theorem zog (hp : zf8 p) (hc : CmpOk n0 c H K D) (n lo i j : Nat) (P S : List Int) (hP : lo = P.length) (hi : 0 < i) (hj : 0 < j) (hl : 2 * (lo + i + j) + 1 < lim) (hD : ∀ x ∈ rng p lo (i + j), D x) (hn : n0 + 2 * (i + j) + 8 <= n) :
    call n 249 [.sl 1 (iL (P ++ (sR K p lo i ++ (sR K p (lo + i) j ++ S)))) false, .int .i64 (lo : Int), .int .i64 ((lo + i : Nat) : Int), .int .i64 ((lo + i + j : Nat) : Int), c] H = some (.ret [.sl 1 (iL (P ++ (sR K p lo (i + j) ++ S))) false], H) := by
 have hne : ∀ l k, 0 < k -> sR K p l k ≠ [] := fun l k hk h => by have := Yx (K := K) (p := p) l k; rw [h] at this; simp at this; omega
 obtain ⟨C, q, s, e⟩ := zeP hc (i + j) n hn (sR K p lo i) (sR K p (lo + i) j) P S lo (lo + i) (lo + i + j) (hne _ _ hi) (hne _ _ hj) (by rw [Yx, Yx]; omega) hP (by rw [Yx]; omega) (by rw [Yx, Yx]; omega) hl (zir hp _ _) (zir hp _ _)
  (fun x hx y hy => zqV hp hx hy) (fun x hx => hD x (ju (zl _) (by omega) (Kf.2 (zaI.1 hx)))) (fun x hx => hD x (ju (Nat.le_add_right _ _) (by omega) (Kf.2 (zaI.1 hx))))
 rw [e, zpi hp q s]
end
end Go.Proofs.Tryz
namespace Go.Proofs.Tryz
open Go.L Go.Rp
set_option maxRecDepth 100000
@[simp] theorem Yo (a b : Int) : bop prog .mul 3 (.int .i64 a) (.int .i64 b) = some (.int .i64 (IntKind.i64.wrap (a * b))) := by kernel_rfl
section
variable {K : Int -> Int} {D : Int -> Prop} {H : zd} {c : V} {n0 : Nat} {p : Nat -> Int}
theorem YK {bs : Nat} (hb : 0 < bs) (f lo len : Nat) (h : bs <= len) (hf : len <= f) : Q6 K p bs f lo len = sR K p lo bs ++ Q6 K p bs f (lo + bs) (len - bs) := by
 rcases ZY bs len with h1 | h1
 · exact zmd hb f lo len h1 hf
 · obtain rfl : len = bs := by omega
   rw [JL f lo len (zl _) (by omega), X9, JL f _ 0 (by omega) (by omega)]
   simp [sR]
theorem zdc (hc : CmpOk n0 c H K D) (n k f : Nat) (hD : ∀ x ∈ rng p 0 k, D x) (hl : 2 * k + 100 < lim) (hn : n0 + k + 25 <= n) (hf : k <= f) (hf0 : 0 < f) : ∀ (M len a : Nat) (P : List Int), a = P.length -> a + len = k -> len < M -> ∃ u v : Nat,
    zY M (qZ n k c) [.sl 1 (iL (P ++ rng p a len)) false, .int .i64 (a : Int), .int .i64 ((a + 20 : Nat) : Int)] H = zY n (WV n k c) [.sl 1 (iL (P ++ Q6 K p 20 f a len)) false, .int .i64 20, .int .i64 (u : Int), .int .i64 (v : Int)] H
 | 0, _, _, _, _, _, h => by omega
 | M + 1, len, a, P, ha, hk, hM => by
   rw [zH]
   by_cases h : 20 <= len
   · have h1 : ((a + 20 : Nat) : Int) <= (k : Int) := by omega
     have e1 : IntKind.i64.wrap (((a + 20 : Nat) : Int) + 20) = ((a + 20 + 20 : Nat) : Int) := wN (by omega) (by omega)
     have hr : rng p a len = rng p a 20 ++ rng p (a + 20) (len - 20) := by rw [<- zf9]; congr 1; omega
     have hi := ziu hc n a 20 P (rng p (a + 20) (len - 20)) ha (fun x hx => hD x (ju (by omega) (by omega) hx)) (by rw [zbP]; omega) (by omega) (by omega)
     obtain ⟨u, v, e⟩ := zdc hc n k f hD hl hn hf hf0 M (len - 20) (a + 20) (P ++ sR K p a 20) (by rw [zF, Yx]; omega) (by omega) (by omega)
     refine ⟨u, v, ?_⟩
     simp only [qZ, gv, zh, zf, Yl, za, zm, h1, decide_true, if_true, lsl]
     rw [hr, hi, JT]
     simp only [zN, za, e1]
     rw [YK (by omega) f a len h (by omega), <- List.append_assoc, <- List.append_assoc]
     exact e
   · have h1 : ¬ ((a + 20 : Nat) : Int) <= (k : Int) := by omega
     have hi := ziu hc n a len P [] ha (fun x hx => hD x (ju (by omega) (by omega) hx)) (by simp; omega) (by omega) (by omega)
     rw [Zm, Zm, hk] at hi
     refine ⟨a, a + 20, ?_⟩
     simp only [qZ, gv, zh, zf, Yl, za, zm, h1, decide_false, zo, if_false, lsl]
     rw [hi, JT, JL f a len (by omega) hf0]
theorem zdd (hp : zf8 p) (hc : CmpOk n0 c H K D) (n k f bs : Nat) (st14 : List V) (next16 : List V -> zd -> Option (Res × zd)) (hst : st14.getD 1 (.bool false) = .int .i64 (bs : Int)) (hb : 0 < bs) (hbk : bs < k) (hD : ∀ x ∈ rng p 0 k, D x) (hl : 4 * k + 100 < lim) (hn : n0 + 2 * k + 8 <= n) (hf : k <= f) : ∀ (M len a : Nat) (P : List Int), a = P.length -> a + len = k -> len < M -> ∃ u v : Nat,
    zY M (jt n k c st14 next16) [.sl 1 (iL (P ++ Q6 K p bs f a len)) false, .int .i64 (a : Int), .int .i64 ((a + 2 * bs : Nat) : Int)] H = next16 [.sl 1 (iL (P ++ Q6 K p (2 * bs) f a len)) false, .int .i64 ((2 * bs : Nat) : Int), .int .i64 (u : Int), .int .i64 (v : Int)] H
 | 0, _, _, _, _, _, h => by omega
 | M + 1, len, a, P, ha, hk, hM => by
   rw [zH]
   have e1 : IntKind.i64.wrap ((a : Int) + (bs : Int)) = ((a + bs : Nat) : Int) := wN (by omega) (by omega)
   have e2 : IntKind.i64.wrap (2 * (bs : Int)) = ((2 * bs : Nat) : Int) := wN (by omega) (by omega)
   have e3 : IntKind.i64.wrap ((bs : Int) * 2) = ((2 * bs : Nat) : Int) := wN (by omega) (by omega)
   by_cases h : 2 * bs <= len
   · have h1 : ((a + 2 * bs : Nat) : Int) <= (k : Int) := by omega
     have e4 : IntKind.i64.wrap (((a + 2 * bs : Nat) : Int) + ((2 * bs : Nat) : Int)) = ((a + 2 * bs + 2 * bs : Nat) : Int) := wN (by omega) (by omega)
     have hs := zog hp hc n a bs bs P (Q6 K p bs f (a + bs + bs) (len - bs - bs)) ha hb hb (by omega) (fun x hx => hD x (ju (by omega) (by omega) hx)) (by omega)
     obtain ⟨u, v, e⟩ := zdd hp hc n k f bs st14 next16 hst hb hbk hD hl hn hf M (len - 2 * bs) (a + 2 * bs) (P ++ sR K p a (2 * bs)) (by rw [zF, Yx]; omega) (by omega) (by omega)
     refine ⟨u, v, ?_⟩
     rw [YK hb f a len (by omega) (by omega), YK hb f (a + bs) (len - bs) (by omega) (by omega), YK (bs := 2 * bs) (by omega) f a len h (by omega)]
     simp only [jt, gv, zh, zf, hst, Yl, za, zm, h1, decide_true, if_true, zN, e1, lsl]
     rw [show ((a + bs + bs : Nat) : Int) = ((a + 2 * bs : Nat) : Int) by omega] at hs
     rw [hs, JT]
     simp only [Yo, zN, za, e2, e4]
     rw [show bs + bs = 2 * bs by omega, show a + bs + bs = a + 2 * bs by omega, show len - bs - bs = len - 2 * bs by omega, <- List.append_assoc, <- List.append_assoc]
     exact e
   · have h1 : ¬ ((a + 2 * bs : Nat) : Int) <= (k : Int) := by omega
     refine ⟨a, a + 2 * bs, ?_⟩
     simp only [jt, gv, zh, zf, hst, Yl, za, zm, h1, decide_false, zo, if_false, zN, e1, zw, lsl]
     by_cases h2 : bs < len
     · have h3 : ((a + bs : Nat) : Int) < (k : Int) := by omega
       have hs := zog hp hc n a bs (len - bs) P [] ha hb (by omega) (by omega) (fun x hx => hD x (ju (by omega) (by omega) hx)) (by omega)
       rw [Zm, Zm, show a + bs + (len - bs) = k by omega, show bs + (len - bs) = len by omega] at hs
       simp only [h3, decide_true, if_true]
       rw [YK hb f a len (by omega) (by omega), JL f (a + bs) (len - bs) (by omega) (by omega), JL (bs := 2 * bs) f a len (by omega) (by omega), hs, JT]
       simp only [Yo, za, e3]
     · have h3 : ¬ ((a + bs : Nat) : Int) < (k : Int) := by omega
       simp only [h3, decide_false, zo, if_false, Yo, za, e3]
       rw [JL f a len (by omega) (by omega), JL (bs := 2 * bs) f a len (by omega) (by omega)]
theorem zix (hp : zf8 p) (hc : CmpOk n0 c H K D) (n k f : Nat) (hD : ∀ x ∈ rng p 0 k, D x) (hl : 4 * k + 100 < lim) (hn : n0 + 2 * k + 8 <= n) (hf : k <= f) (hf0 : 0 < f) : ∀ (M bs u v : Nat), 0 < bs -> k < M + bs -> 0 < M →
    zY M (WV n k c) [.sl 1 (iL (Q6 K p bs f 0 k)) false, .int .i64 (bs : Int), .int .i64 (u : Int), .int .i64 (v : Int)] H = some (.ret [.sl 1 (iL (sR K p 0 k)) false], H)
 | 0, _, _, _, _, _, h => by omega
 | M + 1, bs, u, v, hb, hM, _ => by
   rw [zH]
   by_cases h : bs < k
   · have h1 : (bs : Int) < (k : Int) := by omega
     have e2 : IntKind.i64.wrap (2 * (bs : Int)) = ((2 * bs : Nat) : Int) := wN (by omega) (by omega)
     obtain ⟨u', v', e⟩ := zdd hp hc n k f bs [.sl 1 (iL (Q6 K p bs f 0 k)) false, .int .i64 (bs : Int), .int .i64 (u : Int), .int .i64 (v : Int)] (zY M (WV n k c)) rfl hb h hD hl hn hf n k 0 [] rfl (by omega) (by omega)
     have ih := zix hp hc n k f hD hl hn hf hf0 M (2 * bs) u' v' (by omega) (by omega) (by omega)
     simp only [zV, zu] at e
     simp only [WV, gv, zh, zf, zw, za, zm, h1, decide_true, if_true, Yo, e2, lsl]
     exact e.trans ih
   · have h1 : ¬ (bs : Int) < (k : Int) := by omega
     simp only [WV, gv, zh, zf, zw, za, zm, h1, decide_false, zo, if_false, lsl]
     rw [JL f 0 k (by omega) hf0]
theorem zmf (hp : zf8 p) (hc : CmpOk n0 c H K D) (n k : Nat) (hD : ∀ x ∈ rng p 0 k, D x) (hl : 4 * k + 100 < lim) (hn : n0 + 2 * k + 40 <= n) :
    call n 240 [.sl 1 (iL (rng p 0 k)) false, c] H = some (.ret [.sl 1 (iL (sR K p 0 k)) false], H) := by
 obtain ⟨N, rfl⟩ : ∃ N, n = N + 2 := ⟨n - 2, by omega⟩
 obtain ⟨u, v, e⟩ := zdc hc N k (k + 1) hD (by omega) (by omega) (by omega) (by omega) N k 0 [] rfl (by omega) (by omega)
 have e2 := zix hp hc N k (k + 1) hD hl (by omega) (by omega) (by omega) N 20 u v (by omega) (by omega) (by omega)
 rw [zoc]
 unfold zpW
 rw [zob]
 unfold zpV
 simp only [zV] at e
 rw [show ((20 : Nat) : Int) = (20 : Int) from rfl] at e2
 have e3 : (((iL (rng p 0 k)).length : Nat) : Int) = (k : Int) := by rw [Ql, zbP]
 rw [e3]
 have e4 := e.trans e2
 rw [show (((0 : Nat) + 20 : Nat) : Int) = (20 : Int) from rfl, show (((0 : Nat)) : Int) = (0 : Int) from rfl] at e4
 rw [e4, JT]
end
end Go.Proofs.Tryz
namespace Go.Proofs.Tryz
open Go.L Go.Rp Go.Sk
set_option maxRecDepth 100000
def oAt (os : List O) (x : Int) : O := os.getD x.toNat ⟨0, 0⟩
theorem Wv {os : List O} {k : Nat} {x : O} (h : os[k]? = some x) : oAt os (k : Int) = x := by
 unfold oAt; rw [QJ, zP, h]; rfl
def YL (os : List O) (x : Int) : Int := (oAt os x).v
theorem ziy (n : Nat) (o : O) (h : zd) : call (n + 1) 235 [.agg (O.w o)] h = some (.ret [.int .i32 o.v], h) := by
 refine (zl8 n o.k o.v h).trans ?_
 exact Ym (by simp) (by simp)
theorem zde (x : O) : List.take 2 (List.drop 0 (O.w x)) = O.w x := rfl
theorem zqq (os : List O) (lb : Bool) (H : zd) : CmpOk 4 (.fn 241 [.iptr 1 [.fn 235 []] 0, .iptr 1 [.sl 2 (os.map O.w) lb] 0]) H (YL os) (fun x => 0 <= x /\ x < (os.length : Int)) where
 ex := by
  refine ⟨_, _, rfl, by kernel_rfl, by kernel_rfl, fun n hn x y hx hy => ?_⟩
  obtain ⟨m, rfl⟩ : ∃ m, n = (m + 3) + 1 := ⟨n - 4, by omega⟩
  obtain ⟨i, rfl⟩ : ∃ i : Nat, x = (i : Int) := ⟨x.toNat, (Z6 hx.1).symm⟩
  obtain ⟨j, rfl⟩ : ∃ j : Nat, y = (j : Int) := ⟨y.toNat, (Z6 hy.1).symm⟩
  obtain ⟨a, ha⟩ : ∃ a, os[i]? = some a := ⟨_, zg (by omega)⟩
  obtain ⟨b, hb⟩ : ∃ b, os[j]? = some b := ⟨_, zg (by omega)⟩
  have hav : (os.map O.w)[i]? = some (O.w a) := by rw [KZ, ha]; rfl
  have hbv : (os.map O.w)[j]? = some (O.w b) := by rw [KZ, hb]; rfl
  refine ⟨zn2 (YL os (i : Int)) (YL os (j : Int)), ?_, ?_⟩
  · refine (zn7 (m + 3) (i : Int) (j : Int) (os.map O.w) lb H).trans ?_
    unfold zpS
    have e1 : ∀ (u : O) (h : zd), call (m + 3) 235 [.agg (O.w u)] h = some (.ret [.int .i32 u.v], h) := fun u h => ziy (m + 2) u h
    have e2 : ∀ (u v : Int) (h : zd), call (m + 3) 242 [.int .i32 u, .int .i32 v] h = some (.ret [.int .i64 (zn2 u v)], h) := fun u v h => zf6 (m + 1) u v h
    have fi : nv (V.int .i64 (i : Int)) = some i := Zh _ _
    have fj : nv (V.int .i64 (j : Int)) = some j := Zh _ _
    rw [fi, zx, XU hav, za]
    first
     | rw [Z1, zn, if_pos (by decide), zde, e1, zbI, zy, fj, zx, XU hbv, za, Z1, zn, if_pos (by decide), zde, e1, zbI, zy, e2, zbJ, zy]
       rw [show YL os (i : Int) = a.v from by unfold YL; rw [Wv ha], show YL os (j : Int) = b.v from by unfold YL; rw [Wv hb]]
     | (simp only [esP, zde]
        rw [e1, zbI, zy, fj, zx, XU hbv, za]
        simp only [esP, zde]
        rw [e1, zbI, zy, e2, zbJ, zy]
        rw [show YL os (i : Int) = a.v from by unfold YL; rw [Wv ha], show YL os (j : Int) = b.v from by unfold YL; rw [Wv hb]])
  · unfold zn2
    split
    · rename_i h; exact ⟨fun _ => h, fun _ => by omega⟩
    · rename_i h; split <;> exact ⟨fun e => by omega, fun e => absurd e h⟩
def Q7 (os : List O) : Nat -> List Int
 | 0 => []
 | k + 1 => if (oAt os (k : Int)).k = 1 then Q7 os k ++ [(k : Int)] else Q7 os k
def QN (os : List O) : Nat -> List Int
 | 0 => []
 | k + 1 => if (oAt os (k : Int)).k = 1 then QN os k else QN os k ++ [(k : Int)]
theorem Je (os : List O) : ∀ (n : Nat) (x : Int), x ∈ Q7 os n -> 0 <= x /\ x < (n : Int) /\ (oAt os x).k = 1
 | 0, x, h => by cases h
 | n + 1, x, h => by
   simp only [Q7] at h
   split at h
   · rename_i hk
     rcases Zr.1 h with h | h
     · have := Je os n x h; omega
     · rw [ZV] at h; subst h; exact ⟨by omega, by omega, hk⟩
   · have := Je os n x h; omega
theorem JC (os : List O) : ∀ (n : Nat) (x : Int), x ∈ QN os n -> 0 <= x /\ x < (n : Int) /\ (oAt os x).k ≠ 1
 | 0, x, h => by cases h
 | n + 1, x, h => by
   simp only [QN] at h
   split at h
   · have := JC os n x h; omega
   · rename_i hk
     rcases Zr.1 h with h | h
     · have := JC os n x h; omega
     · rw [ZV] at h; subst h; exact ⟨by omega, by omega, hk⟩
theorem YM (os : List O) : ∀ n : Nat, (Q7 os n).Pairwise (· < ·)
 | 0 => .nil
 | n + 1 => by
   simp only [Q7]
   split
   · refine ZG.2 ⟨YM os n, List.pairwise_singleton .., fun a ha b hb => ?_⟩
     rw [ZV] at hb; subst hb
     exact (Je os n a ha).2.1
   · exact YM os n
theorem YN (os : List O) : ∀ n : Nat, (Q7 os n).length + (QN os n).length = n
 | 0 => rfl
 | n + 1 => by
   have := YN os n
   simp only [Q7, QN]
   split
   · rw [zF, zE, zG]; omega
   · rw [zF, zE, zG]; omega
def JY (os : List O) : List Int := Q7 os os.length
def Xn (os : List O) : List Int := QN os os.length
def Xa (os : List O) : List Int := sR (YL os) (atP (JY os) (os.length : Int)) 0 (JY os).length
theorem Wa (os : List O) : (Xa os).Perm (JY os) := by
 have := Kg (K := YL os) (p := atP (JY os) (os.length : Int)) 0 (JY os).length
 rwa [zga] at this
theorem YO (os : List O) : (Xa os).length = (JY os).length := (Wa os).length_eq
theorem zoh (os : List O) : Sd (YL os) (Xa os) := zir (zis (YM os _) fun x hx => (Je os _ x hx).2.1) 0 _
theorem zpn (n : Nat) {h : zd} {b : Nat} (os : List O) (lb : Bool) (hb : h[b]? = some (.row 3 1 (iL (JY os)) true)) (hl : 4 * os.length + 100 < lim) (hn : 2 * os.length + 50 <= n) :
    call (n + 1) 234 [.sl 2 (os.map O.w) lb, .row b 1 0 (JY os).length, .fn 235 []] h = some (.ret [.row b 1 0 (JY os).length], (h.set b .dead).set b (.row 3 1 (iL (Xa os)) true)) := by
 have hlen := YN os os.length
 have hpl : (JY os).length <= os.length := by unfold JY; omega
 have hs := zmf (p := atP (JY os) (os.length : Int)) (H := h.set b .dead) (zis (YM os _) fun x hx => (Je os _ x hx).2.1) (zqq os lb (h.set b .dead)) n (JY os).length (fun x hx => by
  rw [zga] at hx
  have := Je os _ x hx
  exact ⟨this.1, this.2.1⟩) (by omega) (by omega)
 rw [zga] at hs
 refine (zn8 n (os.map O.w) lb b (JY os).length h).trans ?_
 unfold zpT
 rw [hb]
 simp only [rwT]
 rw [if_pos (by rw [Ql]; refine ⟨⟨?_, ?_, ?_⟩, ?_, ?_⟩ <;> first | trivial | rfl), hs]
 simp only [clr]
 rw [if_pos (And.intro (by first | trivial | rfl) (by rw [Ql, Ql]; exact YO os))]
 rfl
theorem zk6 (x : Int) : Wi prog 55 1 [(0, .int .i64 x)] = some (1, [[.int .i64 x]]) := by kernel_rfl
theorem zgd (l : List Int) (x : Int) (h : l.length + 1 < lim) : app 3 1 (S.own 3 1 (iL l)) [[.int .i64 x]] = some (iL (l ++ [x])) := by
 simp only [app]
 rw [if_pos (by refine ⟨?_, ?_, by simpa using h⟩ <;> first | trivial | rfl)]
 simp [iL, XL]
theorem zrh (x : O) : (setR [V.int .u8 0, V.int .i32 0] 0 (O.w x))[0]? = some (.int .u8 x.k) := rfl
theorem ziz (a b : Int) : bop prog .eql 5 (.int .u8 a) (.int .u8 b) = some (.bool (a == b)) := by kernel_rfl
def Xf (h : zd) (os : List O) : zd := h ++ [.row 3 1 (iL (Xa os)) true, .row 3 1 (iL (Xn os)) true]
theorem ziA (n : Nat) (h : zd) (os : List O) (lb : Bool) (hl : 4 * os.length + 100 < lim) (hn : 2 * os.length + 50 <= n) : ∀ (d k M : Nat), k + d = os.length -> d < M →
    zY M (YI (n + 1) (os.map O.w) lb) [.sl 1 (iL (Q7 os k)) false, .sl 1 (iL (QN os k)) false, .int .i64 (k : Int)] h = some (.ret [.row h.length 1 0 (JY os).length, .row (h.length + 1) 1 0 (Xn os).length], Xf h os) := by
 intro d
 induction d with
 | zero =>
   intro k M h1 h2
   obtain ⟨M, rfl⟩ : ∃ M', M = M' + 1 := ⟨M - 1, by omega⟩
   obtain rfl : k = os.length := by omega
   have hb := zpn n (h := h ++ [.row 3 1 (iL (JY os)) true]) (b := h.length) os lb zr hl hn
   have hset : ((h ++ [HB.row 3 1 (iL (JY os)) true]).set h.length .dead).set h.length (.row 3 1 (iL (Xa os)) true) = h ++ [.row 3 1 (iL (Xa os)) true] := by
    rw [List.set_set, Zv _ _ (zl _), X9]; rfl
   rw [hset] at hb
   rw [zH]
   unfold YI
   simp only [gv, zf, zh, zI, zw, za, zm]
   rw [if_neg (by simp)]
   rw [show lsl (V.sl 1 (iL (Q7 os os.length)) false) = iL (JY os) from rfl, show lsl (V.sl 1 (iL (QN os os.length)) false) = iL (Xn os) from rfl, Ql, Ql, hb, zM, zy]
   simp [Xf]
 | succ d ih =>
   intro k M h1 h2
   obtain ⟨M, rfl⟩ : ∃ M', M = M' + 1 := ⟨M - 1, by omega⟩
   obtain ⟨x, hx⟩ : ∃ x, os[k]? = some x := ⟨_, zg (by omega)⟩
   have hxv : (os.map O.w)[k]? = some (O.w x) := by rw [KZ, hx]; rfl
   have hlt : decide ((k : Int) < (os.length : Int)) = true := by simp; omega
   have hpl := YN os k
   have hox := Wv hx
   have IH := ih (k + 1) M (by omega) (by omega)
   rw [zH]
   have key : ∀ next, YI (n + 1) (os.map O.w) lb [.sl 1 (iL (Q7 os k)) false, .sl 1 (iL (QN os k)) false, .int .i64 (k : Int)] h next = next [.sl 1 (iL (Q7 os (k + 1))) false, .sl 1 (iL (QN os (k + 1))) false, .int .i64 ((k + 1 : Nat) : Int)] h := by
    intro next
    unfold YI
    simp only [gv, zf, zh, zI, zw, za, zm, hlt, if_true, Zh, zx, XU hxv, Z1, zn, zu, zl, Nat.reduceLT, and_self, zde, show (O.w x).length = 2 from rfl, zrh, ziz, zk6, zN, XM (show k < lim by omega)]
    rw [show lsl (V.sl 1 (iL (Q7 os k)) false) = iL (Q7 os k) from rfl, show lsl (V.sl 1 (iL (QN os k)) false) = iL (QN os k) from rfl]
    by_cases hk : x.k = 1
    · rw [if_pos (by simp [hk]), zgd _ _ (by omega), za]
      simp only [Q7, QN, hox, hk, if_true]
    · rw [if_neg (by simp [hk]), zgd _ _ (by omega), za]
      simp only [Q7, QN, hox, hk, if_false]
   rw [key]
   exact IH
theorem zbh (n : Nat) (h : zd) (os : List O) (lb : Bool) (hl : 4 * os.length + 100 < lim) (hn : 2 * os.length + 50 <= n) :
    call (n + 2) 225 [.sl 2 (os.map O.w) lb] h = some (.ret [.row h.length 1 0 (JY os).length, .row (h.length + 1) 1 0 (Xn os).length], Xf h os) := by
 refine (zl9 (n + 1) (os.map O.w) lb h).trans ?_
 unfold zn9
 exact ziA n h os lb hl hn os.length 0 (n + 1) (by omega) (by omega)
end Go.Proofs.Tryz
namespace Go.Proofs.Tryz
open Go.L Go.Rp Go.Sk
set_option maxRecDepth 100000
abbrev St := List (Int × Nat) × List Bool
def stp (most : Int) (st : St) (o : O) : St × R :=
 if o.k = 1 then (if most <= (st.1.length : Int) then (st, ⟨3, 0⟩) else ((zbA st.1 o.v (hgt 1 st.2).1, (hgt 1 st.2).2), ⟨1, 0⟩))
 else if o.k = 2 then (match st.1 with | [] => (st, ⟨4, 0⟩) | p :: r => ((r, st.2), ⟨2, p.1⟩))
 else (st, ⟨5, 0⟩)
def Ye (os : List O) (most : Int) : List Int -> St -> List R -> St × List R
 | [], st, told => (st, told)
 | k :: r, st, told => Ye os most r (stp most st (oAt os k)).1 (told.set k.toNat (stp most st (oAt os k)).2)
theorem Yp (os : List O) (most : Int) : ∀ (l m : List Int) (st : St) (told : List R), Ye os most (l ++ m) st told = Ye os most m (Ye os most l st told).1 (Ye os most l st told).2
 | [], m, st, told => rfl
 | k :: l, m, st, told => Yp os most l m _ _
structure Frm (h h' : zd) (X : List Nat) : Prop where
 len : h.length <= h'.length
 old : ∀ i, i < h.length -> i ∉ X -> h'[i]? = h[i]?
theorem Frm.refl (h : zd) (X : List Nat) : Frm h h X := ⟨zl _, fun _ _ _ => rfl⟩
theorem Frm.trans {h h1 h2 : zd} {X Y : List Nat} (a : Frm h h1 X) (b : Frm h1 h2 Y) (hY : ∀ y ∈ Y, y ∈ X \/ h.length <= y) : Frm h h2 X :=
 ⟨Xo a.len b.len, fun i h1' h2' => (b.old i (by have := a.len; omega) fun hm => by rcases hY i hm with h | h; exact h2' h; omega).trans (a.old i h1' h2')⟩
theorem Grew.frm {h h' : zd} {s : Nat} {ts ts' : List Tw} {most : Int} (g : Grew h h' s ts ts' most) : Frm h h' (skB s ts) := ⟨g.len, g.old⟩
theorem Frm.push (h : zd) (l : List HB) (X : List Nat) : Frm h (h ++ l) X := ⟨by simp, fun i hi _ => zk hi⟩
def RowR (h : zd) (b : Nat) (l : List R) : Prop := ∃ z, h[b]? = some (.row 35 2 (l.map R.w) z)
theorem RowR.keep {h h' : zd} {b : Nat} {l : List R} (r : RowR h b l) (hk : h'[b]? = h[b]?) : RowR h' b l := by obtain ⟨z, hz⟩ := r; exact ⟨z, hk.trans hz⟩
theorem RowR.code {h : zd} {b : Nat} {l : List R} (r : RowR h b l) {i : Nat} {x : R} (hx : l[i]? = some x) (c : Int) :
    ∃ B, Zn h [.int .u8 c] (.rptr b 2 i 0) = some (b, B) /\ RowR (h.set b B) b (l.set i ⟨c, x.v⟩) := by
 obtain ⟨z, hz⟩ := r
 refine ⟨_, JJ hz (by decide) (by simp) (by rw [K0, hx]; rfl), z, ?_⟩
 rw [Xu (zT hz), Jp]
 rfl
theorem RowR.all {h : zd} {b : Nat} {l : List R} (r : RowR h b l) {i : Nat} {x : R} (hx : l[i]? = some x) (c v : Int) :
    ∃ B, Zn h [.int .u8 c, .int .i32 v] (.rptr b 2 i 0) = some (b, B) /\ RowR (h.set b B) b (l.set i ⟨c, v⟩) := by
 obtain ⟨z, hz⟩ := r
 refine ⟨_, JJ hz (by decide) (by simp) (by rw [K0, hx]; rfl), z, ?_⟩
 rw [Xu (zT hz), Jp]
 rfl
theorem ziB {b n i : Nat} (h : i < n) : ZA 2 i (.row b 2 0 n) = some (.rptr b 2 i 0) := by simpa using XH (b := b) (sz := 2) (lo := 0) (hi := n) (show i < n - 0 by omega)
theorem zaa (v : Int) : QB prog 35 [(0, .int .u8 2), (1, .int .i32 v)] = some [.int .u8 2, .int .i32 v] := by kernel_rfl
theorem zpo (x : O) : (O.w x)[0]? = some (.int .u8 x.k) := rfl
theorem zk7 (x : O) : (O.w x)[1]? = some (.int .i32 x.v) := rfl
theorem zeQ (k n : Nat) (cs : List V) (o : Nat) : ZM k (.iptr n cs o) = some (.iptr n cs (o + k)) := rfl
theorem ziC (a b : Int) : bop prog .neq 5 (.int .u8 a) (.int .u8 b) = some (.bool (a != b)) := by kernel_rfl
theorem zmg (n : Nat) {s : Nat} {most : Int} (os : List O) (lb : Bool) (L : List Int) (hL : ∀ x ∈ L, 0 <= x /\ x < (os.length : Int) /\ (oAt os x).k ≠ 1) (hnd : L.Nodup) (tb pb : Nat) (hlim : L.length < lim) (hn : 8 < n) (bits : List Bool) : ∀ (d i M : Nat) (h : zd) (ts : List Tw) (told : List R) (v0 : V), i + d = L.length -> d < M →
    (∃ N, SkAt h s ts most N) -> ts.length < lim -> RowR h tb told -> RowI h pb .i64 3 L -> told.length = os.length -> tb ∉ skB s ts -> pb ∉ skB s ts -> pb ≠ tb -> (∀ x ∈ L.drop i, told[x.toNat]? = some ⟨0, 0⟩) →
    ∃ h' ts' told', zY M (W9 (n + 2) s (os.map O.w) lb (.row pb 1 0 L.length) (.row tb 2 0 os.length) (1, iL L)) [v0, .int .i64 (i : Int)] h = some (.ret [.row tb 2 0 os.length], h') ∧
     (∃ N, SkAt h' s ts' most N) /\ (∀ b ∈ skB s ts', b ∈ skB s ts) /\ Frm h h' (tb :: skB s ts) /\ h'.length = h.length /\ RowR h' tb told' /\ Ye os most (L.drop i) (itT ts, bits) told = ((itT ts', bits), told') := by
 intro d
 induction d with
 | zero =>
   intro i M h ts told v0 h1 h2 S hts rt rp hlt nt np hpt h0
   obtain ⟨M, rfl⟩ : ∃ M', M = M' + 1 := ⟨M - 1, by omega⟩
   obtain rfl : i = L.length := by omega
   refine ⟨h, ts, told, ?_, S, fun b hb => hb, .refl _ _, rfl, rt, by rw [List.drop_length]; rfl⟩
   rw [zH]
   unfold W9
   simp only [gv, zf, zh, Ql, zw, za, zm]
   rw [if_neg (by simp)]
 | succ d ih =>
   intro i M h ts told v0 h1 h2 S hts rt rp hlt nt np hpt h0
   obtain ⟨M, rfl⟩ : ∃ M', M = M' + 1 := ⟨M - 1, by omega⟩
   obtain ⟨x, hx⟩ : ∃ x, L[i]? = some x := ⟨_, zg (by omega)⟩
   have hdr : L.drop i = x :: L.drop (i + 1) := by
    rw [zX (by omega)]
    rw [zg (by omega)] at hx
    rw [Option.some.inj hx]
   obtain ⟨x0, x1, xk⟩ := hL x (zL hx)
   obtain ⟨k, rfl⟩ : ∃ k : Nat, x = (k : Int) := ⟨x.toNat, (Z6 x0).symm⟩
   have hk : k < os.length := by omega
   obtain ⟨o, ho⟩ : ∃ o, os[k]? = some o := ⟨_, zg hk⟩
   have hov : (os.map O.w)[k]? = some (O.w o) := by rw [KZ, ho]; rfl
   have hoo := Wv ho
   have ht0 : told[k]? = some ⟨0, 0⟩ := by
    have := h0 (k : Int) (by rw [hdr]; exact zA ..)
    simpa using this
   obtain ⟨B1, w1, r1⟩ := rt.code ht0 5
   have hl1 : decide ((i : Int) < (L.length : Int)) = true := by simp; omega
   obtain ⟨g1, g2⟩ := rp.get hx
   have htk : k < told.length := by omega
   have hkeep1 : ∀ b, b ≠ tb -> (h.set tb B1)[b]? = h[b]? := fun b hb => ze (Ne.symm hb)
   have hrest : ∀ (told2 : List R) (r : R), told2 = told.set k r -> ∀ y ∈ L.drop (i + 1), told2[y.toNat]? = some ⟨0, 0⟩ := fun told2 r e y hy => by
    rw [e, ze]
    · exact h0 y (by rw [hdr]; exact zp _ hy)
    · intro e2
      have hy0 := hL y (Zk hy)
      have hyk : y = (k : Int) := by omega
      have hnd2 : (L.drop i).Nodup := hnd.sublist (Qh _ _)
      rw [hdr] at hnd2
      exact (ZB.1 hnd2).1 (hyk ▸ hy)
   rw [hoo] at xk
   have hw1 : Zn h [.int .u8 5] (.rptr tb 2 k 0) = some (tb, B1) := w1
   have S1 : ∃ N, SkAt (h.set tb B1) s ts most N := by obtain ⟨N, S⟩ := S; exact ⟨N, S.keep fun b hb => hkeep1 b fun e => nt (e ▸ hb)⟩
   have fk : nv (V.int .i64 (k : Int)) = some k := Zh _ _
   have rp1 : RowI (h.set tb B1) pb .i64 3 L := rp.keep (hkeep1 pb hpt)
   have base : ∀ next, W9 (n + 2) s (os.map O.w) lb (.row pb 1 0 L.length) (.row tb 2 0 os.length) (1, iL L) [v0, .int .i64 (i : Int)] h next =
       (if (o.k != 2) = true then next [.sl 2 (lsl v0) false, .int .i64 ((i + 1 : Nat) : Int)] (h.set tb B1) else
        (bd2 (Zn (h.set tb B1) [.int .u8 4] (.rptr tb 2 k 0)) fun b31 x32 =>
        (cl (call (n + 2) 239 [.ptr s 0] (((h.set tb B1)).set b31 x32)) (fun r33 h34 =>
        (bd (r33)[0]? fun v36 =>
        (bd (r33)[1]? fun v37 =>
        (bv v37 fun b38 => if b38 then
        (bd (QB prog 35 [(0, (V.int .u8 2)), (1, v36)]) fun cs39 =>
        (if (cs39).length = 2 then
        (bd2 (Zn h34 cs39 (.rptr tb 2 k 0)) fun b42 x43 =>
        (next [(V.sl 2 (lsl v0) false), .int .i64 ((i + 1 : Nat) : Int)] ((h34).set b42 x43))) else none))
        else
        (next [(V.sl 2 (lsl v0) false), .int .i64 ((i + 1 : Nat) : Int)] h34))))) (fun z35 h34 => some (Res.pan z35, h34))))) := by
    intro next
    unfold W9
    simp only [gv, zf, zh, Ql, zw, za, zm, hl1, if_true, Zh, zx, g1, g2, zn, zu, zl, Nat.reduceLT, and_self, zb, ziB hk, zlT, zZ, hw1, Zj, XU hov, zeQ, Z1, Nat.reduceAdd, Nat.reduceLeDiff, zpo, ziC, zN, XM (show i < lim by omega)]
   obtain ⟨N, hS⟩ := S
   rw [zH, base]
   have hst5 : stp most (itT ts, bits) o = if o.k = 2 then (match itT ts with | [] => ((itT ts, bits), ⟨4, 0⟩) | p :: r => ((r, bits), ⟨2, p.1⟩)) else ((itT ts, bits), ⟨5, 0⟩) := by
    unfold stp; rw [if_neg xk]
   have hrun : Ye os most (L.drop i) (itT ts, bits) told = Ye os most (L.drop (i + 1)) (stp most (itT ts, bits) o).1 (told.set k (stp most (itT ts, bits) o).2) := by
    rw [hdr]; show Ye os most _ (stp most (itT ts, bits) (oAt os (k : Int))).1 (told.set (k : Int).toNat (stp most (itT ts, bits) (oAt os (k : Int))).2) = _
    rw [hoo, QJ]
   by_cases hk2 : o.k = 2
   · rw [if_neg (by simp [hk2])]
     have ht5 : (told.set k ⟨5, 0⟩)[k]? = some ⟨5, 0⟩ := Zp htk
     obtain ⟨B2, w2, r2⟩ := r1.code ht5 4
     have e2 : (told.set k ⟨5, 0⟩).set k ⟨4, 0⟩ = told.set k ⟨4, 0⟩ := List.set_set ..
     replace r2 : RowR ((h.set tb B1).set tb B2) tb (told.set k ⟨4, 0⟩) := by rw [<- e2]; exact r2
     rw [w2, Zj]
     have hkeep2 : ∀ b, b ≠ tb -> ((h.set tb B1).set tb B2)[b]? = h[b]? := fun b hb => by rw [ze (Ne.symm hb)]; exact hkeep1 b hb
     have S2 : SkAt ((h.set tb B1).set tb B2) s ts most N := hS.keep fun b hb => hkeep2 b fun e => nt (e ▸ hb)
     cases ts with
     | nil =>
       rw [zn0 n S2, zM]
       simp only [zb, zi, za, zm]
       rw [if_neg (by decide)]
       obtain ⟨h', ts', told', e, b1, b2, b3, b4, b5, b6⟩ := ih (i + 1) M ((h.set tb B1).set tb B2) [] (told.set k ⟨4, 0⟩) (.sl 2 (lsl v0) false) (by omega) (by omega) ⟨N, S2⟩ hts r2 (rp.keep (hkeep2 pb hpt)) (by rw [zq]; exact hlt) nt np hpt (hrest _ ⟨4, 0⟩ rfl)
       refine ⟨h', ts', told', e, b1, b2, ?_, by rw [b4, zq, zq], b5, ?_⟩
       · exact Frm.trans ⟨by simp, fun j _ hj => hkeep2 j fun e => hj (e ▸ zA ..)⟩ b3 fun y hy => .inl hy
       · rw [hrun, hst5, if_pos hk2]
         exact b6
     | cons t ts =>
       obtain ⟨h3, e3, T⟩ := znZ n S2 hn (by simp at hts; omega)
       rw [e3, zM]
       simp only [zb, zi, za, zm]
       rw [if_pos (by first | trivial | rfl), zaa, za, if_pos (by first | trivial | rfl)]
       have hts3 : tb ≠ s := fun e => nt (e ▸ zA ..)
       have hps3 : pb ≠ s := fun e => np (e ▸ zA ..)
       have r3 : RowR h3 tb (told.set k ⟨4, 0⟩) := r2.keep (T.old tb hts3)
       obtain ⟨B3, w3, r4⟩ := r3.all (show (told.set k ⟨4, 0⟩)[k]? = some ⟨4, 0⟩ from Zp htk) 2 t.v
       have e4 : (told.set k ⟨4, 0⟩).set k ⟨2, t.v⟩ = told.set k ⟨2, t.v⟩ := List.set_set ..
       replace r4 : RowR (h3.set tb B3) tb (told.set k ⟨2, t.v⟩) := by rw [<- e4]; exact r4
       rw [w3, Zj]
       have hkeep4 : ∀ b, b ≠ tb -> (h3.set tb B3)[b]? = h3[b]? := fun b hb => ze (Ne.symm hb)
       have nt' : tb ∉ skB s ts := fun hm => nt (by
        rcases zK.1 hm with e | hm
        · exact e ▸ zA ..
        · exact zp _ (zp _ hm))
       have hsub : ∀ b ∈ skB s ts, b ∈ skB s (t :: ts) := fun b hb => by
        rcases zK.1 hb with e | hm
        · exact e ▸ zA ..
        · exact zp _ (zp _ hm)
       have S4 : ∃ N, SkAt (h3.set tb B3) s ts most N := by obtain ⟨N', S'⟩ := T.sk; exact ⟨N', S'.keep fun b hb => hkeep4 b fun e => nt' (e ▸ hb)⟩
       obtain ⟨h', ts', told', e, b1, b2, b3, b4, b5, b6⟩ := ih (i + 1) M (h3.set tb B3) ts (told.set k ⟨2, t.v⟩) (.sl 2 (lsl v0) false) (by omega) (by omega) S4 (by simp at hts; omega) r4 (rp.keep (by rw [hkeep4 pb hpt, T.old pb hps3, hkeep2 pb hpt])) (by rw [zq]; exact hlt) nt' (fun hm => np (hsub pb hm)) hpt (hrest _ ⟨2, t.v⟩ rfl)
       refine ⟨h', ts', told', e, b1, fun b hb => hsub b (b2 b hb), ?_, by rw [b4, zq, T.len, zq, zq], b5, ?_⟩
       · refine Frm.trans (h1 := h3.set tb B3) ⟨by rw [zq, T.len, zq, zq]; exact zl _, fun j _ hj => ?_⟩ b3 fun y hy => .inl ?_
         · have hj1 : j ≠ tb := fun e => hj (e ▸ zA ..)
           have hj2 : j ≠ s := fun e => hj (e ▸ zp _ (zA ..))
           rw [hkeep4 j hj1, T.old j hj2, hkeep2 j hj1]
         · rcases zK.1 hy with e | hy
           · exact e ▸ zA ..
           · exact zp _ (hsub y hy)
       · rw [hrun, hst5, if_pos hk2]
         exact b6
   · rw [if_pos (by simp [hk2])]
     obtain ⟨h', ts', told', e, b1, b2, b3, b4, b5, b6⟩ := ih (i + 1) M (h.set tb B1) ts (told.set k ⟨5, 0⟩) (.sl 2 (lsl v0) false) (by omega) (by omega) S1 hts r1 rp1 (by rw [zq]; exact hlt) nt np hpt (hrest _ ⟨5, 0⟩ rfl)
     refine ⟨h', ts', told', e, b1, b2, ?_, by rw [b4, zq], b5, ?_⟩
     · exact Frm.trans ⟨by simp, fun j _ hj => hkeep1 j fun e => hj (e ▸ zA ..)⟩ b3 fun y hy => .inl hy
     · rw [hrun, hst5, if_neg hk2]
       exact b6
theorem zmh (n : Nat) {h : zd} {s : Nat} {ts : List Tw} {most : Int} (os : List O) (lb : Bool) (told : List R) (tb pb : Nat) (bits : List Bool) (S : ∃ N, SkAt h s ts most N) (hts : ts.length < lim) (rt : RowR h tb told) (rp : RowI h pb .i64 3 (Xn os)) (hlt : told.length = os.length) (nt : tb ∉ skB s ts) (np : pb ∉ skB s ts) (hpt : pb ≠ tb) (h0 : ∀ x ∈ Xn os, told[x.toNat]? = some ⟨0, 0⟩) (hlim : os.length < lim) (hn : os.length + 8 < n) :
    ∃ h' ts' told', call (n + 3) 229 [.ptr s 0, .sl 2 (os.map O.w) lb, .row pb 1 0 (Xn os).length, .row tb 2 0 os.length] h = some (.ret [.row tb 2 0 os.length], h') ∧
     (∃ N, SkAt h' s ts' most N) /\ (∀ b ∈ skB s ts', b ∈ skB s ts) /\ Frm h h' (tb :: skB s ts) /\ h'.length = h.length /\ RowR h' tb told' /\ Ye os most (Xn os) (itT ts, bits) told = ((itT ts', bits), told') := by
 have hl := YN os os.length
 have hol : (Xn os).length <= os.length := by unfold Xn; omega
 have hnd : (Xn os).Nodup := by
  have : ∀ n : Nat, (QN os n).Pairwise (· < ·) := fun n => by
   induction n with
   | zero => exact .nil
   | succ n ih =>
     simp only [QN]
     split
     · exact ih
     · refine ZG.2 ⟨ih, List.pairwise_singleton .., fun a ha b hb => ?_⟩
       rw [ZV] at hb; subst hb
       exact (JC os n a ha).2.1
  exact (this os.length).imp fun h => by omega
 obtain ⟨h', ts', told', e, r⟩ := zmg n os lb (Xn os) (JC os os.length) hnd tb pb (by omega) (by omega) bits (Xn os).length 0 (n + 2) h ts told (.sl 2 [] false) (by omega) (by omega) S hts rt rp hlt nt np hpt (by rw [zO]; exact h0)
 refine ⟨h', ts', told', ?_, by rw [zO] at r; exact r⟩
 refine (zjS (n + 2) s (os.map O.w) lb _ _ h).trans ?_
 unfold zk2
 rw [rp.slc, za]
 exact e
end Go.Proofs.Tryz
namespace Go.Proofs.Tryz
open Go.L Go.Rp Go.Sk
set_option maxRecDepth 100000
structure Env (h : zd) (s : Nat) (ts : List Tw) (most : Int) (c : Nat) (cb : Option Nat) (bits : List Bool) (p1 : Nat) (P : List Int) (p2 : Nat) (Q : List Int) : Prop where
 sk : ∃ N, SkAt h s ts most N
 bt : BitsAt h c cb bits
 r1 : RowI h p1 .i64 3 P
 r2 : RowI h p2 .i64 3 Q
 nc : c ∉ skB s ts
 ncb : ∀ b, cb = some b -> b ∉ skB s ts
 n1 : p1 ∉ skB s ts /\ p1 ≠ c
 n2 : p2 ∉ skB s ts /\ p2 ≠ c
theorem BitsAt.lt {h : zd} {c : Nat} {cb : Option Nat} {bits : List Bool} (hb : BitsAt h c cb bits) : c < h.length /\ ∀ b, cb = some b -> b < h.length := by
 cases cb with
 | none => exact ⟨zT hb.2, fun b e => by cases e⟩
 | some b =>
   obtain ⟨_, lo, l, z, h2, h3, _⟩ := hb
   exact ⟨zT h2, fun b' e => by cases e; exact zT h3⟩
theorem Env.coin {h h' : zd} {s : Nat} {ts : List Tw} {most : Int} {c : Nat} {cb : Option Nat} {bits bits' : List Bool} {p1 p2 : Nat} {P Q : List Int} (E : Env h s ts most c cb bits p1 P p2 Q) (hb : BitsAt h' c cb bits') (hk : ∀ i, i ≠ c -> h'[i]? = h[i]?) : Env h' s ts most c cb bits' p1 P p2 Q :=
 ⟨by obtain ⟨N, S⟩ := E.sk; exact ⟨N, S.keep fun b hb => hk b fun e => E.nc (e ▸ hb)⟩, hb, E.r1.keep (hk _ E.n1.2), E.r2.keep (hk _ E.n2.2), E.nc, E.ncb, E.n1, E.n2⟩
theorem RowI.lt {h : zd} {b : Nat} {k : IntKind} {e : Nat} {l : List Int} (r : RowI h b k e l) : b < h.length := by obtain ⟨z, hz⟩ := r; exact zT hz
theorem Env.grew {h h' : zd} {s : Nat} {ts ts' : List Tw} {most : Int} {c : Nat} {cb : Option Nat} {bits : List Bool} {p1 p2 : Nat} {P Q : List Int} (E : Env h s ts most c cb bits p1 P p2 Q) (G : Grew h h' s ts ts' most) : Env h' s ts' most c cb bits p1 P p2 Q := by
 have l := E.bt.lt
 have hn : ∀ b, b < h.length -> b ∉ skB s ts -> b ∉ skB s ts' := fun b h1 h2 hm => by rcases G.new b hm with h | h; exact h2 h; omega
 exact ⟨G.sk, E.bt.keep (G.old c l.1 E.nc) fun b hb => G.old b (l.2 b hb) (E.ncb b hb), E.r1.keep (G.old _ E.r1.lt E.n1.1), E.r2.keep (G.old _ E.r2.lt E.n2.1), hn c l.1 E.nc, fun b hb => hn b (l.2 b hb) (E.ncb b hb), ⟨hn _ E.r1.lt E.n1.1, E.n1.2⟩, ⟨hn _ E.r2.lt E.n2.1, E.n2.2⟩⟩
theorem Env.push {h : zd} {s : Nat} {ts : List Tw} {most : Int} {c : Nat} {cb : Option Nat} {bits : List Bool} {p1 p2 : Nat} {P Q : List Int} (E : Env h s ts most c cb bits p1 P p2 Q) (l : List HB) : Env (h ++ l) s ts most c cb bits p1 P p2 Q := by
 have hk : ∀ b, b < h.length -> (h ++ l)[b]? = h[b]? := fun b hb => zk hb
 have lt := E.bt.lt
 obtain ⟨N, S⟩ := E.sk
 exact ⟨⟨N, S.keep fun b hb => hk b (S.lt b hb)⟩, E.bt.keep (hk c lt.1) fun b hb => hk b (lt.2 b hb), E.r1.keep (hk _ E.r1.lt), E.r2.keep (hk _ E.r2.lt), E.nc, E.ncb, E.n1, E.n2⟩
structure Did (h h' : zd) (s : Nat) (ts ts' : List Tw) (most : Int) (c : Nat) (cb : Option Nat) (bits' : List Bool) (tb : Nat) (told : List R) : Prop where
 sk : ∃ N, SkAt h' s ts' most N
 bt : BitsAt h' c cb bits'
 tl : RowR h' tb told
 tb : h.length <= tb
 frm : Frm h h' (c :: skB s ts)
 new : ∀ b ∈ skB s ts', b ∈ skB s ts \/ h.length <= b
 room : (ts'.length : Int) <= most
theorem zk8 (bits : List Bool) : hOf ((hgt 1 bits).1 : Int) = (hgt 1 bits).1 := by
 have := zkK bits 1 (zl _) (by omega)
 unfold hOf
 omega
theorem zab (l : List (Int × Nat)) (v : Int) (T : Nat) : (zbA l v T).length = l.length + 1 := by
 unfold zbA
 rw [zF, zE]
 have := congrArg List.length (List.takeWhile_append_dropWhile (p := fun p : Int × Nat => decide (p.1 <= v)) (l := l))
 rw [zF] at this
 omega
theorem Q8 (ts : List Tw) : (itT ts).length = ts.length := by simp [itT]
theorem zoi {most : Int} {st : St} {o : O} (h : (st.1.length : Int) <= most) : ((stp most st o).1.1.length : Int) <= most := by
 unfold stp
 split
 · split
   · exact h
   · simp only [zab]; omega
 · split
   · split
     · exact h
     · rename_i p r e; rw [e] at h; simp at h; simp only; omega
   · exact h
theorem zaK {os : List O} {most : Int} : ∀ (l : List Int) {st : St} {told : List R}, (st.1.length : Int) <= most -> ((Ye os most l st told).1.1.length : Int) <= most
 | [], st, told, h => h
 | k :: l, st, told, h => zaK l (zoi h)
theorem zaL (l : List R) : lsl (V.sl 2 (l.map R.w) false) = l.map R.w := rfl
theorem zge (x : R) (c : Int) : setR (R.w x) 0 [.int .u8 c] = R.w ⟨c, x.v⟩ := rfl
theorem zjX (n : Nat) {s c : Nat} {cb : Option Nat} {most : Int} (os : List O) (lb : Bool) (P : List Int) (hP : ∀ x ∈ P, 0 <= x /\ x < (os.length : Int) /\ (oAt os x).k = 1) (hnd : P.Nodup) (p1 p2 : Nat) (Q0 : List Int) (v6 : V) (hlim : P.length < lim) : ∀ (d i M : Nat) (h : zd) (ts : List Tw) (bits : List Bool) (told : List R) (v0 v2 : V), i + d = P.length -> d < M →
    Env h s ts most c cb bits p1 P p2 Q0 -> ts.length + d < lim -> ts.length + d + 10 < n -> told.length = os.length -> (∀ x ∈ P.drop i, told[x.toNat]? = some ⟨0, 0⟩) →
    ∃ h' ts' bits' told' v0' v2' M', zY M (QG (n + 3) s c (os.map O.w) lb (.row p1 1 0 P.length) v6 (1, iL P)) [v0, .sl 2 (told.map R.w) false, v2, .int .i64 (i : Int)] h = QG (n + 3) s c (os.map O.w) lb (.row p1 1 0 P.length) v6 (1, iL P) [v0', .sl 2 (told'.map R.w) false, v2', .int .i64 (P.length : Int)] h' (zY M' (QG (n + 3) s c (os.map O.w) lb (.row p1 1 0 P.length) v6 (1, iL P))) ∧
     Env h' s ts' most c cb bits' p1 P p2 Q0 /\ Frm h h' (c :: skB s ts) /\ (∀ b ∈ skB s ts', b ∈ skB s ts \/ h.length <= b) /\ told'.length = os.length /\ ts'.length <= ts.length + d /\ Ye os most (P.drop i) (itT ts, bits) told = ((itT ts', bits'), told') /\ (∀ y : Nat, (∀ x ∈ P.drop i, x ≠ (y : Int)) -> told'[y]? = told[y]?) := by
 intro d
 induction d with
 | zero =>
   intro i M h ts bits told v0 v2 h1 h2 E hts hn hlt h0
   obtain ⟨M, rfl⟩ : ∃ M', M = M' + 1 := ⟨M - 1, by omega⟩
   obtain rfl : i = P.length := by omega
   exact ⟨h, ts, bits, told, v0, v2, M, zH .., E, .refl _ _, fun b hb => .inl hb, hlt, zl _, by rw [List.drop_length]; rfl, fun _ _ => rfl⟩
 | succ d ih =>
   intro i M h ts bits told v0 v2 h1 h2 E hts hn hlt h0
   obtain ⟨M, rfl⟩ : ∃ M', M = M' + 1 := ⟨M - 1, by omega⟩
   obtain ⟨x, hx⟩ : ∃ x, P[i]? = some x := ⟨_, zg (by omega)⟩
   have hdr : P.drop i = x :: P.drop (i + 1) := by
    rw [zX (by omega)]
    rw [zg (by omega)] at hx
    rw [Option.some.inj hx]
   obtain ⟨x0, x1, xk⟩ := hP x (zL hx)
   obtain ⟨k, rfl⟩ : ∃ k : Nat, x = (k : Int) := ⟨x.toNat, (Z6 x0).symm⟩
   have hk : k < os.length := by omega
   obtain ⟨o, ho⟩ : ∃ o, os[k]? = some o := ⟨_, zg hk⟩
   have hov : (os.map O.w)[k]? = some (O.w o) := by rw [KZ, ho]; rfl
   have hoo := Wv ho
   rw [hoo] at xk
   have ht0 : told[k]? = some ⟨0, 0⟩ := by
    have := h0 (k : Int) (by rw [hdr]; exact zA ..)
    simpa using this
   have htk : k < told.length := by omega
   have htv : (told.map R.w)[k]? = some (R.w ⟨0, 0⟩) := by rw [K0, ht0]; rfl
   have hl1 : decide ((i : Int) < (P.length : Int)) = true := by simp; omega
   obtain ⟨g1, g2⟩ := E.r1.get hx
   have hnd2 : (P.drop i).Nodup := hnd.sublist (Qh _ _)
   rw [hdr] at hnd2
   have hrest : ∀ (told2 : List R) (r : R), told2 = told.set k r -> ∀ y ∈ P.drop (i + 1), told2[y.toNat]? = some ⟨0, 0⟩ := fun told2 r e y hy => by
    rw [e, ze]
    · exact h0 y (by rw [hdr]; exact zp _ hy)
    · intro e2
      have hy0 := hP y (Zk hy)
      have hyk : y = (k : Int) := by omega
      exact (ZB.1 hnd2).1 (hyk ▸ hy)
   have hrun : Ye os most (P.drop i) (itT ts, bits) told = Ye os most (P.drop (i + 1)) (stp most (itT ts, bits) o).1 (told.set k (stp most (itT ts, bits) o).2) := by
    rw [hdr]; show Ye os most _ (stp most (itT ts, bits) (oAt os (k : Int))).1 (told.set (k : Int).toNat (stp most (itT ts, bits) (oAt os (k : Int))).2) = _
    rw [hoo, QJ]
   have hoth : ∀ (r : R) (told' : List R), (∀ y : Nat, (∀ x ∈ P.drop (i + 1), x ≠ (y : Int)) -> told'[y]? = (told.set k r)[y]?) -> ∀ y : Nat, (∀ x ∈ P.drop i, x ≠ (y : Int)) -> told'[y]? = told[y]? := fun r told' hh y hy => by
    rw [hdr] at hy
    rw [hh y fun x hx => hy x (zp _ hx), ze]
    intro e
    exact hy (k : Int) (zA ..) (by omega)
   obtain ⟨N, hS⟩ := E.sk
   have hlenC := K8 (n + 2) hS
   have hmostC := zaE (n + 2) hS
   have hset3 : (told.map R.w).set k (setR (R.w ⟨0, 0⟩) 0 [.int .u8 3]) = (told.set k ⟨3, 0⟩).map R.w := by rw [zge, Jp]
   have c1 : (2 = 2 /\ k < (told.map R.w).length /\ (some 28 : Option Nat) ≠ some 7) := ⟨rfl, by rw [zI]; exact htk, by decide⟩
   by_cases hfull : (ts.length : Int) < most
   ·
    obtain ⟨h2', e2, B2, l2, f2⟩ := za9 n E.bt (by omega)
    have E2 := E.coin B2 f2
    obtain ⟨N2, hS2⟩ := E2.sk
    obtain ⟨h3, ts3, e3, P3⟩ := zig n hS2 o.v ((hgt 1 bits).1 : Int) (by omega) (by omega) hfull
    have E3 := E2.grew P3.grew
    have hset1 : ((told.set k ⟨3, 0⟩).map R.w).set k (setR (R.w ⟨3, 0⟩) 0 [.int .u8 1]) = (told.set k ⟨1, 0⟩).map R.w := by rw [zge, <- Jp, List.set_set]
    have htv3 : ((told.set k ⟨3, 0⟩).map R.w)[k]? = some (R.w ⟨3, 0⟩) := by rw [K0, Zp htk]; rfl
    have key : ∀ next, QG (n + 3) s c (os.map O.w) lb (.row p1 1 0 P.length) v6 (1, iL P) [v0, .sl 2 (told.map R.w) false, v2, .int .i64 (i : Int)] h next = next [.sl 2 (lsl v0) false, .sl 2 ((told.set k ⟨1, 0⟩).map R.w) false, .bool false, .int .i64 ((i + 1 : Nat) : Int)] h3 := by
     intro next
     unfold QG
     simp only [gv, zf, zh, Ql, zw, za, zm, hl1, if_true, Zh, zx, g1, g2, zn, zu, zl, Nat.reduceLT, and_self, zb, zaL]
     rw [if_pos (by exact ⟨trivial, c1.2.1, by decide⟩), htv, za, hlenC, zM, zy, hmostC, zM, zy, zw, za, zm, if_pos (by exact decide_eq_true hfull)]
     rw [XU hov, za]
     simp only [esP, zk7, za]
     rw [e2, zbJ, zy, e3, zbJ, zy, hset3]
     rw [if_pos (by exact ⟨trivial, by rw [zI, zq]; exact htk, by decide⟩), htv3, za, zN, za, hset1, XM (show i < lim by omega)]
    have hlen3 : ts3.length = ts.length + 1 := by
     have := congrArg List.length P3.items
     rwa [Q8, zab, Q8] at this
    obtain ⟨h', ts', bits', told', v0', v2', M', e, b1, b2, b3, b4, b5, b6, b7⟩ := ih (i + 1) M h3 ts3 (hgt 1 bits).2 (told.set k ⟨1, 0⟩) (.sl 2 (lsl v0) false) (.bool false) (by omega) (by omega) E3 (by omega) (by omega) (by rw [zq]; exact hlt) (hrest _ ⟨1, 0⟩ rfl)
    refine ⟨h', ts', bits', told', v0', v2', M', by rw [zH, key]; exact e, b1, ?_, fun b hb => ?_, b4, by omega, ?_, hoth ⟨1, 0⟩ told' b7⟩
    · have f3 : Frm h h3 (c :: skB s ts) := Frm.trans (h1 := h2') ⟨Nat.le_of_eq l2.symm, fun j _ hj => f2 j fun e => hj (e ▸ zA ..)⟩ P3.grew.frm fun y hy => .inl (zp _ hy)
      refine f3.trans b2 fun y hy => ?_
      rcases zK.1 hy with e | hy
      · exact .inl (e ▸ zA ..)
      · rcases P3.grew.new y hy with h | h
        · exact .inl (zp _ h)
        · exact .inr (by omega)
    · have hl3 := P3.len
      rcases b3 b hb with h | h
      · rcases P3.grew.new b h with h | h
        · exact .inl h
        · exact .inr (by omega)
      · exact .inr (by omega)
    · rw [hrun]
      have hst : stp most (itT ts, bits) o = ((zbA (itT ts) o.v (hgt 1 bits).1, (hgt 1 bits).2), ⟨1, 0⟩) := by
       unfold stp
       rw [if_pos xk, if_neg (by simp only [Q8]; omega)]
      rw [hst, <- zk8 bits, <- P3.items]
      exact b6
   · have key : ∀ next, QG (n + 3) s c (os.map O.w) lb (.row p1 1 0 P.length) v6 (1, iL P) [v0, .sl 2 (told.map R.w) false, v2, .int .i64 (i : Int)] h next = next [.sl 2 (lsl v0) false, .sl 2 ((told.set k ⟨3, 0⟩).map R.w) false, .bool false, .int .i64 ((i + 1 : Nat) : Int)] h := by
       intro next
       unfold QG
       simp only [gv, zf, zh, Ql, zw, za, zm, hl1, if_true, Zh, zx, g1, g2, zn, zu, zl, Nat.reduceLT, and_self, zb, zaL]
       rw [if_pos (by exact ⟨trivial, c1.2.1, by decide⟩), htv, za, hlenC, zM, zy, hmostC, zM, zy, zw, za, zm, if_neg (by intro e; exact hfull (of_decide_eq_true e)), zN, za, hset3, XM (show i < lim by omega)]
     obtain ⟨h', ts', bits', told', v0', v2', M', e, b1, b2, b3, b4, b5, b6, b7⟩ := ih (i + 1) M h ts bits (told.set k ⟨3, 0⟩) (.sl 2 (lsl v0) false) (.bool false) (by omega) (by omega) E (by omega) (by omega) (by rw [zq]; exact hlt) (hrest _ ⟨3, 0⟩ rfl)
     refine ⟨h', ts', bits', told', v0', v2', M', by rw [zH, key]; exact e, b1, b2, b3, b4, by omega, ?_, hoth ⟨3, 0⟩ told' b7⟩
     rw [hrun]
     have hst : stp most (itT ts, bits) o = ((itT ts, bits), ⟨3, 0⟩) := by
      unfold stp
      rw [if_pos xk, if_pos (by simp only [Q8]; omega)]
     rw [hst]
     exact b6
theorem zoj (n : Nat) : List.replicate n [V.int .u8 0, V.int .i32 0] = (List.replicate n (⟨0, 0⟩ : R)).map R.w := by rw [List.map_replicate]; rfl
def YP (os : List O) (most : Int) (st : St) : St × List R := Ye os most (Xa os ++ Xn os) st (List.replicate os.length ⟨0, 0⟩)
theorem zbi (os : List O) : ∀ x ∈ Xn os, ∀ y ∈ Xa os, y ≠ x := fun x hx y hy e => by
 have h1 := JC os _ x hx
 have h2 := Je os _ y ((Wa os).mem_iff.1 hy)
 rw [e] at h2
 exact h1.2.2 h2.2.2
theorem jd (os : List O) : (Xa os).Nodup := (Wa os).nodup_iff.2 ((YM os os.length).imp fun h => by omega)
theorem Qz (os : List O) : ∀ x ∈ Xa os, 0 <= x /\ x < (os.length : Int) /\ (oAt os x).k = 1 := fun x hx => Je os _ x ((Wa os).mem_iff.1 hx)
theorem zdf {h : zd} {s : Nat} {ts : List Tw} {most : Int} {c : Nat} {cb : Option Nat} {bits : List Bool} (os : List O) (S : ∃ N, SkAt h s ts most N) (B : BitsAt h c cb bits) (nc : c ∉ skB s ts) (ncb : ∀ b, cb = some b -> b ∉ skB s ts) :
    Env (Xf h os) s ts most c cb bits h.length (Xa os) (h.length + 1) (Xn os) := by
 obtain ⟨N, S⟩ := S
 have l := B.lt
 have hk : ∀ b, b < h.length -> (Xf h os)[b]? = h[b]? := fun b hb => zk hb
 have h0 : (Xf h os)[h.length]? = some (.row 3 1 (iL (Xa os)) true) := by unfold Xf; rw [zD (zl _), X9]; rfl
 have h1 : (Xf h os)[h.length + 1]? = some (.row 3 1 (iL (Xn os)) true) := by unfold Xf; rw [zD (by omega), Xl]; rfl
 exact ⟨⟨N, S.keep fun b hb => hk b (S.lt b hb)⟩, B.keep (hk c l.1) fun b hb => hk b (l.2 b hb), ⟨_, h0⟩, ⟨_, h1⟩, nc, ncb, ⟨fun hm => by have := S.lt _ hm; omega, by omega⟩, ⟨fun hm => by have := S.lt _ hm; omega, by omega⟩⟩
theorem ziD (n : Nat) {h hh : zd} {s : Nat} {ts ts1 : List Tw} {most : Int} {c : Nat} {cb : Option Nat} {bits : List Bool} {p1 p2 : Nat} (os : List O) (lb : Bool) (told : List R) (E : Env hh s ts1 most c cb bits p1 (Xa os) p2 (Xn os)) (hp2 : h.length <= p2) (hlt : told.length = os.length) (h0 : ∀ x ∈ Xn os, told[x.toNat]? = some ⟨0, 0⟩) (hts : ts1.length < lim) (hlim : os.length < lim) (hn : os.length + 8 < n) (hF : Frm h hh (c :: skB s ts)) (hN : ∀ b ∈ skB s ts1, b ∈ skB s ts \/ h.length <= b) (hroom : (ts1.length : Int) <= most) :
    ∃ h' ts' told', call (n + 3) 229 [.ptr s 0, .sl 2 (os.map O.w) lb, .row p2 1 0 (Xn os).length, .row hh.length 2 0 os.length] (hh ++ [.row 35 2 (told.map R.w) true]) = some (.ret [.row hh.length 2 0 os.length], h') ∧
     Did h h' s ts ts' most c cb bits hh.length told' /\ Ye os most (Xn os) (itT ts1, bits) told = ((itT ts', bits), told') := by
 have E1 := E.push [.row 35 2 (told.map R.w) true]
 have rt : RowR (hh ++ [.row 35 2 (told.map R.w) true]) hh.length told := ⟨true, zr⟩
 obtain ⟨N, S⟩ := E.sk
 have nt : hh.length ∉ skB s ts1 := fun hm => by have := S.lt _ hm; omega
 have hpl := E.r2.lt
 obtain ⟨h', ts', told', e, a1, a2, a3, a4, a5, a6⟩ := zmh n os lb told hh.length p2 bits E1.sk hts rt E1.r2 hlt nt E.n2.1 (by omega) h0 hlim hn
 have hl := E.bt.lt
 refine ⟨h', ts', told', e, ⟨a1, ?_, a5, hF.len, ?_, fun b hb => ?_, ?_⟩, a6⟩
 · have hk : ∀ i, i < hh.length -> i ∉ skB s ts1 -> h'[i]? = hh[i]? := fun i h1 h2 => by
     rw [a3.old i (by rw [zF]; omega) (fun hm => by rcases zK.1 hm with e | hm; omega; exact h2 hm), zk h1]
   exact E.bt.keep (hk c hl.1 E.nc) fun b hb => hk b (hl.2 b hb) (E.ncb b hb)
 · refine (hF.trans (Frm.push hh _ []) (fun y hy => by cases hy)).trans a3 fun y hy => ?_
   rcases zK.1 hy with e | hy
   · exact .inr (by have := hF.len; omega)
   · rcases hN y hy with h | h
     · exact .inl (zp _ h)
     · exact .inr h
 · exact hN b (a2 b hb)
 · have h1 := congrArg (fun p => (p.1.1.length : Int)) a6
   simp only [Q8] at h1
   rw [<- h1]
   exact zaK _ (by simp only [Q8]; exact hroom)
theorem zjY (n : Nat) {h : zd} {s : Nat} {ts : List Tw} {most : Int} {c : Nat} {cb : Option Nat} {bits : List Bool} (os : List O) (lb : Bool) (S : ∃ N, SkAt h s ts most N) (B : BitsAt h c cb bits) (nc : c ∉ skB s ts) (ncb : ∀ b, cb = some b -> b ∉ skB s ts) (hroom : (ts.length : Int) <= most) (hl : ts.length + 4 * os.length + 100 < lim) (hn : ts.length + 2 * os.length + 50 <= n) :
    ∃ h' ts' bits' tb told', call (n + 4) 224 [.ptr s 0, .ptr c 0, .sl 2 (os.map O.w) lb] h = some (.ret [.row tb 2 0 os.length], h') /\ Did h h' s ts ts' most c cb bits' tb told' /\ YP os most (itT ts, bits) = ((itT ts', bits'), told') := by
 have hpl := YN os os.length
 have hsl := YO os
 have hpo : (JY os).length <= os.length := by unfold JY; omega
 have E0 := zdf os S B nc ncb
 have hlf : (Xf h os).length = h.length + 2 := by simp [Xf]
 obtain ⟨h1, ts1, bits1, told1, v0', v2', M', e, b1, b2, b3, b4, b5, b6, b7⟩ := zjX n os lb (Xa os) (Qz os) (jd os) h.length (h.length + 1) (Xn os) (.row (h.length + 1) 1 0 (Xn os).length) (by omega) (Xa os).length 0 (n + 3) (Xf h os) ts bits (List.replicate os.length ⟨0, 0⟩) (.sl 2 [] false) (.bool false) (by omega) (by omega) E0 (by omega) (by omega) (by simp) (fun x hx => by
  have := Qz os x (Zk hx)
  rw [ZS, if_pos (by omega)])
 rw [zO] at b6 b7
 have hF : Frm h h1 (c :: skB s ts) := Frm.trans (Frm.push h _ (c :: skB s ts)) b2 fun y hy => .inl hy
 have hN : ∀ b ∈ skB s ts1, b ∈ skB s ts \/ h.length <= b := fun b hb => (b3 b hb).imp id fun h => by omega
 have hr1 : (ts1.length : Int) <= most := by
  have h1 := congrArg (fun p => (p.1.1.length : Int)) b6
  simp only [Q8] at h1
  rw [<- h1]
  exact zaK _ (by simp only [Q8]; exact hroom)
 obtain ⟨h', ts', told', e2, D, r⟩ := ziD (ts := ts) n os lb told1 b1 (by omega) b4 (fun x hx => by
  have hm := JC os _ x hx
  rw [b7 x.toNat fun y hy => fun e => zbi os x hx y hy (by omega), ZS, if_pos (by omega)]) (by omega) (by omega) (by omega) hF hN hr1
 refine ⟨h', ts', bits1, h1.length, told', ?_, D, ?_⟩
 · refine (zio (n + 3) s c (os.map O.w) lb h).trans ?_
   unfold zin
   have fN : nv (V.int .i64 (os.length : Int)) = some os.length := Zh _ _
   have hpc : call (n + 3) 225 [.sl 2 (os.map O.w) lb] h = some (.ret [.row h.length 1 0 (JY os).length, .row (h.length + 1) 1 0 (Xn os).length], Xf h os) := zbh (n + 1) h os lb (by omega) (by omega)
   simp only [zI]
   rw [fN, zx, zx, if_pos (by first | exact ⟨zl _, by omega, rfl⟩ | exact ⟨trivial, by omega, trivial⟩ | exact ⟨zl _, by omega, trivial⟩), hpc, zM]
   simp only [zb, zi, za]
   rw [<- hsl, E0.r1.slc, za, zoj]
   refine e.trans ?_
   unfold QG
   simp only [gv, zf, zh, Ql, zw, za, zm]
   rw [if_neg (by simp), zaL, zI, b4, e2, zM, zy]
 · unfold YP
   rw [Yp, b6]
   exact r
end Go.Proofs.Tryz
namespace Go.Proofs.Tryz
open Go.L Go.Rp Go.Sk
set_option maxRecDepth 100000
def qn : Nat -> List Bool -> List Int × List Bool
 | 0, bits => ([], bits)
 | k + 1, bits => (((hgt 1 bits).1 : Int) :: (qn k (hgt 1 bits).2).1, (qn k (hgt 1 bits).2).2)
theorem ziE : ∀ (k : Nat) (bits : List Bool), (qn k bits).1.length = k
 | 0, _ => rfl
 | k + 1, bits => by simp [qn, ziE k]
def Q9 (r : R) : List Int -> List R -> List R
 | [], told => told
 | k :: l, told => Q9 r l (told.set k.toNat r)
theorem qp (r : R) : ∀ (l : List Int) (told : List R), (Q9 r l told).length = told.length
 | [], _ => rfl
 | k :: l, told => by show (Q9 r l _).length = _; rw [qp r l, zq]
theorem jx (r : R) : ∀ (l : List Int) (told : List R) (y : Nat), (∀ x ∈ l, x.toNat ≠ y) -> (Q9 r l told)[y]? = told[y]?
 | [], _, _, _ => rfl
 | k :: l, told, y, h => by
   show (Q9 r l _)[y]? = _
   rw [jx r l _ y fun x hx => h x (zp _ hx), ze (h k (zA ..))]
theorem zk9 (os : List O) (most : Int) : ∀ (P : List Int) (st : St) (told : List R), (∀ x ∈ P, (oAt os x).k = 1) -> (st.1.length : Int) + P.length <= most →
    Ye os most P st told = ((ql st.1 ((P.map (YL os)).zip (qn P.length st.2).1), (qn P.length st.2).2), Q9 ⟨1, 0⟩ P told)
 | [], st, told, _, _ => rfl
 | k :: P, st, told, hk, hm => by
   have hst : stp most st (oAt os k) = ((zbA st.1 (oAt os k).v (hgt 1 st.2).1, (hgt 1 st.2).2), ⟨1, 0⟩) := by
    unfold stp
    rw [if_pos (hk k (zA ..)), if_neg (by simp at hm; omega)]
   show Ye os most P (stp most st (oAt os k)).1 (told.set k.toNat (stp most st (oAt os k)).2) = _
   rw [hst, zk9 os most P _ _ (fun x hx => hk x (zp _ hx)) (by rw [zab]; simp at hm ⊢; omega)]
   simp only [zS, zE, qn, XN, ql, Q9, zk8]
   rfl
theorem ziF (os : List O) (most : Int) : ∀ (P : List Int) (st : St) (told : List R), (∀ x ∈ P, (oAt os x).k = 1) -> most <= (st.1.length : Int) -> Ye os most P st told = (st, Q9 ⟨3, 0⟩ P told)
 | [], st, told, _, _ => rfl
 | k :: P, st, told, hk, hm => by
   have hst : stp most st (oAt os k) = (st, ⟨3, 0⟩) := by
    unfold stp
    rw [if_pos (hk k (zA ..)), if_pos hm]
   show Ye os most P (stp most st (oAt os k)).1 (told.set k.toNat (stp most st (oAt os k)).2) = _
   rw [hst]
   exact ziF os most P st _ (fun x hx => hk x (zp _ hx)) hm
theorem RowI.getP {h : zd} {b : Nat} {k : IntKind} {e : Nat} {l : List Int} (r : RowI h b k e l) {lo hi i : Nat} {x : Int} (hi' : lo + i < hi) (hx : l[lo + i]? = some x) : ZA 1 i (.row b 1 lo hi) = some (.rptr b 1 (lo + i) 0) /\ zt h (.rptr b 1 (lo + i) 0) = some ([.int k x], 1, 0) := by
 obtain ⟨z, hz⟩ := r
 refine ⟨XH (by omega), Xw hz (by decide) ?_⟩
 rw [zJ, hx]
 rfl
theorem RowI.slcP {h : zd} {b : Nat} {k : IntKind} {e : Nat} {l : List Int} (r : RowI h b k e l) {lo hi : Nat} (h1 : lo <= hi) (h2 : hi <= l.length) : ZN h (.row b 1 lo hi) = some (1, ((l.take hi).drop lo).map (XL k)) := by
 obtain ⟨z, hz⟩ := r
 rw [QE hz h1 (by rw [zI]; exact h2), List.map_drop, List.map_take]
theorem zpp (l : List Int) (x : Int) (h : l.length + 1 < lim) : app 21 1 (S.own 21 1 (l.map (XL .i32))) [[.int .i32 x]] = some ((l ++ [x]).map (XL .i32)) := by
 simp only [app]
 rw [if_pos (by refine ⟨?_, ?_, by simpa using h⟩ <;> first | trivial | rfl)]
 simp [XL]
theorem zla (l : List Int) : lsl (V.sl 1 (l.map (XL .i32)) false) = l.map (XL .i32) := rfl
theorem zok (l : List Int) : lsl (V.sl 1 (iL l) false) = iL l := rfl
theorem zmi (n : Nat) {s c : Nat} {cb : Option Nat} {most : Int} {ts : List Tw} (os : List O) (lb : Bool) (P0 : List Int) (hP : ∀ x ∈ P0, 0 <= x /\ x < (os.length : Int)) (hnd : P0.Nodup) (p1 p2 : Nat) (Q0 : List Int) (v5 v6 v18 : V) (r : Nat) (hr : r <= P0.length) (hlim : P0.length < lim) (hn : 8 <= n) : ∀ (d i M : Nat) (h : zd) (bits : List Bool) (told : List R) (vs hs : List Int) (v0 v4 : V), i + d = r -> d < M →
    Env h s ts most c cb bits p1 P0 p2 Q0 -> told.length = os.length -> vs.length = i -> hs.length = i -> (∀ x ∈ P0.drop i, told[x.toNat]? = some ⟨0, 0⟩) →
    ∃ h' v0' v4' M', zY M (Q5 (n + 3) s c (os.map O.w) lb v5 v6 v18 (.row p1 1 0 r) (1, iL (P0.take r))) [v0, .sl 2 (told.map R.w) false, .sl 1 (vs.map (XL .i32)) false, .sl 1 (iL hs) false, v4, .int .i64 (i : Int)] h =
     Q5 (n + 3) s c (os.map O.w) lb v5 v6 v18 (.row p1 1 0 r) (1, iL (P0.take r)) [v0', .sl 2 ((Q9 ⟨1, 0⟩ ((P0.take r).drop i) told).map R.w) false, .sl 1 ((vs ++ ((P0.take r).drop i).map (YL os)).map (XL .i32)) false, .sl 1 (iL (hs ++ (qn d bits).1)) false, v4', .int .i64 (r : Int)] h' (zY M' (Q5 (n + 3) s c (os.map O.w) lb v5 v6 v18 (.row p1 1 0 r) (1, iL (P0.take r)))) ∧
     Env h' s ts most c cb (qn d bits).2 p1 P0 p2 Q0 /\ h'.length = h.length /\ ∀ i, i ≠ c -> h'[i]? = h[i]? := by
 intro d
 induction d with
 | zero =>
   intro i M h bits told vs hs v0 v4 h1 h2 E hlt hvl hhl h0
   obtain ⟨M, rfl⟩ : ∃ M', M = M' + 1 := ⟨M - 1, by omega⟩
   obtain rfl : i = r := by omega
   have hd : (P0.take i).drop i = [] := Zy (by rw [Zf]; omega)
   refine ⟨h, v0, v4, M, ?_, E, rfl, fun _ _ => rfl⟩
   rw [hd]
   simp only [Q9, Jo, Zm, qn]
   exact zH ..
 | succ d ih =>
   intro i M h bits told vs hs v0 v4 h1 h2 E hlt hvl hhl h0
   obtain ⟨M, rfl⟩ : ∃ M', M = M' + 1 := ⟨M - 1, by omega⟩
   have hiP : i < P0.length := by omega
   obtain ⟨x, hx⟩ : ∃ x, P0[i]? = some x := ⟨_, zg hiP⟩
   have hdr : P0.drop i = x :: P0.drop (i + 1) := by
    rw [zX hiP]
    rw [zg hiP] at hx
    rw [Option.some.inj hx]
   have hdt : (P0.take r).drop i = x :: (P0.take r).drop (i + 1) := by
    have hil : i < (P0.take r).length := by rw [Zf]; omega
    rw [zX hil]
    rw [zg hiP] at hx
    rw [<- Option.some.inj hx, List.getElem_take]
   obtain ⟨x0, x1⟩ := hP x (zL hx)
   obtain ⟨k, rfl⟩ : ∃ k : Nat, x = (k : Int) := ⟨x.toNat, (Z6 x0).symm⟩
   have hk : k < os.length := by omega
   obtain ⟨o, ho⟩ : ∃ o, os[k]? = some o := ⟨_, zg hk⟩
   have hov : (os.map O.w)[k]? = some (O.w o) := by rw [KZ, ho]; rfl
   have hoo := Wv ho
   have hkv : YL os (k : Int) = o.v := by unfold YL; rw [hoo]
   have ht0 : told[k]? = some ⟨0, 0⟩ := by
    have := h0 (k : Int) (by rw [hdr]; exact zA ..)
    simpa using this
   have htk : k < told.length := by omega
   have htv : (told.map R.w)[k]? = some (R.w ⟨0, 0⟩) := by rw [K0, ht0]; rfl
   have hl1 : decide ((i : Int) < ((P0.take r).length : Int)) = true := by rw [Zf]; simp; omega
   obtain ⟨g1, g2⟩ := E.r1.getP (lo := 0) (hi := r) (i := i) (by omega) (by rw [zu]; exact hx)
   rw [zu] at g1 g2
   have hnd2 : (P0.drop i).Nodup := hnd.sublist (Qh _ _)
   rw [hdr] at hnd2
   obtain ⟨h2', e2, B2, l2, f2⟩ := za9 n E.bt hn
   have E2 := E.coin B2 f2
   have hset1 : (told.map R.w).set k (setR (R.w ⟨0, 0⟩) 0 [.int .u8 1]) = (told.set k ⟨1, 0⟩).map R.w := by rw [zge, Jp]
   have key : ∀ next, Q5 (n + 3) s c (os.map O.w) lb v5 v6 v18 (.row p1 1 0 r) (1, iL (P0.take r)) [v0, .sl 2 (told.map R.w) false, .sl 1 (vs.map (XL .i32)) false, .sl 1 (iL hs) false, v4, .int .i64 (i : Int)] h next = next [.sl 2 (lsl v0) false, .sl 2 ((told.set k ⟨1, 0⟩).map R.w) false, .sl 1 ((vs ++ [o.v]).map (XL .i32)) false, .sl 1 (iL (hs ++ [((hgt 1 bits).1 : Int)])) false, .bool false, .int .i64 ((i + 1 : Nat) : Int)] h2' := by
    intro next
    unfold Q5
    simp only [gv, zf, zh, Ql, zw, za, zm, hl1, if_true, Zh, zx, g1, g2, zn, zu, zl, Nat.reduceLT, and_self, zb, XU hov, zeQ, Z1, Nat.reduceAdd, Nat.reduceLeDiff, zk7, zbN, zla, zok, zaL]
    rw [zpp _ _ (by omega), za, e2, zM, zy, zk6, za, zgd _ _ (by omega), za]
    rw [if_pos (by exact ⟨trivial, by rw [zI]; exact htk, by decide⟩), htv, za, zN, za, hset1, XM (show i < lim by omega)]
   obtain ⟨h', v0', v4', M', e, b1, b2, b3⟩ := ih (i + 1) M h2' (hgt 1 bits).2 (told.set k ⟨1, 0⟩) (vs ++ [o.v]) (hs ++ [((hgt 1 bits).1 : Int)]) (.sl 2 (lsl v0) false) (.bool false) (by omega) (by omega) E2 (by rw [zq]; exact hlt) (by simp; omega) (by simp; omega) (fun y hy => by
    rw [ze]
    · exact h0 y (by rw [hdr]; exact zp _ hy)
    · intro e2
      have hy0 := hP y (Zk hy)
      have hyk : y = (k : Int) := by omega
      exact (ZB.1 hnd2).1 (hyk ▸ hy))
   refine ⟨h', v0', v4', M', ?_, b1, by rw [b2, l2], fun j hj => by rw [b3 j hj, f2 j hj]⟩
   rw [zH, key, e, hdt]
   simp only [Q9, QJ, zS, hkv, qn, List.append_assoc, Z2, zV]
theorem zmj (n : Nat) {s c : Nat} {cb : Option Nat} {most : Int} {ts : List Tw} {bits : List Bool} {h : zd} (os : List O) (lb : Bool) (P0 : List Int) (hP : ∀ x ∈ P0, 0 <= x /\ x < (os.length : Int)) (hnd : P0.Nodup) (p1 p2 : Nat) (Q0 : List Int) (v6 : V) (r : Nat) (hr : r <= P0.length) (hlim : P0.length < lim) (E : Env h s ts most c cb bits p1 P0 p2 Q0) : ∀ (d i M : Nat) (told : List R) (v0 v2 : V), r + i + d = P0.length -> d < M →
    told.length = os.length -> (∀ x ∈ P0.drop (r + i), told[x.toNat]? = some ⟨0, 0⟩) →
    ∃ v0' v2' M', zY M (Q4 (n + 3) s (os.map O.w) lb v6 (.row p1 1 r P0.length) (1, iL (P0.drop r))) [v0, .sl 2 (told.map R.w) false, v2, .int .i64 (i : Int)] h =
     Q4 (n + 3) s (os.map O.w) lb v6 (.row p1 1 r P0.length) (1, iL (P0.drop r)) [v0', .sl 2 ((Q9 ⟨3, 0⟩ (P0.drop (r + i)) told).map R.w) false, v2', .int .i64 ((P0.drop r).length : Int)] h (zY M' (Q4 (n + 3) s (os.map O.w) lb v6 (.row p1 1 r P0.length) (1, iL (P0.drop r)))) := by
 intro d
 induction d with
 | zero =>
   intro i M told v0 v2 h1 h2 hlt h0
   obtain ⟨M, rfl⟩ : ∃ M', M = M' + 1 := ⟨M - 1, by omega⟩
   have hi : i = (P0.drop r).length := by rw [Xk]; omega
   refine ⟨v0, v2, M, ?_⟩
   rw [Zy (i := r + i) (by omega), <- hi]
   exact zH ..
 | succ d ih =>
   intro i M told v0 v2 h1 h2 hlt h0
   obtain ⟨M, rfl⟩ : ∃ M', M = M' + 1 := ⟨M - 1, by omega⟩
   obtain ⟨x, hx⟩ : ∃ x, P0[r + i]? = some x := ⟨_, zg (by omega)⟩
   have hdr : P0.drop (r + i) = x :: P0.drop (r + (i + 1)) := by
    rw [zX (show r + i < P0.length by omega)]
    rw [zg (by omega)] at hx
    rw [Option.some.inj hx, ZO]
   obtain ⟨x0, x1⟩ := hP x (zL hx)
   obtain ⟨k, rfl⟩ : ∃ k : Nat, x = (k : Int) := ⟨x.toNat, (Z6 x0).symm⟩
   have ht0 : told[k]? = some ⟨0, 0⟩ := by
    have := h0 (k : Int) (by rw [hdr]; exact zA ..)
    simpa using this
   have htk : k < told.length := by omega
   have htv : (told.map R.w)[k]? = some (R.w ⟨0, 0⟩) := by rw [K0, ht0]; rfl
   have hl1 : decide ((i : Int) < ((P0.drop r).length : Int)) = true := by rw [Xk]; simp; omega
   obtain ⟨g1, g2⟩ := E.r1.getP (lo := r) (hi := P0.length) (i := i) (by omega) hx
   have hnd2 : (P0.drop (r + i)).Nodup := hnd.sublist (Qh _ _)
   rw [hdr] at hnd2
   have hset1 : (told.map R.w).set k (setR (R.w ⟨0, 0⟩) 0 [.int .u8 3]) = (told.set k ⟨3, 0⟩).map R.w := by rw [zge, Jp]
   have key : ∀ next, Q4 (n + 3) s (os.map O.w) lb v6 (.row p1 1 r P0.length) (1, iL (P0.drop r)) [v0, .sl 2 (told.map R.w) false, v2, .int .i64 (i : Int)] h next = next [.sl 2 (lsl v0) false, .sl 2 ((told.set k ⟨3, 0⟩).map R.w) false, .bool false, .int .i64 ((i + 1 : Nat) : Int)] h := by
    intro next
    unfold Q4
    simp only [gv, zf, zh, Ql, zw, za, zm, hl1, if_true, Zh, zx, g1, g2, zn, zu, zl, Nat.reduceLT, and_self, zb, zaL]
    rw [if_pos (by exact ⟨trivial, by rw [zI]; exact htk, by decide⟩), htv, za, zN, za, hset1, XM (show i < lim by omega)]
   obtain ⟨v0', v2', M', e⟩ := ih (i + 1) M (told.set k ⟨3, 0⟩) (.sl 2 (lsl v0) false) (.bool false) (by omega) (by omega) (by rw [zq]; exact hlt) (fun y hy => by
    rw [ze]
    · exact h0 y (by rw [hdr]; exact zp _ hy)
    · intro e2
      have hy0 := hP y (Zk hy)
      have hyk : y = (k : Int) := by omega
      exact (ZB.1 hnd2).1 (hyk ▸ hy))
   refine ⟨v0', v2', M', ?_⟩
   rw [zH, key, e, hdr]
   simp only [Q9, QJ]
theorem zol (a b : Int) : mm false [.int .i64 a, .int .i64 b] = some (.int .i64 (if b < a then b else a)) := rfl
theorem zjZ (os : List O) (r : Nat) : (((Xa os).take r).map (YL os)).Pairwise (· <= ·) := by
 rw [List.pairwise_map]
 exact ((zoh os).sublist (J4 _ _)).imp fun h => h.of
theorem zdM (n : Nat) {h : zd} {s : Nat} {ts : List Tw} {most : Int} {c : Nat} {cb : Option Nat} {bits : List Bool} (os : List O) (lb : Bool) (S : ∃ N, SkAt h s ts most N) (B : BitsAt h c cb bits) (nc : c ∉ skB s ts) (ncb : ∀ b, cb = some b -> b ∉ skB s ts) (hroom : (ts.length : Int) <= most) (hmost : most <= 1000) (hl : ts.length + 4 * os.length + 100 < lim) (hn : ts.length + 2 * os.length + 50 <= n) :
    ∃ h' ts' bits' tb told', call (n + 4) 222 [.ptr s 0, .ptr c 0, .sl 2 (os.map O.w) lb] h = some (.ret [.row tb 2 0 os.length], h') /\ Did h h' s ts ts' most c cb bits' tb told' /\ YP os most (itT ts, bits) = ((itT ts', bits'), told') := by
 have hpl := YN os os.length
 have hsl := YO os
 have hpo : (JY os).length <= os.length := by unfold JY; omega
 have E0 := zdf os S B nc ncb
 have hlf : (Xf h os).length = h.length + 2 := by simp [Xf]
 have hkp := fun x hx => (Qz os x hx).2.2
 obtain ⟨r, hr⟩ : ∃ r : Nat, (r : Int) = if most - (ts.length : Int) < ((Xa os).length : Int) then most - (ts.length : Int) else ((Xa os).length : Int) := ⟨(if most - (ts.length : Int) < ((Xa os).length : Int) then most - (ts.length : Int) else ((Xa os).length : Int)).toNat, Z6 (by split <;> omega)⟩
 have hr1 : r <= (Xa os).length := by split at hr <;> omega
 have hr2 : (ts.length : Int) + r <= most := by split at hr <;> omega
 have hr3 : r = (Xa os).length \/ most <= (ts.length : Int) + r := by split at hr <;> omega
 have hlt1 : ((Xa os).take r).length = r := by rw [Zf]; omega
 obtain ⟨h1, v0', v4', M', e1, E1, l1, f1⟩ := zmi n os lb (Xa os) (fun x hx => ⟨(Qz os x hx).1, (Qz os x hx).2.1⟩) (jd os) h.length (h.length + 1) (Xn os) (.row h.length 1 0 (Xa os).length) (.row (h.length + 1) 1 0 (Xn os).length) (.int .i64 (r : Int)) r hr1 (by omega) (by omega) r 0 (n + 3) (Xf h os) bits (List.replicate os.length ⟨0, 0⟩) [] [] (.sl 2 [] false) (.bool false) (by omega) (by omega) E0 (by simp) rfl rfl (fun x hx => by
  have := Qz os x (Zk hx)
  rw [ZS, if_pos (by omega)])
 rw [zO, zV, zV] at e1
 obtain ⟨vs, hvs⟩ : ∃ vs, vs = ((Xa os).take r).map (YL os) := ⟨_, rfl⟩
 obtain ⟨hs, hhs⟩ : ∃ hs, hs = (qn r bits).1 := ⟨_, rfl⟩
 have hvl : vs.length = r := by rw [hvs, zI, hlt1]
 have hhl : hs.length = r := by rw [hhs, ziE]
 rw [<- hvs, <- hhs] at e1
 have E2 := E1.push [.row 21 1 (vs.map (XL .i32)) true, .row 3 1 (iL hs) true]
 have hrow1 : RowI (h1 ++ [HB.row 21 1 (vs.map (XL .i32)) true, HB.row 3 1 (iL hs) true]) h1.length .i32 21 vs := ⟨true, by rw [zD (zl _), X9]; rfl⟩
 have hrow2 : RowI (h1 ++ [HB.row 21 1 (vs.map (XL .i32)) true, HB.row 3 1 (iL hs) true]) (h1.length + 1) .i64 3 hs := ⟨true, by rw [zD (by omega), Xl]; rfl⟩
 obtain ⟨N1, S1⟩ := E1.sk
 obtain ⟨h2, ts2, tb2, e2, G2, I2⟩ := zc6 n E2.sk h1.length (h1.length + 1) vs hs (by omega) (hvs ▸ zjZ os r) hrow1 hrow2 (fun hm => by have := S1.lt _ hm; omega) (fun hm => by have := S1.lt _ hm; omega) (by rw [hvl]; exact hr2) (by rw [hvl]; omega) (by rw [hvl]; omega)
 have E3 := E2.grew G2
 have told1 := qp ⟨1, 0⟩ ((Xa os).take r) (List.replicate os.length (⟨0, 0⟩ : R))
 rw [Qv] at told1
 have hnd := jd os
 have hdis : ∀ x ∈ (Xa os).drop r, ∀ y ∈ (Xa os).take r, y.toNat ≠ x.toNat := fun x hx y hy e => by
  have a := Qz os x (Zk hx)
  have b := Qz os y (Zz hy)
  have hxy : x = y := by omega
  have hnd' : ((Xa os).take r ++ (Xa os).drop r).Nodup := by rw [Zw]; exact hnd
  exact (QH.1 hnd').2.2 y hy x hx hxy.symm
 obtain ⟨v0'', v2'', M'', e3⟩ := zmj n os lb (Xa os) (fun x hx => ⟨(Qz os x hx).1, (Qz os x hx).2.1⟩) hnd h.length (h.length + 1) (Xn os) (.row (h.length + 1) 1 0 (Xn os).length) r hr1 (by omega) E3 ((Xa os).length - r) 0 (n + 3) (Q9 ⟨1, 0⟩ ((Xa os).take r) (List.replicate os.length ⟨0, 0⟩)) (.sl 2 (lsl v0') false) (.bool false) (by omega) (by omega) told1 (fun x hx => by
  rw [zZ] at hx
  rw [jx _ _ _ _ (hdis x hx)]
  have := Qz os x (Zk hx)
  rw [ZS, if_pos (by omega)])
 simp only [zZ] at e3
 obtain ⟨told2, htold2⟩ : ∃ told2, told2 = Q9 (⟨3, 0⟩ : R) ((Xa os).drop r) (Q9 ⟨1, 0⟩ ((Xa os).take r) (List.replicate os.length ⟨0, 0⟩)) := ⟨_, rfl⟩
 rw [<- htold2] at e3
 have told2l : told2.length = os.length := by rw [htold2, qp, told1]
 have hlen2 : ts2.length = ts.length + r := by
  have hz : ∀ (q : List (Int × Int)) (l : List (Int × Nat)), (ql l q).length = l.length + q.length := fun q => by
   induction q with
   | nil => intro l; rfl
   | cons p q ih => intro l; show (ql (zbA l p.1 (hOf p.2)) q).length = _; rw [ih, zab, zE]; omega
  have := congrArg List.length I2
  rw [hz, Q8, Q8, List.length_zip, hvl, hhl, Nat.min_self] at this
  exact this
 have hF : Frm h h2 (c :: skB s ts) := by
  have a : Frm h (Xf h os) (c :: skB s ts) := Frm.push h _ _
  have b : Frm (Xf h os) h1 [c] := ⟨Nat.le_of_eq l1.symm, fun j _ hj => f1 j fun e => hj (e ▸ zA ..)⟩
  have c' : Frm h1 (h1 ++ [HB.row 21 1 (vs.map (XL .i32)) true, HB.row 3 1 (iL hs) true]) [] := Frm.push h1 _ _
  exact (((a.trans b fun y hy => .inl (by rw [ZV] at hy; exact hy ▸ zA ..)).trans c' fun y hy => by cases hy).trans G2.frm fun y hy => .inl (zp _ hy))
 have hN : ∀ b ∈ skB s ts2, b ∈ skB s ts \/ h.length <= b := fun b hb => (G2.new b hb).imp id fun hh => by rw [zF, l1, hlf] at hh; omega
 have h0 : ∀ x ∈ Xn os, told2[x.toNat]? = some ⟨0, 0⟩ := fun x hx => by
  have hm := JC os _ x hx
  have hne : ∀ y ∈ Xa os, y.toNat ≠ x.toNat := fun y hy e => zbi os x hx y hy (by have := Qz os y hy; omega)
  rw [htold2, jx _ _ _ _ fun y hy => hne y (Zk hy), jx _ _ _ _ fun y hy => hne y (Zz hy), ZS, if_pos (by omega)]
 obtain ⟨h', ts', told', e4, D, rr⟩ := ziD (ts := ts) n os lb told2 E3 (by omega) told2l h0 (by omega) (by omega) (by omega) hF hN (by omega)
 refine ⟨h', ts', (qn r bits).2, h2.length, told', ?_, D, ?_⟩
 · refine (zim (n + 3) s c (os.map O.w) lb h).trans ?_
   unfold zil
   have fN : nv (V.int .i64 (os.length : Int)) = some os.length := Zh _ _
   have fr : nv (V.int .i64 (r : Int)) = some r := Zh _ _
   have hpc : call (n + 3) 225 [.sl 2 (os.map O.w) lb] h = some (.ret [.row h.length 1 0 (JY os).length, .row (h.length + 1) 1 0 (Xn os).length], Xf h os) := zbh (n + 1) h os lb (by omega) (by omega)
   obtain ⟨N0, S0⟩ := E0.sk
   have hm1 := zaE (n + 2) S0
   have hl1 := K8 (n + 2) S0
   have hsub : IntKind.i64.wrap (most - (ts.length : Int)) = most - (ts.length : Int) := by rw [w64] <;> omega
   have hs1 : ZW 1 0 r none true (.row h.length 1 0 (Xa os).length) = some (.row h.length 1 0 r) := by simpa using Jd (r := h.length) (sz := 1) (u := 0) (v := (Xa os).length) (Ze r) (by omega) true
   have hs2 : ZW 1 r (Xa os).length none true (.row h.length 1 0 (Xa os).length) = some (.row h.length 1 r (Xa os).length) := by simpa using Jd (r := h.length) (sz := 1) (u := 0) (v := (Xa os).length) hr1 (by omega) true
   have hc1 : ZN (Xf h os) (.row h.length 1 0 r) = some (1, iL ((Xa os).take r)) := by have := E0.r1.slcP (lo := 0) (hi := r) (Ze _) hr1; rwa [zO] at this
   have hc2 : ZN h2 (.row h.length 1 r (Xa os).length) = some (1, iL ((Xa os).drop r)) := by have := E3.r1.slcP (lo := r) (hi := (Xa os).length) hr1 (zl _); rwa [QY] at this
   simp only [zI]
   rw [fN, zx, zx, if_pos (by first | exact ⟨zl _, by omega, rfl⟩ | exact ⟨trivial, by omega, trivial⟩ | exact ⟨zl _, by omega, trivial⟩), hpc, zM]
   simp only [zb, zi, za]
   rw [<- hsl, E0.r1.slc, za, hm1, zM, zy, hl1, zM, zy, ZK, za, hsub]
   simp only [zI, Ya, Km, za]
   rw [zol, za, <- hr, JV, za, fr, zx, hs1, za, hc1, za, zoj]
   refine e1.trans ?_
   unfold Q5
   simp only [gv, zf, zh, Ql, hlt1, zw, za, zm]
   rw [if_neg (by simp), zla, zok, Ql, zI, List.append_assoc]
   rw [show (h1 ++ [HB.row 21 1 (vs.map (XL .i32)) true]).length = h1.length + 1 by simp]
   rw [show ([HB.row 21 1 (vs.map (XL .i32)) true] ++ [HB.row 3 1 (iL hs) true]) = [HB.row 21 1 (vs.map (XL .i32)) true, HB.row 3 1 (iL hs) true] from rfl, e2, zM, zy, JV, za, fr, zx, Nat.sub_zero, hs2, za, hc2, za]
   rw [show lsl (V.sl 2 ((Q9 (⟨1, 0⟩ : R) ((Xa os).take r) (List.replicate os.length ⟨0, 0⟩)).map R.w) false) = (Q9 (⟨1, 0⟩ : R) ((Xa os).take r) (List.replicate os.length ⟨0, 0⟩)).map R.w from rfl]
   refine e3.trans ?_
   unfold Q4
   simp only [gv, zf, zh, Ql, zw, za, zm]
   rw [if_neg (by simp), zaL, zI, told2l, e4, zM, zy]
 · unfold YP
   have hp := zk9 os most ((Xa os).take r) (itT ts, bits) (List.replicate os.length ⟨0, 0⟩) (fun x hx => hkp x (Zz hx)) (by simp only [Q8, hlt1]; exact hr2)
   simp only [hlt1, <- hvs, <- hhs, <- I2] at hp
   have hsplit : Xa os ++ Xn os = (Xa os).take r ++ ((Xa os).drop r ++ Xn os) := by rw [<- List.append_assoc, Zw]
   rw [hsplit, Yp, hp, Yp]
   have hfull : Ye os most ((Xa os).drop r) (itT ts2, (qn r bits).2) (Q9 ⟨1, 0⟩ ((Xa os).take r) (List.replicate os.length ⟨0, 0⟩)) = ((itT ts2, (qn r bits).2), told2) := by
    rcases hr3 with h3 | h3
    · rw [htold2, h3, List.drop_length]; rfl
    · rw [ziF os most _ _ _ (fun x hx => hkp x (Zk hx)) (by simp only [Q8, hlen2]; omega), htold2]
   rw [hfull]
   exact rr
end Go.Proofs.Tryz
namespace Go.Proofs.Tryz
open Go.L
set_option maxRecDepth 100000
noncomputable def je (n : Nat) (a : V) (b : V) (st3 : List V) (hh4 : zd) (next5 : List V -> zd -> Option (Res × zd)) : Option (Res × zd) :=
 (bd (ZN hh4 a) fun p6 =>
 (bd (bop prog .lss 3 (gv st3 1) (V.int .i64 ((p6.2).length : Int))) fun v7 =>
 (bv v7 fun b8 => if b8 then
 (bdS (nv (gv st3 1)) fun n9 =>
 (bd (ZA 1 n9 a) fun p10 =>
 (bd3 (zt hh4 p10) fun cs12 m11 o13 => if (o13 + 1 <= m11 /\ 0 < 1) then
 (bd (cs12)[o13]? fun v14 =>
 (bdS (nv (gv st3 1)) fun n15 =>
 (bd (ZA 1 n15 b) fun p16 =>
 (bd3 (zt hh4 p16) fun cs18 m17 o19 => if (o19 + 1 <= m17 /\ 0 < 1) then
 (bd (cs18)[o19]? fun v20 =>
 (bd (bop prog .neq 21 v14 v20) fun v21 =>
 (bv v21 fun b22 => if b22 then
 some (Res.ret [(V.bool false)], hh4)
 else
 (bd (bop prog .add 3 (gv st3 1) (V.int .i64 1)) fun v23 =>
 (next5 [(gv st3 0), v23] hh4))))) else none)))) else none)))
 else
 some (Res.ret [(V.bool true)], hh4))))
noncomputable def zpX (n : Nat) (a : V) (b : V) (h : zd) : Option (Res × zd) :=
 (bd (ZN h a) fun p0 =>
 (bd (ZN h b) fun p1 =>
 (if (((p0.2).length : Int) != ((p1.2).length : Int)) then
 some (Res.ret [(V.bool false)], h)
 else
 (zY n (je n a b) [(V.bool false), (V.int .i64 0)] h))))
theorem zom (n : Nat) (a : V) (b : V) (h : zd) : call (n + 1) 19 [a, b] h = zpX n a b h := by kernel_rfl
noncomputable def zon (n : Nat) (x0 : Int) (h : zd) : Option (Res × zd) :=
 some (Res.ret [(V.int .i64 (if 0 < (if 1000 < x0 then 1000 else x0) then (if 1000 < x0 then 1000 else x0) else 0))], h)
theorem ziG (n : Nat) (x0 : Int) (h : zd) : call (n + 1) 129 [(V.int .i64 x0)] h = zon n x0 h := by kernel_rfl
end Go.Proofs.Tryz
namespace Go.Proofs.Tryz
open Go.L Go.Rp Go.Sk
set_option maxRecDepth 100000
end Go.Proofs.Tryz
namespace Go.Proofs.Tryz
open Go.L
set_option maxRecDepth 100000
noncomputable def zac (n : Nat) (c : V) (kinds : Int) (st1 : List V) (hh2 : zd) (next3 : List V -> zd -> Option (Res × zd)) : Option (Res × zd) :=
 (bd (ZN hh2 c) fun p4 =>
 (bd (bop prog .lss 3 (gv st1 2) (V.int .i64 ((p4.2).length : Int))) fun v5 =>
 (bv v5 fun b6 => if b6 then
 (bd (bop prog .lss 3 (gv st1 2) (V.int .i64 80)) fun v7 =>
 (bv v7 fun b8 => if b8 then
 (bdS (nv (gv st1 2)) fun n9 =>
 (bd (ZA 1 n9 c) fun p10 =>
 (bd3 (zt hh2 p10) fun cs12 m11 o13 => if (o13 + 1 <= m11 /\ 0 < 1) then
 (bd (cs12)[o13]? fun v14 =>
 (bd (bop prog .rem 5 v14 (V.int .u8 kinds)) fun v15 =>
 (bd (bop prog .add 5 (V.int .u8 1) v15) fun v16 =>
 (bdS (nv (gv st1 2)) fun n17 =>
 (bd (ZA 1 n17 c) fun p18 =>
 (bd3 (zt hh2 p18) fun cs20 m19 o21 => if (o21 + 1 <= m19 /\ 0 < 1) then
 (bd (cs20)[o21]? fun v22 =>
 (bd (bop prog .quo 5 v22 (V.int .u8 8)) fun v23 =>
 (bd (cvt prog 5 21 v23) fun v24 =>
 (bd (bop prog .sub 21 v24 (V.int .i32 9)) fun v25 =>
 (bd (QB prog 33 [(0, v16), (1, v25)]) fun cs26 =>
 (bd (Wi prog 23 1 [(0, (V.agg cs26))]) fun p27 =>
 (bd (app 33 2 (S.own 33 2 (lsl (gv st1 1))) p27.2) fun l28 =>
 (bd (bop prog .add 3 (gv st1 2) (V.int .i64 1)) fun v29 =>
 (next3 [(V.sl 2 (lsl (gv st1 0)) false), (V.sl 2 l28 false), v29] hh2))))))))) else none)))))) else none)))
 else
 some (Res.ret [(V.sl 2 (lsl (gv st1 1)) false)], hh2)))
 else
 some (Res.ret [(V.sl 2 (lsl (gv st1 1)) false)], hh2))))
noncomputable def zqX (n : Nat) (c : V) (kinds : Int) (h : zd) : Option (Res × zd) :=
 (zY n (zac n c kinds) [(V.sl 2 [] false), (V.sl 2 [] false), (V.int .i64 0)] h)
theorem zpq (n : Nat) (c : V) (kinds : Int) (h : zd) : call (n + 1) 14 [c, (V.int .u8 kinds)] h = zqX n c kinds h := by kernel_rfl
end Go.Proofs.Tryz
namespace Go.Proofs.Tryz
open Go.L Go.Rp
set_option maxRecDepth 100000
theorem zj0 {a b : Int} (h : b ≠ 0) : bop prog .rem 5 (.int .u8 a) (.int .u8 b) = some (.int .u8 (a.tmod b)) := by
 have : bop prog .rem 5 (.int .u8 a) (.int .u8 b) = if b = 0 then none else some (.int .u8 (a.tmod b)) := by kernel_rfl
 rw [this, if_neg h]
theorem ziH (a : Int) : bop prog .quo 5 (.int .u8 a) (.int .u8 8) = some (.int .u8 (IntKind.u8.wrap (a.tdiv 8))) := by kernel_rfl
theorem zpr (a : Int) : cvt prog 5 21 (.int .u8 a) = some (.int .i32 (IntKind.i32.wrap a)) := by kernel_rfl
theorem zqY (k v : Int) : QB prog 33 [(0, .int .u8 k), (1, .int .i32 v)] = some (O.w ⟨k, v⟩) := by kernel_rfl
theorem w32 {n : Int} (h1 : -2147483648 <= n) (h2 : n < 2147483648) : IntKind.i32.wrap n = n := by rw [IntKind.wrap_i32]; omega
theorem ziI (c : List Int) (z : Nat) (b : Bool) (kinds : Int) (H : zd) (N : Nat) (hz : z = 1 \/ c = []) (hc : za7 c = true) (hk1 : 1 <= kinds) (hk2 : kinds <= 100) : ∀ (d k M : Nat), k + d = min c.length 80 -> d < M →
    zY M (zac N (.sl z (c.map (XL .u8)) b) kinds) [.sl 2 [] false, .sl 2 (((c.take k).map (opOf kinds)).map O.w) false, .int .i64 (k : Int)] H = some (.ret [.sl 2 ((ops c kinds).map O.w) false], H)
 | d, k, 0, _, h => by omega
 | 0, k, M + 1, hk, _ => by
   have he : (c.take k).map (opOf kinds) = ops c kinds := by
    unfold ops
    rcases ZY 80 c.length with h | h
    · rw [show k = 80 by omega]
    · rw [zQ (by omega), zQ (by omega)]
   rw [zH, he]
   by_cases hl : (k : Int) < (c.length : Int)
   · have h80 : ¬ (k : Int) < 80 := by omega
     simp only [zac, gv, zh, zf, XD, za, zI, zw, zm, hl, decide_true, if_true, h80, decide_false, zo, if_false, lsl]
   · simp only [zac, gv, zh, zf, XD, za, zI, zw, zm, hl, decide_false, zo, if_false, lsl]
 | d + 1, k, M + 1, hk, hM => by
   have hl : (k : Int) < (c.length : Int) := by omega
   have h80 : (k : Int) < 80 := by omega
   obtain ⟨x, hx⟩ : ∃ x, c[k]? = some x := ⟨_, zg (by omega)⟩
   obtain rfl : z = 1 := hz.resolve_right (by rintro rfl; simp at hx)
   have hxv : (c.map (XL .u8))[k]? = some [.int .u8 x] := by rw [zhd, hx]; rfl
   have hxs := zlJ hc x (zL hx)
   have hk0 : kinds ≠ 0 := by omega
   have e1 : Int.tmod x kinds = x % kinds := Jg hxs.1
   have h1 := Int.emod_nonneg x hk0
   have h2 := Int.emod_lt_of_pos x (show 0 < kinds by omega)
   have e2 : Int.tdiv x 8 = x / 8 := Int.tdiv_eq_ediv_of_nonneg hxs.1
   have w1 : IntKind.u8.wrap (1 + x % kinds) = 1 + x % kinds := w8 (by omega) (by omega)
   have w2 : IntKind.u8.wrap (x / 8) = x / 8 := w8 (by omega) (by omega)
   have w3 : IntKind.i32.wrap (x / 8) = x / 8 := w32 (by omega) (by omega)
   have w4 : IntKind.i32.wrap (x / 8 - 9) = x / 8 - 9 := w32 (by omega) (by omega)
   have hop : (⟨1 + x % kinds, x / 8 - 9⟩ : O) = opOf kinds x := rfl
   have WY := zqm 33 ((c.take k).map (opOf kinds)) (opOf kinds x) (by rw [zI, Zf]; unfold lim; omega)
   have htk : (c.take k).map (opOf kinds) ++ [opOf kinds x] = (c.take (k + 1)).map (opOf kinds) := by
    rw [List.take_add_one, hx, ZI]; rfl
   rw [htk] at WY
   rw [zH]
   simp only [zac, gv, zh, zf, XD, XU hxv, Z1, zn, zu, zl, Nat.reduceLT, and_self, za, zI, zw, zm, hl, h80, decide_true, if_true, Zh, zx, zhd, hx, ZU, XL, zb, zj0 hk0, e1, zjl, w1, ziH, e2, w2, zpr, w3, zg9, w4, zqY, hop, zpO, lsl, WY, zN, XM (show k < lim by unfold lim; omega)]
   exact ziI c 1 b kinds H N (.inl rfl) hc hk1 hk2 d (k + 1) M (by omega) (by omega)
theorem zoo (n : Nat) (c : List Int) (z : Nat) (b : Bool) (kinds : Int) (H : zd) (hz : z = 1 \/ c = []) (hc : za7 c = true) (hk1 : 1 <= kinds) (hk2 : kinds <= 100) (hn : 90 <= n) :
    call n 14 [.sl z (c.map (XL .u8)) b, .int .u8 kinds] H = some (.ret [.sl 2 ((ops c kinds).map O.w) false], H) := by
 obtain ⟨N, rfl⟩ : ∃ N, n = N + 1 := ⟨n - 1, by omega⟩
 rw [zpq]
 unfold zqX
 exact ziI c z b kinds H N hz hc hk1 hk2 (min c.length 80) 0 N (by omega) (by omega)
theorem zps (c : List Int) (kinds : Int) : (ops c kinds).length <= 80 := by unfold ops; simp; omega
end Go.Proofs.Tryz
namespace Go.Proofs.Tryz
open Go.L Go.Rp Go.Sk
set_option maxRecDepth 100000
theorem RowR.get {h : zd} {b : Nat} {l : List R} (r : RowR h b l) {i : Nat} {x : R} (hx : l[i]? = some x) (o : Nat) : ZA 2 i (.row b 2 0 l.length) = some (.rptr b 2 i 0) /\ zt h (.rptr b 2 i o) = some (R.w x, 2, o) := by
 obtain ⟨z, hz⟩ := r
 have hi := (zj.1 hx).1
 exact ⟨ziB hi, Xw hz (by decide) (by rw [K0, hx]; rfl)⟩
theorem RowR.slc {h : zd} {b : Nat} {l : List R} (r : RowR h b l) : ZN h (.row b 2 0 l.length) = some (2, l.map R.w) := by
 obtain ⟨z, hz⟩ := r
 have := Wr hz
 rwa [zI] at this
end Go.Proofs.Tryz
namespace Go.Proofs.Tryz
open Go.L Go.Rp Go.Sk
set_option maxRecDepth 100000
def zdN (h : zd) (r : V) (l : List Int) : Prop := (∃ sz, ZN h r = some (sz, l.map (XL .i32))) /\ ∀ (i : Nat) (x : Int), l[i]? = some x -> ∃ p, ZA 1 i r = some p /\ zt h p = some ([.int .i32 x], 1, 0)
theorem RowI.sees {h : zd} {b : Nat} {L : List Int} (r : RowI h b .i32 21 L) {lo hi : Nat} (h1 : lo <= hi) (h2 : hi <= L.length) : zdN h (.row b 1 lo hi) ((L.take hi).drop lo) := by
 refine ⟨⟨1, r.slcP h1 h2⟩, fun i x hx => ?_⟩
 rw [Zg] at hx
 have hi' : lo + i < hi := by
  have := (zj.1 hx).1
  rw [Zf] at this
  omega
 rw [List.getElem?_take_of_lt hi'] at hx
 obtain ⟨a, c⟩ := r.getP hi' hx
 exact ⟨_, a, c⟩
theorem zop (h : zd) : zdN h (.sl 0 [] true) [] := ⟨⟨0, rfl⟩, fun i x hx => by simp at hx⟩
theorem SlI.sees {h : zd} {lo : Nat} {r : V} {l : List Int} (s : SlI h lo r l) : zdN h r l := by
 rcases s with ⟨rfl, rfl⟩ | ⟨b, z, _, rfl, hz⟩
 · exact zop h
 · have := RowI.sees (L := l) ⟨z, hz⟩ (Ze l.length) (zl _)
   rwa [QY, zO] at this
theorem zj1 (n : Nat) {h : zd} {a b : V} {l : List Int} (ha : zdN h a l) (hb : zdN h b l) (hl : l.length < lim) : ∀ (d i M : Nat) (v0 : V), i + d = l.length -> d < M -> zY M (je n a b) [v0, .int .i64 (i : Int)] h = some (.ret [.bool true], h) := by
 obtain ⟨⟨sa, hsa⟩, ga⟩ := ha
 intro d
 induction d with
 | zero =>
   intro i M v0 h1 h2
   obtain ⟨M, rfl⟩ : ∃ M', M = M' + 1 := ⟨M - 1, by omega⟩
   obtain rfl : i = l.length := by omega
   rw [zH]
   unfold je
   rw [hsa, za]
   simp only [gv, zf, zh, zI, zw, za, zm]
   rw [if_neg (by simp)]
 | succ d ih =>
   intro i M v0 h1 h2
   obtain ⟨M, rfl⟩ : ∃ M', M = M' + 1 := ⟨M - 1, by omega⟩
   obtain ⟨x, hx⟩ : ∃ x, l[i]? = some x := ⟨_, zg (by omega)⟩
   obtain ⟨p, p1, p2⟩ := ga i x hx
   obtain ⟨q, q1, q2⟩ := hb.2 i x hx
   have hlt : decide ((i : Int) < (l.length : Int)) = true := by simp; omega
   have key : ∀ next, je n a b [v0, .int .i64 (i : Int)] h next = next [v0, .int .i64 ((i + 1 : Nat) : Int)] h := by
    intro next
    unfold je
    rw [hsa, za]
    simp only [gv, zf, zh, zI, zw, za, zm, hlt, if_true, Zh, zx, p1, p2, q1, q2, zn, zu, zl, Nat.reduceLT, and_self, zb, zg8, zN, XM (show i < lim by omega)]
    rw [if_neg (by simp)]
   rw [zH, key]
   exact ih (i + 1) M v0 (by omega) (by omega)
theorem zj2 (n : Nat) {h : zd} {a b : V} {l : List Int} (ha : zdN h a l) (hb : zdN h b l) (hl : l.length < lim) (hn : l.length < n) : call (n + 1) 19 [a, b] h = some (.ret [.bool true], h) := by
 refine (zom n a b h).trans ?_
 unfold zpX
 obtain ⟨sa, hsa⟩ := ha.1
 obtain ⟨sb, hsb⟩ := hb.1
 rw [hsa, za, hsb, za, if_neg (by simp)]
 exact zj1 n ha hb hl l.length 0 n (.bool false) (by omega) hn
theorem zmk (o : O) (most : Int) (st : St) : YP [o] most st = ((stp most st o).1, [(stp most st o).2]) := by
 have h : Xa [o] ++ Xn [o] = [0] := by
  by_cases hk : o.k = 1
  · have h1 : JY [o] = [0] := by simp [JY, Q7, oAt, hk]
    have h2 : Xn [o] = [] := by simp [Xn, QN, oAt, hk]
    rw [h2, Zm]
    have := Wa [o]
    rw [h1] at this
    exact List.perm_singleton.1 this
  · have h1 : JY [o] = [] := by simp [JY, Q7, oAt, hk]
    have h2 : Xn [o] = [0] := by simp [Xn, QN, oAt, hk]
    have := Wa [o]
    rw [h1] at this
    rw [h2, List.perm_nil.1 this]
    rfl
 unfold YP
 rw [h]
 rfl
end Go.Proofs.Tryz
namespace Go.Sk
open Go.L Go.Rp
theorem zj3 (m : Nat) (c x : Int) (xs : List Int) (h : xs.length <= m) : (ZC (m : Int) c x xs).2.length <= m := by
 unfold ZC
 split
 · split
   · simp; omega
   · exact h
 · split
   · split
     · simp; omega
     · exact h
   · exact h
theorem zeR (m : Nat) : ∀ (l : List O) (xs : List Int), xs.length <= m -> (Qx (m : Int) l xs).2.length <= m
 | [], _, h => h
 | o :: l, xs, h => zeR m l _ (zj3 m o.k o.v xs h)
theorem zj4 (m : Nat) (c x : Int) (xs : List Int) (h : xs.length <= m) : (Zi (m : Int) c x xs).2.length <= m := by
 unfold Zi
 split
 · split
   · simp; omega
   · exact h
 split
 · split
   · simp; omega
   · exact h
 split
 · split
   · simp at h ⊢; omega
   · exact h
 split
 · split
   · simp; omega
   · exact h
 · exact h
theorem zeS (m : Nat) : ∀ (l : List O) (xs : List Int), xs.length <= m -> (QM (m : Int) l xs).2.length <= m
 | [], _, h => h
 | o :: l, xs, h => zeS m l _ (zj4 m o.k o.v xs h)
end Go.Sk
namespace Go.Proofs.Tryz
open Go.L Go.Rp Go.Sk
set_option maxRecDepth 100000
theorem zgf (n s : Nat) (osb : Bool) (b c : Nat) (hc : c < 100000) (os : List O) (hos : os.length < lim) : ∀ (d i N : Nat) (h : zd) (xs : List Int) (done : List R), RngAt h s b c xs -> i + d = os.length -> done.length = i -> d < N →
    ∃ h', zY N (W7 (n + 3) s (os.map O.w) osb) [.sl 2 [] false, .sl 2 (done.map R.w ++ List.replicate d [.int .u8 0, .int .i32 0]) false, .bool false, .int .i64 (i : Int)] h = some (.ret [.row h'.length 2 0 os.length], h' ++ [.row 35 2 ((done ++ (QM (c : Int) (os.drop i) xs).1).map R.w) true]) /\ RngAt h' s b c (QM (c : Int) (os.drop i) xs).2 /\ RFed h h' s b := by
 intro d
 induction d with
 | zero =>
   intro i N h xs done hb h1 h2 h3
   obtain ⟨N, rfl⟩ : ∃ N', N = N' + 1 := ⟨N - 1, by omega⟩
   rw [zH]
   unfold W7
   simp only [gv, zf, zh]
   rw [zw, za, zm, if_neg (by simp; omega), ZQ (by omega)]
   refine ⟨h, ?_, hb, RFed.refl ..⟩
   simp only [lsl, QM, Zm, Xj, zI]
   rw [show done.length = os.length by omega]
 | succ d ih =>
   intro i N h xs done hb h1 h2 h3
   obtain ⟨N, rfl⟩ : ∃ N', N = N' + 1 := ⟨N - 1, by omega⟩
   have hi : i < os.length := by omega
   obtain ⟨h', e, b1, b2⟩ := zhz n hb hc os[i].k os[i].v
   obtain ⟨h'', e', d1, d2⟩ := ih (i + 1) N h' _ (done ++ [zaA (c : Int) os[i] xs]) b1 (by omega) (by simp; omega) (by omega)
   have hd : os.drop i = os[i] :: os.drop (i + 1) := zX hi
   refine ⟨h'', ?_, by rw [hd]; exact d1, b2.trans d2⟩
   rw [hd]
   simp only [QM]
   rw [show done ++ (zaA (c : Int) os[i] xs :: (QM (c : Int) (os.drop (i + 1)) (Zi (c : Int) os[i].k os[i].v xs).2).1) = done ++ [zaA (c : Int) os[i] xs] ++ (QM (c : Int) (os.drop (i + 1)) (Zi (c : Int) os[i].k os[i].v xs).2).1 by simp, <- e', zH]
   have hix : ZA 2 i (.sl 2 (os.map O.w) osb) = some (.iptr 2 (O.w os[i]) 0) := by
    simp [ZA, zg hi]
   have key : ∀ next, W7 (n + 3) s (os.map O.w) osb [.sl 2 [] false, .sl 2 (done.map R.w ++ List.replicate (d + 1) [.int .u8 0, .int .i32 0]) false, .bool false, .int .i64 (i : Int)] h next = next [.sl 2 [] false, .sl 2 ((done ++ [zaA (c : Int) os[i] xs]).map R.w ++ List.replicate d [.int .u8 0, .int .i32 0]) false, .bool false, .int .i64 ((i + 1 : Nat) : Int)] h' := by
    intro next
    unfold W7
    simp only [gv, zf, zh]
    rw [zw, za, zm, if_pos (by simp; omega), Zh, zx, hix, za]
    simp only [zt]
    rw [zn, if_pos (by decide), zO, QF, if_pos (XS _), if_pos (by rw [XS]; decide), W5, zO, QF]
    show cl (call (n + 3) _ [.ptr s 0, .agg [.int .u8 os[i].k, .int .i32 os[i].v]] h) _ _ = _
    rw [e, zM, zy, zx]
    have hlen : i < (done.map R.w ++ List.replicate (d + 1) [V.int .u8 0, V.int .i32 0]).length := by simp; omega
    have hget : (done.map R.w ++ List.replicate (d + 1) [V.int .u8 0, V.int .i32 0])[i]? = some [.int .u8 0, .int .i32 0] := by
     rw [zD (by simp; omega)]; simp [h2]
    rw [if_pos (by refine ⟨?_, hlen, by decide⟩; first | trivial | rfl), if_pos (by rfl), if_pos (by refine ⟨?_, by decide, zl 2⟩; first | trivial | rfl)]
    simp only [lsl, zhq, V.cells]
    rw [hget, za, zN, za, XM (by omega)]
    have hset : (done.map R.w ++ List.replicate (d + 1) [V.int .u8 0, V.int .i32 0]).set i (setR [V.int .u8 0, V.int .i32 0] 0 [V.int .u8 (Zi (c : Int) os[i].k os[i].v xs).1.1, V.int .i32 (Zi (c : Int) os[i].k os[i].v xs).1.2]) = (done ++ [zaA (c : Int) os[i] xs]).map R.w ++ List.replicate d [V.int .u8 0, V.int .i32 0] := by
     rw [Zv _ _ (by simp; omega)]
     simp [h2, Xq, R.w, setR, zaA]
    rw [hset]
   rw [key]
theorem zgg (n s : Nat) {h : zd} {b c : Nat} {xs : List Int} (hb : RngAt h s b c xs) (hc : c < 100000) (os : List O) (osb : Bool) (hos : os.length < lim) (hn : os.length < n) :
    ∃ h', call (n + 4) 176 [.bf 201 [.ptr s 0], .sl 2 (os.map O.w) osb] h = some (.ret [.row h'.length 2 0 os.length], h' ++ [.row 35 2 ((QM (c : Int) os xs).1.map R.w) true]) /\ RngAt h' s b c (QM (c : Int) os xs).2 /\ RFed h h' s b := by
 obtain ⟨h', e, b1, b2⟩ := zgf n s osb b c hc os hos os.length 0 (n + 3) h xs [] hb (by omega) rfl (by omega)
 refine ⟨h', (zjJ (n + 3) s _ osb h).trans ?_, b1, b2⟩
 unfold zkT
 rw [zI, Zh, zx, zx, if_pos ⟨zl _, by omega, rfl⟩]
 exact e
def noH (xs : List Int) : List (Int × Nat) := xs.map fun x => (x, 0)
theorem Yq (xs : List Int) : (noH xs).length = xs.length := zI ..
theorem jy (xs : List Int) : (noH xs).map Prod.fst = xs := by unfold noH; rw [List.map_map]; exact List.map_id _
def jD (k m : Nat) (os : List O) (st : St) : St × List R :=
 if k = 1 then ((noH (Qx (m : Int) os (st.1.map Prod.fst)).2, st.2), (Qx (m : Int) os (st.1.map Prod.fst)).1)
 else if k = 2 then ((noH (QM (m : Int) os (st.1.map Prod.fst)).2, st.2), (QM (m : Int) os (st.1.map Prod.fst)).1)
 else YP os (m : Int) st
def BodAt (k : Nat) (h : zd) (s : Nat) (Y : List Nat) (m : Nat) (its : List (Int × Nat)) : Prop :=
 (k = 1 /\ ∃ xs qb, its = noH xs /\ StkAt h s qb (m : Int) xs /\ Y = s :: qb.toList) ∨
 (k = 2 /\ ∃ xs b, its = noH xs /\ RngAt h s b m xs /\ Y = [s, b]) ∨
 (k = 3 /\ ∃ ts, its = itT ts /\ (∃ N, SkAt h s ts (m : Int) N) /\ Y = skB s ts)
def zoq (k s : Nat) : V := .iface (if k = 1 then 112 else if k = 2 then 116 else 120) (.agg [.ptr s 0])
structure ObAt (k : Nat) (h : zd) (o s c : Nat) (cb : Option Nat) (Y : List Nat) (m : Nat) (pl : Bool) (st : St) : Prop where
 box : h[o]? = some (.box 3 [zoq k s, .ptr c 0, .bool pl])
 bits : BitsAt h c cb st.2
 body : BodAt k h s Y m st.1
 room : st.1.length <= m
 most : m <= 1000
 oc : o ≠ c
 ocb : cb ≠ some o
 oY : o ∉ Y
 cY : c ∉ Y
 cbY : ∀ b, cb = some b -> b ∉ Y
def obB (o c : Nat) (cb : Option Nat) (Y : List Nat) : List Nat := o :: c :: (cb.toList ++ Y)
theorem BodAt.lt {k : Nat} {h : zd} {s : Nat} {Y : List Nat} {m : Nat} {its : List (Int × Nat)} (B : BodAt k h s Y m its) : ∀ y ∈ Y, y < h.length := by
 rcases B with ⟨rfl, xs, qb, rfl, S, rfl⟩ | ⟨rfl, xs, b, rfl, R, rfl⟩ | ⟨rfl, ts, rfl, ⟨N, S⟩, rfl⟩
 · intro y hy
   obtain ⟨v, sz, k1, k2⟩ := S.box
   rcases zK.1 hy with rfl | hy
   · exact zT k1
   · cases qb with
     | none => simp at hy
     | some b =>
       simp at hy; subst hy
       obtain ⟨_, l, z, _, k3, _⟩ := S
       exact zT k3
 · intro y hy
   obtain ⟨_, l, z, f, k1, k2, _⟩ := R
   simp at hy
   rcases hy with rfl | rfl
   · exact zT k1
   · exact zT k2
 · exact S.lt
theorem BitsAt.blt {h : zd} {c b : Nat} {bits : List Bool} (B : BitsAt h c (some b) bits) : b < h.length := by
 obtain ⟨_, lo, l, z, _, k, _⟩ := B
 exact zT k
theorem BitsAt.clt {h : zd} {c : Nat} {cb : Option Nat} {bits : List Bool} (B : BitsAt h c cb bits) : c < h.length := by
 cases cb with
 | none => exact zT B.2
 | some b =>
   obtain ⟨_, lo, l, z, k, _⟩ := B
   exact zT k
theorem BodAt.keep {k : Nat} {h h' : zd} {s : Nat} {Y : List Nat} {m : Nat} {its : List (Int × Nat)} (B : BodAt k h s Y m its) (hk : ∀ y ∈ Y, h'[y]? = h[y]?) : BodAt k h' s Y m its := by
 rcases B with ⟨rfl, xs, qb, rfl, S, rfl⟩ | ⟨rfl, xs, b, rfl, R, rfl⟩ | ⟨rfl, ts, rfl, ⟨N, S⟩, rfl⟩
 · exact .inl ⟨rfl, xs, qb, rfl, S.keep (hk s (by simp)) (fun b hb => hk b (by simp [hb])), rfl⟩
 · exact .inr (.inl ⟨rfl, xs, b, rfl, R.keep (hk s (by simp)) (hk b (by simp)), rfl⟩)
 · exact .inr (.inr ⟨rfl, ts, rfl, ⟨N, S.keep hk⟩, rfl⟩)
theorem ObAt.keep {k : Nat} {h h' : zd} {o s c : Nat} {cb : Option Nat} {Y : List Nat} {m : Nat} {pl : Bool} {st : St} (A : ObAt k h o s c cb Y m pl st) (hk : ∀ y ∈ obB o c cb Y, h'[y]? = h[y]?) : ObAt k h' o s c cb Y m pl st :=
 ⟨(hk o (by simp [obB])).trans A.box, A.bits.keep (hk c (by simp [obB])) (fun b hb => hk b (by simp [obB, hb])), A.body.keep (fun y hy => hk y (by simp [obB, hy])), A.room, A.most, A.oc, A.ocb, A.oY, A.cY, A.cbY⟩
theorem ObAt.lt {k : Nat} {h : zd} {o s c : Nat} {cb : Option Nat} {Y : List Nat} {m : Nat} {pl : Bool} {st : St} (A : ObAt k h o s c cb Y m pl st) : ∀ y ∈ obB o c cb Y, y < h.length := by
 intro y hy
 simp only [obB, zK, Zr] at hy
 rcases hy with rfl | rfl | hy | hy
 · exact zT A.box
 · exact A.bits.clt
 · cases cb with
   | none => simp at hy
   | some b => simp at hy; subst hy; exact A.bits.blt
 · exact A.body.lt y hy
structure XFed (h h' : zd) (X X' : List Nat) : Prop where
 len : h.length <= h'.length
 old : ∀ i, i < h.length -> i ∉ X -> h'[i]? = h[i]?
 new : ∀ x ∈ X', x ∈ X \/ h.length <= x
structure BFed (h h' : zd) (c : Nat) (Y Y' : List Nat) : Prop where
 len : h.length <= h'.length
 old : ∀ i, i < h.length -> i ∉ c :: Y -> h'[i]? = h[i]?
 new : ∀ x ∈ Y', x ∈ Y \/ h.length <= x
def zdO (k : Nat) (pl : Bool) : Nat := if k = 1 then (if pl then 173 else 171) else if k = 2 then (if pl then 198 else 196) else (if pl then 221 else 219)
theorem zor (n : Nat) {k : Nat} {h : zd} {s c : Nat} {cb : Option Nat} {Y : List Nat} {m : Nat} {st : St} (pl : Bool) (B : BodAt k h s Y m st.1) (C : BitsAt h c cb st.2) (room : st.1.length <= m) (hm : m <= 1000) (cY : c ∉ Y) (cbY : ∀ b, cb = some b -> b ∉ Y) (os : List O) (osb : Bool) (hk : ∀ o ∈ os, 0 <= o.k /\ o.k < 256) (hos : os.length <= 1000) (hn : 2 * os.length + m + 100 <= n) :
    ∃ h' Y' T, call (n + 7) (zdO k pl) [.agg [.ptr s 0], .ptr c 0, .sl 2 (os.map O.w) osb] h = some (.ret [.row T 2 0 os.length], h') /\ RowR h' T (jD k m os st).2 /\ BodAt k h' s Y' m (jD k m os st).1.1 /\ BitsAt h' c cb (jD k m os st).1.2 /\ (jD k m os st).1.1.length <= m /\ h.length <= T /\ T ∉ Y' /\ BFed h h' c Y Y' := by
 have hlim : 1000000 < lim := by unfold lim; omega
 have hlt := B.lt
 have hcl := C.clt
 rcases B with ⟨rfl, xs, qb, hits, S, rfl⟩ | ⟨rfl, xs, b, hits, RR, rfl⟩ | ⟨rfl, ts, hits, S, rfl⟩
 · have hxs : st.1.map Prod.fst = xs := by rw [hits, jy]
   have hxl : xs.length <= m := by rw [hits, Yq] at room; exact room
   have hsc : c ≠ s := fun e => cY (by simp [e])
   have hcq : qb ≠ some c := fun e => cY (by simp [e])
   have hsb : ∀ b, cb = some b -> b ≠ s /\ qb ≠ some b := fun b hb => ⟨fun e => cbY b hb (by simp [e]), fun e => cbY b hb (by simp [e])⟩
   simp only [jD, hxs, if_true]
   have hrl := zeR m os xs hxl
   cases pl with
   | false =>
     obtain ⟨h', qb', T, e, c1, c2, c3, c4, c5⟩ := zcZ (n + 1) S os osb hxl (by omega) (by omega) (by omega) (fun b hb => hlt b (by simp [hb]))
     refine ⟨h', s :: qb'.toList, T, ?_, ⟨true, c1⟩, .inl ⟨rfl, _, qb', rfl, c4, rfl⟩, C.keep (c5.old c hcl hsc hcq) (fun b hb => c5.old b (hb ▸ C).blt (hsb b hb).1 (hsb b hb).2), by rw [Yq]; exact hrl, c2, ?_, ⟨c5.len, fun i h1 h2 => c5.old i h1 (fun e => h2 (by simp [e])) (fun e => h2 (by simp [e])), ?_⟩⟩
     · show call (n + 6 + 1) 171 _ h = _
       rw [zhN]
       unfold zhM
       rw [e, zM, zy]
     · intro hT
       have := hlt s (by simp)
       rcases zK.1 hT with rfl | hT
       · omega
       · cases qb' with
         | none => simp at hT
         | some b => simp at hT; exact c3 (by rw [hT])
     · intro x hx
       rcases zK.1 hx with rfl | hx
       · exact .inl (by simp)
       · cases qb' with
         | none => simp at hx
         | some b =>
           simp at hx; subst hx
           rcases c5.own _ rfl with e | e
           · exact .inl (by simp [e])
           · exact .inr e
   | true =>
     obtain ⟨h', qb', e, c4, c5⟩ := zfU n s S os osb hk (by omega) (by omega)
     have hk' : ∀ j, j < h'.length -> (h' ++ [HB.row 35 2 ((Qx (m : Int) os xs).1.map R.w) true])[j]? = h'[j]? := fun j hj => zk hj
     have hql : ∀ b, qb' = some b -> b < h'.length := fun b hb => by
      rw [hb] at c4
      obtain ⟨_, l, z, _, k3, _⟩ := c4
      exact zT k3
     have hsl' : s < h'.length := by have := hlt s (by simp); have := c5.len; omega
     have hlen := c5.len
     refine ⟨h' ++ [HB.row 35 2 ((Qx (m : Int) os xs).1.map R.w) true], s :: qb'.toList, h'.length, ?_, ⟨true, zr⟩, .inl ⟨rfl, _, qb', rfl, c4.keep (hk' s hsl') (fun b hb => hk' b (hql b hb)), rfl⟩, C.keep ((hk' c (by omega)).trans (c5.old c hcl hsc hcq)) (fun b hb => (hk' b (by have := (hb ▸ C).blt; omega)).trans (c5.old b (hb ▸ C).blt (hsb b hb).1 (hsb b hb).2)), by rw [Yq]; exact hrl, hlen, ?_, ⟨by simp; omega, fun i h1 h2 => (hk' i (by omega)).trans (c5.old i h1 (fun e => h2 (by simp [e])) (fun e => h2 (by simp [e]))), ?_⟩⟩
     · show call (n + 6 + 1) 173 _ h = _
       rw [zhP]
       unfold zhO
       rw [e, zM, zy]
     · intro hT
       rcases zK.1 hT with hT | hT
       · omega
       · cases qb' with
         | none => simp at hT
         | some b => simp at hT; have := hql b rfl; omega
     · intro x hx
       rcases zK.1 hx with rfl | hx
       · exact .inl (by simp)
       · cases qb' with
         | none => simp at hx
         | some b =>
           simp at hx; subst hx
           rcases c5.own _ rfl with e | e
           · exact .inl (by simp [e])
           · exact .inr e
 · have hxs : st.1.map Prod.fst = xs := by rw [hits, jy]
   have hxl : xs.length <= m := by rw [hits, Yq] at room; exact room
   have hsc : c ≠ s := fun e => cY (by simp [e])
   have hcq : c ≠ b := fun e => cY (by simp [e])
   have hsb : ∀ x, cb = some x -> x ≠ s /\ x ≠ b := fun x hb => ⟨fun e => cbY x hb (by simp [e]), fun e => cbY x hb (by simp [e])⟩
   have hsl := hlt s (by simp)
   have hbl := hlt b (by simp)
   simp only [jD, hxs, if_neg (show ¬ (2 = 1) by decide), if_true]
   have hrl := zeS m os xs hxl
   cases pl with
   | false =>
     obtain ⟨h', T, e, c1, c2, c4, c5, c6⟩ := zc0 (n + 1) RR os osb (by omega) (by omega) (by omega)
     refine ⟨h', [s, b], T, ?_, ⟨true, c1⟩, .inr (.inl ⟨rfl, _, b, rfl, c4, rfl⟩), C.keep (c6 c hcl hsc hcq) (fun x hb => c6 x (hb ▸ C).blt (hsb x hb).1 (hsb x hb).2), by rw [Yq]; exact hrl, c2, ?_, ⟨c5, fun i h1 h2 => c6 i h1 (fun e => h2 (by simp [e])) (fun e => h2 (by simp [e])), fun x hx => .inl hx⟩⟩
     · show call (n + 6 + 1) 196 _ h = _
       rw [zhR]
       unfold zhQ
       rw [e, zM, zy]
     · simp; omega
   | true =>
     obtain ⟨h', e, c4, c5⟩ := zgg (n + 2) s RR (by omega) os osb (by omega) (by omega)
     have hlen := c5.len
     have hk' : ∀ j, j < h'.length -> (h' ++ [HB.row 35 2 ((QM (m : Int) os xs).1.map R.w) true])[j]? = h'[j]? := fun j hj => zk hj
     refine ⟨h' ++ [HB.row 35 2 ((QM (m : Int) os xs).1.map R.w) true], [s, b], h'.length, ?_, ⟨true, zr⟩, .inr (.inl ⟨rfl, _, b, rfl, c4.keep (hk' s (by omega)) (hk' b (by omega)), rfl⟩), C.keep ((hk' c (by omega)).trans (c5.old c hsc hcq)) (fun x hb => (hk' x (by have := (hb ▸ C).blt; omega)).trans (c5.old x (hsb x hb).1 (hsb x hb).2)), by rw [Yq]; exact hrl, by omega, ?_, ⟨by simp; omega, fun i h1 h2 => (hk' i (by omega)).trans (c5.old i (fun e => h2 (by simp [e])) (fun e => h2 (by simp [e]))), fun x hx => .inl hx⟩⟩
     · show call (n + 6 + 1) 198 _ h = _
       rw [zhT]
       unfold zhS
       rw [e, zM, zy]
     · simp; omega
 · have hst : st = (itT ts, st.2) := by rw [<- hits]
   have htl : ts.length <= m := by rw [hits] at room; simpa [itT] using room
   simp only [jD, if_neg (show ¬ (3 = 1) by decide), if_neg (show ¬ (3 = 2) by decide)]
   have fin : ∀ (h' : zd) (ts' : List Tw) (bits' : List Bool) (tb : Nat) (told' : List R), Did h h' s ts ts' (m : Int) c cb bits' tb told' -> YP os (m : Int) (itT ts, st.2) = ((itT ts', bits'), told') -> RowR h' tb (YP os (m : Int) st).2 /\ BodAt 3 h' s (skB s ts') m (YP os (m : Int) st).1.1 /\ BitsAt h' c cb (YP os (m : Int) st).1.2 /\ (YP os (m : Int) st).1.1.length <= m /\ h.length <= tb /\ tb ∉ skB s ts' /\ BFed h h' c (skB s ts) (skB s ts') := by
    intro h' ts' bits' tb told' D hd
    rw [hst, hd]
    refine ⟨D.tl, .inr (.inr ⟨rfl, ts', rfl, D.sk, rfl⟩), D.bt, ?_, D.tb, ?_, ⟨D.frm.len, fun i h1 h2 => D.frm.old i h1 h2, fun x hx => ?_⟩⟩
    · have := D.room; simp [itT]; omega
    · intro hT
      obtain ⟨N, S'⟩ := D.sk
      unfold skB at hT
      rw [<- WA s (ts'.length : Int) (m : Int) ts'] at hT
      obtain ⟨x, hx, rfl⟩ := ZZ.1 hT
      have h1 := S'.rep.at_ x hx
      obtain ⟨z, hz⟩ := D.tl
      unfold K7 at h1
      rw [hz] at h1
      cases h1
    · rcases D.new x hx with e | e
      · exact .inl e
      · exact .inr e
   cases pl with
   | false =>
     obtain ⟨h', ts', bits', tb, told', e, D, hd⟩ := zdM (n + 2) os osb S C cY cbY (by omega) (by omega) (by omega) (by omega)
     refine ⟨h', skB s ts', tb, ?_, fin h' ts' bits' tb told' D hd⟩
     show call (n + 6 + 1) 219 _ h = _
     rw [zhV]
     unfold zhU
     rw [e, zM, zy]
   | true =>
     obtain ⟨h', ts', bits', tb, told', e, D, hd⟩ := zjY (n + 2) os osb S C cY cbY (by omega) (by omega) (by omega)
     refine ⟨h', skB s ts', tb, ?_, fin h' ts' bits' tb told' D hd⟩
     show call (n + 6 + 1) 221 _ h = _
     rw [zhX]
     unfold zhW
     rw [e, zM, zy]
end Go.Proofs.Tryz
namespace Go.Proofs.Tryz
open Go.L Go.Rp Go.Sk
set_option maxRecDepth 100000
theorem Yr (h : zd) (c : Nat) : QA prog h .eql 25 (V.ptr c 0) (V.val (.pointer none)) = some (.bool false) := by kernel_rfl
theorem BodAt.kind {k : Nat} {h : zd} {s : Nat} {Y : List Nat} {m : Nat} {its : List (Int × Nat)} (B : BodAt k h s Y m its) : k = 1 \/ k = 2 \/ k = 3 := by
 rcases B with ⟨h, _⟩ | ⟨h, _⟩ | ⟨h, _⟩ <;> omega
def ziJ (k : Nat) : Nat := if k = 1 then 112 else if k = 2 then 116 else 120
theorem zdg {k : Nat} (hk : k = 1 \/ k = 2 \/ k = 3) (s : Nat) : Qw prog (ziJ k) (.agg [.ptr s 0]) "reaper/object.plain" = some (zdO k true, .agg [.ptr s 0]) := by
 rcases hk with rfl | rfl | rfl
 · show Qw prog 112 (.agg [.ptr s 0]) "reaper/object.plain" = some (173, .agg [.ptr s 0]); kernel_rfl
 · show Qw prog 116 (.agg [.ptr s 0]) "reaper/object.plain" = some (198, .agg [.ptr s 0]); kernel_rfl
 · show Qw prog 120 (.agg [.ptr s 0]) "reaper/object.plain" = some (221, .agg [.ptr s 0]); kernel_rfl
theorem zdh {k : Nat} (hk : k = 1 \/ k = 2 \/ k = 3) (s : Nat) : Qw prog (ziJ k) (.agg [.ptr s 0]) "reaper/object.batch" = some (zdO k false, .agg [.ptr s 0]) := by
 rcases hk with rfl | rfl | rfl
 · show Qw prog 112 (.agg [.ptr s 0]) "reaper/object.batch" = some (171, .agg [.ptr s 0]); kernel_rfl
 · show Qw prog 116 (.agg [.ptr s 0]) "reaper/object.batch" = some (196, .agg [.ptr s 0]); kernel_rfl
 · show Qw prog 120 (.agg [.ptr s 0]) "reaper/object.batch" = some (219, .agg [.ptr s 0]); kernel_rfl
theorem zbU {k : Nat} (hk : k = 1 \/ k = 2 \/ k = 3) (pl : Bool) : Qf (zdO k pl) = true /\ okV prog 28 (zdO k pl) = true := by
 rcases hk with rfl | rfl | rfl <;> cases pl
 · show Qf 171 = true /\ okV prog 28 171 = true; exact ⟨by kernel_rfl, by kernel_rfl⟩
 · show Qf 173 = true /\ okV prog 28 173 = true; exact ⟨by kernel_rfl, by kernel_rfl⟩
 · show Qf 196 = true /\ okV prog 28 196 = true; exact ⟨by kernel_rfl, by kernel_rfl⟩
 · show Qf 198 = true /\ okV prog 28 198 = true; exact ⟨by kernel_rfl, by kernel_rfl⟩
 · show Qf 219 = true /\ okV prog 28 219 = true; exact ⟨by kernel_rfl, by kernel_rfl⟩
 · show Qf 221 = true /\ okV prog 28 221 = true; exact ⟨by kernel_rfl, by kernel_rfl⟩
theorem zj5 (n : Nat) {k : Nat} {h : zd} {o s c : Nat} {cb : Option Nat} {Y : List Nat} {m : Nat} {pl : Bool} {st : St} (A : ObAt k h o s c cb Y m pl st) (os : List O) (osb : Bool) (hk : ∀ o ∈ os, 0 <= o.k /\ o.k < 256) (hos : os.length <= 1000) (hn : 2 * os.length + m + 100 <= n) :
    ∃ h' Y' T, call (n + 8) 17 [.ptr o 0, .sl 2 (os.map O.w) osb] h = some (.ret [.row T 2 0 os.length], h') /\ RowR h' T (jD k m os st).2 /\ ObAt k h' o s c cb Y' m pl (jD k m os st).1 /\ h.length <= T /\ T ∉ obB o c cb Y' /\ XFed h h' (obB o c cb Y) (obB o c cb Y') := by
 have hkk := A.body.kind
 obtain ⟨h', Y', T, e, b1, b2, b3, b4, b5, b6, b7⟩ := zor n pl A.body A.bits A.room A.most A.cY A.cbY os osb hk hos hn
 have hol := zT A.box
 have hA := A.lt
 have oX : o ∉ c :: Y := by
  intro ho
  rcases zK.1 ho with e | e
  · exact A.oc e
  · exact A.oY e
 have hcl := A.bits.clt
 refine ⟨h', Y', T, ?_, b1, ⟨(b7.old o hol oX).trans A.box, b3, b2, b4, A.most, A.oc, A.ocb, ?_, ?_, ?_⟩, b5, ?_, ⟨b7.len, fun i h1 h2 => b7.old i h1 (fun hm => h2 ?_), fun x hx => ?_⟩⟩
 · rw [show n + 8 = (n + 7) + 1 from rfl, znH]
   unfold zpR
   rw [Yr, za, zm, if_neg (by decide), zC A.box, zn, if_pos (by decide)]
   simp only [zb, zi, za]
   rw [zm]
   cases pl with
   | true =>
     rw [if_pos rfl, zC A.box, zn, if_pos (by decide)]
     simp only [zb, zi, za]
     rw [zC A.box, zn, if_pos (by decide)]
     simp only [zb, zi, za]
     rw [if_pos (by rfl)]
     show bd2 (Qw prog (ziJ k) (.agg [.ptr s 0]) "reaper/object.plain") _ = _
     rw [zdg hkk, Zj, if_pos (zbU hkk true)]
     show clH (call (n + 7) (zdO k true) [.agg [.ptr s 0], .ptr c 0, .sl 2 (os.map O.w) osb] h) _ = _
     rw [e]
     rfl
   | false =>
     rw [if_neg (by decide), zC A.box, zn, if_pos (by decide)]
     simp only [zb, zi, za]
     rw [zC A.box, zn, if_pos (by decide)]
     simp only [zb, zi, za]
     rw [if_pos (by rfl)]
     show bd2 (Qw prog (ziJ k) (.agg [.ptr s 0]) "reaper/object.batch") _ = _
     rw [zdh hkk, Zj, if_pos (zbU hkk false)]
     show clH (call (n + 7) (zdO k false) [.agg [.ptr s 0], .ptr c 0, .sl 2 (os.map O.w) osb] h) _ = _
     rw [e]
     rfl
 · intro hy
   rcases b7.new o hy with e1 | e1
   · exact A.oY e1
   · omega
 · intro hy
   rcases b7.new c hy with e1 | e1
   · exact A.cY e1
   · omega
 · intro b hb hy
   rcases b7.new b hy with e1 | e1
   · exact A.cbY b hb e1
   · have := (hb ▸ A.bits).blt; omega
 · intro hT
   simp only [obB, zK, Zr] at hT
   rcases hT with e1 | e1 | e1 | e1
   · omega
   · omega
   · cases cb with
     | none => simp at e1
     | some b => simp at e1; have := A.bits.blt; omega
   · exact b6 e1
 · rcases zK.1 hm with e1 | e1
   · simp [obB, e1]
   · simp [obB, e1]
 · simp only [obB, zK, Zr] at hx ⊢
   rcases hx with e1 | e1 | e1 | e1
   · exact .inl (.inl e1)
   · exact .inl (.inr (.inl e1))
   · exact .inl (.inr (.inr (.inl e1)))
   · rcases b7.new x e1 with e2 | e2
     · exact .inl (.inr (.inr (.inr e2)))
     · exact .inr e2
def SlJ (h : zd) (lo : Nat) (r : V) (l : List Int) : Prop := SlI h lo r l \/ r = .sl 1 (l.map (XL .i32)) false
theorem SlJ.sees {h : zd} {lo : Nat} {r : V} {l : List Int} (s : SlJ h lo r l) : zdN h r l := by
 rcases s with s | rfl
 · exact s.sees
 · exact ⟨⟨1, XD ..⟩, fun i x hx => ⟨_, XU (es := XL .i32 x) (by rw [zJ, hx]; rfl) false, Z1 ..⟩⟩
theorem zqZ {ts : List Tw} (hh : ∀ t ∈ ts, 1 <= t.ht) : lvV 0 ts = (itT ts).map Prod.fst := by
 unfold lvV itT
 rw [List.map_map, Xi.2 (fun t ht => by have := hh t ht; simp; omega)]
 rfl
theorem zj6 {k : Nat} (hk : k = 1 \/ k = 2 \/ k = 3) (s : Nat) : Qw prog (ziJ k) (.agg [.ptr s 0]) "Items" = some (if k = 1 then 168 else if k = 2 then 191 else 217, .ptr s 0) := by
 rcases hk with rfl | rfl | rfl
 · show Qw prog 112 (.agg [.ptr s 0]) "Items" = some (168, .ptr s 0); kernel_rfl
 · show Qw prog 116 (.agg [.ptr s 0]) "Items" = some (191, .ptr s 0); kernel_rfl
 · show Qw prog 120 (.agg [.ptr s 0]) "Items" = some (217, .ptr s 0); kernel_rfl
theorem zos {k : Nat} (hk : k = 1 \/ k = 2 \/ k = 3) : Qf (if k = 1 then 168 else if k = 2 then 191 else 217) = true /\ okV prog 27 (if k = 1 then 168 else if k = 2 then 191 else 217) = true := by
 rcases hk with rfl | rfl | rfl
 · show Qf 168 = true /\ okV prog 27 168 = true; exact ⟨by kernel_rfl, by kernel_rfl⟩
 · show Qf 191 = true /\ okV prog 27 191 = true; exact ⟨by kernel_rfl, by kernel_rfl⟩
 · show Qf 217 = true /\ okV prog 27 217 = true; exact ⟨by kernel_rfl, by kernel_rfl⟩
theorem zdi (n : Nat) {k : Nat} {h : zd} {s : Nat} {Y : List Nat} {m : Nat} {its : List (Int × Nat)} (B : BodAt k h s Y m its) (room : its.length <= m) (hm : m <= 1000) (hn : m + 10 < n) :
    ∃ h' r, call (n + 3) (if k = 1 then 168 else if k = 2 then 191 else 217) [.ptr s 0] h = some (.ret [r], h') /\ SlJ h' h.length r (its.map Prod.fst) /\ h.length <= h'.length /\ ∀ i, i < h.length -> h'[i]? = h[i]? := by
 have hlim : 1000000 < lim := by unfold lim; omega
 rcases B with ⟨rfl, xs, qb, rfl, S, rfl⟩ | ⟨rfl, xs, b, rfl, RR, rfl⟩ | ⟨rfl, ts, rfl, ⟨N, S⟩, rfl⟩
 · rw [Yq] at room
   rw [jy]
   exact ⟨h, _, zcK (n + 2) S (by omega), .inr rfl, zl _, fun _ _ => rfl⟩
 · rw [Yq] at room
   rw [jy]
   obtain ⟨h', r, z, e, b1, b2, b3, b4⟩ := zc7 n RR (by omega) (by omega)
   exact ⟨h', _, e, .inl (.inr ⟨r, z, b2, rfl, b1⟩), b3, b4⟩
 · rw [Q8] at room
   obtain ⟨h', r, e, b1, b2, b3⟩ := zjR n S (by omega) (by omega)
   rw [zqZ (fun t ht => (S.ht t ht).1)] at b1
   exact ⟨h', r, e, .inl b1, b2, b3⟩
theorem zdP (n : Nat) {k : Nat} {h : zd} {o s c : Nat} {cb : Option Nat} {Y : List Nat} {m : Nat} {pl : Bool} {st : St} (A : ObAt k h o s c cb Y m pl st) (hn : m + 10 < n) :
    ∃ h' r, call (n + 4) 20 [.ptr o 0] h = some (.ret [r], h') /\ SlJ h' h.length r (st.1.map Prod.fst) /\ h.length <= h'.length /\ ∀ i, i < h.length -> h'[i]? = h[i]? := by
 have hkk := A.body.kind
 obtain ⟨h', r, e, b1, b2, b3⟩ := zdi n A.body A.room A.most hn
 refine ⟨h', r, ?_, b1, b2, b3⟩
 rw [show n + 4 = (n + 3) + 1 from rfl, zhL]
 unfold zhK
 rw [Yr, za, zm, if_neg (by decide), zC A.box, zn, if_pos (by decide)]
 simp only [zb, zi, za]
 show bd2 (Qw prog (ziJ k) (.agg [.ptr s 0]) "Items") _ = _
 rw [zj6 hkk, Zj, if_pos (zos hkk)]
 show cl (call (n + 3) _ [.ptr s 0] h) _ _ = _
 rw [e, zM, zy]
def zpt : List (V × V) := [(.int .u8 1, .fn 56 []), (.int .u8 2, .fn 58 []), (.int .u8 3, .fn 60 [])]
noncomputable def zad (n F : Nat) (m : Int) (p : Bool) (h : zd) : Option (Res × zd) :=
 (cl (call n F [(V.int .i64 m)] h) (fun r16 h17 =>
 (Zs r16 fun v19 =>
 (cl (call n 62 [] h17) (fun r20 h21 =>
 (Zs r20 fun v23 =>
 (bd (QB prog 125 [(0, v19), (1, v23), (2, (V.bool p))]) fun cs24 =>
 (if (cs24).length = 3 then
 some (Res.ret [(V.ptr (h21).length 0)], (h21 ++ [(HB.box 3 cs24)])) else none)))) (fun z22 h21 => some (Res.pan z22, h21))))) (fun z18 h17 => some (Res.pan z18, h17)))
theorem zot (n : Nat) (m : Int) (p : Bool) : call (n + 1) 15 [.int .u8 1, .int .i64 m, .bool p] [] = zad n 56 m p [.map zpt] := by kernel_rfl
theorem zou (n : Nat) (m : Int) (p : Bool) : call (n + 1) 15 [.int .u8 2, .int .i64 m, .bool p] [] = zad n 58 m p [.map zpt] := by kernel_rfl
theorem zov (n : Nat) (m : Int) (p : Bool) : call (n + 1) 15 [.int .u8 3, .int .i64 m, .bool p] [] = zad n 60 m p [.map zpt] := by kernel_rfl
def jf (m : Int) : Nat := (if 0 < (if 1000 < m then 1000 else m) then (if 1000 < m then 1000 else m) else 0).toNat
theorem zlb (m : Int) : (if 0 < (if 1000 < m then 1000 else m) then (if 1000 < m then 1000 else m) else 0) = ((jf m : Nat) : Int) := by
 unfold jf
 (repeat' split) <;> omega
theorem zlc (m : Int) : jf m <= 1000 := by
 unfold jf
 (repeat' split) <;> omega
theorem zow (m : Int) : max 0 (min m 1000) = ((jf m : Nat) : Int) := by
 unfold jf
 (repeat' split) <;> omega
theorem zgh (n : Nat) (h : zd) (m : Int) : call (n + 1) 57 [.int .i64 m] h = some (.ret [.ptr h.length 0], h ++ [.box 2 [.sl 0 [] true, .int .i64 (jf m : Int)]]) := by
 rw [zlN, <- zlb]
 rfl
theorem zgi (n : Nat) (h : zd) (m : Int) : call (n + 1) 59 [.int .i64 m] h = some (.ret [.ptr (h.length + 1) 0], h ++ [.row 21 1 (List.replicate (jf m) [.int .i32 0]) true, .box 3 [.row h.length 1 0 (jf m), .int .i64 0, .int .i64 0]]) := by
 have hc := zlc m
 rw [zlW]
 unfold znv
 rw [zlb, Zh, zx, zx, if_pos ⟨zl _, by unfold lim; omega, by first | trivial | rfl⟩]
 simp
def zq0 (k : Nat) : Nat := if k = 1 then 56 else if k = 2 then 58 else 60
theorem zqr (v : V) (s : Nat) : QB prog 112 [(0, .ptr s 0)] = some [.ptr s 0] := by kernel_rfl
theorem zqs (s : Nat) : QB prog 116 [(0, .ptr s 0)] = some [.ptr s 0] := by kernel_rfl
theorem zqt (s : Nat) : QB prog 120 [(0, .ptr s 0)] = some [.ptr s 0] := by kernel_rfl
theorem zqu (t : Nat) (v : V) (c : Nat) (p : Bool) : QB prog 125 [(0, .iface t v), (1, .ptr c 0), (2, .bool p)] = some [.iface t v, .ptr c 0, .bool p] := by kernel_rfl
theorem zpu (n : Nat) {k : Nat} (hk : k = 1 \/ k = 2 \/ k = 3) (m : Int) (g : zd) : ∃ g' s Y, call (n + 2) (zq0 k) [.int .i64 m] g = some (.ret [zoq k s], g') /\ BodAt k g' s Y (jf m) [] /\ g.length <= g'.length /\ (∀ i, i < g.length -> g'[i]? = g[i]?) /\ ∀ y ∈ Y, g.length <= y := by
 rcases hk with rfl | rfl | rfl
 · refine ⟨_, _, [g.length], ?_, .inl ⟨rfl, [], none, rfl, ⟨rfl, zr⟩, rfl⟩, by simp, fun i hi => zk hi, by simp⟩
   show call (n + 1 + 1) 56 [.int .i64 m] g = _
   rw [zjF]
   unfold zkP
   rw [zgh, zM, zy, zqr (.bool true), za]
   rfl
 · refine ⟨g ++ [.row 21 1 (List.replicate (jf m) [.int .i32 0]) true, .box 3 [.row g.length 1 0 (jf m), .int .i64 0, .int .i64 0]], g.length + 1, [g.length + 1, g.length], ?_, .inr (.inl ⟨rfl, [], g.length, rfl, ⟨by omega, List.replicate (jf m) [.int .i32 0], true, 0, ?_, ?_, by simp, ?_, by simp, by simp, ?_⟩, rfl⟩), by simp, fun i hi => zk hi, by simp⟩
   · show call (n + 1 + 1) 58 [.int .i64 m] g = _
     rw [zjG]
     unfold zkQ
     rw [zgi, zM, zy, zqs, za]
     rfl
   · rw [zD (by omega), Xl]; rfl
   · rw [zD (by omega), X9]; rfl
   · omega
   · intro es hes; rw [(List.mem_replicate.1 hes).2]; rfl
 · obtain ⟨N, e, S⟩ := zn1 n g m
   rw [zow] at e S
   refine ⟨_, g.length, [g.length], ?_, .inr (.inr ⟨rfl, [], rfl, ⟨N, S⟩, rfl⟩), by simp, fun i hi => zk hi, by simp⟩
   show call (n + 1 + 1) 60 [.int .i64 m] g = _
   rw [zjH]
   unfold zkR
   rw [e, zM, zy, zqt, za]
   rfl
theorem zpv (n : Nat) {k : Nat} (hk : k = 1 \/ k = 2 \/ k = 3) (m : Int) (pl : Bool) (g : zd) : ∃ h' o s c Y, zad (n + 2) (zq0 k) m pl g = some (.ret [.ptr o 0], h') /\ ObAt k h' o s c none Y (jf m) pl ([], []) /\ g.length <= h'.length /\ (∀ i, i < g.length -> h'[i]? = g[i]?) /\ ∀ x ∈ obB o c none Y, g.length <= x := by
 obtain ⟨g', s, Y, e, B, b1, b2, b3⟩ := zpu n hk m g
 have hY := B.lt
 have k1 : ∀ i, i < g'.length -> ((g' ++ [HB.box 1 [V.sl 0 [] true]]) ++ [HB.box 3 [zoq k s, .ptr g'.length 0, .bool pl]])[i]? = g'[i]? := fun i hi => by
  rw [zk (by simp; omega), zk hi]
 refine ⟨(g' ++ [HB.box 1 [V.sl 0 [] true]]) ++ [HB.box 3 [zoq k s, .ptr g'.length 0, .bool pl]], g'.length + 1, s, g'.length, Y, ?_, ⟨?_, ⟨rfl, ?_⟩, B.keep (fun y hy => k1 y (hY y hy)), Ze _, zlc m, by omega, by simp, fun hy => by have := hY _ hy; omega, fun hy => by have := hY _ hy; omega, by simp⟩, by simp; omega, fun i hi => (k1 i (by omega)).trans (b2 i hi), ?_⟩
 · unfold zad
   rw [e, zM, zy, zdx, zM, zy]
   unfold zoq
   rw [zqu, za, if_pos (by rfl)]
   simp
 · rw [zD (by simp)]; simp
 · rw [zk (by simp), zr]
 · intro x hx
   simp only [obB, zK, Zr, Option.toList_none, List.not_mem_nil, false_or] at hx
   rcases hx with e1 | e1 | e1
   · omega
   · omega
   · exact b3 x e1
theorem ziK (n : Nat) {k : Nat} (hk : k = 1 \/ k = 2 \/ k = 3) (m : Int) (pl : Bool) : ∃ h' o s c Y, call (n + 3) 15 [.int .u8 (k : Int), .int .i64 m, .bool pl] [] = some (.ret [.ptr o 0], h') /\ ObAt k h' o s c none Y (jf m) pl ([], []) := by
 obtain ⟨h', o, s, c, Y, e, A, _⟩ := zpv n hk m pl [.map zpt]
 refine ⟨h', o, s, c, Y, ?_, A⟩
 rw [<- e]
 rcases hk with rfl | rfl | rfl
 · exact zot (n + 2) m pl
 · exact zou (n + 2) m pl
 · exact zov (n + 2) m pl
end Go.Proofs.Tryz
namespace Go.Proofs.Tryz
open Go.L Go.Rp Go.Sk
set_option maxRecDepth 100000
theorem zj7 (n : Nat) (h : zd) : call (n + 10) 240 [.sl 1 [] false, .fn 241 [.iptr 1 [.fn 235 []] 0, .iptr 1 [.sl 0 [] true] 0]] h = some (.ret [.sl 1 [] false], h) := by kernel_rfl
theorem zox (n : Nat) {h : zd} {b : Nat} (hb : h[b]? = some (.row 3 1 [] true)) : call (n + 11) 234 [.sl 0 [] true, .row b 1 0 0, .fn 235 []] h = some (.ret [.row b 1 0 0], (h.set b .dead).set b (.row 3 1 [] true)) := by
 refine (zlM (n + 10) b 0 h).trans ?_
 unfold zni
 rw [hb]
 simp only [rwT]
 rw [if_pos (by refine ⟨⟨?_, ?_, ?_⟩, ?_, ?_⟩ <;> first | trivial | rfl), zj7]
 simp only [clr]
 rw [if_pos (And.intro (by first | trivial | rfl) (by first | trivial | rfl))]
theorem zae (n : Nat) (h : zd) : call (n + 12) 225 [.sl 0 [] true] h = some (.ret [.row h.length 1 0 0, .row (h.length + 1) 1 0 0], Xf h []) := by
 refine (zjm (n + 11) h).trans ?_
 unfold zkB
 rw [zH]
 have hb := zox n (h := h ++ [.row 3 1 [] true]) (b := h.length) zr
 have hset : ((h ++ [HB.row 3 1 [] true]).set h.length .dead).set h.length (.row 3 1 [] true) = h ++ [.row 3 1 [] true] := by
  rw [List.set_set, Zv _ _ (zl _), X9]; rfl
 rw [hset] at hb
 unfold zcz
 simp only [gv, zf, zh, zw, za, zm]
 rw [if_neg (by simp)]
 simp only [lsl, zG]
 rw [hb, zM, zy]
 have hsp : Xa [] = [] := zU.1 ((YO []).trans rfl)
 simp [Xf, hsp, Xn, QN, iL]
theorem ziL (n : Nat) {h : zd} {s : Nat} {ts : List Tw} {most : Int} {c : Nat} {cb : Option Nat} {bits : List Bool} (S : ∃ N, SkAt h s ts most N) (B : BitsAt h c cb bits) (nc : c ∉ skB s ts) (ncb : ∀ b, cb = some b -> b ∉ skB s ts) (hroom : (ts.length : Int) <= most) (hmost : most <= 1000) (hl : ts.length + 100 < lim) (hn : ts.length + 50 <= n) :
    ∃ h' ts' tb, call (n + 4) 222 [.ptr s 0, .ptr c 0, .sl 0 [] true] h = some (.ret [.row tb 2 0 0], h') /\ Did h h' s ts ts' most c cb bits tb [] /\ itT ts' = itT ts := by
 have E0 : Env (Xf h []) s ts most c cb bits h.length [] (h.length + 1) [] := zdf [] S B nc ncb
 have hlf : (Xf h []).length = h.length + 2 := by simp [Xf]
 have E2 := E0.push [.row 21 1 [] true, .row 3 1 [] true]
 have hrow1 : RowI (Xf h [] ++ [HB.row 21 1 [] true, HB.row 3 1 [] true]) (Xf h []).length .i32 21 [] := ⟨true, by rw [zD (zl _), X9]; rfl⟩
 have hrow2 : RowI (Xf h [] ++ [HB.row 21 1 [] true, HB.row 3 1 [] true]) ((Xf h []).length + 1) .i64 3 [] := ⟨true, by rw [zD (by omega), Xl]; rfl⟩
 obtain ⟨N1, S1⟩ := E0.sk
 obtain ⟨h2, ts2, tb2, e2, G2, I2⟩ := zc6 n E2.sk (Xf h []).length ((Xf h []).length + 1) [] [] rfl .nil hrow1 hrow2 (fun hm => by have := S1.lt _ hm; omega) (fun hm => by have := S1.lt _ hm; omega) (by simpa using hroom) (by simp; omega) (by simp; omega)
 have I3 : itT ts2 = itT ts := I2
 have hlen2 : ts2.length = ts.length := by have := congrArg List.length I3; rwa [Q8, Q8] at this
 have E3 := E2.grew G2
 have E4 := E3.push [.row 35 2 [] true]
 have hF : Frm h h2 (c :: skB s ts) := by
  have a : Frm h (Xf h []) (c :: skB s ts) := Frm.push h _ _
  have c' : Frm (Xf h []) (Xf h [] ++ [HB.row 21 1 [] true, HB.row 3 1 [] true]) [] := Frm.push _ _ _
  exact ((a.trans c' fun y hy => by cases hy).trans G2.frm fun y hy => .inl (zp _ hy))
 refine ⟨h2 ++ [.row 35 2 [] true], ts2, h2.length, ?_, ⟨E4.sk, E4.bt, ⟨true, zr⟩, hF.len, hF.trans (Frm.push h2 _ []) fun y hy => (by cases hy), fun b hb => (G2.new b hb).imp id fun hh => (by rw [zF, hlf] at hh; omega), by rw [hlen2]; exact hroom⟩, I3⟩
 refine (zfy (n + 3) s c h).trans ?_
 unfold zeq
 have f0 : nv (V.int .i64 0) = some 0 := Zh _ _
 have hpc : call (n + 3) 225 [.sl 0 [] true] h = some (.ret [.row h.length 1 0 0, .row (h.length + 1) 1 0 0], Xf h []) := by
  obtain ⟨m, rfl⟩ : ∃ m, n = m + 9 := ⟨n - 9, by omega⟩
  exact zae m h
 have hm1 := zaE (n + 2) S1
 have hl1 := K8 (n + 2) S1
 have hsub : IntKind.i64.wrap (most - (ts.length : Int)) = most - (ts.length : Int) := by rw [w64] <;> omega
 have hs0 : ZW 1 0 0 none true (.row h.length 1 0 0) = some (.row h.length 1 0 0) := by simpa using Jd (r := h.length) (sz := 1) (u := 0) (v := 0) (Ze 0) (by omega) true
 have hc0 : ZN (Xf h []) (.row h.length 1 0 0) = some (1, []) := E0.r1.slc
 have hc3 : ZN h2 (.row h.length 1 0 0) = some (1, []) := E3.r1.slc
 have hc4 : ZN (h2 ++ [.row 35 2 [] true]) (.row (h.length + 1) 1 0 0) = some (1, []) := E4.r2.slc
 have hmin : (if most - (ts.length : Int) < (0 : Int) then most - (ts.length : Int) else (0 : Int)) = 0 := if_neg (by omega)
 have key1 : ∀ next, Yv (n + 3) s c (.row h.length 1 0 0) (.row (h.length + 1) 1 0 0) (.int .i64 0) (.row h.length 1 0 0) (1, []) [.sl 2 [] false, .sl 2 [] false, .sl 1 [] false, .sl 1 [] false, .bool false, .int .i64 0] (Xf h []) next = zY (n + 3) (Wg (n + 3) s (.row (h.length + 1) 1 0 0) (.row h.length 1 0 0) (1, [])) [.sl 2 [] false, .sl 2 [] false, .bool false, .int .i64 0] h2 := by
  intro next
  unfold Yv
  simp only [gv, zf, zh, zG, zw, za, zm]
  rw [if_neg (by simp)]
  simp only [lsl, zG]
  rw [show (Xf h [] ++ [HB.row 21 1 [] true]).length = (Xf h []).length + 1 by simp, List.append_assoc]
  rw [show ([HB.row 21 1 [] true] ++ [HB.row 3 1 [] true]) = [HB.row 21 1 [] true, HB.row 3 1 [] true] from rfl]
  rw [show call (n + 3) 228 [.ptr s 0, .row (Xf h []).length 1 0 0, .row ((Xf h []).length + 1) 1 0 0] (Xf h [] ++ [HB.row 21 1 [] true, HB.row 3 1 [] true]) = _ from e2, zM, zy, JV, za, f0, zx, Nat.sub_zero, hs0, za, hc3, za]
 have key2 : ∀ next, Wg (n + 3) s (.row (h.length + 1) 1 0 0) (.row h.length 1 0 0) (1, []) [.sl 2 [] false, .sl 2 [] false, .bool false, .int .i64 0] h2 next = some (.ret [.row h2.length 2 0 0], h2 ++ [.row 35 2 [] true]) := by
  intro next
  unfold Wg
  simp only [gv, zf, zh, zG, zw, za, zm]
  rw [if_neg (by simp)]
  simp only [lsl, zG]
  have hr : call (n + 3) 229 [.ptr s 0, .sl 0 [] true, .row (h.length + 1) 1 0 0, .row h2.length 2 0 0] (h2 ++ [.row 35 2 [] true]) = some (.ret [.row h2.length 2 0 0], h2 ++ [.row 35 2 [] true]) := by
   refine (za8 (n + 2) s _ _ _).trans ?_
   unfold zcA
   rw [hc4, za, zH]
   unfold KX
   simp only [gv, zf, zh, zG, zw, za, zm]
   rw [if_neg (by simp)]
  rw [hr, zM, zy]
 rw [f0, zx, zx, if_pos (by first | exact ⟨rfl, by decide, rfl⟩ | exact ⟨zl _, by decide, by first | trivial | rfl⟩), hpc, zM]
 simp only [zb, zi, za]
 rw [hc0, za, hm1, zM, zy, hl1, zM, zy, ZK, za, hsub]
 simp only [zG, Ya, Km, za]
 rw [zol, za, show ((0 : Nat) : Int) = 0 from rfl, hmin, JV, za, f0, zx, hs0, za, hc0, za, Xj, zH, key1, zH, key2]
theorem ziM (n : Nat) {h : zd} {s : Nat} {ts : List Tw} {most : Int} {c : Nat} (S : ∃ N, SkAt h s ts most N) (hn : 50 <= n) :
    ∃ h' tb, call (n + 4) 224 [.ptr s 0, .ptr c 0, .sl 0 [] true] h = some (.ret [.row tb 2 0 0], h') /\ RowR h' tb [] := by
 have hlf : (Xf h []).length = h.length + 2 := by simp [Xf]
 have hpc : call (n + 3) 225 [.sl 0 [] true] h = some (.ret [.row h.length 1 0 0, .row (h.length + 1) 1 0 0], Xf h []) := by
  obtain ⟨m, rfl⟩ : ∃ m, n = m + 9 := ⟨n - 9, by omega⟩
  exact zae m h
 have hsp : Xa [] = [] := zU.1 ((YO []).trans rfl)
 have hp : Xf h [] = h ++ [HB.row 3 1 [] true, HB.row 3 1 [] true] := by simp [Xf, hsp, Xn, QN, iL]
 have hc0 : ZN (Xf h []) (.row h.length 1 0 0) = some (1, []) := by
  have : (Xf h [])[h.length]? = some (.row 3 1 [] true) := by rw [hp, zD (zl _), X9]; rfl
  simpa using Wr this
 have hc4 : ZN (Xf h [] ++ [.row 35 2 [] true]) (.row (h.length + 1) 1 0 0) = some (1, []) := by
  have : (Xf h [] ++ [HB.row 35 2 [] true])[h.length + 1]? = some (.row 3 1 [] true) := by
   rw [zk (by omega), hp, zD (by omega), Xl]; rfl
  simpa using Wr this
 refine ⟨Xf h [] ++ [.row 35 2 [] true], (Xf h []).length, ?_, ⟨true, zr⟩⟩
 refine (zfz (n + 3) s c h).trans ?_
 unfold zer
 have f0 : nv (V.int .i64 0) = some 0 := Zh _ _
 rw [f0, zx, zx, if_pos ⟨zl _, by decide, by first | trivial | rfl⟩, hpc, zM]
 simp only [zb, zi, za]
 rw [hc0, za, zH]
 unfold qK
 simp only [gv, zf, zh, zG]
 rw [zw, za, zm, if_neg (by simp)]
 simp only [lsl, Xj, zG]
 have hr : call (n + 3) 229 [.ptr s 0, .sl 0 [] true, .row (h.length + 1) 1 0 0, .row (Xf h []).length 2 0 0] (Xf h [] ++ [.row 35 2 [] true]) = some (.ret [.row (Xf h []).length 2 0 0], Xf h [] ++ [.row 35 2 [] true]) := by
  refine (za8 (n + 2) s _ _ _).trans ?_
  unfold zcA
  rw [hc4, za, zH]
  unfold KX
  simp only [gv, zf, zh, zG]
  rw [zw, za, zm, if_neg (by simp)]
 rw [hr, zM, zy]
theorem zj8 (n : Nat) (s : Nat) (h : zd) : call (n + 2) 176 [.bf 177 [.ptr s 0], .sl 0 [] true] h = some (.ret [.row h.length 2 0 0], h ++ [.row 35 2 [] true]) := by kernel_rfl
theorem zj9 (n : Nat) (s : Nat) (h : zd) : call (n + 2) 176 [.bf 201 [.ptr s 0], .sl 0 [] true] h = some (.ret [.row h.length 2 0 0], h ++ [.row 35 2 [] true]) := by kernel_rfl
theorem zgj (n s bo r l bs : Nat) (H : zd) : call (n + 2) 181 [.ptr s 0, .sl 0 [] true, .fn 182 [.ptr bo 0, .iptr 1 [.row r 1 0 l] 0], .fn 183 [.ptr bs 0, .iptr 1 [.row r 1 0 l] 0]] H = some (.ret [.row H.length 2 0 0], H ++ [.row 35 2 [] true]) := by kernel_rfl
theorem zka (n s q r l : Nat) (H : zd) : call (n + 2) 207 [.ptr s 0, .sl 0 [] true, .fn 208 [.iptr 2 [.bf 203 [.ptr q 0], .bf 204 [.ptr q 0]] 0, .iptr 1 [.row r 1 0 l] 0, .iptr 1 [.sl 0 [] true] 0]] H = (cl (call (n + 1) 212 [] H) (fun r2 h3 => (Zs r2 fun v5 => some (Res.ret [.row h3.length 2 0 0], h3 ++ [.row 35 2 [] true]))) (fun z4 h3 => some (Res.pan z4, h3))) := by kernel_rfl
theorem zml (n : Nat) {h : zd} {q : Nat} {qb : Option Nat} {m : Nat} {xs : List Int} (hb : StkAt h q qb (m : Int) xs) : ∃ h' tb, call (n + 5) 174 [.ptr q 0, .sl 0 [] true] h = some (.ret [.row tb 2 0 0], h') /\ RowR h' tb [] := by
 have f0 : nv (V.int .i64 ((0 : Nat) : Int)) = some 0 := Zh _ _
 have f00 : nv (V.int .i64 0) = some 0 := Zh _ _
 have hall := fun s bo r l bs H => zgj (n + 2) s bo r l bs H
 have key : ∀ (A B C D E G : zd), A = h ++ [HB.box 3 [V.sl 0 [] true, V.int .i64 (xs.length : Int), V.int .i64 (m : Int)]] -> B = A ++ [HB.box 1 [V.ptr h.length 0]] -> C = B ++ [HB.box 1 [V.ptr q 0]] -> D = C ++ [HB.box 1 [V.sl 0 [] true]] -> E = D ++ [HB.row 21 1 [] true] -> G = E ++ [HB.row 35 2 [] true] -> call (n + 5) 174 [.ptr q 0, .sl 0 [] true] h = some (.ret [.row E.length 2 0 0], G) /\ RowR G E.length [] := by
  intro A B C D E G hA hB hC hD hE hG
  have lA : A.length = h.length + 1 := by rw [hA]; simp
  have lB : B.length = h.length + 2 := by rw [hB]; simp; omega
  have lC : C.length = h.length + 3 := by rw [hC]; simp; omega
  have lD : D.length = h.length + 4 := by rw [hD]; simp; omega
  have aB : ∀ j, j < A.length -> B[j]? = A[j]? := fun j hj => by rw [hB, zk hj]
  have aC : ∀ j, j < B.length -> C[j]? = B[j]? := fun j hj => by rw [hC, zk hj]
  have aD : ∀ j, j < C.length -> D[j]? = C[j]? := fun j hj => by rw [hD, zk hj]
  have aE : ∀ j, j < D.length -> E[j]? = D[j]? := fun j hj => by rw [hE, zk hj]
  have lE : E.length = h.length + 5 := by rw [hE]; simp; omega
  have aG : ∀ j, j < E.length -> G[j]? = E[j]? := fun j hj => by rw [hG, zk hj]
  have eA : A[h.length]? = some (HB.box 3 [V.sl 0 [] true, V.int .i64 (xs.length : Int), V.int .i64 (m : Int)]) := by rw [hA]; exact zr
  have eB : B[A.length]? = some (HB.box 1 [V.ptr h.length 0]) := by rw [hB]; exact zr
  have eD : D[C.length]? = some (HB.box 1 [V.sl 0 [] true]) := by rw [hD]; exact zr
  have eE : E[D.length]? = some (HB.row 21 1 [] true) := by rw [hE]; exact zr
  have fB : E[A.length]? = some (HB.box 1 [V.ptr h.length 0]) := by rw [aE _ (by omega), aD _ (by omega), aC _ (by omega)]; exact eB
  have fD : E[C.length]? = some (HB.box 1 [V.sl 0 [] true]) := (aE _ (by omega)).trans eD
  have gA : G[h.length]? = some (HB.box 3 [V.sl 0 [] true, V.int .i64 (xs.length : Int), V.int .i64 (m : Int)]) := by rw [aG _ (by omega), aE _ (by omega), aD _ (by omega), aC _ (by omega), aB _ (by omega)]; exact eA
  have gB : G[A.length]? = some (HB.box 1 [V.ptr h.length 0]) := (aG _ (by omega)).trans fB
  have gE : G[D.length]? = some (HB.row 21 1 [] true) := (aG _ (by omega)).trans eE
  refine ⟨?_, ⟨true, by rw [hG]; exact zr⟩⟩
  rw [show n + 5 = (n + 4) + 1 from rfl, zfw]
  unfold zeo
  rw [WN (n + 3) hb]
  simp only [clH]
  rw [zy, jO (n + 3) hb]
  simp only []
  rw [zy, zh8, za, if_pos (by rfl), <- hA, <- hB, <- hC, <- hD, zC eD, zn, if_pos (by decide)]
  simp only [zb, za]
  rw [XD, za]
  simp only [zG]
  rw [f0, zx, zx, if_pos ⟨zl _, by decide, by first | trivial | rfl⟩]
  simp only [Xj, zG]
  rw [<- hE, zC fB, zn, if_pos (by decide)]
  simp only [zb, za]
  rw [zC fD, zn, if_pos (by decide)]
  simp only [zb, za]
  rw [hall, zM, zy, <- hG]
  have hsl : ZN G (.row D.length 1 0 0) = some (1, []) := by simpa using Wr gE
  rw [hsl, za, zH]
  unfold jL
  simp only [gv, zf, zh, zG, lsl]
  rw [zw, za, zm, if_neg (by simp), <- hA, <- hB, <- hC]
  have hd : dcl (n + 4) 179 [.ptr A.length 0, .ptr B.length 0, .ptr C.length 0] G none = some (G, false) := by
   refine (zhu (n + 4) _ _ _ G).trans ?_
   unfold znu
   rw [zC gB, zn, if_pos (by decide)]
   simp only [zb, za, ZM, zZ]
   rw [zC gA, zn, if_pos (by decide)]
   simp only [zb, za]
   rw [XD, za, zH]
   unfold WU
   simp only [gv, zf, zG]
   rw [zw, za, zm, if_neg (by simp)]
  rw [hd, Zj]
 exact ⟨_, _, key _ _ _ _ _ _ rfl rfl rfl rfl rfl rfl⟩
theorem zmm (n : Nat) {h : zd} {q qb m : Nat} {xs : List Int} (hb : RngAt h q qb m xs) : ∃ h' tb, call (n + 5) 199 [.ptr q 0, .sl 0 [] true] h = some (.ret [.row tb 2 0 0], h') /\ RowR h' tb [] := by
 have f00 : nv (V.int .i64 0) = some 0 := Zh _ _
 have hall : ∀ s r l H, call (n + 4) 207 [.ptr s 0, .sl 0 [] true, .fn 208 [.iptr 2 [.bf 203 [.ptr q 0], .bf 204 [.ptr q 0]] 0, .iptr 1 [.row r 1 0 l] 0, .iptr 1 [.sl 0 [] true] 0]] H = some (.ret [.row (H.length + 1) 2 0 0], (H ++ [.map Yc]) ++ [.row 35 2 [] true]) := fun s r l H => by
  rw [show n + 4 = (n + 2) + 2 from rfl, zka, zh5 (n + 2), zM, zy]
  simp
 have key : ∀ (A B C G : zd), A = h ++ [HB.row 21 1 [] true] -> B = A ++ [HB.box 4 [V.sl 0 [] true, V.sl 0 [] true, V.int .i64 (xs.length : Int), V.int .i64 (m : Int)]] -> C = B ++ [.map Yc] -> G = C ++ [HB.row 35 2 [] true] -> call (n + 5) 199 [.ptr q 0, .sl 0 [] true] h = some (.ret [.row (B.length + 1) 2 0 0], G) /\ RowR G (B.length + 1) [] := by
  intro A B C G hA hB hC hG
  have lA : A.length = h.length + 1 := by rw [hA]; simp
  have lB : B.length = h.length + 2 := by rw [hB]; simp; omega
  have lC : C.length = B.length + 1 := by rw [hC]; simp
  have aB : ∀ j, j < A.length -> B[j]? = A[j]? := fun j hj => by rw [hB, zk hj]
  have aC : ∀ j, j < B.length -> C[j]? = B[j]? := fun j hj => by rw [hC, zk hj]
  have aG : ∀ j, j < C.length -> G[j]? = C[j]? := fun j hj => by rw [hG, zk hj]
  have eA : A[h.length]? = some (HB.row 21 1 [] true) := by rw [hA]; exact zr
  have eB : B[A.length]? = some (HB.box 4 [V.sl 0 [] true, V.sl 0 [] true, V.int .i64 (xs.length : Int), V.int .i64 (m : Int)]) := by rw [hB]; exact zr
  have gA : G[h.length]? = some (HB.row 21 1 [] true) := by rw [aG _ (by omega), aC _ (by omega), aB _ (by omega)]; exact eA
  have gB : G[A.length]? = some (HB.box 4 [V.sl 0 [] true, V.sl 0 [] true, V.int .i64 (xs.length : Int), V.int .i64 (m : Int)]) := by rw [aG _ (by omega), aC _ (by omega)]; exact eB
  refine ⟨?_, ⟨true, by rw [<- lC, hG]; exact zr⟩⟩
  rw [show n + 5 = (n + 4) + 1 from rfl, zfx]
  unfold zep
  rw [X8 (n + 3) hb, zM, zy, Ja (n + 3) hb, zM, zy, zia, za, if_pos (by rfl), f00, zx, zx, if_pos ⟨zl _, by decide, by first | trivial | rfl⟩]
  simp only [Xj, zG]
  rw [<- hA, <- hB, hall, zM, zy, <- hC, <- hG, zC gB, zn, if_pos (by decide)]
  have side : ∀ (d : Nat), d < 2 -> ∀ next, Ju (n + 4) h 0 (.row (B.length + 1) 2 0 0) [V.sl 0 [] true, V.sl 0 [] true, V.int .i64 (xs.length : Int), V.int .i64 (m : Int)] 0 [.sl 2 [] false, .agg (qi q), .int .i64 (d : Int)] G next = next [.sl 2 [] false, .agg (qi q), .int .i64 ((d + 1 : Nat) : Int)] G := by
   intro d hd next
   have h1 : (([V.sl 0 [] true, V.sl 0 [] true, V.int .i64 (xs.length : Int), V.int .i64 (m : Int)].drop 0 |>.take 2).drop (d * 1) |>.take 1) = [V.sl 0 [] true] := by
    obtain rfl | rfl : d = 0 \/ d = 1 := by omega
    · rfl
    · rfl
   unfold Ju
   simp only [gv, zf, zh, lsl, lcs]
   rw [zw, za, zm, if_pos (by simp; omega), Zh, zx, if_pos ⟨hd, by simp; omega⟩, h1, if_pos (by rfl), if_pos (by exact zl 1)]
   show bd (some (V.sl 0 [] true)) _ = _
   rw [za, XD, za, zH]
   unfold jM
   simp only [gv, zf, zh, zG, lsl, lcs]
   rw [zw, za, zm, if_neg (by simp), zN, za, XM (by unfold lim; omega)]
  show zY (n + 4) (Ju (n + 4) h 0 (.row (B.length + 1) 2 0 0) [V.sl 0 [] true, V.sl 0 [] true, V.int .i64 (xs.length : Int), V.int .i64 (m : Int)] 0) [.sl 2 [] false, .agg (qi q), .int .i64 ((0 : Nat) : Int)] G = _
  rw [zH, side 0 (by decide), zH, side 1 (by decide), zH]
  unfold Ju
  simp only [gv, zf, zh, lsl, lcs]
  rw [zw, za, zm, if_neg (by decide)]
  simp only [Xj, zG]
  have hsl : ZN G (.row h.length 1 0 0) = some (1, []) := by simpa using Wr gA
  rw [hsl, za, zH]
  unfold jN
  simp only [gv, zf, zh, zG]
  rw [zw, za, zm, if_neg (by simp)]
 exact ⟨_, _, key _ _ _ _ rfl rfl rfl rfl⟩
theorem zmn (n : Nat) {k : Nat} {h : zd} {s c : Nat} {cb : Option Nat} {Y : List Nat} {m : Nat} {st : St} (pl : Bool) (B : BodAt k h s Y m st.1) (C : BitsAt h c cb st.2) (room : st.1.length <= m) (hm : m <= 1000) (cY : c ∉ Y) (cbY : ∀ b, cb = some b -> b ∉ Y) (hn : m + 100 <= n) :
    ∃ h' tb, call (n + 7) (zdO k pl) [.agg [.ptr s 0], .ptr c 0, .sl 0 [] true] h = some (.ret [.row tb 2 0 0], h') /\ RowR h' tb [] := by
 have hlim : 1000000 < lim := by unfold lim; omega
 rcases B with ⟨rfl, xs, qb, hits, S, rfl⟩ | ⟨rfl, xs, b, hits, RR, rfl⟩ | ⟨rfl, ts, hits, S, rfl⟩
 · cases pl with
   | false =>
     obtain ⟨h', tb, e, r⟩ := zml (n + 1) S
     refine ⟨h', tb, ?_, r⟩
     show call (n + 6 + 1) 171 _ h = _
     rw [zfq]
     unfold zei
     rw [e, zM, zy]
   | true =>
     refine ⟨_, h.length, ?_, ⟨true, zr⟩⟩
     show call (n + 6 + 1) 173 _ h = _
     rw [zfr]
     unfold zej
     rw [zj8 (n + 4), zM, zy]
     rfl
 · cases pl with
   | false =>
     obtain ⟨h', tb, e, r⟩ := zmm (n + 1) RR
     refine ⟨h', tb, ?_, r⟩
     show call (n + 6 + 1) 196 _ h = _
     rw [zfs]
     unfold zek
     rw [e, zM, zy]
   | true =>
     refine ⟨_, h.length, ?_, ⟨true, zr⟩⟩
     show call (n + 6 + 1) 198 _ h = _
     rw [zft]
     unfold zel
     rw [zj9 (n + 4), zM, zy]
     rfl
 · have htl : ts.length <= m := by rw [hits] at room; simpa [itT] using room
   cases pl with
   | false =>
     obtain ⟨h', ts', tb, e, D, _⟩ := ziL (n + 2) S C cY cbY (by omega) (by omega) (by omega) (by omega)
     refine ⟨h', tb, ?_, D.tl⟩
     show call (n + 6 + 1) 219 _ h = _
     rw [zfu]
     unfold zem
     rw [e, zM, zy]
   | true =>
     obtain ⟨h', tb, e, r⟩ := ziM (n + 2) (c := c) S (by omega)
     refine ⟨h', tb, ?_, r⟩
     show call (n + 6 + 1) 221 _ h = _
     rw [zfv]
     unfold zen
     rw [e, zM, zy]
theorem ziN (n : Nat) {k : Nat} {h : zd} {o s c : Nat} {cb : Option Nat} {Y : List Nat} {m : Nat} {pl : Bool} {st : St} (A : ObAt k h o s c cb Y m pl st) (hn : m + 100 <= n) :
    ∃ h' tb, call (n + 8) 17 [.ptr o 0, .sl 0 [] true] h = some (.ret [.row tb 2 0 0], h') /\ RowR h' tb [] := by
 have hkk := A.body.kind
 obtain ⟨h', tb, e, r⟩ := zmn n pl A.body A.bits A.room A.most A.cY A.cbY hn
 refine ⟨h', tb, ?_, r⟩
 rw [show n + 8 = (n + 7) + 1 from rfl, zlL]
 unfold znh
 rw [Yr, za, zm, if_neg (by decide), zC A.box, zn, if_pos (by decide)]
 simp only [zb, zi, za]
 rw [zm]
 cases pl with
 | true =>
   rw [if_pos rfl, zC A.box, zn, if_pos (by decide)]
   simp only [zb, zi, za]
   rw [zC A.box, zn, if_pos (by decide)]
   simp only [zb, zi, za]
   rw [if_pos (by rfl)]
   show bd2 (Qw prog (ziJ k) (.agg [.ptr s 0]) "reaper/object.plain") _ = _
   rw [zdg hkk, Zj, if_pos (zbU hkk true)]
   show clH (call (n + 7) (zdO k true) [.agg [.ptr s 0], .ptr c 0, .sl 0 [] true] h) _ = _
   rw [e]
   rfl
 | false =>
   rw [if_neg (by decide), zC A.box, zn, if_pos (by decide)]
   simp only [zb, zi, za]
   rw [zC A.box, zn, if_pos (by decide)]
   simp only [zb, zi, za]
   rw [if_pos (by rfl)]
   show bd2 (Qw prog (ziJ k) (.agg [.ptr s 0]) "reaper/object.batch") _ = _
   rw [zdh hkk, Zj, if_pos (zbU hkk false)]
   show clH (call (n + 7) (zdO k false) [.agg [.ptr s 0], .ptr c 0, .sl 0 [] true] h) _ = _
   rw [e]
   rfl
end Go.Proofs.Tryz
namespace Go.Proofs.Tryz
open Go.L
set_option maxRecDepth 100000
noncomputable def zaf (n : Nat) (x0 : Int) (x1 : Int) (os : List (List V)) (osb : Bool) (st1 : List V) (hh2 : zd) (next3 : List V -> zd -> Option (Res × zd)) : Option (Res × zd) :=
 (bd (bop prog .lss 3 (gv st1 4) (V.int .i64 ((os).length : Int))) fun v4 =>
 (bv v4 fun b5 => if b5 then
 (bdS (nv (gv st1 4)) fun n6 =>
 (bd (ZA 2 n6 (V.sl 2 os osb)) fun p7 =>
 (bd3 (zt hh2 p7) fun cs9 m8 o10 => if (o10 + 2 <= m8 /\ 0 < 2) then
 (cl (call n 63 [(V.int .u8 x0), (V.int .i64 x1), (gv st1 0), (V.agg ((cs9).drop o10 |>.take 2))] hh2) (fun r11 h12 =>
 (bd (r11)[0]? fun v14 =>
 (bd (r11)[1]? fun v15 =>
 (if ((V.cells v15)).length = 2 then
 (if (((V.cells v15)).length <= 2) then
 (bd (Wi prog 28 1 [(0, (V.agg (((setR [(V.int .u8 0), (V.int .i32 0)] 0 (V.cells v15))).drop 0 |>.take 2)))]) fun p16 =>
 (bd (app 35 2 (S.own 35 2 (lsl (gv st1 3))) p16.2) fun l17 =>
 (bd (bop prog .add 3 (gv st1 4) (V.int .i64 1)) fun v18 =>
 (next3 [v14, (V.sl 1 (lsl (gv st1 1)) false), (V.sl 2 (lsl (gv st1 2)) false), (V.sl 2 l17 false), v18] h12)))) else none) else none)))) (fun z13 h12 => some (Res.pan z13, h12))) else none)))
 else
 some (Res.ret [(gv st1 0), (V.sl 2 (lsl (gv st1 3)) false)], hh2)))
noncomputable def zq1 (n : Nat) (x0 : Int) (x1 : Int) (os : List (List V)) (osb : Bool) (h : zd) : Option (Res × zd) :=
 (zY n (zaf n x0 x1 os osb) [(V.sl 0 [] true), (V.sl 1 [] false), (V.sl 2 [] false), (V.sl 2 [] false), (V.int .i64 0)] h)
theorem zpw (n : Nat) (x0 : Int) (x1 : Int) (os : List (List V)) (osb : Bool) (h : zd) : call (n + 1) 16 [(V.int .u8 x0), (V.int .i64 x1), (V.sl 0 [] true), (V.sl 2 os osb)] h = zq1 n x0 x1 os osb h := by kernel_rfl
noncomputable def zgk (n : Nat) (x1 : Int) (c : Int) (x : Int) : Option (Res × zd) :=
 (cl (call n 92 [(V.int .i64 x1), (V.sl 0 [] true), (V.agg [(V.int .u8 c), (V.int .i32 x)])] []) (fun r0 h1 =>
 (bd (r0)[0]? fun v3 =>
 (bd (r0)[1]? fun v4 =>
 (if ((V.cells v4)).length = 2 then
 (if (((V.cells v4)).length <= 2) then
 (if ((((setR [(V.int .u8 5), (V.int .i32 0)] 0 (V.cells v4))).drop 0 |>.take 2)).length = 2 then
 (if (((((setR [(V.int .u8 5), (V.int .i32 0)] 0 (V.cells v4))).drop 0 |>.take 2)).length <= 2) then
 some (Res.ret [v3, (V.agg (((setR [(V.int .u8 0), (V.int .i32 0)] 0 (((setR [(V.int .u8 5), (V.int .i32 0)] 0 (V.cells v4))).drop 0 |>.take 2))).drop 0 |>.take 2))], h1) else none) else none) else none) else none)))) (fun z2 h1 => some (Res.pan z2, h1)))
theorem zkb (n : Nat) (x1 : Int) (c : Int) (x : Int) (h : zd) : call (n + 1) 63 [(V.int .u8 1), (V.int .i64 x1), (V.sl 0 [] true), (V.agg [(V.int .u8 c), (V.int .i32 x)])] h = gcw [(V.int .u8 1), (V.int .i64 x1), (V.sl 0 [] true), (V.agg [(V.int .u8 c), (V.int .i32 x)])] (zgk n x1 c x) h := by kernel_rfl
noncomputable def zgl (n : Nat) (x1 : Int) (c : Int) (x : Int) : Option (Res × zd) :=
 (cl (call n 93 [(V.int .i64 x1), (V.sl 0 [] true), (V.agg [(V.int .u8 c), (V.int .i32 x)])] []) (fun r0 h1 =>
 (bd (r0)[0]? fun v3 =>
 (bd (r0)[1]? fun v4 =>
 (if ((V.cells v4)).length = 2 then
 (if (((V.cells v4)).length <= 2) then
 (if ((((setR [(V.int .u8 5), (V.int .i32 0)] 0 (V.cells v4))).drop 0 |>.take 2)).length = 2 then
 (if (((((setR [(V.int .u8 5), (V.int .i32 0)] 0 (V.cells v4))).drop 0 |>.take 2)).length <= 2) then
 some (Res.ret [v3, (V.agg (((setR [(V.int .u8 0), (V.int .i32 0)] 0 (((setR [(V.int .u8 5), (V.int .i32 0)] 0 (V.cells v4))).drop 0 |>.take 2))).drop 0 |>.take 2))], h1) else none) else none) else none) else none)))) (fun z2 h1 => some (Res.pan z2, h1)))
theorem zkc (n : Nat) (x1 : Int) (c : Int) (x : Int) (h : zd) : call (n + 1) 63 [(V.int .u8 2), (V.int .i64 x1), (V.sl 0 [] true), (V.agg [(V.int .u8 c), (V.int .i32 x)])] h = gcw [(V.int .u8 2), (V.int .i64 x1), (V.sl 0 [] true), (V.agg [(V.int .u8 c), (V.int .i32 x)])] (zgl n x1 c x) h := by kernel_rfl
noncomputable def zpY (n : Nat) (x0 : Int) (c : Int) (x : Int) (h : zd) : Option (Res × zd) :=
 (if (c == 1) then
 (cl (call n 129 [(V.int .i64 x0)] h) (fun r0 h1 =>
 (Zs r0 fun v3 =>
 (bd (bop prog .geq 3 (V.int .i64 (0 : Int)) v3) fun v4 =>
 (bv v4 fun b5 => if b5 then
 some (Res.ret [(V.sl 0 [] true), (V.agg [(V.int .u8 3), (V.int .i32 0)])], h1)
 else
 (if (c == 1) then
 (bd (app 21 1 (S.own 21 1 []) []) fun l6 =>
 (bd (app 21 1 (S.own 21 1 l6) [[(V.int .i32 x)]]) fun l7 =>
 some (Res.ret [(V.sl 1 l7 false), (V.agg [(V.int .u8 1), (V.int .i32 0)])], h1)))
 else
 (if (c == 2) then
 ((if (c == 2) then
 some (Res.ret [(V.sl 0 [] true), (V.agg [(V.int .u8 4), (V.int .i32 0)])], h1)
 else
 some (Res.ret [(V.sl 0 [] true), (V.agg [(V.int .u8 5), (V.int .i32 0)])], h1)))
 else
 (if (c == 2) then
 some (Res.ret [(V.sl 0 [] true), (V.agg [(V.int .u8 4), (V.int .i32 0)])], h1)
 else
 some (Res.ret [(V.sl 0 [] true), (V.agg [(V.int .u8 5), (V.int .i32 0)])], h1)))))))) (fun z2 h1 => some (Res.pan z2, h1)))
 else
 (if (c == 1) then
 (bd (app 21 1 (S.own 21 1 []) []) fun l20 =>
 (bd (app 21 1 (S.own 21 1 l20) [[(V.int .i32 x)]]) fun l21 =>
 some (Res.ret [(V.sl 1 l21 false), (V.agg [(V.int .u8 1), (V.int .i32 0)])], h)))
 else
 (if (c == 2) then
 ((if (c == 2) then
 some (Res.ret [(V.sl 0 [] true), (V.agg [(V.int .u8 4), (V.int .i32 0)])], h)
 else
 some (Res.ret [(V.sl 0 [] true), (V.agg [(V.int .u8 5), (V.int .i32 0)])], h)))
 else
 (if (c == 2) then
 some (Res.ret [(V.sl 0 [] true), (V.agg [(V.int .u8 4), (V.int .i32 0)])], h)
 else
 some (Res.ret [(V.sl 0 [] true), (V.agg [(V.int .u8 5), (V.int .i32 0)])], h)))))
theorem zoy (n : Nat) (x0 : Int) (c : Int) (x : Int) (h : zd) : call (n + 1) 92 [(V.int .i64 x0), (V.sl 0 [] true), (V.agg [(V.int .u8 c), (V.int .i32 x)])] h = zpY n x0 c x h := by kernel_rfl
noncomputable def zpZ (n : Nat) (x0 : Int) (c : Int) (x : Int) (h : zd) : Option (Res × zd) :=
 (cl (call n 129 [(V.int .i64 x0)] h) (fun r0 h1 =>
 (Zs r0 fun v3 =>
 (bd (bop prog .geq 3 (V.int .i64 (0 : Int)) v3) fun v4 =>
 (if (decide (c < 1)) then
 some (Res.ret [(V.sl 0 [] true), (V.agg [(V.int .u8 5), (V.int .i32 0)])], h1)
 else
 (if (decide (c > 4)) then
 some (Res.ret [(V.sl 0 [] true), (V.agg [(V.int .u8 5), (V.int .i32 0)])], h1)
 else
 (if (decide (c <= 2)) then
 (bv v4 fun b5 => if b5 then
 some (Res.ret [(V.sl 0 [] true), (V.agg [(V.int .u8 3), (V.int .i32 0)])], h1)
 else
 (if (decide (c ≥ 3)) then
 (some (Res.ret [(V.sl 0 [] true), (V.agg [(V.int .u8 4), (V.int .i32 0)])], h1))
 else
 (if (c == 1) then
 (bd (app 21 1 (S.own 21 1 []) [[(V.int .i32 x)]]) fun l32 =>
 (bd (app 21 1 (S.own 21 1 l32) []) fun l33 =>
 some (Res.ret [(V.sl 1 l33 false), (V.agg [(V.int .u8 1), (V.int .i32 0)])], h1)))
 else
 (if (c == 2) then
 (bd (app 21 1 (S.own 21 1 []) []) fun l34 =>
 (bd (app 21 1 (S.own 21 1 l34) [[(V.int .i32 x)]]) fun l35 =>
 some (Res.ret [(V.sl 1 l35 false), (V.agg [(V.int .u8 1), (V.int .i32 0)])], h1)))
 else
 (if (c == 3) then
 (bd (QK (V.sl 0 [] true)) fun n36 =>
 (bd (ZW 1 1 n36 (none : Option Nat) true (V.sl 0 [] true)) fun v37 =>
 (bdS (ZN h1 v37) fun p38 =>
 (if (27 = 27 /\ (p38.1 = 1 \/ (p38.2).isEmpty = true)) then
 (bd (app 21 1 (S.own 21 1 []) p38.2) fun l39 =>
 (bd (ZA 1 0 (V.sl 0 [] true)) fun p40 =>
 (bd3 (zt h1 p40) fun cs42 m41 o43 => if (o43 + 1 <= m41 /\ 0 < 1) then
 (bd (cs42)[o43]? fun v44 =>
 (bd (QB prog 35 [(0, (V.int .u8 2)), (1, v44)]) fun cs45 =>
 (if (cs45).length = 2 then
 (if ((cs45).length <= 2) then
 some (Res.ret [(V.sl 1 l39 false), (V.agg (((setR [(V.int .u8 0), (V.int .i32 0)] 0 cs45)).drop 0 |>.take 2))], h1) else none) else none))) else none))) else none))))
 else
 (bd (QK (V.sl 0 [] true)) fun n46 =>
 (bdS (nv (V.int .i64 (IntKind.i64.wrap ((0 : Int) - 1)))) fun n47 =>
 (bd (ZW 1 0 n47 (none : Option Nat) true (V.sl 0 [] true)) fun v48 =>
 (bdS (ZN h1 v48) fun p49 =>
 (if (27 = 27 /\ (p49.1 = 1 \/ (p49.2).isEmpty = true)) then
 (bd (app 21 1 (S.own 21 1 []) p49.2) fun l50 =>
 (bdS (nv (V.int .i64 (IntKind.i64.wrap ((0 : Int) - 1)))) fun n51 =>
 (bd (ZA 1 n51 (V.sl 0 [] true)) fun p52 =>
 (bd3 (zt h1 p52) fun cs54 m53 o55 => if (o55 + 1 <= m53 /\ 0 < 1) then
 (bd (cs54)[o55]? fun v56 =>
 (bd (QB prog 35 [(0, (V.int .u8 2)), (1, v56)]) fun cs57 =>
 (if (cs57).length = 2 then
 (if ((cs57).length <= 2) then
 some (Res.ret [(V.sl 1 l50 false), (V.agg (((setR [(V.int .u8 0), (V.int .i32 0)] 0 cs57)).drop 0 |>.take 2))], h1) else none) else none))) else none)))) else none))))))))))
 else
 (if (decide (c ≥ 3)) then
 (some (Res.ret [(V.sl 0 [] true), (V.agg [(V.int .u8 4), (V.int .i32 0)])], h1))
 else
 (if (c == 1) then
 (bd (app 21 1 (S.own 21 1 []) [[(V.int .i32 x)]]) fun l84 =>
 (bd (app 21 1 (S.own 21 1 l84) []) fun l85 =>
 some (Res.ret [(V.sl 1 l85 false), (V.agg [(V.int .u8 1), (V.int .i32 0)])], h1)))
 else
 (if (c == 2) then
 (bd (app 21 1 (S.own 21 1 []) []) fun l86 =>
 (bd (app 21 1 (S.own 21 1 l86) [[(V.int .i32 x)]]) fun l87 =>
 some (Res.ret [(V.sl 1 l87 false), (V.agg [(V.int .u8 1), (V.int .i32 0)])], h1)))
 else
 (if (c == 3) then
 (bd (QK (V.sl 0 [] true)) fun n88 =>
 (bd (ZW 1 1 n88 (none : Option Nat) true (V.sl 0 [] true)) fun v89 =>
 (bdS (ZN h1 v89) fun p90 =>
 (if (27 = 27 /\ (p90.1 = 1 \/ (p90.2).isEmpty = true)) then
 (bd (app 21 1 (S.own 21 1 []) p90.2) fun l91 =>
 (bd (ZA 1 0 (V.sl 0 [] true)) fun p92 =>
 (bd3 (zt h1 p92) fun cs94 m93 o95 => if (o95 + 1 <= m93 /\ 0 < 1) then
 (bd (cs94)[o95]? fun v96 =>
 (bd (QB prog 35 [(0, (V.int .u8 2)), (1, v96)]) fun cs97 =>
 (if (cs97).length = 2 then
 (if ((cs97).length <= 2) then
 some (Res.ret [(V.sl 1 l91 false), (V.agg (((setR [(V.int .u8 0), (V.int .i32 0)] 0 cs97)).drop 0 |>.take 2))], h1) else none) else none))) else none))) else none))))
 else
 (bd (QK (V.sl 0 [] true)) fun n98 =>
 (bdS (nv (V.int .i64 (IntKind.i64.wrap ((0 : Int) - 1)))) fun n99 =>
 (bd (ZW 1 0 n99 (none : Option Nat) true (V.sl 0 [] true)) fun v100 =>
 (bdS (ZN h1 v100) fun p101 =>
 (if (27 = 27 /\ (p101.1 = 1 \/ (p101.2).isEmpty = true)) then
 (bd (app 21 1 (S.own 21 1 []) p101.2) fun l102 =>
 (bdS (nv (V.int .i64 (IntKind.i64.wrap ((0 : Int) - 1)))) fun n103 =>
 (bd (ZA 1 n103 (V.sl 0 [] true)) fun p104 =>
 (bd3 (zt h1 p104) fun cs106 m105 o107 => if (o107 + 1 <= m105 /\ 0 < 1) then
 (bd (cs106)[o107]? fun v108 =>
 (bd (QB prog 35 [(0, (V.int .u8 2)), (1, v108)]) fun cs109 =>
 (if (cs109).length = 2 then
 (if ((cs109).length <= 2) then
 some (Res.ret [(V.sl 1 l102 false), (V.agg (((setR [(V.int .u8 0), (V.int .i32 0)] 0 cs109)).drop 0 |>.take 2))], h1) else none) else none))) else none)))) else none))))))))))))))) (fun z2 h1 => some (Res.pan z2, h1)))
theorem zoz (n : Nat) (x0 : Int) (c : Int) (x : Int) (h : zd) : call (n + 1) 93 [(V.int .i64 x0), (V.sl 0 [] true), (V.agg [(V.int .u8 c), (V.int .i32 x)])] h = zpZ n x0 c x h := by kernel_rfl
end Go.Proofs.Tryz
namespace Go.Proofs.Tryz
open Go.L
set_option maxRecDepth 100000
end Go.Proofs.Tryz
namespace Go.Proofs.Tryz
open Go.L
set_option maxRecDepth 100000
noncomputable def zoA (n : Nat) (x0 : Int) (x1 : List (List V)) (x1b : Bool) (x2_0 : Int) (x2_1 : Int) (h : zd) : Option (Res × zd) :=
 (if (x2_0 == 1) then
 (cl (call n 129 [(V.int .i64 x0)] h) (fun r0 h1 =>
 (Zs r0 fun v3 =>
 (bd (bop prog .geq 3 (V.int .i64 ((x1).length : Int)) v3) fun v4 =>
 (bv v4 fun b5 => if b5 then
 some (Res.ret [(V.sl 1 x1 x1b), (V.agg [(V.int .u8 3), (V.int .i32 0)])], h1)
 else
 (if (x2_0 == 1) then
 (bd (app 21 1 (S.own 21 1 []) x1) fun l6 =>
 (bd (app 21 1 (S.own 21 1 l6) [[(V.int .i32 x2_1)]]) fun l7 =>
 some (Res.ret [(V.sl 1 l7 false), (V.agg [(V.int .u8 1), (V.int .i32 0)])], h1)))
 else
 (if (x2_0 == 2) then
 (if (decide (((x1).length : Int) > 0)) then
 (bd (QK (V.sl 1 x1 x1b)) fun n8 =>
 (bdS (nv (V.int .i64 (IntKind.i64.wrap (((x1).length : Int) - 1)))) fun n9 =>
 (bd (ZW 1 0 n9 (none : Option Nat) true (V.sl 1 x1 x1b)) fun v10 =>
 (bdS (ZN h1 v10) fun p11 =>
 (if (27 = 27 /\ (p11.1 = 1 \/ (p11.2).isEmpty = true)) then
 (bd (app 21 1 (S.own 21 1 []) p11.2) fun l12 =>
 (bdS (nv (V.int .i64 (IntKind.i64.wrap (((x1).length : Int) - 1)))) fun n13 =>
 (bd (ZA 1 n13 (V.sl 1 x1 x1b)) fun p14 =>
 (bd3 (zt h1 p14) fun cs16 m15 o17 => if (o17 + 1 <= m15 /\ 0 < 1) then
 (bd (cs16)[o17]? fun v18 =>
 (bd (QB prog 35 [(0, (V.int .u8 2)), (1, v18)]) fun cs19 =>
 (if (cs19).length = 2 then
 (if ((cs19).length <= 2) then
 some (Res.ret [(V.sl 1 l12 false), (V.agg (((setR [(V.int .u8 0), (V.int .i32 0)] 0 cs19)).drop 0 |>.take 2))], h1) else none) else none))) else none)))) else none)))))
 else
 (if (x2_0 == 2) then
 some (Res.ret [(V.sl 1 x1 x1b), (V.agg [(V.int .u8 4), (V.int .i32 0)])], h1)
 else
 some (Res.ret [(V.sl 1 x1 x1b), (V.agg [(V.int .u8 5), (V.int .i32 0)])], h1)))
 else
 (if (x2_0 == 2) then
 some (Res.ret [(V.sl 1 x1 x1b), (V.agg [(V.int .u8 4), (V.int .i32 0)])], h1)
 else
 some (Res.ret [(V.sl 1 x1 x1b), (V.agg [(V.int .u8 5), (V.int .i32 0)])], h1)))))))) (fun z2 h1 => some (Res.pan z2, h1)))
 else
 (if (x2_0 == 1) then
 (bd (app 21 1 (S.own 21 1 []) x1) fun l20 =>
 (bd (app 21 1 (S.own 21 1 l20) [[(V.int .i32 x2_1)]]) fun l21 =>
 some (Res.ret [(V.sl 1 l21 false), (V.agg [(V.int .u8 1), (V.int .i32 0)])], h)))
 else
 (if (x2_0 == 2) then
 (if (decide (((x1).length : Int) > 0)) then
 (bd (QK (V.sl 1 x1 x1b)) fun n22 =>
 (bdS (nv (V.int .i64 (IntKind.i64.wrap (((x1).length : Int) - 1)))) fun n23 =>
 (bd (ZW 1 0 n23 (none : Option Nat) true (V.sl 1 x1 x1b)) fun v24 =>
 (bdS (ZN h v24) fun p25 =>
 (if (27 = 27 /\ (p25.1 = 1 \/ (p25.2).isEmpty = true)) then
 (bd (app 21 1 (S.own 21 1 []) p25.2) fun l26 =>
 (bdS (nv (V.int .i64 (IntKind.i64.wrap (((x1).length : Int) - 1)))) fun n27 =>
 (bd (ZA 1 n27 (V.sl 1 x1 x1b)) fun p28 =>
 (bd3 (zt h p28) fun cs30 m29 o31 => if (o31 + 1 <= m29 /\ 0 < 1) then
 (bd (cs30)[o31]? fun v32 =>
 (bd (QB prog 35 [(0, (V.int .u8 2)), (1, v32)]) fun cs33 =>
 (if (cs33).length = 2 then
 (if ((cs33).length <= 2) then
 some (Res.ret [(V.sl 1 l26 false), (V.agg (((setR [(V.int .u8 0), (V.int .i32 0)] 0 cs33)).drop 0 |>.take 2))], h) else none) else none))) else none)))) else none)))))
 else
 (if (x2_0 == 2) then
 some (Res.ret [(V.sl 1 x1 x1b), (V.agg [(V.int .u8 4), (V.int .i32 0)])], h)
 else
 some (Res.ret [(V.sl 1 x1 x1b), (V.agg [(V.int .u8 5), (V.int .i32 0)])], h)))
 else
 (if (x2_0 == 2) then
 some (Res.ret [(V.sl 1 x1 x1b), (V.agg [(V.int .u8 4), (V.int .i32 0)])], h)
 else
 some (Res.ret [(V.sl 1 x1 x1b), (V.agg [(V.int .u8 5), (V.int .i32 0)])], h)))))
theorem zmo (n : Nat) (x0 : Int) (x1 : List (List V)) (x1b : Bool) (x2_0 : Int) (x2_1 : Int) (h : zd) : call (n + 1) 92 [(V.int .i64 x0), (V.sl 1 x1 x1b), (V.agg [(V.int .u8 x2_0), (V.int .i32 x2_1)])] h = zoA n x0 x1 x1b x2_0 x2_1 h := by kernel_rfl
noncomputable def zoB (n : Nat) (x0 : Int) (x1 : List (List V)) (x1b : Bool) (x2_0 : Int) (x2_1 : Int) (h : zd) : Option (Res × zd) :=
 (cl (call n 129 [(V.int .i64 x0)] h) (fun r0 h1 =>
 (Zs r0 fun v3 =>
 (bd (bop prog .geq 3 (V.int .i64 ((x1).length : Int)) v3) fun v4 =>
 (if (decide (x2_0 < 1)) then
 some (Res.ret [(V.sl 1 x1 x1b), (V.agg [(V.int .u8 5), (V.int .i32 0)])], h1)
 else
 (if (decide (x2_0 > 4)) then
 some (Res.ret [(V.sl 1 x1 x1b), (V.agg [(V.int .u8 5), (V.int .i32 0)])], h1)
 else
 (if (decide (x2_0 <= 2)) then
 (bv v4 fun b5 => if b5 then
 some (Res.ret [(V.sl 1 x1 x1b), (V.agg [(V.int .u8 3), (V.int .i32 0)])], h1)
 else
 (if (decide (x2_0 ≥ 3)) then
 (if (((x1).length : Int) == 0) then
 some (Res.ret [(V.sl 1 x1 x1b), (V.agg [(V.int .u8 4), (V.int .i32 0)])], h1)
 else
 (if (x2_0 == 1) then
 (bd (app 21 1 (S.own 21 1 []) [[(V.int .i32 x2_1)]]) fun l6 =>
 (bd (app 21 1 (S.own 21 1 l6) x1) fun l7 =>
 some (Res.ret [(V.sl 1 l7 false), (V.agg [(V.int .u8 1), (V.int .i32 0)])], h1)))
 else
 (if (x2_0 == 2) then
 (bd (app 21 1 (S.own 21 1 []) x1) fun l8 =>
 (bd (app 21 1 (S.own 21 1 l8) [[(V.int .i32 x2_1)]]) fun l9 =>
 some (Res.ret [(V.sl 1 l9 false), (V.agg [(V.int .u8 1), (V.int .i32 0)])], h1)))
 else
 (if (x2_0 == 3) then
 (bd (QK (V.sl 1 x1 x1b)) fun n10 =>
 (bd (ZW 1 1 n10 (none : Option Nat) true (V.sl 1 x1 x1b)) fun v11 =>
 (bdS (ZN h1 v11) fun p12 =>
 (if (27 = 27 /\ (p12.1 = 1 \/ (p12.2).isEmpty = true)) then
 (bd (app 21 1 (S.own 21 1 []) p12.2) fun l13 =>
 (bd (ZA 1 0 (V.sl 1 x1 x1b)) fun p14 =>
 (bd3 (zt h1 p14) fun cs16 m15 o17 => if (o17 + 1 <= m15 /\ 0 < 1) then
 (bd (cs16)[o17]? fun v18 =>
 (bd (QB prog 35 [(0, (V.int .u8 2)), (1, v18)]) fun cs19 =>
 (if (cs19).length = 2 then
 (if ((cs19).length <= 2) then
 some (Res.ret [(V.sl 1 l13 false), (V.agg (((setR [(V.int .u8 0), (V.int .i32 0)] 0 cs19)).drop 0 |>.take 2))], h1) else none) else none))) else none))) else none))))
 else
 (bd (QK (V.sl 1 x1 x1b)) fun n20 =>
 (bdS (nv (V.int .i64 (IntKind.i64.wrap (((x1).length : Int) - 1)))) fun n21 =>
 (bd (ZW 1 0 n21 (none : Option Nat) true (V.sl 1 x1 x1b)) fun v22 =>
 (bdS (ZN h1 v22) fun p23 =>
 (if (27 = 27 /\ (p23.1 = 1 \/ (p23.2).isEmpty = true)) then
 (bd (app 21 1 (S.own 21 1 []) p23.2) fun l24 =>
 (bdS (nv (V.int .i64 (IntKind.i64.wrap (((x1).length : Int) - 1)))) fun n25 =>
 (bd (ZA 1 n25 (V.sl 1 x1 x1b)) fun p26 =>
 (bd3 (zt h1 p26) fun cs28 m27 o29 => if (o29 + 1 <= m27 /\ 0 < 1) then
 (bd (cs28)[o29]? fun v30 =>
 (bd (QB prog 35 [(0, (V.int .u8 2)), (1, v30)]) fun cs31 =>
 (if (cs31).length = 2 then
 (if ((cs31).length <= 2) then
 some (Res.ret [(V.sl 1 l24 false), (V.agg (((setR [(V.int .u8 0), (V.int .i32 0)] 0 cs31)).drop 0 |>.take 2))], h1) else none) else none))) else none)))) else none)))))))))
 else
 (if (x2_0 == 1) then
 (bd (app 21 1 (S.own 21 1 []) [[(V.int .i32 x2_1)]]) fun l32 =>
 (bd (app 21 1 (S.own 21 1 l32) x1) fun l33 =>
 some (Res.ret [(V.sl 1 l33 false), (V.agg [(V.int .u8 1), (V.int .i32 0)])], h1)))
 else
 (if (x2_0 == 2) then
 (bd (app 21 1 (S.own 21 1 []) x1) fun l34 =>
 (bd (app 21 1 (S.own 21 1 l34) [[(V.int .i32 x2_1)]]) fun l35 =>
 some (Res.ret [(V.sl 1 l35 false), (V.agg [(V.int .u8 1), (V.int .i32 0)])], h1)))
 else
 (if (x2_0 == 3) then
 (bd (QK (V.sl 1 x1 x1b)) fun n36 =>
 (bd (ZW 1 1 n36 (none : Option Nat) true (V.sl 1 x1 x1b)) fun v37 =>
 (bdS (ZN h1 v37) fun p38 =>
 (if (27 = 27 /\ (p38.1 = 1 \/ (p38.2).isEmpty = true)) then
 (bd (app 21 1 (S.own 21 1 []) p38.2) fun l39 =>
 (bd (ZA 1 0 (V.sl 1 x1 x1b)) fun p40 =>
 (bd3 (zt h1 p40) fun cs42 m41 o43 => if (o43 + 1 <= m41 /\ 0 < 1) then
 (bd (cs42)[o43]? fun v44 =>
 (bd (QB prog 35 [(0, (V.int .u8 2)), (1, v44)]) fun cs45 =>
 (if (cs45).length = 2 then
 (if ((cs45).length <= 2) then
 some (Res.ret [(V.sl 1 l39 false), (V.agg (((setR [(V.int .u8 0), (V.int .i32 0)] 0 cs45)).drop 0 |>.take 2))], h1) else none) else none))) else none))) else none))))
 else
 (bd (QK (V.sl 1 x1 x1b)) fun n46 =>
 (bdS (nv (V.int .i64 (IntKind.i64.wrap (((x1).length : Int) - 1)))) fun n47 =>
 (bd (ZW 1 0 n47 (none : Option Nat) true (V.sl 1 x1 x1b)) fun v48 =>
 (bdS (ZN h1 v48) fun p49 =>
 (if (27 = 27 /\ (p49.1 = 1 \/ (p49.2).isEmpty = true)) then
 (bd (app 21 1 (S.own 21 1 []) p49.2) fun l50 =>
 (bdS (nv (V.int .i64 (IntKind.i64.wrap (((x1).length : Int) - 1)))) fun n51 =>
 (bd (ZA 1 n51 (V.sl 1 x1 x1b)) fun p52 =>
 (bd3 (zt h1 p52) fun cs54 m53 o55 => if (o55 + 1 <= m53 /\ 0 < 1) then
 (bd (cs54)[o55]? fun v56 =>
 (bd (QB prog 35 [(0, (V.int .u8 2)), (1, v56)]) fun cs57 =>
 (if (cs57).length = 2 then
 (if ((cs57).length <= 2) then
 some (Res.ret [(V.sl 1 l50 false), (V.agg (((setR [(V.int .u8 0), (V.int .i32 0)] 0 cs57)).drop 0 |>.take 2))], h1) else none) else none))) else none)))) else none))))))))))
 else
 (if (decide (x2_0 ≥ 3)) then
 (if (((x1).length : Int) == 0) then
 some (Res.ret [(V.sl 1 x1 x1b), (V.agg [(V.int .u8 4), (V.int .i32 0)])], h1)
 else
 (if (x2_0 == 1) then
 (bd (app 21 1 (S.own 21 1 []) [[(V.int .i32 x2_1)]]) fun l58 =>
 (bd (app 21 1 (S.own 21 1 l58) x1) fun l59 =>
 some (Res.ret [(V.sl 1 l59 false), (V.agg [(V.int .u8 1), (V.int .i32 0)])], h1)))
 else
 (if (x2_0 == 2) then
 (bd (app 21 1 (S.own 21 1 []) x1) fun l60 =>
 (bd (app 21 1 (S.own 21 1 l60) [[(V.int .i32 x2_1)]]) fun l61 =>
 some (Res.ret [(V.sl 1 l61 false), (V.agg [(V.int .u8 1), (V.int .i32 0)])], h1)))
 else
 (if (x2_0 == 3) then
 (bd (QK (V.sl 1 x1 x1b)) fun n62 =>
 (bd (ZW 1 1 n62 (none : Option Nat) true (V.sl 1 x1 x1b)) fun v63 =>
 (bdS (ZN h1 v63) fun p64 =>
 (if (27 = 27 /\ (p64.1 = 1 \/ (p64.2).isEmpty = true)) then
 (bd (app 21 1 (S.own 21 1 []) p64.2) fun l65 =>
 (bd (ZA 1 0 (V.sl 1 x1 x1b)) fun p66 =>
 (bd3 (zt h1 p66) fun cs68 m67 o69 => if (o69 + 1 <= m67 /\ 0 < 1) then
 (bd (cs68)[o69]? fun v70 =>
 (bd (QB prog 35 [(0, (V.int .u8 2)), (1, v70)]) fun cs71 =>
 (if (cs71).length = 2 then
 (if ((cs71).length <= 2) then
 some (Res.ret [(V.sl 1 l65 false), (V.agg (((setR [(V.int .u8 0), (V.int .i32 0)] 0 cs71)).drop 0 |>.take 2))], h1) else none) else none))) else none))) else none))))
 else
 (bd (QK (V.sl 1 x1 x1b)) fun n72 =>
 (bdS (nv (V.int .i64 (IntKind.i64.wrap (((x1).length : Int) - 1)))) fun n73 =>
 (bd (ZW 1 0 n73 (none : Option Nat) true (V.sl 1 x1 x1b)) fun v74 =>
 (bdS (ZN h1 v74) fun p75 =>
 (if (27 = 27 /\ (p75.1 = 1 \/ (p75.2).isEmpty = true)) then
 (bd (app 21 1 (S.own 21 1 []) p75.2) fun l76 =>
 (bdS (nv (V.int .i64 (IntKind.i64.wrap (((x1).length : Int) - 1)))) fun n77 =>
 (bd (ZA 1 n77 (V.sl 1 x1 x1b)) fun p78 =>
 (bd3 (zt h1 p78) fun cs80 m79 o81 => if (o81 + 1 <= m79 /\ 0 < 1) then
 (bd (cs80)[o81]? fun v82 =>
 (bd (QB prog 35 [(0, (V.int .u8 2)), (1, v82)]) fun cs83 =>
 (if (cs83).length = 2 then
 (if ((cs83).length <= 2) then
 some (Res.ret [(V.sl 1 l76 false), (V.agg (((setR [(V.int .u8 0), (V.int .i32 0)] 0 cs83)).drop 0 |>.take 2))], h1) else none) else none))) else none)))) else none)))))))))
 else
 (if (x2_0 == 1) then
 (bd (app 21 1 (S.own 21 1 []) [[(V.int .i32 x2_1)]]) fun l84 =>
 (bd (app 21 1 (S.own 21 1 l84) x1) fun l85 =>
 some (Res.ret [(V.sl 1 l85 false), (V.agg [(V.int .u8 1), (V.int .i32 0)])], h1)))
 else
 (if (x2_0 == 2) then
 (bd (app 21 1 (S.own 21 1 []) x1) fun l86 =>
 (bd (app 21 1 (S.own 21 1 l86) [[(V.int .i32 x2_1)]]) fun l87 =>
 some (Res.ret [(V.sl 1 l87 false), (V.agg [(V.int .u8 1), (V.int .i32 0)])], h1)))
 else
 (if (x2_0 == 3) then
 (bd (QK (V.sl 1 x1 x1b)) fun n88 =>
 (bd (ZW 1 1 n88 (none : Option Nat) true (V.sl 1 x1 x1b)) fun v89 =>
 (bdS (ZN h1 v89) fun p90 =>
 (if (27 = 27 /\ (p90.1 = 1 \/ (p90.2).isEmpty = true)) then
 (bd (app 21 1 (S.own 21 1 []) p90.2) fun l91 =>
 (bd (ZA 1 0 (V.sl 1 x1 x1b)) fun p92 =>
 (bd3 (zt h1 p92) fun cs94 m93 o95 => if (o95 + 1 <= m93 /\ 0 < 1) then
 (bd (cs94)[o95]? fun v96 =>
 (bd (QB prog 35 [(0, (V.int .u8 2)), (1, v96)]) fun cs97 =>
 (if (cs97).length = 2 then
 (if ((cs97).length <= 2) then
 some (Res.ret [(V.sl 1 l91 false), (V.agg (((setR [(V.int .u8 0), (V.int .i32 0)] 0 cs97)).drop 0 |>.take 2))], h1) else none) else none))) else none))) else none))))
 else
 (bd (QK (V.sl 1 x1 x1b)) fun n98 =>
 (bdS (nv (V.int .i64 (IntKind.i64.wrap (((x1).length : Int) - 1)))) fun n99 =>
 (bd (ZW 1 0 n99 (none : Option Nat) true (V.sl 1 x1 x1b)) fun v100 =>
 (bdS (ZN h1 v100) fun p101 =>
 (if (27 = 27 /\ (p101.1 = 1 \/ (p101.2).isEmpty = true)) then
 (bd (app 21 1 (S.own 21 1 []) p101.2) fun l102 =>
 (bdS (nv (V.int .i64 (IntKind.i64.wrap (((x1).length : Int) - 1)))) fun n103 =>
 (bd (ZA 1 n103 (V.sl 1 x1 x1b)) fun p104 =>
 (bd3 (zt h1 p104) fun cs106 m105 o107 => if (o107 + 1 <= m105 /\ 0 < 1) then
 (bd (cs106)[o107]? fun v108 =>
 (bd (QB prog 35 [(0, (V.int .u8 2)), (1, v108)]) fun cs109 =>
 (if (cs109).length = 2 then
 (if ((cs109).length <= 2) then
 some (Res.ret [(V.sl 1 l102 false), (V.agg (((setR [(V.int .u8 0), (V.int .i32 0)] 0 cs109)).drop 0 |>.take 2))], h1) else none) else none))) else none)))) else none))))))))))))))) (fun z2 h1 => some (Res.pan z2, h1)))
theorem zmp (n : Nat) (x0 : Int) (x1 : List (List V)) (x1b : Bool) (x2_0 : Int) (x2_1 : Int) (h : zd) : call (n + 1) 93 [(V.int .i64 x0), (V.sl 1 x1 x1b), (V.agg [(V.int .u8 x2_0), (V.int .i32 x2_1)])] h = zoB n x0 x1 x1b x2_0 x2_1 h := by kernel_rfl
noncomputable def zaM (n : Nat) (x0 : Int) (x1 : Int) (x2 : List (List V)) (x2b : Bool) (x3_0 : Int) (x3_1 : Int) : Option (Res × zd) :=
 (if (x0 == 1) then
 (cl (call n 92 [(V.int .i64 x1), (V.sl 1 x2 x2b), (V.agg [(V.int .u8 x3_0), (V.int .i32 x3_1)])] []) (fun r0 h1 =>
 (bd (r0)[0]? fun v3 =>
 (bd (r0)[1]? fun v4 =>
 (if ((V.cells v4)).length = 2 then
 (if (((V.cells v4)).length <= 2) then
 (if ((((setR [(V.int .u8 5), (V.int .i32 0)] 0 (V.cells v4))).drop 0 |>.take 2)).length = 2 then
 (if (((((setR [(V.int .u8 5), (V.int .i32 0)] 0 (V.cells v4))).drop 0 |>.take 2)).length <= 2) then
 some (Res.ret [v3, (V.agg (((setR [(V.int .u8 0), (V.int .i32 0)] 0 (((setR [(V.int .u8 5), (V.int .i32 0)] 0 (V.cells v4))).drop 0 |>.take 2))).drop 0 |>.take 2))], h1) else none) else none) else none) else none)))) (fun z2 h1 => some (Res.pan z2, h1)))
 else
 (if (x0 == 2) then
 (cl (call n 93 [(V.int .i64 x1), (V.sl 1 x2 x2b), (V.agg [(V.int .u8 x3_0), (V.int .i32 x3_1)])] []) (fun r5 h6 =>
 (bd (r5)[0]? fun v8 =>
 (bd (r5)[1]? fun v9 =>
 (if ((V.cells v9)).length = 2 then
 (if (((V.cells v9)).length <= 2) then
 (if ((((setR [(V.int .u8 5), (V.int .i32 0)] 0 (V.cells v9))).drop 0 |>.take 2)).length = 2 then
 (if (((((setR [(V.int .u8 5), (V.int .i32 0)] 0 (V.cells v9))).drop 0 |>.take 2)).length <= 2) then
 some (Res.ret [v8, (V.agg (((setR [(V.int .u8 0), (V.int .i32 0)] 0 (((setR [(V.int .u8 5), (V.int .i32 0)] 0 (V.cells v9))).drop 0 |>.take 2))).drop 0 |>.take 2))], h6) else none) else none) else none) else none)))) (fun z7 h6 => some (Res.pan z7, h6)))
 else
 (if (x0 == 3) then
 (cl (call n 94 [(V.int .i64 x1), (V.sl 1 x2 x2b), (V.agg [(V.int .u8 x3_0), (V.int .i32 x3_1)])] []) (fun r10 h11 =>
 (bd (r10)[0]? fun v13 =>
 (bd (r10)[1]? fun v14 =>
 (if ((V.cells v14)).length = 2 then
 (if (((V.cells v14)).length <= 2) then
 (if ((((setR [(V.int .u8 5), (V.int .i32 0)] 0 (V.cells v14))).drop 0 |>.take 2)).length = 2 then
 (if (((((setR [(V.int .u8 5), (V.int .i32 0)] 0 (V.cells v14))).drop 0 |>.take 2)).length <= 2) then
 some (Res.ret [v13, (V.agg (((setR [(V.int .u8 0), (V.int .i32 0)] 0 (((setR [(V.int .u8 5), (V.int .i32 0)] 0 (V.cells v14))).drop 0 |>.take 2))).drop 0 |>.take 2))], h11) else none) else none) else none) else none)))) (fun z12 h11 => some (Res.pan z12, h11)))
 else
 some (Res.ret [(V.sl 1 x2 x2b), (V.agg [(V.int .u8 5), (V.int .i32 0)])], []))))
theorem zgm (n : Nat) (x0 : Int) (x1 : Int) (x2 : List (List V)) (x2b : Bool) (x3_0 : Int) (x3_1 : Int) (h : zd) : call (n + 1) 63 [(V.int .u8 x0), (V.int .i64 x1), (V.sl 1 x2 x2b), (V.agg [(V.int .u8 x3_0), (V.int .i32 x3_1)])] h = gcw [(V.int .u8 x0), (V.int .i64 x1), (V.sl 1 x2 x2b), (V.agg [(V.int .u8 x3_0), (V.int .i32 x3_1)])] (zaM n x0 x1 x2 x2b x3_0 x3_1) h := by kernel_rfl
noncomputable def JZ (n : Nat) (v3 : V) (v7 : V) (v13 : V) (v14 : V) (st16 : List V) (hh17 : zd) (next18 : List V -> zd -> Option (Res × zd)) : Option (Res × zd) :=
 (bd (ZN hh17 v3) fun p19 =>
 (bd (bop prog .lss 3 (gv st16 1) (V.int .i64 ((p19.2).length : Int))) fun v20 =>
 (bv v20 fun b21 => if b21 then
 (bdS (nv (gv st16 1)) fun n22 =>
 (bd (ZA 2 n22 v3) fun p23 =>
 (bd3 (zt hh17 p23) fun cs25 m24 o26 => if (o26 + 2 <= m24 /\ 0 < 2) then
 (bd (Wi prog 23 1 [(0, (V.agg ((cs25).drop o26 |>.take 2)))]) fun p27 =>
 (cl (call n 17 [v7, (V.sl 2 p27.2 false)] hh17) (fun r28 h29 =>
 (Zs r28 fun v31 =>
 (bd (ZN h29 v31) fun p32 =>
 (if (((p32.2).length : Int) != 1) then
 some (Res.ret [(V.bool false)], h29)
 else
 (bd (ZA 2 0 v31) fun p33 =>
 (bd3 (zt h29 p33) fun cs35 m34 o36 => if (o36 + 2 <= m34 /\ 0 < 2) then
 (bdS (nv (gv st16 1)) fun n37 =>
 (bd (ZA 2 n37 v14) fun p38 =>
 (bd3 (zt h29 p38) fun cs40 m39 o41 => if (o41 + 2 <= m39 /\ 0 < 2) then
 (bd (bop prog .neq 35 (V.agg ((cs35).drop o36 |>.take 2)) (V.agg ((cs40).drop o41 |>.take 2))) fun v42 =>
 (bv v42 fun b43 => if b43 then
 some (Res.ret [(V.bool false)], h29)
 else
 (bd (bop prog .add 3 (gv st16 1) (V.int .i64 1)) fun v44 =>
 (next18 [(gv st16 0), v44] h29)))) else none))) else none)))))) (fun z30 h29 => some (Res.pan z30, h29)))) else none)))
 else
 (cl (call n 18 [] hh17) (fun r45 h46 =>
 (Zs r45 fun v48 =>
 (bv v48 fun b49 => if b49 then
 (cl (call n 20 [v7] h46) (fun r50 h51 =>
 (Zs r50 fun v53 =>
 (cl (call n 19 [v53, v13] h51) (fun r54 h55 =>
 (Zs r54 fun v57 =>
 (bv v57 fun b58 => if b58 then
 (cl (call n 17 [v7, (V.sl 0 [] true)] h55) (fun r59 h60 =>
 (Zs r59 fun v62 =>
 (bd (ZN h60 v62) fun p63 =>
 some (Res.ret [(V.bool (((p63.2).length : Int) == 0))], h60)))) (fun z61 h60 => some (Res.pan z61, h60)))
 else
 some (Res.ret [(V.bool false)], h55)))) (fun z56 h55 => some (Res.pan z56, h55))))) (fun z52 h51 => some (Res.pan z52, h51)))
 else
 some (Res.ret [(V.bool false)], h46)))) (fun z47 h46 => some (Res.pan z47, h46))))))
noncomputable def zdj (n : Nat) (x0 : Int) (x1 : Int) (x2 : List (List V)) (x2b : Bool) (x3 : Bool) : Option (Res × zd) :=
 (cl (call n 14 [(V.sl 1 x2 x2b), (V.int .u8 4)] []) (fun r0 h1 =>
 (Zs r0 fun v3 =>
 (cl (call n 15 [(V.int .u8 (IntKind.u8.wrap (1 + (Int.tmod x0 3)))), (V.int .i64 (IntKind.i64.wrap (Int.tmod x1 12))), (V.bool x3)] h1) (fun r4 h5 =>
 (Zs r4 fun v7 =>
 (bd (QA prog h5 .eql 25 v7 (V.val (.pointer none))) fun v8 =>
 (bv v8 fun b9 => if b9 then
 some (Res.ret [(V.bool false)], h5)
 else
 (cl (call n 16 [(V.int .u8 (IntKind.u8.wrap (1 + (Int.tmod x0 3)))), (V.int .i64 (IntKind.i64.wrap (Int.tmod x1 12))), (V.sl 0 [] true), v3] h5) (fun r10 h11 =>
 (bd (r10)[0]? fun v13 =>
 (bd (r10)[1]? fun v14 =>
 (zY n (JZ n v3 v7 v13 v14) [(V.bool false), (V.int .i64 0)] h11)))) (fun z12 h11 => some (Res.pan z12, h11))))))) (fun z6 h5 => some (Res.pan z6, h5))))) (fun z2 h1 => some (Res.pan z2, h1)))
theorem ziO (n : Nat) (x0 : Int) (x1 : Int) (x2 : List (List V)) (x2b : Bool) (x3 : Bool) (h : zd) : call (n + 1) 3 [(V.int .u8 x0), (V.int .u8 x1), (V.sl 1 x2 x2b), (V.bool x3)] h = gcw [(V.int .u8 x0), (V.int .u8 x1), (V.sl 1 x2 x2b), (V.bool x3)] (zdj n x0 x1 x2 x2b x3) h := by kernel_rfl
end Go.Proofs.Tryz
namespace Go.Proofs.Tryz
open Go.L
set_option maxRecDepth 100000
noncomputable def jg (n : Nat) (s : V) (st8 : List V) (hh9 : zd) (next10 : List V -> zd -> Option (Res × zd)) : Option (Res × zd) :=
 (bd (ZN hh9 s) fun p11 =>
 (bd (bop prog .lss 3 (gv st8 3) (V.int .i64 ((p11.2).length : Int))) fun v12 =>
 (bv v12 fun b13 => if b13 then
 (bdS (nv (gv st8 3)) fun n14 =>
 (bd (ZA 1 n14 s) fun p15 =>
 (bd3 (zt hh9 p15) fun cs17 m16 o18 => if (o18 + 1 <= m16 /\ 0 < 1) then
 (bd (cs17)[o18]? fun v19 =>
 (bd ((lcs (gv st8 0)))[1]? fun v20 =>
 (bd (bop prog .leq 21 v19 v20) fun v21 =>
 (bv v21 fun b22 => if b22 then
 (bd (bop prog .add 3 (gv st8 3) (V.int .i64 1)) fun v23 =>
 (next10 [(V.agg (lcs (gv st8 0))), (V.sl 1 (lsl (gv st8 1)) false), (V.agg (lcs (gv st8 2))), v23] hh9))
 else
 (bd (QK s) fun n24 =>
 (bdS (nv (gv st8 3)) fun n25 =>
 (bd (ZW 1 0 n25 (none : Option Nat) true s) fun v26 =>
 (bdS (ZN hh9 v26) fun p27 =>
 (if (27 = 27 /\ (p27.1 = 1 \/ (p27.2).isEmpty = true)) then
 (bd (app 21 1 (S.own 21 1 []) p27.2) fun l28 =>
 (bd ((lcs (gv st8 0)))[1]? fun v29 =>
 (bd (Wi prog 27 1 [(0, v29)]) fun p30 =>
 (bd (app 21 1 (S.own 21 1 l28) p30.2) fun l31 =>
 (bd (QK s) fun n32 =>
 (bdS (nv (gv st8 3)) fun n33 =>
 (bd (ZW 1 n33 n32 (none : Option Nat) true s) fun v34 =>
 (bdS (ZN hh9 v34) fun p35 =>
 (if (27 = 27 /\ (p35.1 = 1 \/ (p35.2).isEmpty = true)) then
 (bd (app 21 1 (S.own 21 1 l31) p35.2) fun l36 =>
 some (Res.ret [(V.sl 1 l36 false), (V.agg (((setR (lcs (gv st8 2)) 0 [(V.int .u8 1), (V.int .i32 0)])).drop 0 |>.take 2))], hh9)) else none))))))))) else none))))))))) else none)))
 else
 (bd (QK s) fun n37 =>
 (bdS (nv (gv st8 3)) fun n38 =>
 (bd (ZW 1 0 n38 (none : Option Nat) true s) fun v39 =>
 (bdS (ZN hh9 v39) fun p40 =>
 (if (27 = 27 /\ (p40.1 = 1 \/ (p40.2).isEmpty = true)) then
 (bd (app 21 1 (S.own 21 1 []) p40.2) fun l41 =>
 (bd ((lcs (gv st8 0)))[1]? fun v42 =>
 (bd (Wi prog 27 1 [(0, v42)]) fun p43 =>
 (bd (app 21 1 (S.own 21 1 l41) p43.2) fun l44 =>
 (bd (QK s) fun n45 =>
 (bdS (nv (gv st8 3)) fun n46 =>
 (bd (ZW 1 n46 n45 (none : Option Nat) true s) fun v47 =>
 (bdS (ZN hh9 v47) fun p48 =>
 (if (27 = 27 /\ (p48.1 = 1 \/ (p48.2).isEmpty = true)) then
 (bd (app 21 1 (S.own 21 1 l44) p48.2) fun l49 =>
 some (Res.ret [(V.sl 1 l49 false), (V.agg (((setR (lcs (gv st8 2)) 0 [(V.int .u8 1), (V.int .i32 0)])).drop 0 |>.take 2))], hh9)) else none))))))))) else none))))))))
noncomputable def zmq (n : Nat) (s : V) (st72 : List V) (hh73 : zd) (next74 : List V -> zd -> Option (Res × zd)) : Option (Res × zd) :=
 (bd (ZN hh73 s) fun p75 =>
 (bd (bop prog .lss 3 (gv st72 3) (V.int .i64 ((p75.2).length : Int))) fun v76 =>
 (bv v76 fun b77 => if b77 then
 (bdS (nv (gv st72 3)) fun n78 =>
 (bd (ZA 1 n78 s) fun p79 =>
 (bd3 (zt hh73 p79) fun cs81 m80 o82 => if (o82 + 1 <= m80 /\ 0 < 1) then
 (bd (cs81)[o82]? fun v83 =>
 (bd ((lcs (gv st72 0)))[1]? fun v84 =>
 (bd (bop prog .leq 21 v83 v84) fun v85 =>
 (bv v85 fun b86 => if b86 then
 (bd (bop prog .add 3 (gv st72 3) (V.int .i64 1)) fun v87 =>
 (next74 [(V.agg (lcs (gv st72 0))), (V.sl 1 (lsl (gv st72 1)) false), (V.agg (lcs (gv st72 2))), v87] hh73))
 else
 (bd (QK s) fun n88 =>
 (bdS (nv (gv st72 3)) fun n89 =>
 (bd (ZW 1 0 n89 (none : Option Nat) true s) fun v90 =>
 (bdS (ZN hh73 v90) fun p91 =>
 (if (27 = 27 /\ (p91.1 = 1 \/ (p91.2).isEmpty = true)) then
 (bd (app 21 1 (S.own 21 1 []) p91.2) fun l92 =>
 (bd ((lcs (gv st72 0)))[1]? fun v93 =>
 (bd (Wi prog 27 1 [(0, v93)]) fun p94 =>
 (bd (app 21 1 (S.own 21 1 l92) p94.2) fun l95 =>
 (bd (QK s) fun n96 =>
 (bdS (nv (gv st72 3)) fun n97 =>
 (bd (ZW 1 n97 n96 (none : Option Nat) true s) fun v98 =>
 (bdS (ZN hh73 v98) fun p99 =>
 (if (27 = 27 /\ (p99.1 = 1 \/ (p99.2).isEmpty = true)) then
 (bd (app 21 1 (S.own 21 1 l95) p99.2) fun l100 =>
 some (Res.ret [(V.sl 1 l100 false), (V.agg (((setR (lcs (gv st72 2)) 0 [(V.int .u8 1), (V.int .i32 0)])).drop 0 |>.take 2))], hh73)) else none))))))))) else none))))))))) else none)))
 else
 (bd (QK s) fun n101 =>
 (bdS (nv (gv st72 3)) fun n102 =>
 (bd (ZW 1 0 n102 (none : Option Nat) true s) fun v103 =>
 (bdS (ZN hh73 v103) fun p104 =>
 (if (27 = 27 /\ (p104.1 = 1 \/ (p104.2).isEmpty = true)) then
 (bd (app 21 1 (S.own 21 1 []) p104.2) fun l105 =>
 (bd ((lcs (gv st72 0)))[1]? fun v106 =>
 (bd (Wi prog 27 1 [(0, v106)]) fun p107 =>
 (bd (app 21 1 (S.own 21 1 l105) p107.2) fun l108 =>
 (bd (QK s) fun n109 =>
 (bdS (nv (gv st72 3)) fun n110 =>
 (bd (ZW 1 n110 n109 (none : Option Nat) true s) fun v111 =>
 (bdS (ZN hh73 v111) fun p112 =>
 (if (27 = 27 /\ (p112.1 = 1 \/ (p112.2).isEmpty = true)) then
 (bd (app 21 1 (S.own 21 1 l108) p112.2) fun l113 =>
 some (Res.ret [(V.sl 1 l113 false), (V.agg (((setR (lcs (gv st72 2)) 0 [(V.int .u8 1), (V.int .i32 0)])).drop 0 |>.take 2))], hh73)) else none))))))))) else none))))))))
noncomputable def zp0 (n : Nat) (m : Int) (s : V) (k : Int) (v : Int) (h : zd) : Option (Res × zd) :=
 (if (k == 1) then
 (bd (ZN h s) fun p0 =>
 (cl (call n 129 [(V.int .i64 m)] h) (fun r1 h2 =>
 (Zs r1 fun v4 =>
 (bd (bop prog .geq 3 (V.int .i64 ((p0.2).length : Int)) v4) fun v5 =>
 (bv v5 fun b6 => if b6 then
 some (Res.ret [s, (V.agg [(V.int .u8 3), (V.int .i32 0)])], h2)
 else
 (if (k == 1) then
 (zY n (jg n s) [(V.agg [(V.int .u8 k), (V.int .i32 v)]), (V.sl 1 [] false), (V.agg [(V.int .u8 0), (V.int .i32 0)]), (V.int .i64 0)] h2)
 else
 (if (k == 2) then
 (bd (ZN h2 s) fun p50 =>
 (if (((p50.2).length : Int) == 0) then
 some (Res.ret [s, (V.agg [(V.int .u8 4), (V.int .i32 0)])], h2)
 else
 (if (k == 2) then
 (bd (QK s) fun n51 =>
 (bd (ZW 1 1 n51 (none : Option Nat) true s) fun v52 =>
 (bdS (ZN h2 v52) fun p53 =>
 (if (27 = 27 /\ (p53.1 = 1 \/ (p53.2).isEmpty = true)) then
 (bd (app 21 1 (S.own 21 1 []) p53.2) fun l54 =>
 (bd (ZA 1 0 s) fun p55 =>
 (bd3 (zt h2 p55) fun cs57 m56 o58 => if (o58 + 1 <= m56 /\ 0 < 1) then
 (bd (cs57)[o58]? fun v59 =>
 (bd (QB prog 35 [(0, (V.int .u8 2)), (1, v59)]) fun cs60 =>
 (if (cs60).length = 2 then
 (if ((cs60).length <= 2) then
 some (Res.ret [(V.sl 1 l54 false), (V.agg (((setR [(V.int .u8 0), (V.int .i32 0)] 0 cs60)).drop 0 |>.take 2))], h2) else none) else none))) else none))) else none))))
 else
 some (Res.ret [s, (V.agg [(V.int .u8 5), (V.int .i32 0)])], h2))))
 else
 (if (k == 2) then
 (bd (QK s) fun n61 =>
 (bd (ZW 1 1 n61 (none : Option Nat) true s) fun v62 =>
 (bdS (ZN h2 v62) fun p63 =>
 (if (27 = 27 /\ (p63.1 = 1 \/ (p63.2).isEmpty = true)) then
 (bd (app 21 1 (S.own 21 1 []) p63.2) fun l64 =>
 (bd (ZA 1 0 s) fun p65 =>
 (bd3 (zt h2 p65) fun cs67 m66 o68 => if (o68 + 1 <= m66 /\ 0 < 1) then
 (bd (cs67)[o68]? fun v69 =>
 (bd (QB prog 35 [(0, (V.int .u8 2)), (1, v69)]) fun cs70 =>
 (if (cs70).length = 2 then
 (if ((cs70).length <= 2) then
 some (Res.ret [(V.sl 1 l64 false), (V.agg (((setR [(V.int .u8 0), (V.int .i32 0)] 0 cs70)).drop 0 |>.take 2))], h2) else none) else none))) else none))) else none))))
 else
 some (Res.ret [s, (V.agg [(V.int .u8 5), (V.int .i32 0)])], h2)))))))) (fun z3 h2 => some (Res.pan z3, h2))))
 else
 (if (k == 1) then
 (zY n (zmq n s) [(V.agg [(V.int .u8 k), (V.int .i32 v)]), (V.sl 1 [] false), (V.agg [(V.int .u8 0), (V.int .i32 0)]), (V.int .i64 0)] h)
 else
 (if (k == 2) then
 (bd (ZN h s) fun p114 =>
 (if (((p114.2).length : Int) == 0) then
 some (Res.ret [s, (V.agg [(V.int .u8 4), (V.int .i32 0)])], h)
 else
 (if (k == 2) then
 (bd (QK s) fun n115 =>
 (bd (ZW 1 1 n115 (none : Option Nat) true s) fun v116 =>
 (bdS (ZN h v116) fun p117 =>
 (if (27 = 27 /\ (p117.1 = 1 \/ (p117.2).isEmpty = true)) then
 (bd (app 21 1 (S.own 21 1 []) p117.2) fun l118 =>
 (bd (ZA 1 0 s) fun p119 =>
 (bd3 (zt h p119) fun cs121 m120 o122 => if (o122 + 1 <= m120 /\ 0 < 1) then
 (bd (cs121)[o122]? fun v123 =>
 (bd (QB prog 35 [(0, (V.int .u8 2)), (1, v123)]) fun cs124 =>
 (if (cs124).length = 2 then
 (if ((cs124).length <= 2) then
 some (Res.ret [(V.sl 1 l118 false), (V.agg (((setR [(V.int .u8 0), (V.int .i32 0)] 0 cs124)).drop 0 |>.take 2))], h) else none) else none))) else none))) else none))))
 else
 some (Res.ret [s, (V.agg [(V.int .u8 5), (V.int .i32 0)])], h))))
 else
 (if (k == 2) then
 (bd (QK s) fun n125 =>
 (bd (ZW 1 1 n125 (none : Option Nat) true s) fun v126 =>
 (bdS (ZN h v126) fun p127 =>
 (if (27 = 27 /\ (p127.1 = 1 \/ (p127.2).isEmpty = true)) then
 (bd (app 21 1 (S.own 21 1 []) p127.2) fun l128 =>
 (bd (ZA 1 0 s) fun p129 =>
 (bd3 (zt h p129) fun cs131 m130 o132 => if (o132 + 1 <= m130 /\ 0 < 1) then
 (bd (cs131)[o132]? fun v133 =>
 (bd (QB prog 35 [(0, (V.int .u8 2)), (1, v133)]) fun cs134 =>
 (if (cs134).length = 2 then
 (if ((cs134).length <= 2) then
 some (Res.ret [(V.sl 1 l128 false), (V.agg (((setR [(V.int .u8 0), (V.int .i32 0)] 0 cs134)).drop 0 |>.take 2))], h) else none) else none))) else none))) else none))))
 else
 some (Res.ret [s, (V.agg [(V.int .u8 5), (V.int .i32 0)])], h)))))
theorem zoC (n : Nat) (m : Int) (s : V) (k : Int) (v : Int) (h : zd) : call (n + 1) 94 [(V.int .i64 m), s, (V.agg [(V.int .u8 k), (V.int .i32 v)])] h = zp0 n m s k v h := by kernel_rfl
noncomputable def zkd (n : Nat) (m : Int) (s : V) (k : Int) (v : Int) : Option (Res × zd) :=
 (cl (call n 94 [(V.int .i64 m), s, (V.agg [(V.int .u8 k), (V.int .i32 v)])] []) (fun r0 h1 =>
 (bd (r0)[0]? fun v3 =>
 (bd (r0)[1]? fun v4 =>
 (if ((V.cells v4)).length = 2 then
 (if (((V.cells v4)).length <= 2) then
 (if ((((setR [(V.int .u8 5), (V.int .i32 0)] 0 (V.cells v4))).drop 0 |>.take 2)).length = 2 then
 (if (((((setR [(V.int .u8 5), (V.int .i32 0)] 0 (V.cells v4))).drop 0 |>.take 2)).length <= 2) then
 some (Res.ret [v3, (V.agg (((setR [(V.int .u8 0), (V.int .i32 0)] 0 (((setR [(V.int .u8 5), (V.int .i32 0)] 0 (V.cells v4))).drop 0 |>.take 2))).drop 0 |>.take 2))], h1) else none) else none) else none) else none)))) (fun z2 h1 => some (Res.pan z2, h1)))
theorem zmr (n : Nat) (m : Int) (s : V) (k : Int) (v : Int) (h : zd) : call (n + 1) 63 [(V.int .u8 3), (V.int .i64 m), s, (V.agg [(V.int .u8 k), (V.int .i32 v)])] h = gcw [(V.int .u8 3), (V.int .i64 m), s, (V.agg [(V.int .u8 k), (V.int .i32 v)])] (zkd n m s k v) h := by kernel_rfl
end Go.Proofs.Tryz
namespace Go.Proofs.Tryz
open Go.L Go.Rp Go.Sk
set_option maxRecDepth 100000
end Go.Proofs.Tryz
namespace Go.Proofs.Tryz
open Go.L Go.Rp Go.Sk
set_option maxRecDepth 100000
abbrev vL (l : List Int) : List (List V) := l.map (XL .i32)
def zgn (s : List Int) (v : Int) : List Int := s.takeWhile (· <= v) ++ v :: s.dropWhile (· <= v)
theorem Ki (l : List Int) : (vL l).length = l.length := zI ..
theorem zgo (l : List Int) (n : Nat) : (vL l).take n = vL (l.take n) := by simp [vL, List.map_take]
theorem zgp (l : List Int) (n : Nat) : (vL l).drop n = vL (l.drop n) := by simp [vL, List.map_drop]
theorem zaN (a b : List Int) (h : a.length + b.length < lim) : app 21 1 (.own 21 1 (vL a)) (vL b) = some (vL (a ++ b)) := by
 simp [app, h, vL]
theorem Jz (b : List Int) (h : b.length < lim) : app 21 1 (.own 21 1 []) (vL b) = some (vL b) := by
 simp [app, h, vL]
theorem zqv (x : Int) : Wi prog 27 1 [(0, .int .i32 x)] = some (1, vL [x]) := by kernel_rfl
theorem zms {sz z a b : Nat} {l : List (List V)} {sb : Bool} (hz : z = sz \/ l.isEmpty = true) (h1 : a <= b) (h2 : b <= l.length) : ZW sz a b (none : Option Nat) true (.sl z l sb) = some (.sl sz ((l.take b).drop a) false) := by
 have hc : a <= b /\ b <= l.length /\ (z = sz \/ l.isEmpty = true) /\ ((none : Option Nat) = none \/ (none : Option Nat) = some b) /\ true = true := ⟨h1, h2, hz, .inl rfl, rfl⟩
 show (if _ then _ else _) = _
 rw [if_pos hc]
 rfl
theorem ziP {H : zd} {l : List Int} {z : Nat} {sb : Bool} {a : Nat} {v : Int} {N : List (List V) -> Option (Res × zd)} {c1 c2 : Nat × List (List V) -> Prop} {d1 : ∀ p, Decidable (c1 p)} {d2 : ∀ p, Decidable (c2 p)} (hz : z = 1 \/ l = []) (h1 : ∀ p, p.1 = 1 -> c1 p) (h2 : ∀ p, p.1 = 1 -> c2 p) (ha : a <= l.length) (hl : l.length + 2 < lim) :
    (bd (QK (V.sl z (vL l) sb)) fun n47 =>
     (bd (ZW 1 0 a (none : Option Nat) true (V.sl z (vL l) sb)) fun v49 =>
     (bdS (ZN H v49) fun p50 =>
     (if c1 p50 then
     (bd (app 21 1 (S.own 21 1 []) p50.2) fun l51 =>
     (bd (Wi prog 27 1 [(0, (V.int .i32 v))]) fun p52 =>
     (bd (app 21 1 (S.own 21 1 l51) p52.2) fun l53 =>
     (bd (QK (V.sl z (vL l) sb)) fun n54 =>
     (bd (ZW 1 a n54 (none : Option Nat) true (V.sl z (vL l) sb)) fun v56 =>
     (bdS (ZN H v56) fun p57 =>
     (if c2 p57 then
     (bd (app 21 1 (S.own 21 1 l53) p57.2) fun l58 => N l58) else none))))))) else none)))) = N (vL (l.take a ++ v :: l.drop a)) := by
 have t1 : (l.take a).length <= l.length := by rw [Zf]; omega
 have hz' : z = 1 \/ (vL l).isEmpty = true := hz.imp id fun e => by rw [e]; rfl
 rw [qL, za, zms hz' (Ze _) (by rw [Ki]; exact ha), za, XD, zx, if_pos (h1 _ rfl)]
 simp only [zO]
 rw [zgo, Jz _ (by omega), za, zqv, za]
 simp only
 rw [zaN _ _ (by simp; omega), za, za, zms hz' (by rw [Ki]; exact ha) (zl _), za, XD, zx, if_pos (h2 _ rfl)]
 simp only [QY]
 rw [zgp, zaN _ _ (by simp; omega), za]
 simp
theorem zld {s : List Int} {v : Int} {a : Nat} (h1 : ∀ y ∈ s.take a, y <= v) (h2 : ∀ y, s[a]? = some y -> ¬ y <= v) : s.take a ++ v :: s.drop a = zgn s v := by
 unfold zgn
 have e : s = s.take a ++ s.drop a := (Zw a s).symm
 have hd : (s.drop a).takeWhile (· <= v) = [] /\ (s.drop a).dropWhile (· <= v) = s.drop a := by
  cases hda : s.drop a with
  | nil => exact ⟨rfl, rfl⟩
  | cons y r =>
    have : s[a]? = some y := by
     have := congrArg (fun l => l[0]?) hda
     simpa [Zg] using this
    have hy := h2 y this
    exact ⟨List.takeWhile_cons_of_neg (by simpa using hy), List.dropWhile_cons_of_neg (by simpa using hy)⟩
 have h3 : s.takeWhile (· <= v) = s.take a := by
  conv => lhs; rw [e]
  rw [List.takeWhile_append_of_pos (fun y hy => by simpa using h1 y hy), hd.1, Zm]
 have h4 : s.dropWhile (· <= v) = s.drop a := by
  conv => lhs; rw [e]
  rw [List.dropWhile_append_of_pos (fun y hy => by simpa using h1 y hy), hd.2]
 rw [h3, h4]
theorem zmt (n : Nat) (s : List Int) (z : Nat) (sb : Bool) (hz : z = 1 \/ s = []) (k v : Int) (H : zd) (hl : s.length + 2 < lim) : ∀ (d a M : Nat), a + d = s.length -> d < M -> (∀ y ∈ s.take a, y <= v) →
    zY M (jg n (.sl z (vL s) sb)) [.agg [.int .u8 k, .int .i32 v], .sl 1 [] false, .agg [.int .u8 0, .int .i32 0], .int .i64 (a : Int)] H = some (.ret [.sl 1 (vL (zgn s v)) false, .agg [.int .u8 1, .int .i32 0]], H) := by
 have hl7 : lcs (V.agg [.int .u8 k, .int .i32 v]) = [.int .u8 k, .int .i32 v] := rfl
 intro d
 induction d with
 | zero =>
   intro a M h1 h2 h3
   obtain ⟨M, rfl⟩ : ∃ M', M = M' + 1 := ⟨M - 1, by omega⟩
   obtain rfl : a = s.length := by omega
   rw [zH]
   unfold jg
   simp only [gv, zh, zf, XD, Ki, zw, za, zm, hl7, zi, zb, Zh, zx]
   rw [if_neg (by simp)]
   refine (ziP (H := H) (l := s) (a := s.length) (v := v) (N := fun l => some (Res.ret [.sl 1 l false, .agg [.int .u8 1, .int .i32 0]], H)) hz (fun p h => by simp [h]) (fun p h => by simp [h]) (zl _) hl).trans ?_
   rw [zld h3 (fun y hy => by simp at hy)]
 | succ d ih =>
   intro a M h1 h2 h3
   obtain ⟨M, rfl⟩ : ∃ M', M = M' + 1 := ⟨M - 1, by omega⟩
   obtain ⟨x, hx⟩ : ∃ x, s[a]? = some x := ⟨_, zg (by omega)⟩
   have hxv : (vL s)[a]? = some [.int .i32 x] := by unfold vL; rw [zJ, hx]; rfl
   obtain rfl : z = 1 := hz.resolve_right (by rintro rfl; simp at hx)
   have hlt : decide ((a : Int) < (s.length : Int)) = true := by simp; omega
   have key : ∀ next, jg n (.sl 1 (vL s) sb) [.agg [.int .u8 k, .int .i32 v], .sl 1 [] false, .agg [.int .u8 0, .int .i32 0], .int .i64 (a : Int)] H next = if x <= v then next [.agg [.int .u8 k, .int .i32 v], .sl 1 [] false, .agg [.int .u8 0, .int .i32 0], .int .i64 ((a + 1 : Nat) : Int)] H else some (.ret [.sl 1 (vL (s.take a ++ v :: s.drop a)) false, .agg [.int .u8 1, .int .i32 0]], H) := by
    intro next
    unfold jg
    simp only [gv, zh, zf, XD, Ki, zw, za, zm, hl7, zi, zb, Zh, zx, hlt, if_true, XU hxv, Z1, zn, zu, zl, Nat.reduceLT, and_self, KW]
    by_cases h : x <= v
    · rw [if_pos (by simpa using h), if_pos h, zN, za, XM (by omega)]
      rfl
    · rw [if_neg (by simpa using h), if_neg h]
      exact ziP (H := H) (l := s) (a := a) (v := v) (N := fun l => some (Res.ret [.sl 1 l false, .agg [.int .u8 1, .int .i32 0]], H)) (.inl rfl) (fun p h => by simp [h]) (fun p h => by simp [h]) (by omega) hl
   rw [zH, key]
   by_cases h : x <= v
   · rw [if_pos h]
     refine ih (a + 1) M (by omega) (by omega) fun y hy => ?_
     rw [List.take_add_one, hx] at hy
     rcases Zr.1 hy with hy | hy
     · exact h3 y hy
     · simp at hy; omega
   · rw [if_neg h, zld h3 fun y hy => by rw [hx] at hy; cases hy; exact h]
def Yf (most : Int) (s : List Int) (o : O) : List Int × R :=
 if o.k = 1 then (if most <= (s.length : Int) then (s, ⟨3, 0⟩) else (zgn s o.v, ⟨1, 0⟩))
 else if o.k = 2 then (match s with | [] => (s, ⟨4, 0⟩) | x :: r => (r, ⟨2, x⟩))
 else (s, ⟨5, 0⟩)
theorem ziQ (x : Int) : (if 0 < (if 1000 < x then 1000 else x) then (if 1000 < x then 1000 else x) else (0 : Int)) = max 0 (min x 1000) := by
 split <;> split at * <;> omega
theorem zmu (n : Nat) (m : Int) (s : List Int) (z : Nat) (sb : Bool) (hz : z = 1 \/ s = []) (k v : Int) (H : zd) (hl : s.length + 2 < lim) (hn : s.length + 2 <= n) :
    ∃ z' sb', call (n + 1) 94 [.int .i64 m, .sl z (vL s) sb, .agg [.int .u8 k, .int .i32 v]] H = some (.ret [.sl z' (vL (Yf (max 0 (min m 1000)) s ⟨k, v⟩).1) sb', .agg (R.w (Yf (max 0 (min m 1000)) s ⟨k, v⟩).2)], H) /\ (z' = 1 \/ (Yf (max 0 (min m 1000)) s ⟨k, v⟩).1 = []) := by
 rw [zoC]
 obtain ⟨n, rfl⟩ : ∃ n', n = n' + 1 := ⟨n - 1, by omega⟩
 have hmost : call (n + 1) 129 [.int .i64 m] H = some (.ret [.int .i64 (max 0 (min m 1000))], H) := by
  rw [ziG]; unfold zon; rw [ziQ]
 obtain ⟨mo, hmo⟩ : ∃ mo, mo = max 0 (min m 1000) := ⟨_, rfl⟩
 rw [<- hmo] at hmost ⊢
 unfold zp0
 by_cases h1 : k = 1
 · subst h1
   rw [if_pos (by rfl), XD, za, hmost, zM, zy]
   simp only [Ki, Z0, za, zm]
   by_cases h2 : mo <= (s.length : Int)
   · have hst : Yf mo s ⟨1, v⟩ = (s, ⟨3, 0⟩) := by unfold Yf; rw [if_pos rfl, if_pos h2]
     rw [if_pos (by exact decide_eq_true h2), hst]
     exact ⟨z, sb, rfl, hz⟩
   · have hst : Yf mo s ⟨1, v⟩ = (zgn s v, ⟨1, 0⟩) := by unfold Yf; rw [if_pos rfl, if_neg h2]
     rw [if_neg (by intro e; exact h2 (of_decide_eq_true e)), if_pos (by rfl), hst]
     exact ⟨1, false, zmt (n + 1) s z sb hz 1 v H hl s.length 0 (n + 1) (by omega) (by omega) (by simp), .inl rfl⟩
 · rw [if_neg (by simpa using h1), if_neg (by simpa using h1)]
   by_cases h2 : k = 2
   · subst h2
     rw [if_pos (by rfl), XD, za]
     simp only [Ki]
     cases s with
     | nil =>
       rw [if_pos (by rfl)]
       exact ⟨z, sb, rfl, .inr rfl⟩
     | cons x r =>
       obtain rfl : z = 1 := hz.resolve_right (by simp)
       have hxv : (vL (x :: r))[0]? = some [.int .i32 x] := rfl
       rw [if_neg (by simp; omega), if_pos (by rfl), qL, za, zms (.inl rfl) (by simp) (zl _), za, XD, zx, if_pos (by first | exact ⟨rfl, .inl rfl⟩ | exact ⟨trivial, .inl rfl⟩)]
       simp only [QY]
       rw [zgp, Jz _ (by simp at hl ⊢; omega), za, XU hxv, za, Z1, zn, if_pos (by decide)]
       simp only [zb, za, zaa]
       exact ⟨1, false, rfl, .inl rfl⟩
   · have hst : Yf mo s ⟨k, v⟩ = (s, ⟨5, 0⟩) := by unfold Yf; rw [if_neg h1, if_neg h2]
     rw [if_neg (by simpa using h2), if_neg (by simpa using h2), hst]
     exact ⟨z, sb, rfl, hz⟩
theorem ziR (n : Nat) (m : Int) (s : List Int) (z : Nat) (sb : Bool) (hz : z = 1 \/ s = []) (o : O) (H : zd) (hl : s.length + 2 < lim) (hn : s.length + 2 <= n) :
    ∃ z' sb', call (n + 2) 63 [.int .u8 3, .int .i64 m, .sl z (vL s) sb, .agg [.int .u8 o.k, .int .i32 o.v]] H = some (.ret [.sl z' (vL (Yf (max 0 (min m 1000)) s o).1) sb', .agg (R.w (Yf (max 0 (min m 1000)) s o).2)], H) /\ (z' = 1 \/ (Yf (max 0 (min m 1000)) s o).1 = []) := by
 obtain ⟨z', sb', e, hz'⟩ := zmu n m s z sb hz o.k o.v [] hl hn
 refine ⟨z', sb', ?_, hz'⟩
 refine (zmr (n + 1) m (.sl z (vL s) sb) o.k o.v H).trans ?_
 have key : zkd (n + 1) m (.sl z (vL s) sb) o.k o.v = some (.ret [.sl z' (vL (Yf (max 0 (min m 1000)) s o).1) sb', .agg (R.w (Yf (max 0 (min m 1000)) s o).2)], []) := by
  unfold zkd
  rw [e, zM]
  rfl
 rw [key]
 generalize Yf (max 0 (min m 1000)) s o = q
 exact Ym (by simp [XL]) (by simp [XL, R.w])
theorem zoD (s : List Int) (v : Int) : (zgn s v).length = s.length + 1 := by
 unfold zgn
 rw [zF, zE]
 have := congrArg List.length (List.takeWhile_append_dropWhile (p := fun y : Int => decide (y <= v)) (l := s))
 rw [zF] at this
 omega
theorem zoE (most : Int) (s : List Int) (o : O) : (Yf most s o).1.length <= s.length + 1 := by
 unfold Yf
 split
 · split
   · simp
   · simp [zoD]
 · split
   · cases s <;> simp <;> omega
   · simp
end Go.Proofs.Tryz
namespace Go.Proofs.Tryz
open Go.L Go.Rp Go.Sk
set_option maxRecDepth 100000
theorem zpx (h : zd) {z : Nat} {l : List Int} {sb : Bool} (hz : z = 1 \/ l = []) : zdN h (.sl z (vL l) sb) l := ⟨⟨z, XD ..⟩, fun i x hx => by
 obtain rfl : z = 1 := hz.resolve_right (by rintro rfl; simp at hx)
 exact ⟨_, XU (es := XL .i32 x) (by rw [zJ, hx]; rfl) sb, Z1 ..⟩⟩
theorem zoF (I : List (Int × Nat)) (v : Int) (T : Nat) : (zbA I v T).map (·.1) = zgn (I.map (·.1)) v := by
 unfold zbA zgn
 rw [ZI, zS, List.takeWhile_map, List.dropWhile_map]
 rfl
theorem zoG (most : Int) (st : St) (o : O) : ((stp most st o).1.1.map (·.1), (stp most st o).2) = Yf most (st.1.map (·.1)) o := by
 unfold stp Yf
 rw [zI]
 by_cases h1 : o.k = 1
 · rw [if_pos h1, if_pos h1]
   by_cases h2 : most <= (st.1.length : Int)
   · rw [if_pos h2, if_pos h2]
   · rw [if_neg h2, if_neg h2]
     simp only [zoF]
 · rw [if_neg h1, if_neg h1]
   by_cases h2 : o.k = 2
   · rw [if_pos h2, if_pos h2]
     obtain ⟨I, B⟩ := st
     cases I <;> rfl
   · rw [if_neg h2, if_neg h2]
end Go.Proofs.Tryz
namespace Go.Proofs.Tryz
open Go.L Go.Rp Go.Sk
set_option maxRecDepth 100000
theorem Ys (n : Nat) (m : Int) (H : zd) : call (n + 1) 129 [.int .i64 m] H = some (.ret [.int .i64 (max 0 (min m 1000))], H) := by
 rw [ziG]; unfold zon; rw [ziQ]
theorem zle {s : List Int} {x : Int} : (vL (s ++ [x]))[s.length]? = some [.int .i32 x] := by simp [vL, XL]
theorem ziS {s : List Int} {x : Int} (hl : s.length + 2 < lim) : IntKind.i64.wrap (((vL (s ++ [x])).length : Int) - 1) = (s.length : Int) := by
 unfold lim at hl
 rw [Ki, zF, Zt, w64 (by omega) (by omega)]; omega
theorem zmv (n : Nat) (m : Int) (s : List Int) (sb : Bool) (o : O) (H : zd) (hl : s.length + 2 < lim) :
    ∃ sb', call (n + 2) 92 [.int .i64 m, .sl 1 (vL s) sb, .agg [.int .u8 o.k, .int .i32 o.v]] H = some (.ret [.sl 1 (vL (ZC (max 0 (min m 1000)) o.k o.v s).2) sb', .agg (R.w (zaz (max 0 (min m 1000)) o s))], H) := by
 rw [show n + 2 = (n + 1) + 1 from rfl, zmo]
 unfold zoA zaz
 by_cases k1 : o.k = 1
 · rw [if_pos (by simp [k1]), Ys, zM, zy, Z0, za, zm, Ki]
   by_cases h2 : max 0 (min m 1000) <= (s.length : Int)
   · have ht : ZC (max 0 (min m 1000)) o.k o.v s = ((3, 0), s) := by unfold ZC; rw [if_pos k1, if_neg (by omega)]
     rw [if_pos (decide_eq_true h2), ht]
     exact ⟨sb, rfl⟩
   · have ht : ZC (max 0 (min m 1000)) o.k o.v s = ((1, 0), s ++ [o.v]) := by unfold ZC; rw [if_pos k1, if_pos (by omega)]
     rw [if_neg (by intro e; exact h2 (of_decide_eq_true e)), if_pos (by simp [k1]), Jz _ (by omega), za]
     rw [show [[V.int IntKind.i32 o.v]] = vL [o.v] from rfl, zaN _ _ (by simp; omega), za, ht]
     exact ⟨false, rfl⟩
 rw [if_neg (by simp [k1]), if_neg (by simp [k1])]
 by_cases k2 : o.k = 2
 · rw [if_pos (by simp [k2])]
   rcases Zu s with rfl | ⟨s0, x, rfl⟩
   · have ht : ZC (max 0 (min m 1000)) o.k o.v [] = ((4, 0), []) := by unfold ZC; rw [if_neg k1, if_pos k2]; rfl
     rw [if_neg (by simp [vL]), if_pos (by simp [k2]), ht]
     exact ⟨sb, rfl⟩
   · rw [Xs] at hl ⊢
     have ht : ZC (max 0 (min m 1000)) o.k o.v (s0 ++ [x]) = ((2, x), s0) := by unfold ZC; rw [if_neg k1, if_pos k2]; simp
     have hl0 : s0.length + 2 < lim := by simp at hl; omega
     rw [if_pos (by simp [vL]), qL, za, ziS hl0, Zh, zx, zms (.inl rfl) (Ze _) (by simp [vL]), za, XD, zx, if_pos (by first | exact ⟨rfl, .inl rfl⟩ | exact ⟨trivial, .inl rfl⟩)]
     simp only [zO]
     rw [zgo, List.take_left' rfl, Jz _ (by omega), za, zx, XU zle, za, Z1, zn, if_pos (by decide)]
     simp only [zb, za, zaa]
     rw [ht]
     exact ⟨false, rfl⟩
 · have ht : ZC (max 0 (min m 1000)) o.k o.v s = ((5, 0), s) := by unfold ZC; rw [if_neg k1, if_neg k2]
   rw [if_neg (by simp [k2]), if_neg (by simp [k2]), ht]
   exact ⟨sb, rfl⟩
theorem zmw (n : Nat) (m : Int) (s : List Int) (sb : Bool) (o : O) (H : zd) (hl : s.length + 2 < lim) :
    ∃ sb', call (n + 2) 93 [.int .i64 m, .sl 1 (vL s) sb, .agg [.int .u8 o.k, .int .i32 o.v]] H = some (.ret [.sl 1 (vL (Zi (max 0 (min m 1000)) o.k o.v s).2) sb', .agg (R.w (zaA (max 0 (min m 1000)) o s))], H) := by
 rw [show n + 2 = (n + 1) + 1 from rfl, zmp]
 unfold zoB zaA
 rw [Ys, zM, zy, Z0, za]
 generalize hmo : max 0 (min m 1000) = mo
 by_cases hlo : o.k < 1
 · have ht : Zi mo o.k o.v s = ((5, 0), s) := by unfold Zi; rw [if_neg (by omega), if_neg (by omega), if_neg (by omega), if_neg (by omega)]
   rw [if_pos (decide_eq_true hlo), ht]
   exact ⟨sb, rfl⟩
 rw [if_neg (by simpa using hlo)]
 by_cases hhi : o.k > 4
 · have ht : Zi mo o.k o.v s = ((5, 0), s) := by unfold Zi; rw [if_neg (by omega), if_neg (by omega), if_neg (by omega), if_neg (by omega)]
   rw [if_pos (decide_eq_true hhi), ht]
   exact ⟨sb, rfl⟩
 rw [if_neg (by simpa using hhi)]
 by_cases h2 : o.k <= 2
 · rw [if_pos (decide_eq_true h2), zm, Ki]
   by_cases hf : mo <= (s.length : Int)
   · have ht : Zi mo o.k o.v s = ((3, 0), s) := by
       unfold Zi
       by_cases k1 : o.k = 1
       · rw [if_pos k1, if_neg (by omega)]
       · rw [if_neg k1, if_pos (by omega), if_neg (by omega)]
     rw [if_pos (decide_eq_true hf), ht]
     exact ⟨sb, rfl⟩
   · rw [if_neg (by intro e; exact hf (of_decide_eq_true e)), if_neg (by simp; omega)]
     by_cases k1 : o.k = 1
     · have ht : Zi mo o.k o.v s = ((1, 0), o.v :: s) := by unfold Zi; rw [if_pos k1, if_pos (by omega)]
       rw [if_pos (by simp [k1]), show [[V.int IntKind.i32 o.v]] = vL [o.v] from rfl, Jz _ (by simp; omega), za, zaN _ _ (by simp; omega), za, ht]
       exact ⟨false, rfl⟩
     · have k2 : o.k = 2 := by omega
       have ht : Zi mo o.k o.v s = ((1, 0), s ++ [o.v]) := by unfold Zi; rw [if_neg k1, if_pos k2, if_pos (by omega)]
       rw [if_neg (by simp [k1]), if_pos (by simp [k2]), Jz _ (by omega), za, show [[V.int IntKind.i32 o.v]] = vL [o.v] from rfl, zaN _ _ (by simp; omega), za, ht]
       exact ⟨false, rfl⟩
 rw [if_neg (by simpa using h2), if_pos (by simp; omega)]
 by_cases k3 : o.k = 3
 · cases s with
   | nil =>
     have ht : Zi mo o.k o.v [] = ((4, 0), []) := by unfold Zi; rw [if_neg (by omega), if_neg (by omega), if_pos k3]
     rw [if_pos (by rfl), ht]
     exact ⟨sb, rfl⟩
   | cons x r =>
     have ht : Zi mo o.k o.v (x :: r) = ((2, x), r) := by unfold Zi; rw [if_neg (by omega), if_neg (by omega), if_pos k3]
     have hxv : (vL (x :: r))[0]? = some [.int .i32 x] := rfl
     rw [if_neg (by simp [vL]; omega), if_neg (by simp [k3]), if_neg (by simp [k3]), if_pos (by simp [k3]), qL, za, zms (.inl rfl) (by simp [vL]) (zl _), za, XD, zx, if_pos (by first | exact ⟨rfl, .inl rfl⟩ | exact ⟨trivial, .inl rfl⟩)]
     simp only [QY]
     rw [zgp, Jz _ (by simp at hl ⊢; omega), za, XU hxv, za, Z1, zn, if_pos (by decide)]
     simp only [zb, za, zaa]
     rw [ht]
     exact ⟨false, rfl⟩
 · have k4 : o.k = 4 := by omega
   rcases Zu s with rfl | ⟨s0, x, rfl⟩
   · have ht : Zi mo o.k o.v [] = ((4, 0), []) := by unfold Zi; rw [if_neg (by omega), if_neg (by omega), if_neg k3, if_pos k4]; rfl
     rw [if_pos (by rfl), ht]
     exact ⟨sb, rfl⟩
   · rw [Xs] at hl ⊢
     have ht : Zi mo o.k o.v (s0 ++ [x]) = ((2, x), s0) := by unfold Zi; rw [if_neg (by omega), if_neg (by omega), if_neg k3, if_pos k4]; simp
     have hl0 : s0.length + 2 < lim := by simp at hl; omega
     rw [if_neg (by simp [vL]; omega), if_neg (by simp [k4]), if_neg (by simp [k4]), if_neg (by simp [k4]), qL, za, ziS hl0, Zh, zx, zms (.inl rfl) (Ze _) (by simp [vL]), za, XD, zx, if_pos (by first | exact ⟨rfl, .inl rfl⟩ | exact ⟨trivial, .inl rfl⟩)]
     simp only [zO]
     rw [zgo, List.take_left' rfl, Jz _ (by omega), za, zx, XU zle, za, Z1, zn, if_pos (by decide)]
     simp only [zb, za, zaa]
     rw [ht]
     exact ⟨false, rfl⟩
def J0 (k : Nat) (m : Int) (o : O) (s : List Int) : List Int × R := if k = 1 then ((ZC m o.k o.v s).2, zaz m o s) else ((Zi m o.k o.v s).2, zaA m o s)
theorem zag (n : Nat) {k : Nat} (hk : k = 1 \/ k = 2) (m : Int) (s : List Int) (sb : Bool) (o : O) (H : zd) (hl : s.length + 2 < lim) :
    ∃ sb', call (n + 3) 63 [.int .u8 (k : Int), .int .i64 m, .sl 1 (vL s) sb, .agg [.int .u8 o.k, .int .i32 o.v]] H = some (.ret [.sl 1 (vL (J0 k (max 0 (min m 1000)) o s).1) sb', .agg (R.w (J0 k (max 0 (min m 1000)) o s).2)], H) := by
 have key : ∃ sb', zaM (n + 2) (k : Int) m (vL s) sb o.k o.v = some (.ret [.sl 1 (vL (J0 k (max 0 (min m 1000)) o s).1) sb', .agg (R.w (J0 k (max 0 (min m 1000)) o s).2)], []) := by
  unfold zaM
  rcases hk with rfl | rfl
  · obtain ⟨sb', e⟩ := zmv n m s sb o [] hl
    refine ⟨sb', ?_⟩
    rw [if_pos (by rfl), e, zM]
    rfl
  · obtain ⟨sb', e⟩ := zmw n m s sb o [] hl
    refine ⟨sb', ?_⟩
    rw [if_neg (by decide), if_pos (by rfl), e, zM]
    rfl
 obtain ⟨sb', key⟩ := key
 refine ⟨sb', (zgm (n + 2) _ m (vL s) sb o.k o.v H).trans ?_⟩
 rw [key]
 generalize J0 k (max 0 (min m 1000)) o s = q
 exact Ym (by simp [XL]) (by simp [XL, R.w])
def zdQ (k : Nat) (m : Int) : List O -> List Int -> List R × List Int
 | [], s => ([], s)
 | o :: l, s => ((J0 k m o s).2 :: (zdQ k m l (J0 k m o s).1).1, (zdQ k m l (J0 k m o s).1).2)
theorem zoH (k : Nat) (m : Int) : ∀ (l : List O) (s : List Int), (zdQ k m l s).1.length = l.length
 | [], _ => rfl
 | o :: l, s => by simp [zdQ, zoH k m l]
theorem zp1 (m : Int) : ∀ (l : List O) (s : List Int), zdQ 1 m l s = Qx m l s
 | [], _ => rfl
 | o :: l, s => by simp only [zdQ, Qx, J0, if_true, zp1 m l]
theorem zp2 (m : Int) : ∀ (l : List O) (s : List Int), zdQ 2 m l s = QM m l s
 | [], _ => rfl
 | o :: l, s => by simp only [zdQ, QM, J0, if_neg (show ¬ (2 = 1) by decide), zp2 m l]
theorem zmx (k : Nat) (m : Int) (o : O) (s : List Int) : (J0 k m o s).1.length <= s.length + 1 := by
 unfold J0
 split
 · exact zbe ..
 · show (Zi m o.k o.v s).2.length <= _
   unfold Zi
   split
   · split <;> simp
   split
   · split <;> simp
   split
   · split <;> simp; omega
   split
   · split <;> simp; omega
   · simp
theorem zeT {k : Nat} (hk : k = 1 \/ k = 2) (m : Nat) (os : List O) (st : St) : ((jD k m os st).1.1.map Prod.fst, (jD k m os st).2) = ((zdQ k (m : Int) os (st.1.map Prod.fst)).2, (zdQ k (m : Int) os (st.1.map Prod.fst)).1) := by
 unfold jD
 rcases hk with rfl | rfl
 · rw [if_pos rfl, zp1]; simp only [jy]
 · rw [if_neg (by decide), if_pos rfl, zp2]; simp only [jy]
end Go.Proofs.Tryz
namespace Go.Sk
open Go.L Go.Rp
end Go.Sk
namespace Go.Proofs.Tryz
open Go.L Go.Rp Go.Sk
set_option maxRecDepth 100000
theorem zqw {c : List Int} {kinds : Int} (hc : za7 c = true) (hk : 1 <= kinds) (hk2 : kinds <= 100) : ∀ o ∈ ops c kinds, 0 <= o.k /\ o.k < 256 := by
 intro o ho
 unfold ops at ho
 obtain ⟨x, hx, rfl⟩ := ZZ.1 ho
 have h1 := Int.emod_nonneg x (show kinds ≠ 0 by omega)
 have h2 := Int.emod_lt_of_pos x (show 0 < kinds by omega)
 unfold Go.Rp.opOf
 simp only
 omega
theorem zke {m : Nat} (h : m <= 1000) : jf (m : Int) = m := by
 unfold jf
 (repeat' split) <;> omega
end Go.Proofs.Tryz
