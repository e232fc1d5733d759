/- So1 Kp Kq Kr Kv Krf Kx Lops Sops Kyw Ko Tj Tk Vv Vw Pd Pl Ra Ro Rp Rq Ue Od Tl Uf Vp Pc Vc Vd Vl: what the law needs of these -/
import Derived.Test.YtclhmdhdpejhhaaGreatRcp14
set_option linter.unusedVariables false
set_option linter.unusedSimpArgs false
namespace Go.Proofs.Tryz
open Go.L Go.Rp
set_option maxRecDepth 100000
abbrev iL (l : List Int) : List (List V) := l.map (XA .i64)
theorem wN {e : Int} {n : Nat} (h : e = (n : Int)) (hn : n < lim) : IntKind.i64.wrap e = (n : Int) := by unfold lim at hn; subst h; rw [w64] <;> omega
theorem zf4 (l : List Int) (i : Nat) (x : Int) : (iL l).set i [V.int .i64 x] = iL (l.set i x) := by
 unfold iL; rw [Jr]; rfl
theorem Qk (l : List Int) : (iL l).length = l.length := by simp
theorem QR {l : List Int} {i : Nat} {x : Int} (h : l[i]? = some x) : (iL l)[i]? = some [V.int .i64 x] := by
 unfold iL; rw [zJ, h]; rfl
theorem zbV (a b : V) : setR [a] 0 [b] = [b] := rfl
theorem Kn {n m k : Nat} : (1 = 1 /\ n < m /\ (some k : Option Nat) ≠ some 0) ↔ (n < m /\ (k == 0) = false) := by simp
theorem zbW : (1 = 1 /\ 0 < 1 /\ 0 + 1 <= 1) ↔ True := by decide
theorem WQ {α : Type} (P : List α) (x : α) (R : List α) {i : Nat} (h : i = P.length) : (P ++ x :: R)[i]? = some x := by subst h; simp
theorem jx {α : Type} (P : List α) (x y : α) (R : List α) {i : Nat} (h : i = P.length) : (P ++ x :: R).set i y = P ++ y :: R := by subst h; simp
theorem zqT (P A M B S : List Int) (x y : Int) {i j : Nat} (hi : i = P.length) (hj : j = P.length + 1 + A.length + M.length) :
    (P ++ (x :: A ++ (M ++ (y :: B ++ S))))[i]? = some x /\ (P ++ (x :: A ++ (M ++ (y :: B ++ S))))[j]? = some y /\ (P ++ (y :: A ++ (M ++ (y :: B ++ S))))[j]? = some y ∧
    (P ++ (x :: A ++ (M ++ (y :: B ++ S)))).set i y = P ++ (y :: A ++ (M ++ (y :: B ++ S))) /\ (P ++ (y :: A ++ (M ++ (y :: B ++ S)))).set j x = (P ++ [y]) ++ (A ++ ((M ++ [x]) ++ (B ++ S))) := by
 have e : ∀ u : Int, P ++ (u :: A ++ (M ++ (y :: B ++ S))) = (P ++ u :: (A ++ M)) ++ y :: (B ++ S) := fun u => by simp
 have hl : ∀ u : Int, j = (P ++ u :: (A ++ M)).length := fun u => by simp; omega
 refine ⟨WQ P x _ hi, ?_, ?_, jx P x y _ hi, ?_⟩
 · rw [e]; exact WQ _ _ _ (hl x)
 · rw [e]; exact WQ _ _ _ (hl y)
 · rw [e, jx _ _ _ _ (hl y)]; simp
theorem zeS (n : Nat) (H : ze) (a b k : Nat) (S : List Int) : ∀ (A B P M : List Int) (i Mx : Nat), B.length = A.length -> i + A.length = k -> a + i = P.length -> b + i = P.length + A.length + M.length -> P.length + A.length + M.length + B.length < lim -> A.length < Mx →
    Ze Mx (qY n a b k) [.sl 1 (iL (P ++ (A ++ (M ++ (B ++ S))))) false, .int .i64 (i : Int)] H = some (.ret [.sl 1 (iL (P ++ (B ++ (M ++ (A ++ S))))) false], H)
 | _, _, _, _, i, 0, _, _, _, _, _, h => by omega
 | [], B, P, M, i, Mx + 1, hB, hk, ha, hb, hl, hm => by
   obtain rfl : B = [] := by cases B <;> simp_all
   have hik : ¬ (i : Int) < (k : Int) := by simp at hk; omega
   rw [zL]
   simp only [qY, gv, zk, zg, zC, zb, zo, hik, decide_false, zn, if_false, lsl, zT]
 | x :: A, [], P, M, i, Mx + 1, hB, hk, ha, hb, hl, hm => by simp at hB
 | x :: A, y :: B, P, M, i, Mx + 1, hB, hk, ha, hb, hl, hm => by
   simp only [zB] at hB hk hb hl hm
   have hik : (i : Int) < (k : Int) := by omega
   have e1 : IntKind.i64.wrap ((a : Int) + (i : Int)) = ((a + i : Nat) : Int) := wN (by omega) (by omega)
   have e2 : IntKind.i64.wrap ((b : Int) + (i : Int)) = ((b + i : Nat) : Int) := wN (by omega) (by omega)
   have e3 : IntKind.i64.wrap ((i : Int) + 1) = ((i + 1 : Nat) : Int) := wN (by omega) (by omega)
   obtain ⟨s1, s2, s3, s4, s5⟩ := zqT P A M B S x y ha (show b + i = P.length + 1 + A.length + M.length by omega)
   have l1 : a + i < (P ++ (x :: A ++ (M ++ (y :: B ++ S)))).length := (zh.1 s1).1
   have l2 : b + i < (P ++ (x :: A ++ (M ++ (y :: B ++ S)))).length := (zh.1 s2).1
   have l3 : b + i < (P ++ (y :: A ++ (M ++ (y :: B ++ S)))).length := (zh.1 s3).1
   have ih := zeS n H a b k S A B (P ++ [y]) (M ++ [x]) (i + 1) Mx (by omega) (by omega) (by simp; omega) (by simp; omega) (by simp; omega) (by omega)
   rw [zL]
   simp only [qY, gv, zk, zg, zC, zb, zo, hik, decide_true, if_true, zM, e1, e2, e3, Zo, zH, lsl, Qk, Kn, Nat.reduceBEq, and_true, if_true, l1, l2, l3, QR s1, QR s2, za, V.cells, zB, zO, zr, zbW, zbV, zf4, s4,
    QR s3, s5, ih]
   simp
theorem zaN (n : Nat) (H : ze) (c : V) (a b k : Nat) (P A M B S : List Int) (hB : B.length = A.length) (hk : A.length = k) (ha : a = P.length) (hb : b = P.length + A.length + M.length) (hl : P.length + A.length + M.length + B.length < lim) (hn : k + 2 <= n) :
    call n 251 [.sl 1 (iL (P ++ (A ++ (M ++ (B ++ S))))) false, .int .i64 (a : Int), .int .i64 (b : Int), .int .i64 (k : Int), c] H = some (.ret [.sl 1 (iL (P ++ (B ++ (M ++ (A ++ S))))) false], H) := by
 obtain ⟨N, rfl⟩ : ∃ N, n = N + 1 := ⟨n - 1, by omega⟩
 rw [zoe]
 unfold zp0
 exact zeS N H a b k S A B P M 0 N hB (by omega) (by omega) (by omega) hl (by omega)
theorem zdl (n : Nat) (H : ze) (c : V) (m : Nat) : ∀ (Mx : Nat) (A B P S : List Int), A ≠ [] -> B ≠ [] -> m = P.length + A.length -> P.length + A.length + B.length < lim -> A.length + B.length <= Mx -> A.length + B.length + 2 <= n →
    Ze Mx (qZ n m c) [.sl 1 (iL (P ++ (A ++ (B ++ S)))) false, .int .i64 (A.length : Int), .int .i64 (B.length : Int)] H = some (.ret [.sl 1 (iL (P ++ (B ++ (A ++ S)))) false], H)
 | 0, A, B, P, S, hA, hB, _, _, h, _ => by
   cases A with
   | nil => exact absurd rfl hA
   | cons => simp at h
 | Mx + 1, A, B, P, S, hA, hB, hm, hl, hx, hn => by
   have a0 : 0 < A.length := ZG.2 hA
   have b0 : 0 < B.length := ZG.2 hB
   have e1 : IntKind.i64.wrap ((m : Int) - (A.length : Int)) = ((P.length : Nat) : Int) := wN (by omega) (by omega)
   rw [zL]
   by_cases h1 : A.length = B.length
   · have hne : ((A.length : Int) != (B.length : Int)) = false := by simp [h1]
     have hs := zaN n H c P.length m A.length P A [] B S h1.symm rfl rfl (by simpa using hm) (by simp; omega) (by omega)
     simp only [zT] at hs
     simp only [qZ, gv, zk, zg, KY, zb, zo, hne, zn, if_false, ZH, e1, lsl]
     rw [hs, JW]
   · have hne : ((A.length : Int) != (B.length : Int)) = true := by simp; omega
     by_cases h2 : B.length < A.length
     ·
      have hgt : (A.length : Int) > (B.length : Int) := by omega
      obtain ⟨A1, A2, rfl, hA1⟩ : ∃ A1 A2, A = A1 ++ A2 /\ A1.length = B.length := ⟨A.take B.length, A.drop B.length, (Zx _ _).symm, by rw [Zg]; omega⟩
      rw [zE] at *
      have hs := zaN n H c P.length m B.length P A1 A2 B S hA1.symm hA1 rfl (by omega) (by omega) (by omega)
      have e2 : IntKind.i64.wrap (((A1.length + A2.length : Nat) : Int) - (B.length : Int)) = ((A2.length : Nat) : Int) := wN (by omega) (by omega)
      have ih := zdl n H c m Mx A2 A1 (P ++ B) S (by rintro rfl; simp at h2; omega) (by rintro rfl; simp at hA1; omega) (by simp; omega) (by simp; omega) (by omega) (by omega)
      simp only [List.append_assoc] at hs ih ⊢
      rw [hA1] at ih
      simp only [qZ, gv, zk, zg, KY, zb, zo, hne, if_true, XO, hgt, decide_true, ZH, e1, lsl]
      rw [hs, JW, e2, ih]
     · have hgt : ¬ (A.length : Int) > (B.length : Int) := by omega
       obtain ⟨B1, B2, rfl, hB2⟩ : ∃ B1 B2, B = B1 ++ B2 /\ B2.length = A.length := ⟨B.take (B.length - A.length), B.drop (B.length - A.length), (Zx _ _).symm, by rw [Xg]; omega⟩
       rw [zE] at *
       have hs := zaN n H c P.length (P.length + A.length + B1.length) A.length P A B1 B2 S hB2 rfl rfl rfl (by omega) (by omega)
       have e2 : IntKind.i64.wrap ((m : Int) + ((B1.length + B2.length : Nat) : Int)) = ((m + (B1.length + B2.length) : Nat) : Int) := wN (by omega) (by omega)
       have e3 : IntKind.i64.wrap (((m + (B1.length + B2.length) : Nat) : Int) - (A.length : Int)) = ((P.length + A.length + B1.length : Nat) : Int) := wN (by omega) (by omega)
       have e4 : IntKind.i64.wrap (((B1.length + B2.length : Nat) : Int) - (A.length : Int)) = ((B1.length : Nat) : Int) := wN (by omega) (by omega)
       have ih := zdl n H c m Mx B2 B1 P (A ++ S) (by rintro rfl; simp at hB2; omega) (by rintro rfl; simp at h1; omega) (by omega) (by omega) (by omega) (by omega)
       simp only [List.append_assoc] at hs ih ⊢
       rw [hB2] at ih
       simp only [qZ, gv, zk, zg, KY, zb, zo, hne, if_true, XO, hgt, decide_false, zn, if_false, ZH, zM, e1, e2, e3, lsl]
       rw [hs, JW, e4, ih]
theorem zoh (n : Nat) (H : ze) (c : V) (a m b : Nat) (P A B S : List Int) (hA : A ≠ []) (hB : B ≠ []) (ha : a = P.length) (hm : m = P.length + A.length) (hb : b = P.length + A.length + B.length) (hl : P.length + A.length + B.length < lim) (hn : A.length + B.length + 3 <= n) :
    call n 250 [.sl 1 (iL (P ++ (A ++ (B ++ S)))) false, .int .i64 (a : Int), .int .i64 (m : Int), .int .i64 (b : Int), c] H = some (.ret [.sl 1 (iL (P ++ (B ++ (A ++ S)))) false], H) := by
 obtain ⟨N, rfl⟩ : ∃ N, n = N + 1 := ⟨n - 1, by omega⟩
 have e1 : IntKind.i64.wrap ((m : Int) - (a : Int)) = ((A.length : Nat) : Int) := wN (by omega) (by omega)
 have e2 : IntKind.i64.wrap ((b : Int) - (m : Int)) = ((B.length : Nat) : Int) := wN (by omega) (by omega)
 rw [zpd]
 unfold zqO
 rw [e1, e2]
 exact zdl N H c m N A B P S hA hB hm hl (by omega) (by omega)
end Go.Proofs.Tryz
namespace Go.Proofs.Tryz
open Go.L Go.Rp
set_option maxRecDepth 100000
structure CmpOk (n0 : Nat) (c : V) (H : ze) (K : Int -> Int) (D : Int -> Prop) : Prop where
 ex : ∃ f caps, c = .fn f caps /\ okV prog 3 f = true /\ X9 f = true /\ ∀ n, n0 <= n -> ∀ x y, D x -> D y -> ∃ q, call n f ([.int .i64 x, .int .i64 y] ++ caps) H = some (.ret [.int .i64 q], H) /\ (q < 0 ↔ K x < K y)
theorem adj (Q T : List Int) (y x : Int) {i j : Nat} (hi : i = Q.length) (hj : j = Q.length + 1) :
    (Q ++ y :: x :: T)[i]? = some y /\ (Q ++ y :: x :: T)[j]? = some x /\ (Q ++ y :: x :: T).set j y = Q ++ y :: y :: T /\ (Q ++ y :: x :: T).set i x = Q ++ x :: x :: T ∧
    (Q ++ y :: y :: T)[i]? = some y /\ (Q ++ x :: x :: T)[j]? = some x /\ (Q ++ y :: y :: T).set i x = Q ++ x :: y :: T /\ (Q ++ x :: x :: T).set j y = Q ++ x :: y :: T := by
 have e : ∀ u v : Int, Q ++ u :: v :: T = (Q ++ [u]) ++ v :: T := fun u v => by simp
 have hl : ∀ u : Int, j = (Q ++ [u]).length := fun u => by simp; omega
 refine ⟨WQ _ _ _ hi, ?_, ?_, jx _ _ _ _ hi, WQ _ _ _ hi, ?_, jx _ _ _ _ hi, ?_⟩
 · rw [e]; exact WQ _ _ _ (hl y)
 · rw [e, jx _ _ _ _ (hl y)]; simp
 · rw [e]; exact WQ _ _ _ (hl x)
 · rw [e, jx _ _ _ _ (hl x)]; simp
section
variable {K : Int -> Int} {D : Int -> Prop} {H : ze} {c : V} {n0 : Nat} {p : Nat -> Int}
theorem zeT (hc : CmpOk n0 c H K D) (n a i : Nat) (st1 : List V) (next3 : List V -> ze -> Option (Res × ze)) (hst : gv st1 1 = .int .i64 (i : Int)) (hi : i + 1 < lim) (hn : n0 <= n) (R : List Int) : ∀ (r : List Int) (x : Int) (b P : List Int) (j Mx : Nat),
    a = P.length -> j = P.length + r.length -> j + b.length + R.length + 1 < lim -> (∀ y ∈ r, D y) -> D x -> r.length < Mx →
    Ze Mx (zbT n a c st1 next3) [.sl 1 (iL (P ++ (r.reverse ++ (x :: (b ++ R))))) false, .int .i64 (j : Int)] H = next3 [.sl 1 (iL (P ++ (zdj K r x b ++ R))) false, .int .i64 ((i + 1 : Nat) : Int)] H
 | _, _, _, _, _, 0, _, _, _, _, _, h => by omega
 | [], x, b, P, j, Mx + 1, ha, hj, hl, hr, hx, hM => by
   have hja : ¬ (j : Int) > (a : Int) := by simp at hj; omega
   have e1 : IntKind.i64.wrap ((i : Int) + 1) = ((i + 1 : Nat) : Int) := wN (by omega) hi
   rw [zL]
   simp only [zbT, gv, zk, zg, XO, zb, zo, hja, decide_false, zn, if_false, lsl]
   simp only [gv] at hst
   simp only [hst, zM, zb, e1, zdj, List.reverse_nil, zT, ZT]
 | y :: r, x, b, P, j, Mx + 1, ha, hj, hl, hr, hx, hM => by
   obtain ⟨f, caps, hcf, hok, hk, hcmp⟩ := hc.ex
   have hfn : ∀ k : Nat -> List V -> Option (Res × ze), fnK c k = k f caps := fun k => by rw [hcf]; rfl
   simp only [zB] at hj hM
   have hja : (j : Int) > (a : Int) := by omega
   have hL : P ++ ((y :: r).reverse ++ (x :: (b ++ R))) = (P ++ r.reverse) ++ y :: x :: (b ++ R) := by simp
   have e1 : IntKind.i64.wrap ((i : Int) + 1) = ((i + 1 : Nat) : Int) := wN (by omega) hi
   have e2 : IntKind.i64.wrap ((j : Int) - 1) = ((j - 1 : Nat) : Int) := wN (by omega) (by omega)
   obtain ⟨s1, s2, s3, s4, s5, s6, s7, s8⟩ := adj (P ++ r.reverse) (b ++ R) y x (i := j - 1) (j := j) (by simp; omega) (by simp; omega)
   have l1 := (zh.1 s1).1
   have l2 := (zh.1 s2).1
   have l5 := (zh.1 s5).1
   obtain ⟨q, hq, hqk⟩ := hcmp n hn x y hx (hr y (by simp))
   have ih := zeT hc n a i st1 next3 hst hi hn R r x (y :: b) P (j - 1) Mx ha (by omega) (by simp; omega) (fun z hz => hr z (zq _ hz)) hx (by omega)
   rw [zL, hL]
   simp only [zbT, gv, zk, zg, XO, zb, zo, hja, decide_true, if_true, Zo, zH, lsl, Qk, Kn, Nat.reduceBEq, and_true, l1, l2, QR s1, QR s2, za, ZH, e2, hfn, hok, hk]
   rw [hq, zK]
   simp only [zw, zC, zb, zo]
   by_cases hxy : K x < K y
   · have hq0 : q < 0 := hqk.2 hxy
     simp only [hq0, decide_true, if_true, Zo, zH, zb, QR s1, QR s2, za, V.cells, zB, zO, zr, zbW, zbV, zf4, s3, Qk, l1, l2, l5, QR s5, s7, if_true]
     rw [zdj, if_pos hxy]
     have hL2 : (P ++ r.reverse) ++ x :: y :: (b ++ R) = P ++ (r.reverse ++ (x :: (y :: b ++ R))) := by simp
     rw [hL2]
     exact ih
   · have hq0 : ¬ q < 0 := fun h => hxy (hqk.1 h)
     simp only [gv] at hst
     simp only [hq0, decide_false, zn, if_false, hst, zM, zb, e1]
     rw [zdj, if_neg hxy]
     simp
theorem zir (hc : CmpOk n0 c H K D) (n lo len : Nat) (hn : n0 <= n) (hn2 : len <= n) (hlim : lo + len + 1 < lim) (P S : List Int) (hP : lo = P.length) (hD : ∀ x ∈ rng p lo len, D x) (hS : lo + len + S.length < lim) : ∀ (d k Mx : Nat), 1 <= k -> (k + d = len \/ (len = 0 /\ k = 1 /\ d = 0)) -> d < Mx →
    Ze Mx (q7 n lo ((lo + len : Nat) : Int) c) [.sl 1 (iL (P ++ (sR K p lo (min k len) ++ (rng p (lo + k) (len - k) ++ S)))) false, .int .i64 ((lo + k : Nat) : Int)] H = some (.ret [.sl 1 (iL (P ++ (sR K p lo len ++ S))) false], H)
 | d, k, 0, _, _, h => by omega
 | 0, k, Mx + 1, h1, hk, _ => by
   have hik : ¬ ((lo + k : Nat) : Int) < ((lo + len : Nat) : Int) := by omega
   have hmin : min k len = len := by omega
   have hz : len - k = 0 := by omega
   rw [zL]
   simp only [q7, gv, zk, zg, zC, zb, zo, hik, decide_false, zn, if_false, lsl, hmin, hz]
   rfl
 | d + 1, k, Mx + 1, h1, hk, hM => by
   have hkl : k + (d + 1) = len := by omega
   have hik : ((lo + k : Nat) : Int) < ((lo + len : Nat) : Int) := by omega
   have hmin : min k len = k := by omega
   have hr : rng p (lo + k) (len - k) = p (lo + k) :: rng p (lo + (k + 1)) (len - (k + 1)) := by
    rw [show len - k = (len - (k + 1)) + 1 by omega, zin, ZK]
   have ih := zir hc n lo len hn hn2 hlim P S hP hD hS d (k + 1) Mx (by omega) (by omega) (by omega)
   have hm2 : min (k + 1) len = k + 1 := by omega
   rw [hm2] at ih
   have hDk : ∀ y ∈ (sR K p lo k).reverse, D y := fun y hy => hD y (by
    obtain ⟨i, h1, h2, h3⟩ := zaM.1 (List.mem_reverse.1 hy)
    exact Kk.2 ⟨i, h1, by omega, h3⟩)
   have inner := zeT hc n lo (lo + k) [.sl 1 (iL (P ++ (sR K p lo k ++ (rng p (lo + k) (len - k) ++ S)))) false, .int .i64 ((lo + k : Nat) : Int)] (Ze Mx (q7 n lo ((lo + len : Nat) : Int) c)) rfl (by omega) hn (rng p (lo + (k + 1)) (len - (k + 1)) ++ S)
    (sR K p lo k).reverse (p (lo + k)) [] P (lo + k) n hP (by rw [List.length_reverse, Ys]; omega) (by rw [zE, zbU]; simp; omega) hDk (hD _ (Kk.2 ⟨_, by omega, by omega, rfl⟩)) (by rw [List.length_reverse, Ys]; omega)
   rw [List.reverse_reverse, zT] at inner
   rw [zL, hmin]
   simp only [q7, gv, zk, zg, zC, zb, zo, hik, decide_true, if_true, lsl]
   have hL : P ++ (sR K p lo k ++ (rng p (lo + k) (len - k) ++ S)) = P ++ (sR K p lo k ++ (p (lo + k) :: (rng p (lo + (k + 1)) (len - (k + 1)) ++ S))) := by rw [hr]; rfl
   simp only [hL] at inner ⊢
   rw [inner]
   exact ih
theorem zis (hc : CmpOk n0 c H K D) (n lo len : Nat) (P S : List Int) (hP : lo = P.length) (hD : ∀ x ∈ rng p lo len, D x) (hS : lo + len + S.length + 1 < lim) (hn : n0 + 1 <= n) (hn2 : len + 2 <= n) :
    call n 248 [.sl 1 (iL (P ++ (rng p lo len ++ S))) false, .int .i64 (lo : Int), .int .i64 ((lo + len : Nat) : Int), c] H = some (.ret [.sl 1 (iL (P ++ (sR K p lo len ++ S))) false], H) := by
 obtain ⟨N, rfl⟩ : ∃ N, n = N + 1 := ⟨n - 1, by omega⟩
 have e1 : IntKind.i64.wrap ((lo : Int) + 1) = ((lo + 1 : Nat) : Int) := wN (by omega) (by omega)
 rw [zpf]
 unfold zqQ
 rw [e1]
 have h1 : rng p lo len = sR K p lo (min 1 len) ++ rng p (lo + 1) (len - 1) := by
  cases len with
  | zero => simp [rng, sR]
  | succ l =>
    have : min 1 (l + 1) = 1 := by omega
    rw [this, zin]; simp [sR, zdj]
 rw [h1, List.append_assoc]
 exact zir hc N lo len (by omega) (by omega) (by omega) P S hP hD (by omega) (len - 1) 1 N (by omega) (by omega) (by omega)
theorem zdm {l : V} {body : List V -> ze -> (List V -> ze -> Option (Res × ze)) -> Option (Res × ze)} {fin : Nat -> Option (Res × ze)} {Q : Nat -> Prop} (lo hi : Nat)
    (step : ∀ i j : Nat, lo <= i -> i < j -> j <= hi -> ∀ next, (Q ((i + j) / 2) /\ body [l, .int .i64 (i : Int), .int .i64 (j : Int)] H next = next [l, .int .i64 (((i + j) / 2 + 1 : Nat) : Int), .int .i64 (j : Int)] H) \/ (¬ Q ((i + j) / 2) /\ body [l, .int .i64 (i : Int), .int .i64 (j : Int)] H next = next [l, .int .i64 (i : Int), .int .i64 (((i + j) / 2 : Nat) : Int)] H))
    (stop : ∀ i : Nat, lo <= i -> i <= hi -> ∀ next, body [l, .int .i64 (i : Int), .int .i64 (i : Int)] H next = fin i) : ∀ (M i j : Nat), j - i < M -> lo <= i -> i <= j -> j <= hi -> (i = lo \/ Q (i - 1)) -> (j = hi \/ ¬ Q j) →
    ∃ r, lo <= r /\ r <= hi /\ (r = lo \/ Q (r - 1)) /\ (r = hi \/ ¬ Q r) /\ Ze M body [l, .int .i64 (i : Int), .int .i64 (j : Int)] H = fin r
 | 0, i, j, h, _, _, _, _, _ => by omega
 | M + 1, i, j, h, h1, h2, h3, h4, h5 => by
   by_cases hij : i = j
   · subst hij
     exact ⟨i, h1, h3, h4, h5, by rw [zL]; exact stop i h1 h3 _⟩
   · rcases step i j h1 (by omega) h3 (Ze M body) with ⟨q, e⟩ | ⟨q, e⟩
     · obtain ⟨r, r1, r2, r3, r4, r5⟩ := zdm lo hi step stop M ((i + j) / 2 + 1) j (by omega) (by omega) (by omega) h3 (.inr (by simpa using q)) h5
       exact ⟨r, r1, r2, r3, r4, by rw [zL, e]; exact r5⟩
     · obtain ⟨r, r1, r2, r3, r4, r5⟩ := zdm lo hi step stop M i ((i + j) / 2) (by omega) h1 (by omega) (by omega) h4 (.inr q)
       exact ⟨r, r1, r2, r3, r4, by rw [zL, e]; exact r5⟩
end
theorem zjW (a : Int) : cvt prog 3 204 (.int .i64 a) = some (.int .u64 (IntKind.u64.wrap a)) := by kernel_rfl
theorem zf5 (a : Int) : cvt prog 204 3 (.int .u64 a) = some (.int .i64 (IntKind.i64.wrap a)) := by kernel_rfl
theorem zk9 (a : Int) : bop prog .shr 204 (.int .u64 a) (.int .u64 1) = some (.int .u64 (a.fdiv (2 ^ (min (1 : Int).toNat 64)))) := by kernel_rfl
theorem zbX {i j : Nat} (h : i + j < lim) : IntKind.i64.wrap ((IntKind.u64.wrap (((i + j : Nat) : Int))).fdiv (2 ^ (min (1 : Int).toNat 64))) = (((i + j) / 2 : Nat) : Int) := by
 have e : IntKind.u64.wrap (((i + j : Nat) : Int)) = ((i + j : Nat) : Int) := by rw [IntKind.wrap_u64]; unfold lim at h; omega
 rw [e]
 have e2 : (2 : Int) ^ (min (1 : Int).toNat 64) = 2 := by decide
 rw [e2, Int.fdiv_eq_ediv_of_nonneg _ (by decide)]
 exact wN (by omega) (by omega)
end Go.Proofs.Tryz
namespace Go.Proofs.Tryz
open Go.L Go.Rp
set_option maxRecDepth 100000
noncomputable def zjX (n : Nat) (b : Int) (c : V) (v100 v138 : V) (l : List (List V)) (h : ze) : Option (Res × ze) :=
 bd (bop prog .lss 3 v100 v138) fun v153 =>
 bv v153 fun b154 => if b154 then
  bd (bop prog .lss 3 v138 (V.int .i64 b)) fun v155 =>
  bv v155 fun b156 => if b156 then
   clm (call n 249 (V.sl 1 l false :: [v100, v138, (V.int .i64 b), c]) h) 1 fun l157 r158 h159 => some (Res.ret (V.sl 1 l157 false :: []), h159)
  else some (Res.ret (V.sl 1 l false :: []), h)
 else some (Res.ret (V.sl 1 l false :: []), h)
noncomputable def zmm (n : Nat) (a b : Int) (c : V) (v100 v138 v1 : V) (l : List (List V)) (h : ze) : Option (Res × ze) :=
 bd (bop prog .lss 3 (V.int .i64 a) v1) fun v146 =>
 bv v146 fun b147 => if b147 then
  bd (bop prog .lss 3 v1 v100) fun v148 =>
  bv v148 fun b149 => if b149 then
   clm (call n 249 (V.sl 1 l false :: [(V.int .i64 a), v1, v100, c]) h) 1 fun l150 r151 h152 => zjX n b c v100 v138 l150 h152
  else zjX n b c v100 v138 l h
 else zjX n b c v100 v138 l h
noncomputable def zoi (n : Nat) (a m b : Int) (c : V) (v100 v101 v1 : V) (l : List (List V)) (hh : ze) : Option (Res × ze) :=
 bd (bop prog .sub 3 v101 v1) fun v138 =>
 bd (bop prog .lss 3 v1 (V.int .i64 m)) fun v139 =>
 bv v139 fun b140 => if b140 then
  bd (bop prog .lss 3 (V.int .i64 m) v138) fun v141 =>
  bv v141 fun b142 => if b142 then
   clm (call n 250 (V.sl 1 l false :: [v1, (V.int .i64 m), v138, c]) hh) 1 fun l143 r144 h145 => zmm n a b c v100 v138 v1 l143 h145
  else zmm n a b c v100 v138 v1 l hh
 else zmm n a b c v100 v138 v1 l hh
def zla (c : V) (H : ze) (K : Int -> Int) (D : Int -> Prop) (n sz : Nat) : Prop := ∀ (A B P S : List Int) (a m b : Nat), A ≠ [] -> B ≠ [] -> A.length + B.length <= sz -> a = P.length -> m = P.length + A.length -> b = P.length + A.length + B.length -> 2 * b + 1 < lim →
 Sd K A -> Sd K B -> (∀ x ∈ A, ∀ y ∈ B, x < y) -> (∀ x ∈ A, D x) -> (∀ y ∈ B, D y) -> ∃ C, C.Perm (A ++ B) /\ Sd K C ∧
  call n 249 [.sl 1 (iL (P ++ (A ++ (B ++ S)))) false, .int .i64 (a : Int), .int .i64 (m : Int), .int .i64 (b : Int), c] H = some (.ret [.sl 1 (iL (P ++ (C ++ S))) false], H)
section
variable {K : Int -> Int} {D : Int -> Prop} {H : ze} {c : V}
theorem zph {n sz : Nat} (ih : zla c H K D n sz) (A B P S : List Int) (mid e b : Nat) (hsz : A.length + B.length <= sz) (hm : mid = P.length) (he : e = P.length + A.length) (hb : b = P.length + A.length + B.length) (hl : 2 * b + 1 < lim)
    (hA : Sd K A) (hB : Sd K B) (hlt : ∀ x ∈ A, ∀ y ∈ B, x < y) (dA : ∀ x ∈ A, D x) (dB : ∀ y ∈ B, D y) : ∃ C, C.Perm (A ++ B) /\ Sd K C ∧
    zjX n b c (.int .i64 (mid : Int)) (.int .i64 (e : Int)) (iL (P ++ (A ++ (B ++ S)))) H = some (.ret [.sl 1 (iL (P ++ (C ++ S))) false], H) := by
 unfold zjX
 by_cases h1 : A = []
 · subst h1
   have hc : ¬ (mid : Int) < (e : Int) := by simp at he; omega
   exact ⟨B, .refl _, hB, by simp only [zC, zb, zo, hc, decide_false, zn, if_false, zT]⟩
 · have hA0 : 0 < A.length := ZG.2 h1
   have hc : (mid : Int) < (e : Int) := by omega
   by_cases h2 : B = []
   · subst h2
     have hc2 : ¬ (e : Int) < (b : Int) := by simp at hb; omega
     exact ⟨A, by simp, hA, by simp only [zC, zb, zo, hc, hc2, decide_true, decide_false, zn, if_false, if_true, zT]⟩
   · have hB0 : 0 < B.length := ZG.2 h2
     have hc2 : (e : Int) < (b : Int) := by omega
     obtain ⟨C, p, s, e1⟩ := ih A B P S mid e b h1 h2 hsz hm he hb hl hA hB hlt dA dB
     refine ⟨C, p, s, ?_⟩
     simp only [zC, zb, zo, hc, hc2, decide_true, if_true]
     rw [e1, JW]
theorem zpi {n sz : Nat} (ih : zla c H K D n sz) (A1 A2 B1 B2 P S : List Int) (a r mid e b : Nat) (h1z : A1.length + B1.length <= sz) (h2z : A2.length + B2.length <= sz) (ha : a = P.length) (hr : r = P.length + A1.length) (hm : mid = P.length + A1.length + B1.length) (he : e = mid + A2.length) (hb : b = e + B2.length) (hl : 2 * b + 1 < lim)
    (s1 : Sd K A1) (t1 : Sd K B1) (s2 : Sd K A2) (t2 : Sd K B2) (hlt : ∀ x ∈ A1 ++ A2, ∀ y ∈ B1 ++ B2, x < y) (dA : ∀ x ∈ A1 ++ A2, D x) (dB : ∀ y ∈ B1 ++ B2, D y) : ∃ C1 C2, C1.Perm (A1 ++ B1) /\ Sd K C1 /\ C2.Perm (A2 ++ B2) /\ Sd K C2 ∧
    zmm n a b c (.int .i64 (mid : Int)) (.int .i64 (e : Int)) (.int .i64 (r : Int)) (iL (P ++ (A1 ++ (B1 ++ (A2 ++ (B2 ++ S)))))) H = some (.ret [.sl 1 (iL (P ++ (C1 ++ (C2 ++ S)))) false], H) := by
 have hU : ∀ C1 : List Int, C1.length = A1.length + B1.length -> ∃ C2, C2.Perm (A2 ++ B2) /\ Sd K C2 /\ zjX n b c (.int .i64 (mid : Int)) (.int .i64 (e : Int)) (iL (P ++ (C1 ++ (A2 ++ (B2 ++ S))))) H = some (.ret [.sl 1 (iL (P ++ (C1 ++ (C2 ++ S)))) false], H) := fun C1 hC => by
  obtain ⟨C2, p, s, e1⟩ := zph ih A2 B2 (P ++ C1) S mid e b h2z (by simp; omega) (by simp; omega) (by simp; omega) hl s2 t2 (fun x hx y hy => hlt x (Zv _ hx) y (Zv _ hy)) (fun x hx => dA x (Zv _ hx)) (fun y hy => dB y (Zv _ hy))
  exact ⟨C2, p, s, by simpa only [List.append_assoc] using e1⟩
 unfold zmm
 by_cases h1 : A1 = []
 · subst h1
   have hc : ¬ (a : Int) < (r : Int) := by simp at hr; omega
   obtain ⟨C2, p, s, e1⟩ := hU B1 (by simp)
   exact ⟨B1, C2, .refl _, t1, p, s, by simp only [zC, zb, zo, hc, decide_false, zn, if_false, zT]; exact e1⟩
 · have hA0 : 0 < A1.length := ZG.2 h1
   have hc : (a : Int) < (r : Int) := by omega
   by_cases h2 : B1 = []
   · subst h2
     have hc2 : ¬ (r : Int) < (mid : Int) := by simp at hm; omega
     obtain ⟨C2, p, s, e1⟩ := hU A1 (by simp)
     exact ⟨A1, C2, by simp, s1, p, s, by simp only [zC, zb, zo, hc, hc2, decide_true, decide_false, zn, if_false, if_true, zT]; exact e1⟩
   · have hB0 : 0 < B1.length := ZG.2 h2
     have hc2 : (r : Int) < (mid : Int) := by omega
     obtain ⟨C1, p1, q1, e1⟩ := ih A1 B1 P (A2 ++ (B2 ++ S)) a r mid h1 h2 h1z ha hr hm (by omega) s1 t1 (fun x hx y hy => hlt x (zY _ hx) y (zY _ hy)) (fun x hx => dA x (zY _ hx)) (fun y hy => dB y (zY _ hy))
     obtain ⟨C2, p2, q2, e2⟩ := hU C1 (by rw [p1.length_eq]; simp)
     refine ⟨C1, C2, p1, q1, p2, q2, ?_⟩
     simp only [zC, zb, zo, hc, hc2, decide_true, if_true]
     rw [e1, JW, e2]
theorem zpj {n sz : Nat} (ih : zla c H K D n sz) (A1 A2 B1 B2 P S : List Int) (a r m mid nn b : Nat) (h1z : A1.length + B1.length <= sz) (h2z : A2.length + B2.length <= sz) (ha : a = P.length) (hr : r = P.length + A1.length) (hmm : m = r + A2.length) (hm : mid = P.length + A1.length + B1.length) (hnn : nn = mid + m) (hb : b = m + B1.length + B2.length) (hl : 2 * b + 1 < lim) (hn : A2.length + B1.length + 3 <= n)
    (s1 : Sd K A1) (t1 : Sd K B1) (s2 : Sd K A2) (t2 : Sd K B2) (hlt : ∀ x ∈ A1 ++ A2, ∀ y ∈ B1 ++ B2, x < y) (dA : ∀ x ∈ A1 ++ A2, D x) (dB : ∀ y ∈ B1 ++ B2, D y) : ∃ C1 C2, C1.Perm (A1 ++ B1) /\ Sd K C1 /\ C2.Perm (A2 ++ B2) /\ Sd K C2 ∧
    zoi n a m b c (.int .i64 (mid : Int)) (.int .i64 (nn : Int)) (.int .i64 (r : Int)) (iL (P ++ ((A1 ++ A2) ++ ((B1 ++ B2) ++ S)))) H = some (.ret [.sl 1 (iL (P ++ (C1 ++ (C2 ++ S)))) false], H) := by
 obtain ⟨C1, C2, p1, q1, p2, q2, e1⟩ := zpi ih A1 A2 B1 B2 P S a r mid (m + B1.length) b h1z h2z ha hr hm (by omega) (by omega) hl s1 t1 s2 t2 hlt dA dB
 refine ⟨C1, C2, p1, q1, p2, q2, ?_⟩
 have e2 : IntKind.i64.wrap ((nn : Int) - (r : Int)) = ((m + B1.length : Nat) : Int) := wN (by omega) (by omega)
 unfold zoi
 simp only [ZH, zb, e2, zC, zo]
 by_cases h1 : A2 = []
 · subst h1
   have hc : ¬ (r : Int) < (m : Int) := by simp at hmm; omega
   simp only [hc, decide_false, zn, if_false]
   simpa only [Zn, zT, List.append_assoc] using e1
 · have hA0 : 0 < A2.length := ZG.2 h1
   have hc : (r : Int) < (m : Int) := by omega
   by_cases h2 : B1 = []
   · subst h2
     have hc2 : ¬ (m : Int) < ((m + ([] : List Int).length : Nat) : Int) := by simp
     simp only [hc, hc2, decide_true, decide_false, zn, if_false, if_true]
     simpa only [Zn, zT, List.append_assoc] using e1
   · have hB0 : 0 < B1.length := ZG.2 h2
     have hc2 : (m : Int) < ((m + B1.length : Nat) : Int) := by omega
     have hrot := zoh n H c r m (m + B1.length) (P ++ A1) A2 B1 (B2 ++ S) h1 h2 (by simp; omega) (by simp; omega) (by simp; omega) (by simp; omega) hn
     simp only [hc, hc2, decide_true, if_true]
     simp only [List.append_assoc] at hrot e1 ⊢
     rw [hrot, JW, e1]
end
end Go.Proofs.Tryz
namespace Go.Proofs.Tryz
open Go.L Go.Rp
set_option maxRecDepth 100000
theorem zab {k : Nat} : ((some k : Option Nat) ≠ some 0) = ((k == 0) = false) := by simp
theorem zlo : (0 : Nat) < 1 := by decide
theorem ole : (1 : Nat) <= 1 := by decide
theorem zbY (P A S : List Int) {h : Nat} (h1 : P.length <= h) (h2 : h < P.length + A.length) : (P ++ (A ++ S))[h]? = some (A.getD (h - P.length) 0) := by
 rw [zG h1, zj (by omega), zR, zf (by omega)]; rfl
theorem zac {A : List Int} {k : Nat} (h : k < A.length) : A.getD k 0 ∈ A := by
 rw [zR, zf h]; exact Xl h
section
variable {K : Int -> Int} {D : Int -> Prop} {H : ze} {c : V} {n0 : Nat} {p : Nat -> Int}
theorem zit (n i : Nat) (st1 : List V) (hst : st1.getD 1 (.bool false) = .int .i64 (i : Int)) (hi : i + 1 < lim) (x : Int) (R : List Int) : ∀ (B P : List Int) (k Mx : Nat), k = P.length -> i = k + 1 + B.length -> B.length < Mx →
    Ze Mx (K9 n st1) [.sl 1 (iL (P ++ (x :: (B ++ R)))) false, .int .i64 (k : Int)] H = some (.ret [.sl 1 (iL (P ++ (B ++ (x :: R)))) false], H)
 | _, _, _, 0, _, _, h => by omega
 | [], P, k, Mx + 1, hk, hi', hM => by
   have e1 : IntKind.i64.wrap ((i : Int) - 1) = ((i - 1 : Nat) : Int) := wN (by omega) (by omega)
   have hc : ¬ (k : Int) < ((i - 1 : Nat) : Int) := by simp at hi'; omega
   rw [zL]
   simp only [K9, gv, zk, zg, hst, ZH, zb, e1, zC, zo, hc, decide_false, zn, if_false, lsl, zT]
 | y :: B, P, k, Mx + 1, hk, hi', hM => by
   simp only [zB] at hi' hM
   have e1 : IntKind.i64.wrap ((i : Int) - 1) = ((i - 1 : Nat) : Int) := wN (by omega) (by omega)
   have e2 : IntKind.i64.wrap ((k : Int) + 1) = ((k + 1 : Nat) : Int) := wN (by omega) (by omega)
   have hc : (k : Int) < ((i - 1 : Nat) : Int) := by omega
   obtain ⟨s1, s2, s3, s4, s5, s6, s7, s8⟩ := adj P (B ++ R) x y hk (show k + 1 = P.length + 1 by omega)
   have l1 := (zh.1 s1).1
   have l2 := (zh.1 s2).1
   have l6 := (zh.1 s6).1
   have ih := zit n i st1 hst hi x R B (P ++ [y]) (k + 1) Mx (by simp; omega) (by omega) (by omega)
   rw [zL, ZT]
   simp only [K9, gv, zk, zg, hst, ZH, zM, zb, e1, e2, zC, zo, hc, decide_true, if_true, Zo, zH, lsl, Qk, Kn, zab, true_and, zlo, ole, Nat.reduceBEq, and_true, l1, l2, l6, QR s1, QR s2, za, V.cells, zB, zO, zr, zbW, zbV, zf4, s4, QR s6, s8]
   simpa only [List.append_assoc, ZT, zT] using ih
theorem ziu (n i : Nat) (st50 : List V) (hst : st50.getD 1 (.bool false) = .int .i64 (i : Int)) (x : Int) : ∀ (r R P : List Int) (k Mx : Nat), i = P.length -> k = P.length + r.length -> k + 1 < lim -> r.length < Mx →
    Ze Mx (ja n st50) [.sl 1 (iL (P ++ (r.reverse ++ (x :: R)))) false, .int .i64 (k : Int)] H = some (.ret [.sl 1 (iL (P ++ (x :: (r.reverse ++ R)))) false], H)
 | _, _, _, _, 0, _, _, _, h => by omega
 | [], R, P, k, Mx + 1, hi, hk, hl, hM => by
   have hc : ¬ (k : Int) > (i : Int) := by simp at hk; omega
   rw [zL]
   simp only [ja, gv, zk, zg, hst, XO, zb, zo, hc, decide_false, zn, if_false, lsl, zT, List.reverse_nil]
 | y :: r, R, P, k, Mx + 1, hi, hk, hl, hM => by
   simp only [zB] at hk hM
   have e1 : IntKind.i64.wrap ((k : Int) - 1) = ((k - 1 : Nat) : Int) := wN (by omega) (by omega)
   have hc : (k : Int) > (i : Int) := by omega
   have hL : P ++ ((y :: r).reverse ++ (x :: R)) = (P ++ r.reverse) ++ y :: x :: R := by simp
   obtain ⟨s1, s2, s3, s4, s5, s6, s7, s8⟩ := adj (P ++ r.reverse) R y x (i := k - 1) (j := k) (by simp; omega) (by simp; omega)
   have l1 := (zh.1 s1).1
   have l2 := (zh.1 s2).1
   have l5 := (zh.1 s5).1
   have ih := ziu n i st50 hst x r (y :: R) P (k - 1) Mx hi (by omega) (by omega) (by omega)
   rw [zL, hL]
   simp only [ja, gv, zk, zg, hst, ZH, zb, e1, XO, zo, hc, decide_true, if_true, Zo, zH, lsl, Qk, Kn, zab, true_and, zlo, ole, Nat.reduceBEq, and_true, l1, l2, l5, QR s1, QR s2, za, V.cells, zB, zO, zr, zbW, zbV, zf4, s3, QR s5, s7]
   simpa only [List.append_assoc, J3, ZT, zT] using ih
theorem zpk (hc : CmpOk n0 c H K D) (n : Nat) (x : Int) (B P S : List Int) (a m b : Nat) (ha : a = P.length) (hm : m = P.length + 1) (hb : b = P.length + 1 + B.length) (hl : 2 * b + 1 < lim) (hB : Sd K B) (hlt : ∀ y ∈ B, x < y) (dx : D x) (dB : ∀ y ∈ B, D y) (hn : n0 <= n) (hn2 : B.length + 2 <= n) :
    ∃ C, C.Perm (x :: B) /\ Sd K C /\ Ze n (q6 n a c) [.sl 1 (iL (P ++ (x :: (B ++ S)))) false, .int .i64 (m : Int), .int .i64 (b : Int)] H = some (.ret [.sl 1 (iL (P ++ (C ++ S))) false], H) := by
 obtain ⟨f, caps, hcf, hok, hk, hcmp⟩ := hc.ex
 have hfn : ∀ k : Nat -> List V -> Option (Res × ze), fnK c k = k f caps := fun k => by rw [hcf]; rfl
 have gx : (P ++ (x :: (B ++ S)))[a]? = some x := WQ _ _ _ ha
 have gB : ∀ h, m <= h -> h < b -> (P ++ (x :: (B ++ S)))[h]? = some (B.getD (h - m) 0) := fun h h1 h2 => by
  have := zbY (P ++ [x]) B S (h := h) (by simp; omega) (by simp; omega)
  simp only [List.append_assoc, ZT, zT, zE, ZL] at this
  rw [this, hm]
 obtain ⟨r, r1, r2, r3, r4, r5⟩ := zdm (H := H) (l := .sl 1 (iL (P ++ (x :: (B ++ S)))) false) (body := q6 n a c) (fin := fun i => Ze n (K9 n [.sl 1 (iL (P ++ (x :: (B ++ S)))) false, .int .i64 (i : Int), .int .i64 (i : Int)]) [.sl 1 (iL (P ++ (x :: (B ++ S)))) false, .int .i64 (a : Int)] H) (Q := fun h => K (B.getD (h - m) 0) < K x) m b
  (fun i j h1 h2 h3 next => by
   have hij : (i : Int) < (j : Int) := by omega
   have e1 : IntKind.i64.wrap ((i : Int) + (j : Int)) = ((i + j : Nat) : Int) := wN (by omega) (by omega)
   have g1 := gB ((i + j) / 2) (by omega) (by omega)
   have l1 := (zh.1 g1).1
   have l2 := (zh.1 gx).1
   have e2 : IntKind.i64.wrap ((((i + j) / 2 : Nat) : Int) + 1) = (((i + j) / 2 + 1 : Nat) : Int) := wN (by omega) (by omega)
   obtain ⟨q, hq, hqk⟩ := hcmp n hn (B.getD ((i + j) / 2 - m) 0) x (dB _ (zac (by omega))) dx
   simp only [q6, gv, zk, zg, zC, zb, zo, hij, decide_true, if_true, zM, e1, zjW, zk9, zf5, zbX (show i + j < lim by omega), Zo, zH, lsl, Qk, Kn, zab, true_and, zlo, ole, Nat.reduceBEq, and_true, l1, l2, QR g1, QR gx, za, hfn, hok, hk]
   rw [hq, zK]
   simp only [zw, zC, zb, zo, zM, e2]
   by_cases h : K (B.getD ((i + j) / 2 - m) 0) < K x
   · exact .inl ⟨h, by simp only [hqk.2 h, decide_true, if_true]⟩
   · exact .inr ⟨h, by simp only [show ¬ q < 0 from fun h' => h (hqk.1 h'), decide_false, zn, if_false]⟩)
  (fun i h1 h2 next => by
   have hii : ¬ (i : Int) < (i : Int) := by omega
   simp only [q6, gv, zk, zg, zC, zb, zo, hii, decide_false, zn, if_false, lsl])
  n m b (by omega) (zm _) (by omega) (zm _) (.inl rfl) (.inl rfl)
 rw [r5]
 have hB2 : B = B.take (r - m) ++ B.drop (r - m) := (Zx _ _).symm
 refine ⟨B.take (r - m) ++ x :: B.drop (r - m), ?_, zmj hB (by omega) hlt ?_ ?_, ?_⟩
 · refine List.perm_middle.trans ?_
   rw [<- hB2]
 · rcases r3 with h | h
   · exact .inl (by omega)
   · exact .inr (by rw [show r - m - 1 = r - 1 - m by omega]; exact h)
 · rcases r4 with h | h
   · exact .inl (by omega)
   · exact .inr h
 · have := zit (H := H) n r [.sl 1 (iL (P ++ (x :: (B ++ S)))) false, .int .i64 (r : Int), .int .i64 (r : Int)] rfl (by omega) x (B.drop (r - m) ++ S) (B.take (r - m)) P a n ha (by rw [Zg]; omega) (by rw [Zg]; omega)
   have e : B ++ S = B.take (r - m) ++ (B.drop (r - m) ++ S) := by rw [<- List.append_assoc, <- hB2]
   rw [e]
   rw [e] at this
   rw [this]
   simp
theorem zoj (hc : CmpOk n0 c H K D) (n : Nat) (x : Int) (A P S : List Int) (a m : Nat) (ha : a = P.length) (hm : m = P.length + A.length) (hl : 2 * (m + 1) + 1 < lim) (hA : Sd K A) (hlt : ∀ y ∈ A, y < x) (dx : D x) (dA : ∀ y ∈ A, D y) (hn : n0 <= n) (hn2 : A.length + 2 <= n) :
    ∃ C, C.Perm (A ++ [x]) /\ Sd K C /\ Ze n (jb n m c) [.sl 1 (iL (P ++ (A ++ (x :: S)))) false, .int .i64 (a : Int), .int .i64 (m : Int)] H = some (.ret [.sl 1 (iL (P ++ (C ++ S))) false], H) := by
 obtain ⟨f, caps, hcf, hok, hk, hcmp⟩ := hc.ex
 have hfn : ∀ k : Nat -> List V -> Option (Res × ze), fnK c k = k f caps := fun k => by rw [hcf]; rfl
 have gx : (P ++ (A ++ (x :: S)))[m]? = some x := by rw [<- List.append_assoc]; exact WQ _ _ _ (by simp; omega)
 have gA : ∀ h, a <= h -> h < m -> (P ++ (A ++ (x :: S)))[h]? = some (A.getD (h - a) 0) := fun h h1 h2 => by
  rw [zbY P A (x :: S) (h := h) (by omega) (by omega), ha]
 obtain ⟨r, r1, r2, r3, r4, r5⟩ := zdm (H := H) (l := .sl 1 (iL (P ++ (A ++ (x :: S)))) false) (body := jb n m c) (fin := fun i => Ze n (ja n [.sl 1 (iL (P ++ (A ++ (x :: S)))) false, .int .i64 (i : Int), .int .i64 (i : Int)]) [.sl 1 (iL (P ++ (A ++ (x :: S)))) false, .int .i64 (m : Int)] H) (Q := fun h => ¬ K x < K (A.getD (h - a) 0)) a m
  (fun i j h1 h2 h3 next => by
   have hij : (i : Int) < (j : Int) := by omega
   have e1 : IntKind.i64.wrap ((i : Int) + (j : Int)) = ((i + j : Nat) : Int) := wN (by omega) (by omega)
   have g1 := gA ((i + j) / 2) (by omega) (by omega)
   have l1 := (zh.1 g1).1
   have l2 := (zh.1 gx).1
   have e2 : IntKind.i64.wrap ((((i + j) / 2 : Nat) : Int) + 1) = (((i + j) / 2 + 1 : Nat) : Int) := wN (by omega) (by omega)
   obtain ⟨q, hq, hqk⟩ := hcmp n hn x (A.getD ((i + j) / 2 - a) 0) dx (dA _ (zac (by omega)))
   simp only [jb, gv, zk, zg, zC, zb, zo, hij, decide_true, if_true, zM, e1, zjW, zk9, zf5, zbX (show i + j < lim by omega), Zo, zH, lsl, Qk, Kn, zab, true_and, zlo, ole, Nat.reduceBEq, and_true, l1, l2, QR g1, QR gx, za, hfn, hok, hk]
   rw [hq, zK]
   simp only [zw, zC, zb, zbP, zo, zM, e2]
   by_cases h : K x < K (A.getD ((i + j) / 2 - a) 0)
   · exact .inr ⟨fun h' => h' h, by simp only [hqk.2 h, decide_true, QI, zn, if_false]⟩
   · exact .inl ⟨h, by simp only [show ¬ q < 0 from fun h' => h (hqk.1 h'), decide_false, Bool.not_false, if_true]⟩)
  (fun i h1 h2 next => by
   have hii : ¬ (i : Int) < (i : Int) := by omega
   simp only [jb, gv, zk, zg, zC, zb, zo, hii, decide_false, zn, if_false, lsl])
  n a m (by omega) (zm _) (by omega) (zm _) (.inl rfl) (.inl rfl)
 rw [r5]
 have hA2 : A = A.take (r - a) ++ A.drop (r - a) := (Zx _ _).symm
 refine ⟨A.take (r - a) ++ x :: A.drop (r - a), ?_, zjV hA (by omega) hlt ?_ ?_, ?_⟩
 · refine List.perm_middle.trans ?_
   rw [<- hA2]
   exact (List.perm_append_singleton x A).symm
 · rcases r3 with h | h
   · exact .inl (by omega)
   · exact .inr (by rw [show r - a - 1 = r - 1 - a by omega]; exact h)
 · rcases r4 with h | h
   · exact .inl (by omega)
   · exact .inr (by simpa using h)
 · have := ziu (H := H) n r [.sl 1 (iL (P ++ (A ++ (x :: S)))) false, .int .i64 (r : Int), .int .i64 (r : Int)] rfl x (A.drop (r - a)).reverse S (P ++ A.take (r - a)) m n (by simp; omega) (by simp; omega) (by omega) (by simp; omega)
   rw [List.reverse_reverse] at this
   have e : P ++ (A ++ (x :: S)) = (P ++ A.take (r - a)) ++ (A.drop (r - a) ++ (x :: S)) := by
    conv => lhs; rw [hA2]
    simp only [List.append_assoc]
   rw [e]
   rw [e] at this
   rw [this]
   simp
end
end Go.Proofs.Tryz
namespace Go.Proofs.Tryz
open Go.L Go.Rp
set_option maxRecDepth 100000
section
variable {K : Int -> Int} {D : Int -> Prop} {H : ze} {c : V} {n0 : Nat} {p : Nat -> Int}
theorem zjY (hc : CmpOk n0 c H K D) (n : Nat) (A B P S : List Int) (a m b mid nn lo hi : Nat) (body : List V -> ze -> (List V -> ze -> Option (Res × ze)) -> Option (Res × ze))
    (hbody : ∀ st hh next, body st hh next = YK n a m b c (.int .i64 (mid : Int)) (.int .i64 (nn : Int)) (.int .i64 ((nn - 1 : Nat) : Int)) st hh next)
    (ha : a = P.length) (hm : m = P.length + A.length) (hb : b = P.length + A.length + B.length) (hmid : mid = (a + b) / 2) (hnn : nn = mid + m) (hl : 2 * b + 1 < lim)
    (hlo : (m > mid /\ lo = nn - b /\ hi = mid) \/ (m <= mid /\ lo = a /\ hi = m)) (hA0 : 0 < A.length) (hB0 : 0 < B.length)
    (dA : ∀ x ∈ A, D x) (dB : ∀ y ∈ B, D y) (hn : n0 <= n) (hn2 : hi < n + lo) :
    ∃ r, a <= r /\ r <= m /\ r <= mid /\ mid <= r + B.length /\ (r - a = 0 \/ B.length <= mid - r \/ ¬ K (B.getD (mid - r) 0) < K (A.getD (r - a - 1) 0)) /\ (mid - r = 0 \/ A.length <= r - a \/ K (B.getD (mid - r - 1) 0) < K (A.getD (r - a) 0)) ∧
     Ze n body [.sl 1 (iL (P ++ (A ++ (B ++ S)))) false, .int .i64 (lo : Int), .int .i64 (hi : Int)] H = zoi n a m b c (.int .i64 (mid : Int)) (.int .i64 (nn : Int)) (.int .i64 (r : Int)) (iL (P ++ (A ++ (B ++ S)))) H := by
 obtain ⟨f, caps, hcf, hok, hk, hcmp⟩ := hc.ex
 have hfn : ∀ k : Nat -> List V -> Option (Res × ze), fnK c k = k f caps := fun k => by rw [hcf]; rfl
 have gA : ∀ h, a <= h -> h < m -> (P ++ (A ++ (B ++ S)))[h]? = some (A.getD (h - a) 0) := fun h h1 h2 => by
  rw [zbY P A (B ++ S) (h := h) (by omega) (by omega), ha]
 have gB : ∀ h, m <= h -> h < b -> (P ++ (A ++ (B ++ S)))[h]? = some (B.getD (h - m) 0) := fun h h1 h2 => by
  have := zbY (P ++ A) B S (h := h) (by simp; omega) (by simp; omega)
  simp only [List.append_assoc, zE] at this
  rw [this, hm]
 have hlom : a <= lo /\ lo <= hi /\ hi <= m /\ hi <= mid /\ mid <= lo + B.length := by
  rcases hlo with ⟨h1, h2, h3⟩ | ⟨h1, h2, h3⟩ <;> omega
 obtain ⟨r, r1, r2, r3, r4, r5⟩ := zdm (H := H) (l := .sl 1 (iL (P ++ (A ++ (B ++ S)))) false) (body := body) (fin := fun i => zoi n a m b c (.int .i64 (mid : Int)) (.int .i64 (nn : Int)) (.int .i64 (i : Int)) (iL (P ++ (A ++ (B ++ S)))) H) (Q := fun h => ¬ K (B.getD (mid - 1 - h) 0) < K (A.getD (h - a) 0)) lo hi
  (fun i j h1 h2 h3 next => by
   rw [hbody]
   have hij : (i : Int) < (j : Int) := by omega
   have e1 : IntKind.i64.wrap ((i : Int) + (j : Int)) = ((i + j : Nat) : Int) := wN (by omega) (by omega)
   have g1 := gA ((i + j) / 2) (by omega) (by omega)
   have g2 := gB (nn - 1 - (i + j) / 2) (by omega) (by omega)
   have l1 := (zh.1 g1).1
   have l2 := (zh.1 g2).1
   have e2 : IntKind.i64.wrap ((((i + j) / 2 : Nat) : Int) + 1) = (((i + j) / 2 + 1 : Nat) : Int) := wN (by omega) (by omega)
   have e3 : IntKind.i64.wrap (((nn - 1 : Nat) : Int) - (((i + j) / 2 : Nat) : Int)) = ((nn - 1 - (i + j) / 2 : Nat) : Int) := wN (by omega) (by omega)
   have e4 : nn - 1 - (i + j) / 2 - m = mid - 1 - (i + j) / 2 := by omega
   rw [e4] at g2
   obtain ⟨q, hq, hqk⟩ := hcmp n hn (B.getD (mid - 1 - (i + j) / 2) 0) (A.getD ((i + j) / 2 - a) 0) (dB _ (zac (by omega))) (dA _ (zac (by omega)))
   simp only [YK, gv, zk, zg, zC, zb, zo, hij, decide_true, if_true, zM, e1, zjW, zk9, zf5, zbX (show i + j < lim by omega), ZH, e3, Zo, zH, lsl, Qk, Kn, zab, true_and, zlo, ole, Nat.reduceBEq, and_true, l1, l2, QR g1, QR g2, za, hfn, hok, hk]
   rw [hq, zK]
   simp only [zw, zC, zb, zbP, zo, zM, e2]
   by_cases h : K (B.getD (mid - 1 - (i + j) / 2) 0) < K (A.getD ((i + j) / 2 - a) 0)
   · exact .inr ⟨fun h' => h' h, by simp only [hqk.2 h, decide_true, QI, zn, if_false]⟩
   · exact .inl ⟨h, by simp only [show ¬ q < 0 from fun h' => h (hqk.1 h'), decide_false, Bool.not_false, if_true]⟩)
  (fun i h1 h2 next => by
   have hii : ¬ (i : Int) < (i : Int) := by omega
   rw [hbody]
   simp only [YK, gv, zk, zg, zC, zb, zo, hii, decide_false, zn, if_false, lsl, zoi, zmm, zjX])
  n lo hi (by omega) (zm _) hlom.2.1 (zm _) (.inl rfl) (.inl rfl)
 refine ⟨r, by omega, by omega, by omega, by omega, ?_, ?_, r5⟩
 · rcases r3 with h | h
   · rcases hlo with ⟨h1, h2, h3⟩ | ⟨h1, h2, h3⟩
     · exact .inr (.inl (by omega))
     · exact .inl (by omega)
   · by_cases h0 : r - a = 0
     · exact .inl h0
     · refine .inr (.inr ?_)
       rw [show mid - r = mid - 1 - (r - 1) by omega, show r - a - 1 = r - 1 - a by omega]
       exact h
 · rcases r4 with h | h
   · rcases hlo with ⟨h1, h2, h3⟩ | ⟨h1, h2, h3⟩
     · exact .inl (by omega)
     · exact .inr (.inl (by omega))
   · refine .inr (.inr ?_)
     rw [show mid - r - 1 = mid - 1 - r by omega]
     simpa using h
theorem zeU (hc : CmpOk n0 c H K D) : ∀ (sz n : Nat), n0 + 2 * sz + 8 <= n -> zla c H K D n sz
 | 0, n, _ => fun A B P S a m b hA hB hsz => by
   have := ZG.2 hA; omega
 | sz + 1, n, hn => fun A B P S a m b hA hB hsz ha hm hb hl sA sB hlt dA dB => by
   obtain ⟨N, rfl⟩ : ∃ N, n = N + 1 := ⟨n - 1, by omega⟩
   have ih := zeU hc sz N (by omega)
   have hA0 := ZG.2 hA
   have hB0 := ZG.2 hB
   have e1 : IntKind.i64.wrap ((m : Int) - (a : Int)) = ((A.length : Nat) : Int) := wN (by omega) (by omega)
   have e2 : IntKind.i64.wrap ((b : Int) - (m : Int)) = ((B.length : Nat) : Int) := wN (by omega) (by omega)
   have e3 : IntKind.i64.wrap ((a : Int) + (b : Int)) = ((a + b : Nat) : Int) := wN (by omega) (by omega)
   rw [zpe]
   unfold zqP
   rw [e1, e2, e3]
   by_cases h1 : A.length = 1
   · obtain ⟨x, rfl⟩ := ZR.1 h1
     have hc1 : ((([x] : List Int).length : Int) == 1) = true := by simp
     rw [if_pos hc1]
     obtain ⟨C, p, s, e⟩ := zpk hc N x B P S a m b ha (by simpa using hm) (by simpa using hb) hl sB (fun y hy => hlt x (by simp) y hy) (dA x (by simp)) dB (by omega) (by omega)
     exact ⟨C, by simpa using p, s, by simpa using e⟩
   · have hc1 : ¬ (((A.length : Nat) : Int) == 1) = true := by simp; omega
     rw [if_neg hc1]
     by_cases h2 : B.length = 1
     · obtain ⟨x, rfl⟩ := ZR.1 h2
       have hc2 : ((([x] : List Int).length : Int) == 1) = true := by simp
       rw [if_pos hc2]
       obtain ⟨C, p, s, e⟩ := zoj hc N x A P S a m ha hm (by simp at hb; omega) sA (fun y hy => hlt y hy x (by simp)) (dB x (by simp)) dA (by omega) (by simp at hsz; omega)
       exact ⟨C, p, s, by simpa using e⟩
     · have hc2 : ¬ (((B.length : Nat) : Int) == 1) = true := by simp; omega
       rw [if_neg hc2]
       obtain ⟨mid, hmid⟩ : ∃ mid, mid = (a + b) / 2 := ⟨_, rfl⟩
       obtain ⟨nn, hnn⟩ : ∃ nn, nn = mid + m := ⟨_, rfl⟩
       have e4 : IntKind.i64.wrap ((mid : Int) + (m : Int)) = ((nn : Nat) : Int) := wN (by omega) (by omega)
       have e5 : IntKind.i64.wrap ((nn : Int) - 1) = ((nn - 1 : Nat) : Int) := wN (by omega) (by omega)
       have e6 := zbX (show a + b < lim by omega)
       rw [<- hmid] at e6
       simp only [zk9, zb, zf5, e6, zM, e4, XO, zo]
       have key : ∀ (lo hi : Nat) (body : List V -> ze -> (List V -> ze -> Option (Res × ze)) -> Option (Res × ze)), (∀ st hh next, body st hh next = YK N a m b c (.int .i64 (mid : Int)) (.int .i64 (nn : Int)) (.int .i64 ((nn - 1 : Nat) : Int)) st hh next) →
           ((m > mid /\ lo = nn - b /\ hi = mid) \/ (m <= mid /\ lo = a /\ hi = m)) -> ∃ C, C.Perm (A ++ B) /\ Sd K C /\ Ze N body [.sl 1 (iL (P ++ (A ++ (B ++ S)))) false, .int .i64 (lo : Int), .int .i64 (hi : Int)] H = some (.ret [.sl 1 (iL (P ++ (C ++ S))) false], H) := fun lo hi body hbody hlo => by
        obtain ⟨r, r1, r2, r3, r4, r5, r6, r7⟩ := zjY hc N A B P S a m b mid nn lo hi body hbody ha hm hb hmid hnn hl hlo hA0 hB0 dA dB (by omega) (by omega)
        have hAt : A = A.take (r - a) ++ A.drop (r - a) := (Zx _ _).symm
        have hBt : B = B.take (mid - r) ++ B.drop (mid - r) := (Zx _ _).symm
        have hcr := zqR sA sB (by omega) (by omega) hlt r5 r6
        have tA : (A.take (r - a)).length = r - a := by rw [Zg]; omega
        have tB : (B.take (mid - r)).length = mid - r := by rw [Zg]; omega
        have dA' : (A.drop (r - a)).length = A.length - (r - a) := Xg
        have dB' : (B.drop (mid - r)).length = B.length - (mid - r) := Xg
        obtain ⟨C1, C2, p1, q1, p2, q2, e⟩ := zpj ih (A.take (r - a)) (A.drop (r - a)) (B.take (mid - r)) (B.drop (mid - r)) P S a r m mid nn b (by omega) (by omega) ha (by omega) (by omega) (by omega) hnn (by omega) hl (by omega)
         (sA.sublist (J2 _ _)) (sB.sublist (J2 _ _)) (sA.sublist (Qg _ _)) (sB.sublist (Qg _ _)) (by rw [<- hAt, <- hBt]; exact hlt) (by rw [<- hAt]; exact dA) (by rw [<- hBt]; exact dB)
        rw [<- hAt, <- hBt] at e
        refine ⟨C1 ++ C2, ?_, ZI.2 ⟨q1, q2, fun u hu v hv => hcr u (p1.mem_iff.1 hu) v (p2.mem_iff.1 hv)⟩, ?_⟩
        · refine (p1.append p2).trans ?_
          conv => rhs; rw [hAt, hBt]
          simp only [List.append_assoc]
          refine List.Perm.append_left _ ?_
          rw [<- List.append_assoc, <- List.append_assoc]
          exact List.Perm.append_right _ List.perm_append_comm
        · rw [r7, e]; simp only [List.append_assoc]
       by_cases hg : (m : Int) > (mid : Int)
       · have e7 : IntKind.i64.wrap ((nn : Int) - (b : Int)) = ((nn - b : Nat) : Int) := wN (by omega) (by omega)
         simp only [hg, decide_true, if_true, ZH, zb, e7, e5]
         exact key (nn - b) mid _ (fun _ _ _ => rfl) (.inl ⟨by omega, rfl, rfl⟩)
       · simp only [hg, decide_false, zn, if_false, ZH, zb, e5]
         exact key a m _ (fun _ _ _ => rfl) (.inr ⟨by omega, rfl, rfl⟩)
theorem zok (hp : zf1 p) (hc : CmpOk n0 c H K D) (n lo i j : Nat) (P S : List Int) (hP : lo = P.length) (hi : 0 < i) (hj : 0 < j) (hl : 2 * (lo + i + j) + 1 < lim) (hD : ∀ x ∈ rng p lo (i + j), D x) (hn : n0 + 2 * (i + j) + 8 <= n) :
    call n 249 [.sl 1 (iL (P ++ (sR K p lo i ++ (sR K p (lo + i) j ++ S)))) false, .int .i64 (lo : Int), .int .i64 ((lo + i : Nat) : Int), .int .i64 ((lo + i + j : Nat) : Int), c] H = some (.ret [.sl 1 (iL (P ++ (sR K p lo (i + j) ++ S))) false], H) := by
 have hne : ∀ l k, 0 < k -> sR K p l k ≠ [] := fun l k hk h => by have := Ys (K := K) (p := p) l k; rw [h] at this; simp at this; omega
 obtain ⟨C, q, s, e⟩ := zeU hc (i + j) n hn (sR K p lo i) (sR K p (lo + i) j) P S lo (lo + i) (lo + i + j) (hne _ _ hi) (hne _ _ hj) (by rw [Ys, Ys]; omega) hP (by rw [Ys]; omega) (by rw [Ys, Ys]; omega) hl (zio hp _ _) (zio hp _ _)
  (fun x hx y hy => zqS hp hx hy) (fun x hx => hD x (jv (zm _) (by omega) (Kk.2 (zaM.1 hx)))) (fun x hx => hD x (jv (Nat.le_add_right _ _) (by omega) (Kk.2 (zaM.1 hx))))
 rw [e, zpg hp q s]
end
end Go.Proofs.Tryz
namespace Go.Proofs.Tryz
open Go.L Go.Rp
set_option maxRecDepth 100000
@[simp] theorem Ym (a b : Int) : bop prog .mul 3 (.int .i64 a) (.int .i64 b) = some (.int .i64 (IntKind.i64.wrap (a * b))) := by kernel_rfl
section
variable {K : Int -> Int} {D : Int -> Prop} {H : ze} {c : V} {n0 : Nat} {p : Nat -> Int}
theorem YL {bs : Nat} (hb : 0 < bs) (f lo len : Nat) (h : bs <= len) (hf : len <= f) : Q3 K p bs f lo len = sR K p lo bs ++ Q3 K p bs f (lo + bs) (len - bs) := by
 rcases ZQ bs len with h1 | h1
 · exact zml hb f lo len h1 hf
 · obtain rfl : len = bs := by omega
   rw [JM f lo len (zm _) (by omega), Q6, JM f _ 0 (by omega) (by omega)]
   simp [sR]
theorem zdn (hc : CmpOk n0 c H K D) (n k f : Nat) (hD : ∀ x ∈ rng p 0 k, D x) (hl : 2 * k + 100 < lim) (hn : n0 + k + 25 <= n) (hf : k <= f) (hf0 : 0 < f) : ∀ (M len a : Nat) (P : List Int), a = P.length -> a + len = k -> len < M -> ∃ u v : Nat,
    Ze M (q8 n k c) [.sl 1 (iL (P ++ rng p a len)) false, .int .i64 (a : Int), .int .i64 ((a + 20 : Nat) : Int)] H = Ze n (WV n k c) [.sl 1 (iL (P ++ Q3 K p 20 f a len)) false, .int .i64 20, .int .i64 (u : Int), .int .i64 (v : Int)] H
 | 0, _, _, _, _, _, h => by omega
 | M + 1, len, a, P, ha, hk, hM => by
   rw [zL]
   by_cases h : 20 <= len
   · have h1 : ((a + 20 : Nat) : Int) <= (k : Int) := by omega
     have e1 : IntKind.i64.wrap (((a + 20 : Nat) : Int) + 20) = ((a + 20 + 20 : Nat) : Int) := wN (by omega) (by omega)
     have hr : rng p a len = rng p a 20 ++ rng p (a + 20) (len - 20) := by rw [<- zf2]; congr 1; omega
     have hi := zis hc n a 20 P (rng p (a + 20) (len - 20)) ha (fun x hx => hD x (jv (by omega) (by omega) hx)) (by rw [zbU]; omega) (by omega) (by omega)
     obtain ⟨u, v, e⟩ := zdn hc n k f hD hl hn hf hf0 M (len - 20) (a + 20) (P ++ sR K p a 20) (by rw [zE, Ys]; omega) (by omega) (by omega)
     refine ⟨u, v, ?_⟩
     simp only [q8, gv, zk, zg, Yh, zb, zo, h1, decide_true, if_true, lsl]
     rw [hr, hi, JW]
     simp only [zM, zb, e1]
     rw [YL (by omega) f a len h (by omega), <- List.append_assoc, <- List.append_assoc]
     exact e
   · have h1 : ¬ ((a + 20 : Nat) : Int) <= (k : Int) := by omega
     have hi := zis hc n a len P [] ha (fun x hx => hD x (jv (by omega) (by omega) hx)) (by simp; omega) (by omega) (by omega)
     rw [Zn, Zn, hk] at hi
     refine ⟨a, a + 20, ?_⟩
     simp only [q8, gv, zk, zg, Yh, zb, zo, h1, decide_false, zn, if_false, lsl]
     rw [hi, JW, JM f a len (by omega) hf0]
theorem zdo (hp : zf1 p) (hc : CmpOk n0 c H K D) (n k f bs : Nat) (st14 : List V) (next16 : List V -> ze -> Option (Res × ze)) (hst : st14.getD 1 (.bool false) = .int .i64 (bs : Int)) (hb : 0 < bs) (hbk : bs < k) (hD : ∀ x ∈ rng p 0 k, D x) (hl : 4 * k + 100 < lim) (hn : n0 + 2 * k + 8 <= n) (hf : k <= f) : ∀ (M len a : Nat) (P : List Int), a = P.length -> a + len = k -> len < M -> ∃ u v : Nat,
    Ze M (ju n k c st14 next16) [.sl 1 (iL (P ++ Q3 K p bs f a len)) false, .int .i64 (a : Int), .int .i64 ((a + 2 * bs : Nat) : Int)] H = next16 [.sl 1 (iL (P ++ Q3 K p (2 * bs) f a len)) false, .int .i64 ((2 * bs : Nat) : Int), .int .i64 (u : Int), .int .i64 (v : Int)] H
 | 0, _, _, _, _, _, h => by omega
 | M + 1, len, a, P, ha, hk, hM => by
   rw [zL]
   have e1 : IntKind.i64.wrap ((a : Int) + (bs : Int)) = ((a + bs : Nat) : Int) := wN (by omega) (by omega)
   have e2 : IntKind.i64.wrap (2 * (bs : Int)) = ((2 * bs : Nat) : Int) := wN (by omega) (by omega)
   have e3 : IntKind.i64.wrap ((bs : Int) * 2) = ((2 * bs : Nat) : Int) := wN (by omega) (by omega)
   by_cases h : 2 * bs <= len
   · have h1 : ((a + 2 * bs : Nat) : Int) <= (k : Int) := by omega
     have e4 : IntKind.i64.wrap (((a + 2 * bs : Nat) : Int) + ((2 * bs : Nat) : Int)) = ((a + 2 * bs + 2 * bs : Nat) : Int) := wN (by omega) (by omega)
     have hs := zok hp hc n a bs bs P (Q3 K p bs f (a + bs + bs) (len - bs - bs)) ha hb hb (by omega) (fun x hx => hD x (jv (by omega) (by omega) hx)) (by omega)
     obtain ⟨u, v, e⟩ := zdo hp hc n k f bs st14 next16 hst hb hbk hD hl hn hf M (len - 2 * bs) (a + 2 * bs) (P ++ sR K p a (2 * bs)) (by rw [zE, Ys]; omega) (by omega) (by omega)
     refine ⟨u, v, ?_⟩
     rw [YL hb f a len (by omega) (by omega), YL hb f (a + bs) (len - bs) (by omega) (by omega), YL (bs := 2 * bs) (by omega) f a len h (by omega)]
     simp only [ju, gv, zk, zg, hst, Yh, zb, zo, h1, decide_true, if_true, zM, e1, lsl]
     rw [show ((a + bs + bs : Nat) : Int) = ((a + 2 * bs : Nat) : Int) by omega] at hs
     rw [hs, JW]
     simp only [Ym, zM, zb, e2, e4]
     rw [show bs + bs = 2 * bs by omega, show a + bs + bs = a + 2 * bs by omega, show len - bs - bs = len - 2 * bs by omega, <- List.append_assoc, <- List.append_assoc]
     exact e
   · have h1 : ¬ ((a + 2 * bs : Nat) : Int) <= (k : Int) := by omega
     refine ⟨a, a + 2 * bs, ?_⟩
     simp only [ju, gv, zk, zg, hst, Yh, zb, zo, h1, decide_false, zn, if_false, zM, e1, zC, lsl]
     by_cases h2 : bs < len
     · have h3 : ((a + bs : Nat) : Int) < (k : Int) := by omega
       have hs := zok hp hc n a bs (len - bs) P [] ha hb (by omega) (by omega) (fun x hx => hD x (jv (by omega) (by omega) hx)) (by omega)
       rw [Zn, Zn, show a + bs + (len - bs) = k by omega, show bs + (len - bs) = len by omega] at hs
       simp only [h3, decide_true, if_true]
       rw [YL hb f a len (by omega) (by omega), JM f (a + bs) (len - bs) (by omega) (by omega), JM (bs := 2 * bs) f a len (by omega) (by omega), hs, JW]
       simp only [Ym, zb, e3]
     · have h3 : ¬ ((a + bs : Nat) : Int) < (k : Int) := by omega
       simp only [h3, decide_false, zn, if_false, Ym, zb, e3]
       rw [JM f a len (by omega) (by omega), JM (bs := 2 * bs) f a len (by omega) (by omega)]
theorem ziv (hp : zf1 p) (hc : CmpOk n0 c H K D) (n k f : Nat) (hD : ∀ x ∈ rng p 0 k, D x) (hl : 4 * k + 100 < lim) (hn : n0 + 2 * k + 8 <= n) (hf : k <= f) (hf0 : 0 < f) : ∀ (M bs u v : Nat), 0 < bs -> k < M + bs -> 0 < M →
    Ze M (WV n k c) [.sl 1 (iL (Q3 K p bs f 0 k)) false, .int .i64 (bs : Int), .int .i64 (u : Int), .int .i64 (v : Int)] H = some (.ret [.sl 1 (iL (sR K p 0 k)) false], H)
 | 0, _, _, _, _, _, h => by omega
 | M + 1, bs, u, v, hb, hM, _ => by
   rw [zL]
   by_cases h : bs < k
   · have h1 : (bs : Int) < (k : Int) := by omega
     have e2 : IntKind.i64.wrap (2 * (bs : Int)) = ((2 * bs : Nat) : Int) := wN (by omega) (by omega)
     obtain ⟨u', v', e⟩ := zdo hp hc n k f bs [.sl 1 (iL (Q3 K p bs f 0 k)) false, .int .i64 (bs : Int), .int .i64 (u : Int), .int .i64 (v : Int)] (Ze M (WV n k c)) rfl hb h hD hl hn hf n k 0 [] rfl (by omega) (by omega)
     have ih := ziv hp hc n k f hD hl hn hf hf0 M (2 * bs) u' v' (by omega) (by omega) (by omega)
     simp only [zT, zr] at e
     simp only [WV, gv, zk, zg, zC, zb, zo, h1, decide_true, if_true, Ym, e2, lsl]
     exact e.trans ih
   · have h1 : ¬ (bs : Int) < (k : Int) := by omega
     simp only [WV, gv, zk, zg, zC, zb, zo, h1, decide_false, zn, if_false, lsl]
     rw [JM f 0 k (by omega) hf0]
theorem zmn (hp : zf1 p) (hc : CmpOk n0 c H K D) (n k : Nat) (hD : ∀ x ∈ rng p 0 k, D x) (hl : 4 * k + 100 < lim) (hn : n0 + 2 * k + 40 <= n) :
    call n 240 [.sl 1 (iL (rng p 0 k)) false, c] H = some (.ret [.sl 1 (iL (sR K p 0 k)) false], H) := by
 obtain ⟨N, rfl⟩ : ∃ N, n = N + 2 := ⟨n - 2, by omega⟩
 obtain ⟨u, v, e⟩ := zdn hc N k (k + 1) hD (by omega) (by omega) (by omega) (by omega) N k 0 [] rfl (by omega) (by omega)
 have e2 := ziv hp hc N k (k + 1) hD hl (by omega) (by omega) (by omega) N 20 u v (by omega) (by omega) (by omega)
 rw [zog]
 unfold zp2
 rw [zof]
 unfold zp1
 simp only [zT] at e
 rw [show ((20 : Nat) : Int) = (20 : Int) from rfl] at e2
 have e3 : (((iL (rng p 0 k)).length : Nat) : Int) = (k : Int) := by rw [Qk, zbU]
 rw [e3]
 have e4 := e.trans e2
 rw [show (((0 : Nat) + 20 : Nat) : Int) = (20 : Int) from rfl, show (((0 : Nat)) : Int) = (0 : Int) from rfl] at e4
 rw [e4, JW]
end
end Go.Proofs.Tryz
namespace Go.Proofs.Tryz
open Go.L Go.Rp Go.Sk
set_option maxRecDepth 100000
def oAt (os : List O) (x : Int) : O := os.getD x.toNat ⟨0, 0⟩
theorem Wv {os : List O} {k : Nat} {x : O} (h : os[k]? = some x) : oAt os (k : Int) = x := by
 unfold oAt; rw [XT, zR, h]; rfl
def YM (os : List O) (x : Int) : Int := (oAt os x).v
theorem ziw (n : Nat) (o : O) (h : ze) : call (n + 1) 235 [.agg (O.w o)] h = some (.ret [.int .i32 o.v], h) := by
 refine (zmg n o.k o.v h).trans ?_
 exact zkG (by simp) (by simp)
theorem zdp (x : O) : List.take 2 (List.drop 0 (O.w x)) = O.w x := rfl
theorem zqp (os : List O) (lb : Bool) (H : ze) : CmpOk 4 (.fn 241 [.iptr 1 [.fn 235 []] 0, .iptr 1 [.sl 2 (os.map O.w) lb] 0]) H (YM os) (fun x => 0 <= x /\ x < (os.length : Int)) where
 ex := by
  refine ⟨_, _, rfl, by kernel_rfl, by kernel_rfl, fun n hn x y hx hy => ?_⟩
  obtain ⟨m, rfl⟩ : ∃ m, n = (m + 3) + 1 := ⟨n - 4, by omega⟩
  obtain ⟨i, rfl⟩ : ∃ i : Nat, x = (i : Int) := ⟨x.toNat, (ZY hx.1).symm⟩
  obtain ⟨j, rfl⟩ : ∃ j : Nat, y = (j : Int) := ⟨y.toNat, (ZY hy.1).symm⟩
  obtain ⟨a, ha⟩ : ∃ a, os[i]? = some a := ⟨_, zf (by omega)⟩
  obtain ⟨b, hb⟩ : ∃ b, os[j]? = some b := ⟨_, zf (by omega)⟩
  have hav : (os.map O.w)[i]? = some (O.w a) := by rw [zaC, ha]; rfl
  have hbv : (os.map O.w)[j]? = some (O.w b) := by rw [zaC, hb]; rfl
  refine ⟨zn6 (YM os (i : Int)) (YM os (j : Int)), ?_, ?_⟩
  · refine (zob (m + 3) (i : Int) (j : Int) (os.map O.w) lb H).trans ?_
    unfold zpY
    have e1 : ∀ (u : O) (h : ze), call (m + 3) 235 [.agg (O.w u)] h = some (.ret [.int .i32 u.v], h) := fun u h => ziw (m + 2) u h
    have e2 : ∀ (u v : Int) (h : ze), call (m + 3) 242 [.int .i32 u, .int .i32 v] h = some (.ret [.int .i64 (zn6 u v)], h) := fun u v h => zfZ (m + 1) u v h
    have fi : nv (V.int .i64 (i : Int)) = some i := Zo _ _
    have fj : nv (V.int .i64 (j : Int)) = some j := Zo _ _
    rw [fi, zH, QW hav, zb]
    first
     | rw [XP, zl, if_pos (by decide), zdp, e1, zbN, zw, fj, zH, QW hbv, zb, XP, zl, if_pos (by decide), zdp, e1, zbN, zw, e2, zbO, zw]
       rw [show YM os (i : Int) = a.v from by unfold YM; rw [Wv ha], show YM os (j : Int) = b.v from by unfold YM; rw [Wv hb]]
     | (simp only [esP, zdp]
        rw [e1, zbN, zw, fj, zH, QW hbv, zb]
        simp only [esP, zdp]
        rw [e1, zbN, zw, e2, zbO, zw]
        rw [show YM os (i : Int) = a.v from by unfold YM; rw [Wv ha], show YM os (j : Int) = b.v from by unfold YM; rw [Wv hb]])
  · unfold zn6
    split
    · rename_i h; exact ⟨fun _ => h, fun _ => by omega⟩
    · rename_i h; split <;> exact ⟨fun e => by omega, fun e => absurd e h⟩
def Jd (os : List O) : Nat -> List Int
 | 0 => []
 | k + 1 => if (oAt os (k : Int)).k = 1 then Jd os k ++ [(k : Int)] else Jd os k
def Je (os : List O) : Nat -> List Int
 | 0 => []
 | k + 1 => if (oAt os (k : Int)).k = 1 then Je os k else Je os k ++ [(k : Int)]
theorem Jf (os : List O) : ∀ (n : Nat) (x : Int), x ∈ Jd os n -> 0 <= x /\ x < (n : Int) /\ (oAt os x).k = 1
 | 0, x, h => by cases h
 | n + 1, x, h => by
   simp only [Jd] at h
   split at h
   · rename_i hk
     rcases Zm.1 h with h | h
     · have := Jf os n x h; omega
     · rw [ZP] at h; subst h; exact ⟨by omega, by omega, hk⟩
   · have := Jf os n x h; omega
theorem JB (os : List O) : ∀ (n : Nat) (x : Int), x ∈ Je os n -> 0 <= x /\ x < (n : Int) /\ (oAt os x).k ≠ 1
 | 0, x, h => by cases h
 | n + 1, x, h => by
   simp only [Je] at h
   split at h
   · have := JB os n x h; omega
   · rename_i hk
     rcases Zm.1 h with h | h
     · have := JB os n x h; omega
     · rw [ZP] at h; subst h; exact ⟨by omega, by omega, hk⟩
theorem YN (os : List O) : ∀ n : Nat, (Jd os n).Pairwise (· < ·)
 | 0 => .nil
 | n + 1 => by
   simp only [Jd]
   split
   · refine ZI.2 ⟨YN os n, List.pairwise_singleton .., fun a ha b hb => ?_⟩
     rw [ZP] at hb; subst hb
     exact (Jf os n a ha).2.1
   · exact YN os n
theorem YO (os : List O) : ∀ n : Nat, (Jd os n).length + (Je os n).length = n
 | 0 => rfl
 | n + 1 => by
   have := YO os n
   simp only [Jd, Je]
   split
   · rw [zE, zB, zO]; omega
   · rw [zE, zB, zO]; omega
def WB (os : List O) : List Int := Jd os os.length
def XH (os : List O) : List Int := Je os os.length
def Xc (os : List O) : List Int := sR (YM os) (atP (WB os) (os.length : Int)) 0 (WB os).length
theorem Kw (os : List O) : (Xc os).Perm (WB os) := by
 have := Km (K := YM os) (p := atP (WB os) (os.length : Int)) 0 (WB os).length
 rwa [zf3] at this
theorem zaO (os : List O) : (Xc os).length = (WB os).length := (Kw os).length_eq
theorem zol (os : List O) : Sd (YM os) (Xc os) := zio (ziq (YN os _) fun x hx => (Jf os _ x hx).2.1) 0 _
theorem zpl (n : Nat) {h : ze} {b : Nat} (os : List O) (lb : Bool) (hb : h[b]? = some (.row 3 1 (iL (WB os)) true)) (hl : 4 * os.length + 100 < lim) (hn : 2 * os.length + 50 <= n) :
    call (n + 1) 234 [.sl 2 (os.map O.w) lb, .row b 1 0 (WB os).length, .fn 235 []] h = some (.ret [.row b 1 0 (WB os).length], (h.set b .dead).set b (.row 3 1 (iL (Xc os)) true)) := by
 have hlen := YO os os.length
 have hpl : (WB os).length <= os.length := by unfold WB; omega
 have hs := zmn (p := atP (WB os) (os.length : Int)) (H := h.set b .dead) (ziq (YN os _) fun x hx => (Jf os _ x hx).2.1) (zqp os lb (h.set b .dead)) n (WB os).length (fun x hx => by
  rw [zf3] at hx
  have := Jf os _ x hx
  exact ⟨this.1, this.2.1⟩) (by omega) (by omega)
 rw [zf3] at hs
 refine (zoc n (os.map O.w) lb b (WB os).length h).trans ?_
 unfold zpZ
 rw [hb]
 simp only [rwT]
 rw [if_pos (by rw [Qk]; refine ⟨⟨?_, ?_, ?_⟩, ?_, ?_⟩ <;> first | trivial | rfl), hs]
 simp only [clr]
 rw [if_pos (And.intro (by first | trivial | rfl) (by rw [Qk, Qk]; exact zaO os))]
 rfl
theorem zlb (x : Int) : jX prog 55 1 [(0, .int .i64 x)] = some (1, [[.int .i64 x]]) := by kernel_rfl
theorem zf6 (l : List Int) (x : Int) (h : l.length + 1 < lim) : app 3 1 (S.own 3 1 (iL l)) [[.int .i64 x]] = some (iL (l ++ [x])) := by
 simp only [app]
 rw [if_pos (by refine ⟨?_, ?_, by simpa using h⟩ <;> first | trivial | rfl)]
 simp [iL, XA]
theorem zrf (x : O) : (setR [V.int .u8 0, V.int .i32 0] 0 (O.w x))[0]? = some (.int .u8 x.k) := rfl
theorem zix (a b : Int) : bop prog .eql 5 (.int .u8 a) (.int .u8 b) = some (.bool (a == b)) := by kernel_rfl
def JN (h : ze) (os : List O) : ze := h ++ [.row 3 1 (iL (Xc os)) true, .row 3 1 (iL (XH os)) true]
theorem ziy (n : Nat) (h : ze) (os : List O) (lb : Bool) (hl : 4 * os.length + 100 < lim) (hn : 2 * os.length + 50 <= n) : ∀ (d k M : Nat), k + d = os.length -> d < M →
    Ze M (YJ (n + 1) (os.map O.w) lb) [.sl 1 (iL (Jd os k)) false, .sl 1 (iL (Je os k)) false, .int .i64 (k : Int)] h = some (.ret [.row h.length 1 0 (WB os).length, .row (h.length + 1) 1 0 (XH os).length], JN h os) := by
 intro d
 induction d with
 | zero =>
   intro k M h1 h2
   obtain ⟨M, rfl⟩ : ∃ M', M = M' + 1 := ⟨M - 1, by omega⟩
   obtain rfl : k = os.length := by omega
   have hb := zpl n (h := h ++ [.row 3 1 (iL (WB os)) true]) (b := h.length) os lb zD hl hn
   have hset : ((h ++ [HB.row 3 1 (iL (WB os)) true]).set h.length .dead).set h.length (.row 3 1 (iL (Xc os)) true) = h ++ [.row 3 1 (iL (Xc os)) true] := by
    rw [List.set_set, Zw _ _ (zm _), Q6]; rfl
   rw [hset] at hb
   rw [zL]
   unfold YJ
   simp only [gv, zg, zk, zA, zC, zb, zo]
   rw [if_neg (by simp)]
   rw [show lsl (V.sl 1 (iL (Jd os os.length)) false) = iL (WB os) from rfl, show lsl (V.sl 1 (iL (Je os os.length)) false) = iL (XH os) from rfl, Qk, Qk, hb, zK, zw]
   simp [JN]
 | succ d ih =>
   intro k M h1 h2
   obtain ⟨M, rfl⟩ : ∃ M', M = M' + 1 := ⟨M - 1, by omega⟩
   obtain ⟨x, hx⟩ : ∃ x, os[k]? = some x := ⟨_, zf (by omega)⟩
   have hxv : (os.map O.w)[k]? = some (O.w x) := by rw [zaC, hx]; rfl
   have hlt : decide ((k : Int) < (os.length : Int)) = true := by simp; omega
   have hpl := YO os k
   have hox := Wv hx
   have IH := ih (k + 1) M (by omega) (by omega)
   rw [zL]
   have key : ∀ next, YJ (n + 1) (os.map O.w) lb [.sl 1 (iL (Jd os k)) false, .sl 1 (iL (Je os k)) false, .int .i64 (k : Int)] h next = next [.sl 1 (iL (Jd os (k + 1))) false, .sl 1 (iL (Je os (k + 1))) false, .int .i64 ((k + 1 : Nat) : Int)] h := by
    intro next
    unfold YJ
    simp only [gv, zg, zk, zA, zC, zb, zo, hlt, if_true, Zo, zH, QW hxv, XP, zl, zr, zm, Nat.reduceLT, and_self, zdp, show (O.w x).length = 2 from rfl, zrf, zix, zlb, zM, XF (show k < lim by omega)]
    rw [show lsl (V.sl 1 (iL (Jd os k)) false) = iL (Jd os k) from rfl, show lsl (V.sl 1 (iL (Je os k)) false) = iL (Je os k) from rfl]
    by_cases hk : x.k = 1
    · rw [if_pos (by simp [hk]), zf6 _ _ (by omega), zb]
      simp only [Jd, Je, hox, hk, if_true]
    · rw [if_neg (by simp [hk]), zf6 _ _ (by omega), zb]
      simp only [Jd, Je, hox, hk, if_false]
   rw [key]
   exact IH
theorem zbn (n : Nat) (h : ze) (os : List O) (lb : Bool) (hl : 4 * os.length + 100 < lim) (hn : 2 * os.length + 50 <= n) :
    call (n + 2) 225 [.sl 2 (os.map O.w) lb] h = some (.ret [.row h.length 1 0 (WB os).length, .row (h.length + 1) 1 0 (XH os).length], JN h os) := by
 refine (zmh (n + 1) (os.map O.w) lb h).trans ?_
 unfold zod
 exact ziy n h os lb hl hn os.length 0 (n + 1) (by omega) (by omega)
end Go.Proofs.Tryz
namespace Go.Proofs.Tryz
open Go.L Go.Rp Go.Sk
set_option maxRecDepth 100000
abbrev St := List (Int × Nat) × List Bool
def stp (most : Int) (st : St) (o : O) : St × R :=
 if o.k = 1 then (if most <= (st.1.length : Int) then (st, ⟨3, 0⟩) else ((zdX st.1 o.v (hgt 1 st.2).1, (hgt 1 st.2).2), ⟨1, 0⟩))
 else if o.k = 2 then (match st.1 with | [] => (st, ⟨4, 0⟩) | p :: r => ((r, st.2), ⟨2, p.1⟩))
 else (st, ⟨5, 0⟩)
def WC (os : List O) (most : Int) : List Int -> St -> List R -> St × List R
 | [], st, told => (st, told)
 | k :: r, st, told => WC os most r (stp most st (oAt os k)).1 (told.set k.toNat (stp most st (oAt os k)).2)
theorem Yn (os : List O) (most : Int) : ∀ (l m : List Int) (st : St) (told : List R), WC os most (l ++ m) st told = WC os most m (WC os most l st told).1 (WC os most l st told).2
 | [], m, st, told => rfl
 | k :: l, m, st, told => Yn os most l m _ _
theorem ziz (os : List O) (most : Int) : ∀ (l : List Int) (st : St) (told : List R), (WC os most l st told).2.length = told.length
 | [], _, _ => rfl
 | k :: l, st, told => by
   show (WC os most l _ _).2.length = _
   rw [ziz os most l, zp]
structure Frm (h h' : ze) (X : List Nat) : Prop where
 len : h.length <= h'.length
 old : ∀ i, i < h.length -> i ∉ X -> h'[i]? = h[i]?
theorem Frm.refl (h : ze) (X : List Nat) : Frm h h X := ⟨zm _, fun _ _ _ => rfl⟩
theorem Frm.trans {h h1 h2 : ze} {X Y : List Nat} (a : Frm h h1 X) (b : Frm h1 h2 Y) (hY : ∀ y ∈ Y, y ∈ X \/ h.length <= y) : Frm h h2 X :=
 ⟨Z2 a.len b.len, fun i h1' h2' => (b.old i (by have := a.len; omega) fun hm => by rcases hY i hm with h | h; exact h2' h; omega).trans (a.old i h1' h2')⟩
theorem Grew.frm {h h' : ze} {s : Nat} {ts ts' : List Tw} {most : Int} (g : Grew h h' s ts ts' most) : Frm h h' (skB s ts) := ⟨g.len, g.old⟩
theorem Frm.push (h : ze) (l : List HB) (X : List Nat) : Frm h (h ++ l) X := ⟨by simp, fun i hi _ => zj hi⟩
def RowR (h : ze) (b : Nat) (l : List R) : Prop := ∃ z, h[b]? = some (.row 35 2 (l.map R.w) z)
theorem RowR.keep {h h' : ze} {b : Nat} {l : List R} (r : RowR h b l) (hk : h'[b]? = h[b]?) : RowR h' b l := by obtain ⟨z, hz⟩ := r; exact ⟨z, hk.trans hz⟩
theorem RowR.code {h : ze} {b : Nat} {l : List R} (r : RowR h b l) {i : Nat} {x : R} (hx : l[i]? = some x) (c : Int) :
    ∃ B, Zp h [.int .u8 c] (.rptr b 2 i 0) = some (b, B) /\ RowR (h.set b B) b (l.set i ⟨c, x.v⟩) := by
 obtain ⟨z, hz⟩ := r
 refine ⟨_, JK hz (by decide) (by simp) (by rw [qf, hx]; rfl), z, ?_⟩
 rw [Xf (zQ hz), Jr]
 rfl
theorem RowR.all {h : ze} {b : Nat} {l : List R} (r : RowR h b l) {i : Nat} {x : R} (hx : l[i]? = some x) (c v : Int) :
    ∃ B, Zp h [.int .u8 c, .int .i32 v] (.rptr b 2 i 0) = some (b, B) /\ RowR (h.set b B) b (l.set i ⟨c, v⟩) := by
 obtain ⟨z, hz⟩ := r
 refine ⟨_, JK hz (by decide) (by simp) (by rw [qf, hx]; rfl), z, ?_⟩
 rw [Xf (zQ hz), Jr]
 rfl
theorem ziA {b n i : Nat} (h : i < n) : Xa 2 i (.row b 2 0 n) = some (.rptr b 2 i 0) := by simpa using XG (b := b) (sz := 2) (lo := 0) (hi := n) (show i < n - 0 by omega)
theorem zpm (v : Int) : Ji prog 35 [(0, .int .u8 2), (1, .int .i32 v)] = some [.int .u8 2, .int .i32 v] := by kernel_rfl
theorem zpn (x : O) : (O.w x)[0]? = some (.int .u8 x.k) := rfl
theorem zlc (x : O) : (O.w x)[1]? = some (.int .i32 x.v) := rfl
theorem zeV (k n : Nat) (cs : List V) (o : Nat) : ZN k (.iptr n cs o) = some (.iptr n cs (o + k)) := rfl
theorem ziB (a b : Int) : bop prog .neq 5 (.int .u8 a) (.int .u8 b) = some (.bool (a != b)) := by kernel_rfl
theorem zmo (n : Nat) {s : Nat} {most : Int} (os : List O) (lb : Bool) (L : List Int) (hL : ∀ x ∈ L, 0 <= x /\ x < (os.length : Int) /\ (oAt os x).k ≠ 1) (hnd : L.Nodup) (tb pb : Nat) (hlim : L.length < lim) (hn : 8 < n) (bits : List Bool) : ∀ (d i M : Nat) (h : ze) (ts : List Tw) (told : List R) (v0 : V), i + d = L.length -> d < M →
    (∃ N, SkAt h s ts most N) -> ts.length < lim -> RowR h tb told -> RowI h pb .i64 3 L -> told.length = os.length -> tb ∉ skB s ts -> pb ∉ skB s ts -> pb ≠ tb -> (∀ x ∈ L.drop i, told[x.toNat]? = some ⟨0, 0⟩) →
    ∃ h' ts' told', Ze M (W8 (n + 2) s (os.map O.w) lb (.row pb 1 0 L.length) (.row tb 2 0 os.length) (1, iL L)) [v0, .int .i64 (i : Int)] h = some (.ret [.row tb 2 0 os.length], h') ∧
     (∃ N, SkAt h' s ts' most N) /\ (∀ b ∈ skB s ts', b ∈ skB s ts) /\ Frm h h' (tb :: skB s ts) /\ h'.length = h.length /\ RowR h' tb told' /\ WC os most (L.drop i) (itT ts, bits) told = ((itT ts', bits), told') := by
 intro d
 induction d with
 | zero =>
   intro i M h ts told v0 h1 h2 S hts rt rp hlt nt np hpt h0
   obtain ⟨M, rfl⟩ : ∃ M', M = M' + 1 := ⟨M - 1, by omega⟩
   obtain rfl : i = L.length := by omega
   refine ⟨h, ts, told, ?_, S, fun b hb => hb, .refl _ _, rfl, rt, by rw [List.drop_length]; rfl⟩
   rw [zL]
   unfold W8
   simp only [gv, zg, zk, Qk, zC, zb, zo]
   rw [if_neg (by simp)]
 | succ d ih =>
   intro i M h ts told v0 h1 h2 S hts rt rp hlt nt np hpt h0
   obtain ⟨M, rfl⟩ : ∃ M', M = M' + 1 := ⟨M - 1, by omega⟩
   obtain ⟨x, hx⟩ : ∃ x, L[i]? = some x := ⟨_, zf (by omega)⟩
   have hdr : L.drop i = x :: L.drop (i + 1) := by
    rw [zW (by omega)]
    rw [zf (by omega)] at hx
    rw [Option.some.inj hx]
   obtain ⟨x0, x1, xk⟩ := hL x (zI hx)
   obtain ⟨k, rfl⟩ : ∃ k : Nat, x = (k : Int) := ⟨x.toNat, (ZY x0).symm⟩
   have hk : k < os.length := by omega
   obtain ⟨o, ho⟩ : ∃ o, os[k]? = some o := ⟨_, zf hk⟩
   have hov : (os.map O.w)[k]? = some (O.w o) := by rw [zaC, ho]; rfl
   have hoo := Wv ho
   have ht0 : told[k]? = some ⟨0, 0⟩ := by
    have := h0 (k : Int) (by rw [hdr]; exact zy ..)
    simpa using this
   obtain ⟨B1, w1, r1⟩ := rt.code ht0 5
   have hl1 : decide ((i : Int) < (L.length : Int)) = true := by simp; omega
   obtain ⟨g1, g2⟩ := rp.get hx
   have htk : k < told.length := by omega
   have hkeep1 : ∀ b, b ≠ tb -> (h.set tb B1)[b]? = h[b]? := fun b hb => zd (Ne.symm hb)
   have hrest : ∀ (told2 : List R) (r : R), told2 = told.set k r -> ∀ y ∈ L.drop (i + 1), told2[y.toNat]? = some ⟨0, 0⟩ := fun told2 r e y hy => by
    rw [e, zd]
    · exact h0 y (by rw [hdr]; exact zq _ hy)
    · intro e2
      have hy0 := hL y (Zk hy)
      have hyk : y = (k : Int) := by omega
      have hnd2 : (L.drop i).Nodup := hnd.sublist (Qg _ _)
      rw [hdr] at hnd2
      exact (ZB.1 hnd2).1 (hyk ▸ hy)
   rw [hoo] at xk
   have hw1 : Zp h [.int .u8 5] (.rptr tb 2 k 0) = some (tb, B1) := w1
   have S1 : ∃ N, SkAt (h.set tb B1) s ts most N := by obtain ⟨N, S⟩ := S; exact ⟨N, S.keep fun b hb => hkeep1 b fun e => nt (e ▸ hb)⟩
   have fk : nv (V.int .i64 (k : Int)) = some k := Zo _ _
   have rp1 : RowI (h.set tb B1) pb .i64 3 L := rp.keep (hkeep1 pb hpt)
   have base : ∀ next, W8 (n + 2) s (os.map O.w) lb (.row pb 1 0 L.length) (.row tb 2 0 os.length) (1, iL L) [v0, .int .i64 (i : Int)] h next =
       (if (o.k != 2) = true then next [.sl 2 (lsl v0) false, .int .i64 ((i + 1 : Nat) : Int)] (h.set tb B1) else
        (bd2 (Zp (h.set tb B1) [.int .u8 4] (.rptr tb 2 k 0)) fun b31 x32 =>
        (cl (call (n + 2) 239 [.ptr s 0] (((h.set tb B1)).set b31 x32)) (fun r33 h34 =>
        (bd (r33)[0]? fun v36 =>
        (bd (r33)[1]? fun v37 =>
        (bv v37 fun b38 => if b38 then
        (bd (Ji prog 35 [(0, (V.int .u8 2)), (1, v36)]) fun cs39 =>
        (if (cs39).length = 2 then
        (bd2 (Zp h34 cs39 (.rptr tb 2 k 0)) fun b42 x43 =>
        (next [(V.sl 2 (lsl v0) false), .int .i64 ((i + 1 : Nat) : Int)] ((h34).set b42 x43))) else none))
        else
        (next [(V.sl 2 (lsl v0) false), .int .i64 ((i + 1 : Nat) : Int)] h34))))) (fun z35 h34 => some (Res.pan z35, h34))))) := by
    intro next
    unfold W8
    simp only [gv, zg, zk, Qk, zC, zb, zo, hl1, if_true, Zo, zH, g1, g2, zl, zr, zm, Nat.reduceLT, and_self, za, ziA hk, zlZ, zV, hw1, Zd, QW hov, zeV, XP, Nat.reduceAdd, Nat.reduceLeDiff, zpn, ziB, zM, XF (show i < lim by omega)]
   obtain ⟨N, hS⟩ := S
   rw [zL, base]
   have hst5 : stp most (itT ts, bits) o = if o.k = 2 then (match itT ts with | [] => ((itT ts, bits), ⟨4, 0⟩) | p :: r => ((r, bits), ⟨2, p.1⟩)) else ((itT ts, bits), ⟨5, 0⟩) := by
    unfold stp; rw [if_neg xk]
   have hrun : WC os most (L.drop i) (itT ts, bits) told = WC os most (L.drop (i + 1)) (stp most (itT ts, bits) o).1 (told.set k (stp most (itT ts, bits) o).2) := by
    rw [hdr]; show WC os most _ (stp most (itT ts, bits) (oAt os (k : Int))).1 (told.set (k : Int).toNat (stp most (itT ts, bits) (oAt os (k : Int))).2) = _
    rw [hoo, XT]
   by_cases hk2 : o.k = 2
   · rw [if_neg (by simp [hk2])]
     have ht5 : (told.set k ⟨5, 0⟩)[k]? = some ⟨5, 0⟩ := Zq htk
     obtain ⟨B2, w2, r2⟩ := r1.code ht5 4
     have e2 : (told.set k ⟨5, 0⟩).set k ⟨4, 0⟩ = told.set k ⟨4, 0⟩ := List.set_set ..
     replace r2 : RowR ((h.set tb B1).set tb B2) tb (told.set k ⟨4, 0⟩) := by rw [<- e2]; exact r2
     rw [w2, Zd]
     have hkeep2 : ∀ b, b ≠ tb -> ((h.set tb B1).set tb B2)[b]? = h[b]? := fun b hb => by rw [zd (Ne.symm hb)]; exact hkeep1 b hb
     have S2 : SkAt ((h.set tb B1).set tb B2) s ts most N := hS.keep fun b hb => hkeep2 b fun e => nt (e ▸ hb)
     cases ts with
     | nil =>
       rw [zn5 n S2, zK]
       simp only [za, zi, zb, zo]
       rw [if_neg (by decide)]
       obtain ⟨h', ts', told', e, b1, b2, b3, b4, b5, b6⟩ := ih (i + 1) M ((h.set tb B1).set tb B2) [] (told.set k ⟨4, 0⟩) (.sl 2 (lsl v0) false) (by omega) (by omega) ⟨N, S2⟩ hts r2 (rp.keep (hkeep2 pb hpt)) (by rw [zp]; exact hlt) nt np hpt (hrest _ ⟨4, 0⟩ rfl)
       refine ⟨h', ts', told', e, b1, b2, ?_, by rw [b4, zp, zp], b5, ?_⟩
       · exact Frm.trans ⟨by simp, fun j _ hj => hkeep2 j fun e => hj (e ▸ zy ..)⟩ b3 fun y hy => .inl hy
       · rw [hrun, hst5, if_pos hk2]
         exact b6
     | cons t ts =>
       obtain ⟨h3, e3, T⟩ := zn4 n S2 hn (by simp at hts; omega)
       rw [e3, zK]
       simp only [za, zi, zb, zo]
       rw [if_pos (by first | trivial | rfl), zpm, zb, if_pos (by first | trivial | rfl)]
       have hts3 : tb ≠ s := fun e => nt (e ▸ zy ..)
       have hps3 : pb ≠ s := fun e => np (e ▸ zy ..)
       have r3 : RowR h3 tb (told.set k ⟨4, 0⟩) := r2.keep (T.old tb hts3)
       obtain ⟨B3, w3, r4⟩ := r3.all (show (told.set k ⟨4, 0⟩)[k]? = some ⟨4, 0⟩ from Zq htk) 2 t.v
       have e4 : (told.set k ⟨4, 0⟩).set k ⟨2, t.v⟩ = told.set k ⟨2, t.v⟩ := List.set_set ..
       replace r4 : RowR (h3.set tb B3) tb (told.set k ⟨2, t.v⟩) := by rw [<- e4]; exact r4
       rw [w3, Zd]
       have hkeep4 : ∀ b, b ≠ tb -> (h3.set tb B3)[b]? = h3[b]? := fun b hb => zd (Ne.symm hb)
       have nt' : tb ∉ skB s ts := fun hm => nt (by
        rcases zF.1 hm with e | hm
        · exact e ▸ zy ..
        · exact zq _ (zq _ hm))
       have hsub : ∀ b ∈ skB s ts, b ∈ skB s (t :: ts) := fun b hb => by
        rcases zF.1 hb with e | hm
        · exact e ▸ zy ..
        · exact zq _ (zq _ hm)
       have S4 : ∃ N, SkAt (h3.set tb B3) s ts most N := by obtain ⟨N', S'⟩ := T.sk; exact ⟨N', S'.keep fun b hb => hkeep4 b fun e => nt' (e ▸ hb)⟩
       obtain ⟨h', ts', told', e, b1, b2, b3, b4, b5, b6⟩ := ih (i + 1) M (h3.set tb B3) ts (told.set k ⟨2, t.v⟩) (.sl 2 (lsl v0) false) (by omega) (by omega) S4 (by simp at hts; omega) r4 (rp.keep (by rw [hkeep4 pb hpt, T.old pb hps3, hkeep2 pb hpt])) (by rw [zp]; exact hlt) nt' (fun hm => np (hsub pb hm)) hpt (hrest _ ⟨2, t.v⟩ rfl)
       refine ⟨h', ts', told', e, b1, fun b hb => hsub b (b2 b hb), ?_, by rw [b4, zp, T.len, zp, zp], b5, ?_⟩
       · refine Frm.trans (h1 := h3.set tb B3) ⟨by rw [zp, T.len, zp, zp]; exact zm _, fun j _ hj => ?_⟩ b3 fun y hy => .inl ?_
         · have hj1 : j ≠ tb := fun e => hj (e ▸ zy ..)
           have hj2 : j ≠ s := fun e => hj (e ▸ zq _ (zy ..))
           rw [hkeep4 j hj1, T.old j hj2, hkeep2 j hj1]
         · rcases zF.1 hy with e | hy
           · exact e ▸ zy ..
           · exact zq _ (hsub y hy)
       · rw [hrun, hst5, if_pos hk2]
         exact b6
   · rw [if_pos (by simp [hk2])]
     obtain ⟨h', ts', told', e, b1, b2, b3, b4, b5, b6⟩ := ih (i + 1) M (h.set tb B1) ts (told.set k ⟨5, 0⟩) (.sl 2 (lsl v0) false) (by omega) (by omega) S1 hts r1 rp1 (by rw [zp]; exact hlt) nt np hpt (hrest _ ⟨5, 0⟩ rfl)
     refine ⟨h', ts', told', e, b1, b2, ?_, by rw [b4, zp], b5, ?_⟩
     · exact Frm.trans ⟨by simp, fun j _ hj => hkeep1 j fun e => hj (e ▸ zy ..)⟩ b3 fun y hy => .inl hy
     · rw [hrun, hst5, if_neg hk2]
       exact b6
theorem zmp (n : Nat) {h : ze} {s : Nat} {ts : List Tw} {most : Int} (os : List O) (lb : Bool) (told : List R) (tb pb : Nat) (bits : List Bool) (S : ∃ N, SkAt h s ts most N) (hts : ts.length < lim) (rt : RowR h tb told) (rp : RowI h pb .i64 3 (XH os)) (hlt : told.length = os.length) (nt : tb ∉ skB s ts) (np : pb ∉ skB s ts) (hpt : pb ≠ tb) (h0 : ∀ x ∈ XH os, told[x.toNat]? = some ⟨0, 0⟩) (hlim : os.length < lim) (hn : os.length + 8 < n) :
    ∃ h' ts' told', call (n + 3) 229 [.ptr s 0, .sl 2 (os.map O.w) lb, .row pb 1 0 (XH os).length, .row tb 2 0 os.length] h = some (.ret [.row tb 2 0 os.length], h') ∧
     (∃ N, SkAt h' s ts' most N) /\ (∀ b ∈ skB s ts', b ∈ skB s ts) /\ Frm h h' (tb :: skB s ts) /\ h'.length = h.length /\ RowR h' tb told' /\ WC os most (XH os) (itT ts, bits) told = ((itT ts', bits), told') := by
 have hl := YO os os.length
 have hol : (XH os).length <= os.length := by unfold XH; omega
 have hnd : (XH os).Nodup := by
  have : ∀ n : Nat, (Je os n).Pairwise (· < ·) := fun n => by
   induction n with
   | zero => exact .nil
   | succ n ih =>
     simp only [Je]
     split
     · exact ih
     · refine ZI.2 ⟨ih, List.pairwise_singleton .., fun a ha b hb => ?_⟩
       rw [ZP] at hb; subst hb
       exact (JB os n a ha).2.1
  exact (this os.length).imp fun h => by omega
 obtain ⟨h', ts', told', e, r⟩ := zmo n os lb (XH os) (JB os os.length) hnd tb pb (by omega) (by omega) bits (XH os).length 0 (n + 2) h ts told (.sl 2 [] false) (by omega) (by omega) S hts rt rp hlt nt np hpt (by rw [zP]; exact h0)
 refine ⟨h', ts', told', ?_, by rw [zP] at r; exact r⟩
 refine (zjU (n + 2) s (os.map O.w) lb _ _ h).trans ?_
 unfold zk7
 rw [rp.slc, zb]
 exact e
end Go.Proofs.Tryz
namespace Go.Proofs.Tryz
open Go.L Go.Rp Go.Sk
set_option maxRecDepth 100000
structure Env (h : ze) (s : Nat) (ts : List Tw) (most : Int) (c : Nat) (cb : Option Nat) (bits : List Bool) (p1 : Nat) (P : List Int) (p2 : Nat) (Q : List Int) : Prop where
 sk : ∃ N, SkAt h s ts most N
 bt : BitsAt h c cb bits
 r1 : RowI h p1 .i64 3 P
 r2 : RowI h p2 .i64 3 Q
 nc : c ∉ skB s ts
 ncb : ∀ b, cb = some b -> b ∉ skB s ts
 n1 : p1 ∉ skB s ts /\ p1 ≠ c
 n2 : p2 ∉ skB s ts /\ p2 ≠ c
theorem BitsAt.lt {h : ze} {c : Nat} {cb : Option Nat} {bits : List Bool} (hb : BitsAt h c cb bits) : c < h.length /\ ∀ b, cb = some b -> b < h.length := by
 cases cb with
 | none => exact ⟨zQ hb.2, fun b e => by cases e⟩
 | some b =>
   obtain ⟨_, lo, l, z, h2, h3, _⟩ := hb
   exact ⟨zQ h2, fun b' e => by cases e; exact zQ h3⟩
theorem Env.coin {h h' : ze} {s : Nat} {ts : List Tw} {most : Int} {c : Nat} {cb : Option Nat} {bits bits' : List Bool} {p1 p2 : Nat} {P Q : List Int} (E : Env h s ts most c cb bits p1 P p2 Q) (hb : BitsAt h' c cb bits') (hk : ∀ i, i ≠ c -> h'[i]? = h[i]?) : Env h' s ts most c cb bits' p1 P p2 Q :=
 ⟨by obtain ⟨N, S⟩ := E.sk; exact ⟨N, S.keep fun b hb => hk b fun e => E.nc (e ▸ hb)⟩, hb, E.r1.keep (hk _ E.n1.2), E.r2.keep (hk _ E.n2.2), E.nc, E.ncb, E.n1, E.n2⟩
theorem RowI.lt {h : ze} {b : Nat} {k : IntKind} {e : Nat} {l : List Int} (r : RowI h b k e l) : b < h.length := by obtain ⟨z, hz⟩ := r; exact zQ hz
theorem Env.grew {h h' : ze} {s : Nat} {ts ts' : List Tw} {most : Int} {c : Nat} {cb : Option Nat} {bits : List Bool} {p1 p2 : Nat} {P Q : List Int} (E : Env h s ts most c cb bits p1 P p2 Q) (G : Grew h h' s ts ts' most) : Env h' s ts' most c cb bits p1 P p2 Q := by
 have l := E.bt.lt
 have hn : ∀ b, b < h.length -> b ∉ skB s ts -> b ∉ skB s ts' := fun b h1 h2 hm => by rcases G.new b hm with h | h; exact h2 h; omega
 exact ⟨G.sk, E.bt.keep (G.old c l.1 E.nc) fun b hb => G.old b (l.2 b hb) (E.ncb b hb), E.r1.keep (G.old _ E.r1.lt E.n1.1), E.r2.keep (G.old _ E.r2.lt E.n2.1), hn c l.1 E.nc, fun b hb => hn b (l.2 b hb) (E.ncb b hb), ⟨hn _ E.r1.lt E.n1.1, E.n1.2⟩, ⟨hn _ E.r2.lt E.n2.1, E.n2.2⟩⟩
theorem Env.push {h : ze} {s : Nat} {ts : List Tw} {most : Int} {c : Nat} {cb : Option Nat} {bits : List Bool} {p1 p2 : Nat} {P Q : List Int} (E : Env h s ts most c cb bits p1 P p2 Q) (l : List HB) : Env (h ++ l) s ts most c cb bits p1 P p2 Q := by
 have hk : ∀ b, b < h.length -> (h ++ l)[b]? = h[b]? := fun b hb => zj hb
 have lt := E.bt.lt
 obtain ⟨N, S⟩ := E.sk
 exact ⟨⟨N, S.keep fun b hb => hk b (S.lt b hb)⟩, E.bt.keep (hk c lt.1) fun b hb => hk b (lt.2 b hb), E.r1.keep (hk _ E.r1.lt), E.r2.keep (hk _ E.r2.lt), E.nc, E.ncb, E.n1, E.n2⟩
structure Did (h h' : ze) (s : Nat) (ts ts' : List Tw) (most : Int) (c : Nat) (cb : Option Nat) (bits' : List Bool) (tb : Nat) (told : List R) : Prop where
 sk : ∃ N, SkAt h' s ts' most N
 bt : BitsAt h' c cb bits'
 tl : RowR h' tb told
 tb : h.length <= tb
 frm : Frm h h' (c :: skB s ts)
 new : ∀ b ∈ skB s ts', b ∈ skB s ts \/ h.length <= b
 room : (ts'.length : Int) <= most
theorem zld (bits : List Bool) : hOf ((hgt 1 bits).1 : Int) = (hgt 1 bits).1 := by
 have := zkO bits 1 (zm _) (by omega)
 unfold hOf
 omega
theorem zad (l : List (Int × Nat)) (v : Int) (T : Nat) : (zdX l v T).length = l.length + 1 := by
 unfold zdX
 rw [zE, zB]
 have := congrArg List.length (List.takeWhile_append_dropWhile (p := fun p : Int × Nat => decide (p.1 <= v)) (l := l))
 rw [zE] at this
 omega
theorem Q4 (ts : List Tw) : (itT ts).length = ts.length := by simp [itT]
theorem zom {most : Int} {st : St} {o : O} (h : (st.1.length : Int) <= most) : ((stp most st o).1.1.length : Int) <= most := by
 unfold stp
 split
 · split
   · exact h
   · simp only [zad]; omega
 · split
   · split
     · exact h
     · rename_i p r e; rw [e] at h; simp at h; simp only; omega
   · exact h
theorem zaP {os : List O} {most : Int} : ∀ (l : List Int) {st : St} {told : List R}, (st.1.length : Int) <= most -> ((WC os most l st told).1.1.length : Int) <= most
 | [], st, told, h => h
 | k :: l, st, told, h => zaP l (zom h)
theorem zaQ (l : List R) : lsl (V.sl 2 (l.map R.w) false) = l.map R.w := rfl
theorem zf7 (x : R) (c : Int) : setR (R.w x) 0 [.int .u8 c] = R.w ⟨c, x.v⟩ := rfl
theorem zjZ (n : Nat) {s c : Nat} {cb : Option Nat} {most : Int} (os : List O) (lb : Bool) (P : List Int) (hP : ∀ x ∈ P, 0 <= x /\ x < (os.length : Int) /\ (oAt os x).k = 1) (hnd : P.Nodup) (p1 p2 : Nat) (Q0 : List Int) (v6 : V) (hlim : P.length < lim) : ∀ (d i M : Nat) (h : ze) (ts : List Tw) (bits : List Bool) (told : List R) (v0 v2 : V), i + d = P.length -> d < M →
    Env h s ts most c cb bits p1 P p2 Q0 -> ts.length + d < lim -> ts.length + d + 10 < n -> told.length = os.length -> (∀ x ∈ P.drop i, told[x.toNat]? = some ⟨0, 0⟩) →
    ∃ h' ts' bits' told' v0' v2' M', Ze M (QE (n + 3) s c (os.map O.w) lb (.row p1 1 0 P.length) v6 (1, iL P)) [v0, .sl 2 (told.map R.w) false, v2, .int .i64 (i : Int)] h = QE (n + 3) s c (os.map O.w) lb (.row p1 1 0 P.length) v6 (1, iL P) [v0', .sl 2 (told'.map R.w) false, v2', .int .i64 (P.length : Int)] h' (Ze M' (QE (n + 3) s c (os.map O.w) lb (.row p1 1 0 P.length) v6 (1, iL P))) ∧
     Env h' s ts' most c cb bits' p1 P p2 Q0 /\ Frm h h' (c :: skB s ts) /\ (∀ b ∈ skB s ts', b ∈ skB s ts \/ h.length <= b) /\ told'.length = os.length /\ ts'.length <= ts.length + d /\ WC os most (P.drop i) (itT ts, bits) told = ((itT ts', bits'), told') /\ (∀ y : Nat, (∀ x ∈ P.drop i, x ≠ (y : Int)) -> told'[y]? = told[y]?) := by
 intro d
 induction d with
 | zero =>
   intro i M h ts bits told v0 v2 h1 h2 E hts hn hlt h0
   obtain ⟨M, rfl⟩ : ∃ M', M = M' + 1 := ⟨M - 1, by omega⟩
   obtain rfl : i = P.length := by omega
   exact ⟨h, ts, bits, told, v0, v2, M, zL .., E, .refl _ _, fun b hb => .inl hb, hlt, zm _, by rw [List.drop_length]; rfl, fun _ _ => rfl⟩
 | succ d ih =>
   intro i M h ts bits told v0 v2 h1 h2 E hts hn hlt h0
   obtain ⟨M, rfl⟩ : ∃ M', M = M' + 1 := ⟨M - 1, by omega⟩
   obtain ⟨x, hx⟩ : ∃ x, P[i]? = some x := ⟨_, zf (by omega)⟩
   have hdr : P.drop i = x :: P.drop (i + 1) := by
    rw [zW (by omega)]
    rw [zf (by omega)] at hx
    rw [Option.some.inj hx]
   obtain ⟨x0, x1, xk⟩ := hP x (zI hx)
   obtain ⟨k, rfl⟩ : ∃ k : Nat, x = (k : Int) := ⟨x.toNat, (ZY x0).symm⟩
   have hk : k < os.length := by omega
   obtain ⟨o, ho⟩ : ∃ o, os[k]? = some o := ⟨_, zf hk⟩
   have hov : (os.map O.w)[k]? = some (O.w o) := by rw [zaC, ho]; rfl
   have hoo := Wv ho
   rw [hoo] at xk
   have ht0 : told[k]? = some ⟨0, 0⟩ := by
    have := h0 (k : Int) (by rw [hdr]; exact zy ..)
    simpa using this
   have htk : k < told.length := by omega
   have htv : (told.map R.w)[k]? = some (R.w ⟨0, 0⟩) := by rw [qf, ht0]; rfl
   have hl1 : decide ((i : Int) < (P.length : Int)) = true := by simp; omega
   obtain ⟨g1, g2⟩ := E.r1.get hx
   have hnd2 : (P.drop i).Nodup := hnd.sublist (Qg _ _)
   rw [hdr] at hnd2
   have hrest : ∀ (told2 : List R) (r : R), told2 = told.set k r -> ∀ y ∈ P.drop (i + 1), told2[y.toNat]? = some ⟨0, 0⟩ := fun told2 r e y hy => by
    rw [e, zd]
    · exact h0 y (by rw [hdr]; exact zq _ hy)
    · intro e2
      have hy0 := hP y (Zk hy)
      have hyk : y = (k : Int) := by omega
      exact (ZB.1 hnd2).1 (hyk ▸ hy)
   have hrun : WC os most (P.drop i) (itT ts, bits) told = WC os most (P.drop (i + 1)) (stp most (itT ts, bits) o).1 (told.set k (stp most (itT ts, bits) o).2) := by
    rw [hdr]; show WC os most _ (stp most (itT ts, bits) (oAt os (k : Int))).1 (told.set (k : Int).toNat (stp most (itT ts, bits) (oAt os (k : Int))).2) = _
    rw [hoo, XT]
   have hoth : ∀ (r : R) (told' : List R), (∀ y : Nat, (∀ x ∈ P.drop (i + 1), x ≠ (y : Int)) -> told'[y]? = (told.set k r)[y]?) -> ∀ y : Nat, (∀ x ∈ P.drop i, x ≠ (y : Int)) -> told'[y]? = told[y]? := fun r told' hh y hy => by
    rw [hdr] at hy
    rw [hh y fun x hx => hy x (zq _ hx), zd]
    intro e
    exact hy (k : Int) (zy ..) (by omega)
   obtain ⟨N, hS⟩ := E.sk
   have hlenC := qX (n + 2) hS
   have hmostC := zaI (n + 2) hS
   have hset3 : (told.map R.w).set k (setR (R.w ⟨0, 0⟩) 0 [.int .u8 3]) = (told.set k ⟨3, 0⟩).map R.w := by rw [zf7, Jr]
   have c1 : (2 = 2 /\ k < (told.map R.w).length /\ (some 28 : Option Nat) ≠ some 7) := ⟨rfl, by rw [zA]; exact htk, by decide⟩
   by_cases hfull : (ts.length : Int) < most
   ·
    obtain ⟨h2', e2, B2, l2, f2⟩ := zbf n E.bt (by omega)
    have E2 := E.coin B2 f2
    obtain ⟨N2, hS2⟩ := E2.sk
    obtain ⟨h3, ts3, e3, P3⟩ := zie n hS2 o.v ((hgt 1 bits).1 : Int) (by omega) (by omega) hfull
    have E3 := E2.grew P3.grew
    have hset1 : ((told.set k ⟨3, 0⟩).map R.w).set k (setR (R.w ⟨3, 0⟩) 0 [.int .u8 1]) = (told.set k ⟨1, 0⟩).map R.w := by rw [zf7, <- Jr, List.set_set]
    have htv3 : ((told.set k ⟨3, 0⟩).map R.w)[k]? = some (R.w ⟨3, 0⟩) := by rw [qf, Zq htk]; rfl
    have key : ∀ next, QE (n + 3) s c (os.map O.w) lb (.row p1 1 0 P.length) v6 (1, iL P) [v0, .sl 2 (told.map R.w) false, v2, .int .i64 (i : Int)] h next = next [.sl 2 (lsl v0) false, .sl 2 ((told.set k ⟨1, 0⟩).map R.w) false, .bool false, .int .i64 ((i + 1 : Nat) : Int)] h3 := by
     intro next
     unfold QE
     simp only [gv, zg, zk, Qk, zC, zb, zo, hl1, if_true, Zo, zH, g1, g2, zl, zr, zm, Nat.reduceLT, and_self, za, zaQ]
     rw [if_pos (by exact ⟨trivial, c1.2.1, by decide⟩), htv, zb, hlenC, zK, zw, hmostC, zK, zw, zC, zb, zo, if_pos (by exact decide_eq_true hfull)]
     rw [QW hov, zb]
     simp only [esP, zlc, zb]
     rw [e2, zbO, zw, e3, zbO, zw, hset3]
     rw [if_pos (by exact ⟨trivial, by rw [zA, zp]; exact htk, by decide⟩), htv3, zb, zM, zb, hset1, XF (show i < lim by omega)]
    have hlen3 : ts3.length = ts.length + 1 := by
     have := congrArg List.length P3.items
     rwa [Q4, zad, Q4] at this
    obtain ⟨h', ts', bits', told', v0', v2', M', e, b1, b2, b3, b4, b5, b6, b7⟩ := ih (i + 1) M h3 ts3 (hgt 1 bits).2 (told.set k ⟨1, 0⟩) (.sl 2 (lsl v0) false) (.bool false) (by omega) (by omega) E3 (by omega) (by omega) (by rw [zp]; exact hlt) (hrest _ ⟨1, 0⟩ rfl)
    refine ⟨h', ts', bits', told', v0', v2', M', by rw [zL, key]; exact e, b1, ?_, fun b hb => ?_, b4, by omega, ?_, hoth ⟨1, 0⟩ told' b7⟩
    · have f3 : Frm h h3 (c :: skB s ts) := Frm.trans (h1 := h2') ⟨Nat.le_of_eq l2.symm, fun j _ hj => f2 j fun e => hj (e ▸ zy ..)⟩ P3.grew.frm fun y hy => .inl (zq _ hy)
      refine f3.trans b2 fun y hy => ?_
      rcases zF.1 hy with e | hy
      · exact .inl (e ▸ zy ..)
      · rcases P3.grew.new y hy with h | h
        · exact .inl (zq _ h)
        · exact .inr (by omega)
    · have hl3 := P3.len
      rcases b3 b hb with h | h
      · rcases P3.grew.new b h with h | h
        · exact .inl h
        · exact .inr (by omega)
      · exact .inr (by omega)
    · rw [hrun]
      have hst : stp most (itT ts, bits) o = ((zdX (itT ts) o.v (hgt 1 bits).1, (hgt 1 bits).2), ⟨1, 0⟩) := by
       unfold stp
       rw [if_pos xk, if_neg (by simp only [Q4]; omega)]
      rw [hst, <- zld bits, <- P3.items]
      exact b6
   · have key : ∀ next, QE (n + 3) s c (os.map O.w) lb (.row p1 1 0 P.length) v6 (1, iL P) [v0, .sl 2 (told.map R.w) false, v2, .int .i64 (i : Int)] h next = next [.sl 2 (lsl v0) false, .sl 2 ((told.set k ⟨3, 0⟩).map R.w) false, .bool false, .int .i64 ((i + 1 : Nat) : Int)] h := by
       intro next
       unfold QE
       simp only [gv, zg, zk, Qk, zC, zb, zo, hl1, if_true, Zo, zH, g1, g2, zl, zr, zm, Nat.reduceLT, and_self, za, zaQ]
       rw [if_pos (by exact ⟨trivial, c1.2.1, by decide⟩), htv, zb, hlenC, zK, zw, hmostC, zK, zw, zC, zb, zo, if_neg (by intro e; exact hfull (of_decide_eq_true e)), zM, zb, hset3, XF (show i < lim by omega)]
     obtain ⟨h', ts', bits', told', v0', v2', M', e, b1, b2, b3, b4, b5, b6, b7⟩ := ih (i + 1) M h ts bits (told.set k ⟨3, 0⟩) (.sl 2 (lsl v0) false) (.bool false) (by omega) (by omega) E (by omega) (by omega) (by rw [zp]; exact hlt) (hrest _ ⟨3, 0⟩ rfl)
     refine ⟨h', ts', bits', told', v0', v2', M', by rw [zL, key]; exact e, b1, b2, b3, b4, by omega, ?_, hoth ⟨3, 0⟩ told' b7⟩
     rw [hrun]
     have hst : stp most (itT ts, bits) o = ((itT ts, bits), ⟨3, 0⟩) := by
      unfold stp
      rw [if_pos xk, if_pos (by simp only [Q4]; omega)]
     rw [hst]
     exact b6
theorem zon (n : Nat) : List.replicate n [V.int .u8 0, V.int .i32 0] = (List.replicate n (⟨0, 0⟩ : R)).map R.w := by rw [List.map_replicate]; rfl
def jc (os : List O) (most : Int) (st : St) : St × List R := WC os most (Xc os ++ XH os) st (List.replicate os.length ⟨0, 0⟩)
theorem zbo (os : List O) : ∀ x ∈ XH os, ∀ y ∈ Xc os, y ≠ x := fun x hx y hy e => by
 have h1 := JB os _ x hx
 have h2 := Jf os _ y ((Kw os).mem_iff.1 hy)
 rw [e] at h2
 exact h1.2.2 h2.2.2
theorem jd (os : List O) : (Xc os).Nodup := (Kw os).nodup_iff.2 ((YN os os.length).imp fun h => by omega)
theorem Qz (os : List O) : ∀ x ∈ Xc os, 0 <= x /\ x < (os.length : Int) /\ (oAt os x).k = 1 := fun x hx => Jf os _ x ((Kw os).mem_iff.1 hx)
theorem ziC {h : ze} {s : Nat} {ts : List Tw} {most : Int} {c : Nat} {cb : Option Nat} {bits : List Bool} (os : List O) (S : ∃ N, SkAt h s ts most N) (B : BitsAt h c cb bits) (nc : c ∉ skB s ts) (ncb : ∀ b, cb = some b -> b ∉ skB s ts) :
    Env (JN h os) s ts most c cb bits h.length (Xc os) (h.length + 1) (XH os) := by
 obtain ⟨N, S⟩ := S
 have l := B.lt
 have hk : ∀ b, b < h.length -> (JN h os)[b]? = h[b]? := fun b hb => zj hb
 have h0 : (JN h os)[h.length]? = some (.row 3 1 (iL (Xc os)) true) := by unfold JN; rw [zG (zm _), Q6]; rfl
 have h1 : (JN h os)[h.length + 1]? = some (.row 3 1 (iL (XH os)) true) := by unfold JN; rw [zG (by omega), Xh]; rfl
 exact ⟨⟨N, S.keep fun b hb => hk b (S.lt b hb)⟩, B.keep (hk c l.1) fun b hb => hk b (l.2 b hb), ⟨_, h0⟩, ⟨_, h1⟩, nc, ncb, ⟨fun hm => by have := S.lt _ hm; omega, by omega⟩, ⟨fun hm => by have := S.lt _ hm; omega, by omega⟩⟩
theorem ziD (n : Nat) {h hh : ze} {s : Nat} {ts ts1 : List Tw} {most : Int} {c : Nat} {cb : Option Nat} {bits : List Bool} {p1 p2 : Nat} (os : List O) (lb : Bool) (told : List R) (E : Env hh s ts1 most c cb bits p1 (Xc os) p2 (XH os)) (hp2 : h.length <= p2) (hlt : told.length = os.length) (h0 : ∀ x ∈ XH os, told[x.toNat]? = some ⟨0, 0⟩) (hts : ts1.length < lim) (hlim : os.length < lim) (hn : os.length + 8 < n) (hF : Frm h hh (c :: skB s ts)) (hN : ∀ b ∈ skB s ts1, b ∈ skB s ts \/ h.length <= b) (hroom : (ts1.length : Int) <= most) :
    ∃ h' ts' told', call (n + 3) 229 [.ptr s 0, .sl 2 (os.map O.w) lb, .row p2 1 0 (XH os).length, .row hh.length 2 0 os.length] (hh ++ [.row 35 2 (told.map R.w) true]) = some (.ret [.row hh.length 2 0 os.length], h') ∧
     Did h h' s ts ts' most c cb bits hh.length told' /\ WC os most (XH os) (itT ts1, bits) told = ((itT ts', bits), told') := by
 have E1 := E.push [.row 35 2 (told.map R.w) true]
 have rt : RowR (hh ++ [.row 35 2 (told.map R.w) true]) hh.length told := ⟨true, zD⟩
 obtain ⟨N, S⟩ := E.sk
 have nt : hh.length ∉ skB s ts1 := fun hm => by have := S.lt _ hm; omega
 have hpl := E.r2.lt
 obtain ⟨h', ts', told', e, a1, a2, a3, a4, a5, a6⟩ := zmp n os lb told hh.length p2 bits E1.sk hts rt E1.r2 hlt nt E.n2.1 (by omega) h0 hlim hn
 have hl := E.bt.lt
 refine ⟨h', ts', told', e, ⟨a1, ?_, a5, hF.len, ?_, fun b hb => ?_, ?_⟩, a6⟩
 · have hk : ∀ i, i < hh.length -> i ∉ skB s ts1 -> h'[i]? = hh[i]? := fun i h1 h2 => by
     rw [a3.old i (by rw [zE]; omega) (fun hm => by rcases zF.1 hm with e | hm; omega; exact h2 hm), zj h1]
   exact E.bt.keep (hk c hl.1 E.nc) fun b hb => hk b (hl.2 b hb) (E.ncb b hb)
 · refine (hF.trans (Frm.push hh _ []) (fun y hy => by cases hy)).trans a3 fun y hy => ?_
   rcases zF.1 hy with e | hy
   · exact .inr (by have := hF.len; omega)
   · rcases hN y hy with h | h
     · exact .inl (zq _ h)
     · exact .inr h
 · exact hN b (a2 b hb)
 · have h1 := congrArg (fun p => (p.1.1.length : Int)) a6
   simp only [Q4] at h1
   rw [<- h1]
   exact zaP _ (by simp only [Q4]; exact hroom)
theorem zj0 (n : Nat) {h : ze} {s : Nat} {ts : List Tw} {most : Int} {c : Nat} {cb : Option Nat} {bits : List Bool} (os : List O) (lb : Bool) (S : ∃ N, SkAt h s ts most N) (B : BitsAt h c cb bits) (nc : c ∉ skB s ts) (ncb : ∀ b, cb = some b -> b ∉ skB s ts) (hroom : (ts.length : Int) <= most) (hl : ts.length + 4 * os.length + 100 < lim) (hn : ts.length + 2 * os.length + 50 <= n) :
    ∃ h' ts' bits' tb told', call (n + 4) 224 [.ptr s 0, .ptr c 0, .sl 2 (os.map O.w) lb] h = some (.ret [.row tb 2 0 os.length], h') /\ Did h h' s ts ts' most c cb bits' tb told' /\ jc os most (itT ts, bits) = ((itT ts', bits'), told') := by
 have hpl := YO os os.length
 have hsl := zaO os
 have hpo : (WB os).length <= os.length := by unfold WB; omega
 have E0 := ziC os S B nc ncb
 have hlf : (JN h os).length = h.length + 2 := by simp [JN]
 obtain ⟨h1, ts1, bits1, told1, v0', v2', M', e, b1, b2, b3, b4, b5, b6, b7⟩ := zjZ n os lb (Xc os) (Qz os) (jd os) h.length (h.length + 1) (XH os) (.row (h.length + 1) 1 0 (XH os).length) (by omega) (Xc os).length 0 (n + 3) (JN h os) ts bits (List.replicate os.length ⟨0, 0⟩) (.sl 2 [] false) (.bool false) (by omega) (by omega) E0 (by omega) (by omega) (by simp) (fun x hx => by
  have := Qz os x (Zk hx)
  rw [ZU, if_pos (by omega)])
 rw [zP] at b6 b7
 have hF : Frm h h1 (c :: skB s ts) := Frm.trans (Frm.push h _ (c :: skB s ts)) b2 fun y hy => .inl hy
 have hN : ∀ b ∈ skB s ts1, b ∈ skB s ts \/ h.length <= b := fun b hb => (b3 b hb).imp id fun h => by omega
 have hr1 : (ts1.length : Int) <= most := by
  have h1 := congrArg (fun p => (p.1.1.length : Int)) b6
  simp only [Q4] at h1
  rw [<- h1]
  exact zaP _ (by simp only [Q4]; exact hroom)
 obtain ⟨h', ts', told', e2, D, r⟩ := ziD (ts := ts) n os lb told1 b1 (by omega) b4 (fun x hx => by
  have hm := JB os _ x hx
  rw [b7 x.toNat fun y hy => fun e => zbo os x hx y hy (by omega), ZU, if_pos (by omega)]) (by omega) (by omega) (by omega) hF hN hr1
 refine ⟨h', ts', bits1, h1.length, told', ?_, D, ?_⟩
 · refine (zim (n + 3) s c (os.map O.w) lb h).trans ?_
   unfold zil
   have fN : nv (V.int .i64 (os.length : Int)) = some os.length := Zo _ _
   have hpc : call (n + 3) 225 [.sl 2 (os.map O.w) lb] h = some (.ret [.row h.length 1 0 (WB os).length, .row (h.length + 1) 1 0 (XH os).length], JN h os) := zbn (n + 1) h os lb (by omega) (by omega)
   simp only [zA]
   rw [fN, zH, zH, if_pos (by first | exact ⟨zm _, by omega, rfl⟩ | exact ⟨trivial, by omega, trivial⟩ | exact ⟨zm _, by omega, trivial⟩), hpc, zK]
   simp only [za, zi, zb]
   rw [<- hsl, E0.r1.slc, zb, zon]
   refine e.trans ?_
   unfold QE
   simp only [gv, zg, zk, Qk, zC, zb, zo]
   rw [if_neg (by simp), zaQ, zA, b4, e2, zK, zw]
 · unfold jc
   rw [Yn, b6]
   exact r
end Go.Proofs.Tryz
namespace Go.Proofs.Tryz
open Go.L Go.Rp Go.Sk
set_option maxRecDepth 100000
def qn : Nat -> List Bool -> List Int × List Bool
 | 0, bits => ([], bits)
 | k + 1, bits => (((hgt 1 bits).1 : Int) :: (qn k (hgt 1 bits).2).1, (qn k (hgt 1 bits).2).2)
theorem ziE : ∀ (k : Nat) (bits : List Bool), (qn k bits).1.length = k
 | 0, _ => rfl
 | k + 1, bits => by simp [qn, ziE k]
def Q5 (r : R) : List Int -> List R -> List R
 | [], told => told
 | k :: l, told => Q5 r l (told.set k.toNat r)
theorem qp (r : R) : ∀ (l : List Int) (told : List R), (Q5 r l told).length = told.length
 | [], _ => rfl
 | k :: l, told => by show (Q5 r l _).length = _; rw [qp r l, zp]
theorem jy (r : R) : ∀ (l : List Int) (told : List R) (y : Nat), (∀ x ∈ l, x.toNat ≠ y) -> (Q5 r l told)[y]? = told[y]?
 | [], _, _, _ => rfl
 | k :: l, told, y, h => by
   show (Q5 r l _)[y]? = _
   rw [jy r l _ y fun x hx => h x (zq _ hx), zd (h k (zy ..))]
theorem zle (os : List O) (most : Int) : ∀ (P : List Int) (st : St) (told : List R), (∀ x ∈ P, (oAt os x).k = 1) -> (st.1.length : Int) + P.length <= most →
    WC os most P st told = ((ql st.1 ((P.map (YM os)).zip (qn P.length st.2).1), (qn P.length st.2).2), Q5 ⟨1, 0⟩ P told)
 | [], st, told, _, _ => rfl
 | k :: P, st, told, hk, hm => by
   have hst : stp most st (oAt os k) = ((zdX st.1 (oAt os k).v (hgt 1 st.2).1, (hgt 1 st.2).2), ⟨1, 0⟩) := by
    unfold stp
    rw [if_pos (hk k (zy ..)), if_neg (by simp at hm; omega)]
   show WC os most P (stp most st (oAt os k)).1 (told.set k.toNat (stp most st (oAt os k)).2) = _
   rw [hst, zle os most P _ _ (fun x hx => hk x (zq _ hx)) (by rw [zad]; simp at hm ⊢; omega)]
   simp only [zU, zB, qn, XK, ql, Q5, zld]
   rfl
theorem ziF (os : List O) (most : Int) : ∀ (P : List Int) (st : St) (told : List R), (∀ x ∈ P, (oAt os x).k = 1) -> most <= (st.1.length : Int) -> WC os most P st told = (st, Q5 ⟨3, 0⟩ P told)
 | [], st, told, _, _ => rfl
 | k :: P, st, told, hk, hm => by
   have hst : stp most st (oAt os k) = (st, ⟨3, 0⟩) := by
    unfold stp
    rw [if_pos (hk k (zy ..)), if_pos hm]
   show WC os most P (stp most st (oAt os k)).1 (told.set k.toNat (stp most st (oAt os k)).2) = _
   rw [hst]
   exact ziF os most P st _ (fun x hx => hk x (zq _ hx)) hm
theorem RowI.getP {h : ze} {b : Nat} {k : IntKind} {e : Nat} {l : List Int} (r : RowI h b k e l) {lo hi i : Nat} {x : Int} (hi' : lo + i < hi) (hx : l[lo + i]? = some x) : Xa 1 i (.row b 1 lo hi) = some (.rptr b 1 (lo + i) 0) /\ zu h (.rptr b 1 (lo + i) 0) = some ([.int k x], 1, 0) := by
 obtain ⟨z, hz⟩ := r
 refine ⟨XG (by omega), Xr hz (by decide) ?_⟩
 rw [zJ, hx]
 rfl
theorem RowI.slcP {h : ze} {b : Nat} {k : IntKind} {e : Nat} {l : List Int} (r : RowI h b k e l) {lo hi : Nat} (h1 : lo <= hi) (h2 : hi <= l.length) : Xq h (.row b 1 lo hi) = some (1, ((l.take hi).drop lo).map (XA k)) := by
 obtain ⟨z, hz⟩ := r
 rw [Qi hz h1 (by rw [zA]; exact h2), List.map_drop, List.map_take]
theorem zpo (l : List Int) (x : Int) (h : l.length + 1 < lim) : app 21 1 (S.own 21 1 (l.map (XA .i32))) [[.int .i32 x]] = some ((l ++ [x]).map (XA .i32)) := by
 simp only [app]
 rw [if_pos (by refine ⟨?_, ?_, by simpa using h⟩ <;> first | trivial | rfl)]
 simp [XA]
theorem zlf (l : List Int) : lsl (V.sl 1 (l.map (XA .i32)) false) = l.map (XA .i32) := rfl
theorem zoo (l : List Int) : lsl (V.sl 1 (iL l) false) = iL l := rfl
theorem zmq (n : Nat) {s c : Nat} {cb : Option Nat} {most : Int} {ts : List Tw} (os : List O) (lb : Bool) (P0 : List Int) (hP : ∀ x ∈ P0, 0 <= x /\ x < (os.length : Int)) (hnd : P0.Nodup) (p1 p2 : Nat) (Q0 : List Int) (v5 v6 v18 : V) (r : Nat) (hr : r <= P0.length) (hlim : P0.length < lim) (hn : 8 <= n) : ∀ (d i M : Nat) (h : ze) (bits : List Bool) (told : List R) (vs hs : List Int) (v0 v4 : V), i + d = r -> d < M →
    Env h s ts most c cb bits p1 P0 p2 Q0 -> told.length = os.length -> vs.length = i -> hs.length = i -> (∀ x ∈ P0.drop i, told[x.toNat]? = some ⟨0, 0⟩) →
    ∃ h' v0' v4' M', Ze M (Q2 (n + 3) s c (os.map O.w) lb v5 v6 v18 (.row p1 1 0 r) (1, iL (P0.take r))) [v0, .sl 2 (told.map R.w) false, .sl 1 (vs.map (XA .i32)) false, .sl 1 (iL hs) false, v4, .int .i64 (i : Int)] h =
     Q2 (n + 3) s c (os.map O.w) lb v5 v6 v18 (.row p1 1 0 r) (1, iL (P0.take r)) [v0', .sl 2 ((Q5 ⟨1, 0⟩ ((P0.take r).drop i) told).map R.w) false, .sl 1 ((vs ++ ((P0.take r).drop i).map (YM os)).map (XA .i32)) false, .sl 1 (iL (hs ++ (qn d bits).1)) false, v4', .int .i64 (r : Int)] h' (Ze M' (Q2 (n + 3) s c (os.map O.w) lb v5 v6 v18 (.row p1 1 0 r) (1, iL (P0.take r)))) ∧
     Env h' s ts most c cb (qn d bits).2 p1 P0 p2 Q0 /\ h'.length = h.length /\ ∀ i, i ≠ c -> h'[i]? = h[i]? := by
 intro d
 induction d with
 | zero =>
   intro i M h bits told vs hs v0 v4 h1 h2 E hlt hvl hhl h0
   obtain ⟨M, rfl⟩ : ∃ M', M = M' + 1 := ⟨M - 1, by omega⟩
   obtain rfl : i = r := by omega
   have hd : (P0.take i).drop i = [] := Zl (by rw [Zg]; omega)
   refine ⟨h, v0, v4, M, ?_, E, rfl, fun _ _ => rfl⟩
   rw [hd]
   simp only [Q5, Jq, Zn, qn]
   exact zL ..
 | succ d ih =>
   intro i M h bits told vs hs v0 v4 h1 h2 E hlt hvl hhl h0
   obtain ⟨M, rfl⟩ : ∃ M', M = M' + 1 := ⟨M - 1, by omega⟩
   have hiP : i < P0.length := by omega
   obtain ⟨x, hx⟩ : ∃ x, P0[i]? = some x := ⟨_, zf hiP⟩
   have hdr : P0.drop i = x :: P0.drop (i + 1) := by
    rw [zW hiP]
    rw [zf hiP] at hx
    rw [Option.some.inj hx]
   have hdt : (P0.take r).drop i = x :: (P0.take r).drop (i + 1) := by
    have hil : i < (P0.take r).length := by rw [Zg]; omega
    rw [zW hil]
    rw [zf hiP] at hx
    rw [<- Option.some.inj hx, List.getElem_take]
   obtain ⟨x0, x1⟩ := hP x (zI hx)
   obtain ⟨k, rfl⟩ : ∃ k : Nat, x = (k : Int) := ⟨x.toNat, (ZY x0).symm⟩
   have hk : k < os.length := by omega
   obtain ⟨o, ho⟩ : ∃ o, os[k]? = some o := ⟨_, zf hk⟩
   have hov : (os.map O.w)[k]? = some (O.w o) := by rw [zaC, ho]; rfl
   have hoo := Wv ho
   have hkv : YM os (k : Int) = o.v := by unfold YM; rw [hoo]
   have ht0 : told[k]? = some ⟨0, 0⟩ := by
    have := h0 (k : Int) (by rw [hdr]; exact zy ..)
    simpa using this
   have htk : k < told.length := by omega
   have htv : (told.map R.w)[k]? = some (R.w ⟨0, 0⟩) := by rw [qf, ht0]; rfl
   have hl1 : decide ((i : Int) < ((P0.take r).length : Int)) = true := by rw [Zg]; simp; omega
   obtain ⟨g1, g2⟩ := E.r1.getP (lo := 0) (hi := r) (i := i) (by omega) (by rw [zr]; exact hx)
   rw [zr] at g1 g2
   have hnd2 : (P0.drop i).Nodup := hnd.sublist (Qg _ _)
   rw [hdr] at hnd2
   obtain ⟨h2', e2, B2, l2, f2⟩ := zbf n E.bt hn
   have E2 := E.coin B2 f2
   have hset1 : (told.map R.w).set k (setR (R.w ⟨0, 0⟩) 0 [.int .u8 1]) = (told.set k ⟨1, 0⟩).map R.w := by rw [zf7, Jr]
   have key : ∀ next, Q2 (n + 3) s c (os.map O.w) lb v5 v6 v18 (.row p1 1 0 r) (1, iL (P0.take r)) [v0, .sl 2 (told.map R.w) false, .sl 1 (vs.map (XA .i32)) false, .sl 1 (iL hs) false, v4, .int .i64 (i : Int)] h next = next [.sl 2 (lsl v0) false, .sl 2 ((told.set k ⟨1, 0⟩).map R.w) false, .sl 1 ((vs ++ [o.v]).map (XA .i32)) false, .sl 1 (iL (hs ++ [((hgt 1 bits).1 : Int)])) false, .bool false, .int .i64 ((i + 1 : Nat) : Int)] h2' := by
    intro next
    unfold Q2
    simp only [gv, zg, zk, Qk, zC, zb, zo, hl1, if_true, Zo, zH, g1, g2, zl, zr, zm, Nat.reduceLT, and_self, za, QW hov, zeV, XP, Nat.reduceAdd, Nat.reduceLeDiff, zlc, zbS, zlf, zoo, zaQ]
    rw [zpo _ _ (by omega), zb, e2, zK, zw, zlb, zb, zf6 _ _ (by omega), zb]
    rw [if_pos (by exact ⟨trivial, by rw [zA]; exact htk, by decide⟩), htv, zb, zM, zb, hset1, XF (show i < lim by omega)]
   obtain ⟨h', v0', v4', M', e, b1, b2, b3⟩ := ih (i + 1) M h2' (hgt 1 bits).2 (told.set k ⟨1, 0⟩) (vs ++ [o.v]) (hs ++ [((hgt 1 bits).1 : Int)]) (.sl 2 (lsl v0) false) (.bool false) (by omega) (by omega) E2 (by rw [zp]; exact hlt) (by simp; omega) (by simp; omega) (fun y hy => by
    rw [zd]
    · exact h0 y (by rw [hdr]; exact zq _ hy)
    · intro e2
      have hy0 := hP y (Zk hy)
      have hyk : y = (k : Int) := by omega
      exact (ZB.1 hnd2).1 (hyk ▸ hy))
   refine ⟨h', v0', v4', M', ?_, b1, by rw [b2, l2], fun j hj => by rw [b3 j hj, f2 j hj]⟩
   rw [zL, key, e, hdt]
   simp only [Q5, XT, zU, hkv, qn, List.append_assoc, ZT, zT]
theorem zmr (n : Nat) {s c : Nat} {cb : Option Nat} {most : Int} {ts : List Tw} {bits : List Bool} {h : ze} (os : List O) (lb : Bool) (P0 : List Int) (hP : ∀ x ∈ P0, 0 <= x /\ x < (os.length : Int)) (hnd : P0.Nodup) (p1 p2 : Nat) (Q0 : List Int) (v6 : V) (r : Nat) (hr : r <= P0.length) (hlim : P0.length < lim) (E : Env h s ts most c cb bits p1 P0 p2 Q0) : ∀ (d i M : Nat) (told : List R) (v0 v2 : V), r + i + d = P0.length -> d < M →
    told.length = os.length -> (∀ x ∈ P0.drop (r + i), told[x.toNat]? = some ⟨0, 0⟩) →
    ∃ v0' v2' M', Ze M (Q1 (n + 3) s (os.map O.w) lb v6 (.row p1 1 r P0.length) (1, iL (P0.drop r))) [v0, .sl 2 (told.map R.w) false, v2, .int .i64 (i : Int)] h =
     Q1 (n + 3) s (os.map O.w) lb v6 (.row p1 1 r P0.length) (1, iL (P0.drop r)) [v0', .sl 2 ((Q5 ⟨3, 0⟩ (P0.drop (r + i)) told).map R.w) false, v2', .int .i64 ((P0.drop r).length : Int)] h (Ze M' (Q1 (n + 3) s (os.map O.w) lb v6 (.row p1 1 r P0.length) (1, iL (P0.drop r)))) := by
 intro d
 induction d with
 | zero =>
   intro i M told v0 v2 h1 h2 hlt h0
   obtain ⟨M, rfl⟩ : ∃ M', M = M' + 1 := ⟨M - 1, by omega⟩
   have hi : i = (P0.drop r).length := by rw [Xg]; omega
   refine ⟨v0, v2, M, ?_⟩
   rw [Zl (i := r + i) (by omega), <- hi]
   exact zL ..
 | succ d ih =>
   intro i M told v0 v2 h1 h2 hlt h0
   obtain ⟨M, rfl⟩ : ∃ M', M = M' + 1 := ⟨M - 1, by omega⟩
   obtain ⟨x, hx⟩ : ∃ x, P0[r + i]? = some x := ⟨_, zf (by omega)⟩
   have hdr : P0.drop (r + i) = x :: P0.drop (r + (i + 1)) := by
    rw [zW (show r + i < P0.length by omega)]
    rw [zf (by omega)] at hx
    rw [Option.some.inj hx, ZK]
   obtain ⟨x0, x1⟩ := hP x (zI hx)
   obtain ⟨k, rfl⟩ : ∃ k : Nat, x = (k : Int) := ⟨x.toNat, (ZY x0).symm⟩
   have ht0 : told[k]? = some ⟨0, 0⟩ := by
    have := h0 (k : Int) (by rw [hdr]; exact zy ..)
    simpa using this
   have htk : k < told.length := by omega
   have htv : (told.map R.w)[k]? = some (R.w ⟨0, 0⟩) := by rw [qf, ht0]; rfl
   have hl1 : decide ((i : Int) < ((P0.drop r).length : Int)) = true := by rw [Xg]; simp; omega
   obtain ⟨g1, g2⟩ := E.r1.getP (lo := r) (hi := P0.length) (i := i) (by omega) hx
   have hnd2 : (P0.drop (r + i)).Nodup := hnd.sublist (Qg _ _)
   rw [hdr] at hnd2
   have hset1 : (told.map R.w).set k (setR (R.w ⟨0, 0⟩) 0 [.int .u8 3]) = (told.set k ⟨3, 0⟩).map R.w := by rw [zf7, Jr]
   have key : ∀ next, Q1 (n + 3) s (os.map O.w) lb v6 (.row p1 1 r P0.length) (1, iL (P0.drop r)) [v0, .sl 2 (told.map R.w) false, v2, .int .i64 (i : Int)] h next = next [.sl 2 (lsl v0) false, .sl 2 ((told.set k ⟨3, 0⟩).map R.w) false, .bool false, .int .i64 ((i + 1 : Nat) : Int)] h := by
    intro next
    unfold Q1
    simp only [gv, zg, zk, Qk, zC, zb, zo, hl1, if_true, Zo, zH, g1, g2, zl, zr, zm, Nat.reduceLT, and_self, za, zaQ]
    rw [if_pos (by exact ⟨trivial, by rw [zA]; exact htk, by decide⟩), htv, zb, zM, zb, hset1, XF (show i < lim by omega)]
   obtain ⟨v0', v2', M', e⟩ := ih (i + 1) M (told.set k ⟨3, 0⟩) (.sl 2 (lsl v0) false) (.bool false) (by omega) (by omega) (by rw [zp]; exact hlt) (fun y hy => by
    rw [zd]
    · exact h0 y (by rw [hdr]; exact zq _ hy)
    · intro e2
      have hy0 := hP y (Zk hy)
      have hyk : y = (k : Int) := by omega
      exact (ZB.1 hnd2).1 (hyk ▸ hy))
   refine ⟨v0', v2', M', ?_⟩
   rw [zL, key, e, hdr]
   simp only [Q5, XT]
theorem zqq (a b : Int) : mm false [.int .i64 a, .int .i64 b] = some (.int .i64 (if b < a then b else a)) := rfl
theorem zj1 (os : List O) (r : Nat) : (((Xc os).take r).map (YM os)).Pairwise (· <= ·) := by
 rw [List.pairwise_map]
 exact ((zol os).sublist (J2 _ _)).imp fun h => h.of
theorem zdZ (n : Nat) {h : ze} {s : Nat} {ts : List Tw} {most : Int} {c : Nat} {cb : Option Nat} {bits : List Bool} (os : List O) (lb : Bool) (S : ∃ N, SkAt h s ts most N) (B : BitsAt h c cb bits) (nc : c ∉ skB s ts) (ncb : ∀ b, cb = some b -> b ∉ skB s ts) (hroom : (ts.length : Int) <= most) (hmost : most <= 1000) (hl : ts.length + 4 * os.length + 100 < lim) (hn : ts.length + 2 * os.length + 50 <= n) :
    ∃ h' ts' bits' tb told', call (n + 4) 222 [.ptr s 0, .ptr c 0, .sl 2 (os.map O.w) lb] h = some (.ret [.row tb 2 0 os.length], h') /\ Did h h' s ts ts' most c cb bits' tb told' /\ jc os most (itT ts, bits) = ((itT ts', bits'), told') := by
 have hpl := YO os os.length
 have hsl := zaO os
 have hpo : (WB os).length <= os.length := by unfold WB; omega
 have E0 := ziC os S B nc ncb
 have hlf : (JN h os).length = h.length + 2 := by simp [JN]
 have hkp := fun x hx => (Qz os x hx).2.2
 obtain ⟨r, hr⟩ : ∃ r : Nat, (r : Int) = if most - (ts.length : Int) < ((Xc os).length : Int) then most - (ts.length : Int) else ((Xc os).length : Int) := ⟨(if most - (ts.length : Int) < ((Xc os).length : Int) then most - (ts.length : Int) else ((Xc os).length : Int)).toNat, ZY (by split <;> omega)⟩
 have hr1 : r <= (Xc os).length := by split at hr <;> omega
 have hr2 : (ts.length : Int) + r <= most := by split at hr <;> omega
 have hr3 : r = (Xc os).length \/ most <= (ts.length : Int) + r := by split at hr <;> omega
 have hlt1 : ((Xc os).take r).length = r := by rw [Zg]; omega
 obtain ⟨h1, v0', v4', M', e1, E1, l1, f1⟩ := zmq n os lb (Xc os) (fun x hx => ⟨(Qz os x hx).1, (Qz os x hx).2.1⟩) (jd os) h.length (h.length + 1) (XH os) (.row h.length 1 0 (Xc os).length) (.row (h.length + 1) 1 0 (XH os).length) (.int .i64 (r : Int)) r hr1 (by omega) (by omega) r 0 (n + 3) (JN h os) bits (List.replicate os.length ⟨0, 0⟩) [] [] (.sl 2 [] false) (.bool false) (by omega) (by omega) E0 (by simp) rfl rfl (fun x hx => by
  have := Qz os x (Zk hx)
  rw [ZU, if_pos (by omega)])
 rw [zP, zT, zT] at e1
 obtain ⟨vs, hvs⟩ : ∃ vs, vs = ((Xc os).take r).map (YM os) := ⟨_, rfl⟩
 obtain ⟨hs, hhs⟩ : ∃ hs, hs = (qn r bits).1 := ⟨_, rfl⟩
 have hvl : vs.length = r := by rw [hvs, zA, hlt1]
 have hhl : hs.length = r := by rw [hhs, ziE]
 rw [<- hvs, <- hhs] at e1
 have E2 := E1.push [.row 21 1 (vs.map (XA .i32)) true, .row 3 1 (iL hs) true]
 have hrow1 : RowI (h1 ++ [HB.row 21 1 (vs.map (XA .i32)) true, HB.row 3 1 (iL hs) true]) h1.length .i32 21 vs := ⟨true, by rw [zG (zm _), Q6]; rfl⟩
 have hrow2 : RowI (h1 ++ [HB.row 21 1 (vs.map (XA .i32)) true, HB.row 3 1 (iL hs) true]) (h1.length + 1) .i64 3 hs := ⟨true, by rw [zG (by omega), Xh]; rfl⟩
 obtain ⟨N1, S1⟩ := E1.sk
 obtain ⟨h2, ts2, tb2, e2, G2, I2⟩ := zjS n E2.sk h1.length (h1.length + 1) vs hs (by omega) (hvs ▸ zj1 os r) hrow1 hrow2 (fun hm => by have := S1.lt _ hm; omega) (fun hm => by have := S1.lt _ hm; omega) (by rw [hvl]; exact hr2) (by rw [hvl]; omega) (by rw [hvl]; omega)
 have E3 := E2.grew G2
 have told1 := qp ⟨1, 0⟩ ((Xc os).take r) (List.replicate os.length (⟨0, 0⟩ : R))
 rw [Qw] at told1
 have hnd := jd os
 have hdis : ∀ x ∈ (Xc os).drop r, ∀ y ∈ (Xc os).take r, y.toNat ≠ x.toNat := fun x hx y hy e => by
  have a := Qz os x (Zk hx)
  have b := Qz os y (ZA hy)
  have hxy : x = y := by omega
  have hnd' : ((Xc os).take r ++ (Xc os).drop r).Nodup := by rw [Zx]; exact hnd
  exact (QF.1 hnd').2.2 y hy x hx hxy.symm
 obtain ⟨v0'', v2'', M'', e3⟩ := zmr n os lb (Xc os) (fun x hx => ⟨(Qz os x hx).1, (Qz os x hx).2.1⟩) hnd h.length (h.length + 1) (XH os) (.row (h.length + 1) 1 0 (XH os).length) r hr1 (by omega) E3 ((Xc os).length - r) 0 (n + 3) (Q5 ⟨1, 0⟩ ((Xc os).take r) (List.replicate os.length ⟨0, 0⟩)) (.sl 2 (lsl v0') false) (.bool false) (by omega) (by omega) told1 (fun x hx => by
  rw [zV] at hx
  rw [jy _ _ _ _ (hdis x hx)]
  have := Qz os x (Zk hx)
  rw [ZU, if_pos (by omega)])
 simp only [zV] at e3
 obtain ⟨told2, htold2⟩ : ∃ told2, told2 = Q5 (⟨3, 0⟩ : R) ((Xc os).drop r) (Q5 ⟨1, 0⟩ ((Xc os).take r) (List.replicate os.length ⟨0, 0⟩)) := ⟨_, rfl⟩
 rw [<- htold2] at e3
 have told2l : told2.length = os.length := by rw [htold2, qp, told1]
 have hlen2 : ts2.length = ts.length + r := by
  have hz : ∀ (q : List (Int × Int)) (l : List (Int × Nat)), (ql l q).length = l.length + q.length := fun q => by
   induction q with
   | nil => intro l; rfl
   | cons p q ih => intro l; show (ql (zdX l p.1 (hOf p.2)) q).length = _; rw [ih, zad, zB]; omega
  have := congrArg List.length I2
  rw [hz, Q4, Q4, List.length_zip, hvl, hhl, Nat.min_self] at this
  exact this
 have hF : Frm h h2 (c :: skB s ts) := by
  have a : Frm h (JN h os) (c :: skB s ts) := Frm.push h _ _
  have b : Frm (JN h os) h1 [c] := ⟨Nat.le_of_eq l1.symm, fun j _ hj => f1 j fun e => hj (e ▸ zy ..)⟩
  have c' : Frm h1 (h1 ++ [HB.row 21 1 (vs.map (XA .i32)) true, HB.row 3 1 (iL hs) true]) [] := Frm.push h1 _ _
  exact (((a.trans b fun y hy => .inl (by rw [ZP] at hy; exact hy ▸ zy ..)).trans c' fun y hy => by cases hy).trans G2.frm fun y hy => .inl (zq _ hy))
 have hN : ∀ b ∈ skB s ts2, b ∈ skB s ts \/ h.length <= b := fun b hb => (G2.new b hb).imp id fun hh => by rw [zE, l1, hlf] at hh; omega
 have h0 : ∀ x ∈ XH os, told2[x.toNat]? = some ⟨0, 0⟩ := fun x hx => by
  have hm := JB os _ x hx
  have hne : ∀ y ∈ Xc os, y.toNat ≠ x.toNat := fun y hy e => zbo os x hx y hy (by have := Qz os y hy; omega)
  rw [htold2, jy _ _ _ _ fun y hy => hne y (Zk hy), jy _ _ _ _ fun y hy => hne y (ZA hy), ZU, if_pos (by omega)]
 obtain ⟨h', ts', told', e4, D, rr⟩ := ziD (ts := ts) n os lb told2 E3 (by omega) told2l h0 (by omega) (by omega) (by omega) hF hN (by omega)
 refine ⟨h', ts', (qn r bits).2, h2.length, told', ?_, D, ?_⟩
 · refine (zik (n + 3) s c (os.map O.w) lb h).trans ?_
   unfold zij
   have fN : nv (V.int .i64 (os.length : Int)) = some os.length := Zo _ _
   have fr : nv (V.int .i64 (r : Int)) = some r := Zo _ _
   have hpc : call (n + 3) 225 [.sl 2 (os.map O.w) lb] h = some (.ret [.row h.length 1 0 (WB os).length, .row (h.length + 1) 1 0 (XH os).length], JN h os) := zbn (n + 1) h os lb (by omega) (by omega)
   obtain ⟨N0, S0⟩ := E0.sk
   have hm1 := zaI (n + 2) S0
   have hl1 := qX (n + 2) S0
   have hsub : IntKind.i64.wrap (most - (ts.length : Int)) = most - (ts.length : Int) := by rw [w64] <;> omega
   have hs1 : Q7 1 0 r none true (.row h.length 1 0 (Xc os).length) = some (.row h.length 1 0 r) := by simpa using JA (r := h.length) (sz := 1) (u := 0) (v := (Xc os).length) (Zh r) (by omega) true
   have hs2 : Q7 1 r (Xc os).length none true (.row h.length 1 0 (Xc os).length) = some (.row h.length 1 r (Xc os).length) := by simpa using JA (r := h.length) (sz := 1) (u := 0) (v := (Xc os).length) hr1 (by omega) true
   have hc1 : Xq (JN h os) (.row h.length 1 0 r) = some (1, iL ((Xc os).take r)) := by have := E0.r1.slcP (lo := 0) (hi := r) (Zh _) hr1; rwa [zP] at this
   have hc2 : Xq h2 (.row h.length 1 r (Xc os).length) = some (1, iL ((Xc os).drop r)) := by have := E3.r1.slcP (lo := r) (hi := (Xc os).length) hr1 (zm _); rwa [List.take_length] at this
   simp only [zA]
   rw [fN, zH, zH, if_pos (by first | exact ⟨zm _, by omega, rfl⟩ | exact ⟨trivial, by omega, trivial⟩ | exact ⟨zm _, by omega, trivial⟩), hpc, zK]
   simp only [za, zi, zb]
   rw [<- hsl, E0.r1.slc, zb, hm1, zK, zw, hl1, zK, zw, ZH, zb, hsub]
   simp only [zA, YR, qO, zb]
   rw [zqq, zb, <- hr, W5, zb, fr, zH, hs1, zb, hc1, zb, zon]
   refine e1.trans ?_
   unfold Q2
   simp only [gv, zg, zk, Qk, hlt1, zC, zb, zo]
   rw [if_neg (by simp), zlf, zoo, Qk, zA, List.append_assoc]
   rw [show (h1 ++ [HB.row 21 1 (vs.map (XA .i32)) true]).length = h1.length + 1 by simp]
   rw [show ([HB.row 21 1 (vs.map (XA .i32)) true] ++ [HB.row 3 1 (iL hs) true]) = [HB.row 21 1 (vs.map (XA .i32)) true, HB.row 3 1 (iL hs) true] from rfl, e2, zK, zw, W5, zb, fr, zH, Nat.sub_zero, hs2, zb, hc2, zb]
   rw [show lsl (V.sl 2 ((Q5 (⟨1, 0⟩ : R) ((Xc os).take r) (List.replicate os.length ⟨0, 0⟩)).map R.w) false) = (Q5 (⟨1, 0⟩ : R) ((Xc os).take r) (List.replicate os.length ⟨0, 0⟩)).map R.w from rfl]
   refine e3.trans ?_
   unfold Q1
   simp only [gv, zg, zk, Qk, zC, zb, zo]
   rw [if_neg (by simp), zaQ, zA, told2l, e4, zK, zw]
 · unfold jc
   have hp := zle os most ((Xc os).take r) (itT ts, bits) (List.replicate os.length ⟨0, 0⟩) (fun x hx => hkp x (ZA hx)) (by simp only [Q4, hlt1]; exact hr2)
   simp only [hlt1, <- hvs, <- hhs, <- I2] at hp
   have hsplit : Xc os ++ XH os = (Xc os).take r ++ ((Xc os).drop r ++ XH os) := by rw [<- List.append_assoc, Zx]
   rw [hsplit, Yn, hp, Yn]
   have hfull : WC os most ((Xc os).drop r) (itT ts2, (qn r bits).2) (Q5 ⟨1, 0⟩ ((Xc os).take r) (List.replicate os.length ⟨0, 0⟩)) = ((itT ts2, (qn r bits).2), told2) := by
    rcases hr3 with h3 | h3
    · rw [htold2, h3, List.drop_length]; rfl
    · rw [ziF os most _ _ _ (fun x hx => hkp x (Zk hx)) (by simp only [Q4, hlen2]; omega), htold2]
   rw [hfull]
   exact rr
end Go.Proofs.Tryz
namespace Go.Proofs.Tryz
open Go.L
set_option maxRecDepth 100000
noncomputable def je (n : Nat) (a : V) (b : V) (st3 : List V) (hh4 : ze) (next5 : List V -> ze -> Option (Res × ze)) : Option (Res × ze) :=
 (bd (Xq hh4 a) fun p6 =>
 (bd (bop prog .lss 3 (gv st3 1) (V.int .i64 ((p6.2).length : Int))) fun v7 =>
 (bv v7 fun b8 => if b8 then
 (bdS (nv (gv st3 1)) fun n9 =>
 (bd (Xa 1 n9 a) fun p10 =>
 (bd3 (zu hh4 p10) fun cs12 m11 o13 => if (o13 + 1 <= m11 /\ 0 < 1) then
 (bd (cs12)[o13]? fun v14 =>
 (bdS (nv (gv st3 1)) fun n15 =>
 (bd (Xa 1 n15 b) fun p16 =>
 (bd3 (zu hh4 p16) fun cs18 m17 o19 => if (o19 + 1 <= m17 /\ 0 < 1) then
 (bd (cs18)[o19]? fun v20 =>
 (bd (bop prog .neq 21 v14 v20) fun v21 =>
 (bv v21 fun b22 => if b22 then
 some (Res.ret [(V.bool false)], hh4)
 else
 (bd (bop prog .add 3 (gv st3 1) (V.int .i64 1)) fun v23 =>
 (next5 [(gv st3 0), v23] hh4))))) else none)))) else none)))
 else
 some (Res.ret [(V.bool true)], hh4))))
noncomputable def zp3 (n : Nat) (a : V) (b : V) (h : ze) : Option (Res × ze) :=
 (bd (Xq h a) fun p0 =>
 (bd (Xq h b) fun p1 =>
 (if (((p0.2).length : Int) != ((p1.2).length : Int)) then
 some (Res.ret [(V.bool false)], h)
 else
 (Ze n (je n a b) [(V.bool false), (V.int .i64 0)] h))))
theorem zop (n : Nat) (a : V) (b : V) (h : ze) : call (n + 1) 19 [a, b] h = zp3 n a b h := by kernel_rfl
noncomputable def jf (n : Nat) (a : V) (b : V) (st3 : List V) (hh4 : ze) (next5 : List V -> ze -> Option (Res × ze)) : Option (Res × ze) :=
 (bd (Xq hh4 a) fun p6 =>
 (bd (bop prog .lss 3 (gv st3 1) (V.int .i64 ((p6.2).length : Int))) fun v7 =>
 (bv v7 fun b8 => if b8 then
 (bdS (nv (gv st3 1)) fun n9 =>
 (bd (Xa 2 n9 a) fun p10 =>
 (bd3 (zu hh4 p10) fun cs12 m11 o13 => if (o13 + 2 <= m11 /\ 0 < 2) then
 (bdS (nv (gv st3 1)) fun n14 =>
 (bd (Xa 2 n14 b) fun p15 =>
 (bd3 (zu hh4 p15) fun cs17 m16 o18 => if (o18 + 2 <= m16 /\ 0 < 2) then
 (bd (bop prog .neq 35 (V.agg ((cs12).drop o13 |>.take 2)) (V.agg ((cs17).drop o18 |>.take 2))) fun v19 =>
 (bv v19 fun b20 => if b20 then
 some (Res.ret [(V.bool false)], hh4)
 else
 (bd (bop prog .add 3 (gv st3 1) (V.int .i64 1)) fun v21 =>
 (next5 [(gv st3 0), v21] hh4)))) else none))) else none)))
 else
 some (Res.ret [(V.bool true)], hh4))))
noncomputable def zp4 (n : Nat) (a : V) (b : V) (h : ze) : Option (Res × ze) :=
 (bd (Xq h a) fun p0 =>
 (bd (Xq h b) fun p1 =>
 (if (((p0.2).length : Int) != ((p1.2).length : Int)) then
 some (Res.ret [(V.bool false)], h)
 else
 (Ze n (jf n a b) [(V.bool false), (V.int .i64 0)] h))))
theorem zoq (n : Nat) (a : V) (b : V) (h : ze) : call (n + 1) 24 [a, b] h = zp4 n a b h := by kernel_rfl
end Go.Proofs.Tryz
namespace Go.Proofs.Tryz
open Go.L Go.Rp Go.Sk
set_option maxRecDepth 100000
end Go.Proofs.Tryz
namespace Go.Proofs.Tryz
open Go.L
set_option maxRecDepth 100000
noncomputable def zae (n : Nat) (c : V) (kinds : Int) (st1 : List V) (hh2 : ze) (next3 : List V -> ze -> Option (Res × ze)) : Option (Res × ze) :=
 (bd (Xq hh2 c) fun p4 =>
 (bd (bop prog .lss 3 (gv st1 2) (V.int .i64 ((p4.2).length : Int))) fun v5 =>
 (bv v5 fun b6 => if b6 then
 (bd (bop prog .lss 3 (gv st1 2) (V.int .i64 80)) fun v7 =>
 (bv v7 fun b8 => if b8 then
 (bdS (nv (gv st1 2)) fun n9 =>
 (bd (Xa 1 n9 c) fun p10 =>
 (bd3 (zu hh2 p10) fun cs12 m11 o13 => if (o13 + 1 <= m11 /\ 0 < 1) then
 (bd (cs12)[o13]? fun v14 =>
 (bd (bop prog .rem 5 v14 (V.int .u8 kinds)) fun v15 =>
 (bd (bop prog .add 5 (V.int .u8 1) v15) fun v16 =>
 (bdS (nv (gv st1 2)) fun n17 =>
 (bd (Xa 1 n17 c) fun p18 =>
 (bd3 (zu hh2 p18) fun cs20 m19 o21 => if (o21 + 1 <= m19 /\ 0 < 1) then
 (bd (cs20)[o21]? fun v22 =>
 (bd (bop prog .quo 5 v22 (V.int .u8 8)) fun v23 =>
 (bd (cvt prog 5 21 v23) fun v24 =>
 (bd (bop prog .sub 21 v24 (V.int .i32 9)) fun v25 =>
 (bd (Ji prog 33 [(0, v16), (1, v25)]) fun cs26 =>
 (bd (jX prog 23 1 [(0, (V.agg cs26))]) fun p27 =>
 (bd (app 33 2 (S.own 33 2 (lsl (gv st1 1))) p27.2) fun l28 =>
 (bd (bop prog .add 3 (gv st1 2) (V.int .i64 1)) fun v29 =>
 (next3 [(V.sl 2 (lsl (gv st1 0)) false), (V.sl 2 l28 false), v29] hh2))))))))) else none)))))) else none)))
 else
 some (Res.ret [(V.sl 2 (lsl (gv st1 1)) false)], hh2)))
 else
 some (Res.ret [(V.sl 2 (lsl (gv st1 1)) false)], hh2))))
noncomputable def zqU (n : Nat) (c : V) (kinds : Int) (h : ze) : Option (Res × ze) :=
 (Ze n (zae n c kinds) [(V.sl 2 [] false), (V.sl 2 [] false), (V.int .i64 0)] h)
theorem zpp (n : Nat) (c : V) (kinds : Int) (h : ze) : call (n + 1) 14 [c, (V.int .u8 kinds)] h = zqU n c kinds h := by kernel_rfl
end Go.Proofs.Tryz
namespace Go.Proofs.Tryz
open Go.L Go.Rp
set_option maxRecDepth 100000
theorem zj2 {a b : Int} (h : b ≠ 0) : bop prog .rem 5 (.int .u8 a) (.int .u8 b) = some (.int .u8 (a.tmod b)) := by
 have : bop prog .rem 5 (.int .u8 a) (.int .u8 b) = if b = 0 then none else some (.int .u8 (a.tmod b)) := by kernel_rfl
 rw [this, if_neg h]
theorem ziG (a : Int) : bop prog .quo 5 (.int .u8 a) (.int .u8 8) = some (.int .u8 (IntKind.u8.wrap (a.tdiv 8))) := by kernel_rfl
theorem zpq (a : Int) : cvt prog 5 21 (.int .u8 a) = some (.int .i32 (IntKind.i32.wrap a)) := by kernel_rfl
theorem zqV (k v : Int) : Ji prog 33 [(0, .int .u8 k), (1, .int .i32 v)] = some (O.w ⟨k, v⟩) := by kernel_rfl
theorem w32 {n : Int} (h1 : -2147483648 <= n) (h2 : n < 2147483648) : IntKind.i32.wrap n = n := by rw [IntKind.wrap_i32]; omega
theorem ziH (c : List Int) (z : Nat) (b : Bool) (kinds : Int) (H : ze) (N : Nat) (hz : z = 1 \/ c = []) (hc : YF c = true) (hk1 : 1 <= kinds) (hk2 : kinds <= 100) : ∀ (d k M : Nat), k + d = min c.length 80 -> d < M →
    Ze M (zae N (.sl z (c.map (XA .u8)) b) kinds) [.sl 2 [] false, .sl 2 (((c.take k).map (opOf kinds)).map O.w) false, .int .i64 (k : Int)] H = some (.ret [.sl 2 ((ops c kinds).map O.w) false], H)
 | d, k, 0, _, h => by omega
 | 0, k, M + 1, hk, _ => by
   have he : (c.take k).map (opOf kinds) = ops c kinds := by
    unfold ops
    rcases ZQ 80 c.length with h | h
    · rw [show k = 80 by omega]
    · rw [zN (by omega), zN (by omega)]
   rw [zL, he]
   by_cases hl : (k : Int) < (c.length : Int)
   · have h80 : ¬ (k : Int) < 80 := by omega
     simp only [zae, gv, zk, zg, QX, zb, zA, zC, zo, hl, decide_true, if_true, h80, decide_false, zn, if_false, lsl]
   · simp only [zae, gv, zk, zg, QX, zb, zA, zC, zo, hl, decide_false, zn, if_false, lsl]
 | d + 1, k, M + 1, hk, hM => by
   have hl : (k : Int) < (c.length : Int) := by omega
   have h80 : (k : Int) < 80 := by omega
   obtain ⟨x, hx⟩ : ∃ x, c[k]? = some x := ⟨_, zf (by omega)⟩
   obtain rfl : z = 1 := hz.resolve_right (by rintro rfl; simp at hx)
   have hxv : (c.map (XA .u8))[k]? = some [.int .u8 x] := by rw [zcI, hx]; rfl
   have hxs := zlT hc x (zI hx)
   have hk0 : kinds ≠ 0 := by omega
   have e1 : Int.tmod x kinds = x % kinds := Jh hxs.1
   have h1 := Int.emod_nonneg x hk0
   have h2 := Int.emod_lt_of_pos x (show 0 < kinds by omega)
   have e2 : Int.tdiv x 8 = x / 8 := Int.tdiv_eq_ediv_of_nonneg hxs.1
   have w1 : IntKind.u8.wrap (1 + x % kinds) = 1 + x % kinds := w8 (by omega) (by omega)
   have w2 : IntKind.u8.wrap (x / 8) = x / 8 := w8 (by omega) (by omega)
   have w3 : IntKind.i32.wrap (x / 8) = x / 8 := w32 (by omega) (by omega)
   have w4 : IntKind.i32.wrap (x / 8 - 9) = x / 8 - 9 := w32 (by omega) (by omega)
   have hop : (⟨1 + x % kinds, x / 8 - 9⟩ : O) = opOf kinds x := rfl
   have J5 := zqk 33 ((c.take k).map (opOf kinds)) (opOf kinds x) (by rw [zA, Zg]; unfold lim; omega)
   have htk : (c.take k).map (opOf kinds) ++ [opOf kinds x] = (c.take (k + 1)).map (opOf kinds) := by
    rw [List.take_add_one, hx, ZC]; rfl
   rw [htk] at J5
   rw [zL]
   simp only [zae, gv, zk, zg, QX, QW hxv, XP, zl, zr, zm, Nat.reduceLT, and_self, zb, zA, zC, zo, hl, h80, decide_true, if_true, Zo, zH, zcI, hx, ZX, XA, za, zj2 hk0, e1, zjk, w1, ziG, e2, w2, zpq, w3, zg2, w4, zqV, hop, zqM, lsl, J5, zM, XF (show k < lim by unfold lim; omega)]
   exact ziH c 1 b kinds H N (.inl rfl) hc hk1 hk2 d (k + 1) M (by omega) (by omega)
theorem zdq (n : Nat) (c : List Int) (z : Nat) (b : Bool) (kinds : Int) (H : ze) (hz : z = 1 \/ c = []) (hc : YF c = true) (hk1 : 1 <= kinds) (hk2 : kinds <= 100) (hn : 90 <= n) :
    call n 14 [.sl z (c.map (XA .u8)) b, .int .u8 kinds] H = some (.ret [.sl 2 ((ops c kinds).map O.w) false], H) := by
 obtain ⟨N, rfl⟩ : ∃ N, n = N + 1 := ⟨n - 1, by omega⟩
 rw [zpp]
 unfold zqU
 exact ziH c z b kinds H N hz hc hk1 hk2 (min c.length 80) 0 N (by omega) (by omega)
theorem zf8 (c : List Int) (kinds : Int) : (ops c kinds).length <= 80 := by unfold ops; simp; omega
end Go.Proofs.Tryz
namespace Go.Proofs.Tryz
open Go.L Go.Rp Go.Sk
set_option maxRecDepth 100000
theorem RowR.get {h : ze} {b : Nat} {l : List R} (r : RowR h b l) {i : Nat} {x : R} (hx : l[i]? = some x) (o : Nat) : Xa 2 i (.row b 2 0 l.length) = some (.rptr b 2 i 0) /\ zu h (.rptr b 2 i o) = some (R.w x, 2, o) := by
 obtain ⟨z, hz⟩ := r
 have hi := (zh.1 hx).1
 exact ⟨ziA hi, Xr hz (by decide) (by rw [qf, hx]; rfl)⟩
theorem RowR.slc {h : ze} {b : Nat} {l : List R} (r : RowR h b l) : Xq h (.row b 2 0 l.length) = some (2, l.map R.w) := by
 obtain ⟨z, hz⟩ := r
 have := K0 hz
 rwa [zA] at this
end Go.Proofs.Tryz
namespace Go.Proofs.Tryz
open Go.L Go.Rp Go.Sk
set_option maxRecDepth 100000
def zbF (h : ze) (r : V) (l : List Int) : Prop := (∃ sz, Xq h r = some (sz, l.map (XA .i32))) /\ ∀ (i : Nat) (x : Int), l[i]? = some x -> ∃ p, Xa 1 i r = some p /\ zu h p = some ([.int .i32 x], 1, 0)
theorem RowI.sees {h : ze} {b : Nat} {L : List Int} (r : RowI h b .i32 21 L) {lo hi : Nat} (h1 : lo <= hi) (h2 : hi <= L.length) : zbF h (.row b 1 lo hi) ((L.take hi).drop lo) := by
 refine ⟨⟨1, r.slcP h1 h2⟩, fun i x hx => ?_⟩
 rw [Zj] at hx
 have hi' : lo + i < hi := by
  have := (zh.1 hx).1
  rw [Zg] at this
  omega
 rw [List.getElem?_take_of_lt hi'] at hx
 obtain ⟨a, c⟩ := r.getP hi' hx
 exact ⟨_, a, c⟩
theorem zor (h : ze) : zbF h (.sl 0 [] true) [] := ⟨⟨0, rfl⟩, fun i x hx => by simp at hx⟩
theorem SlI.sees {h : ze} {lo : Nat} {r : V} {l : List Int} (s : SlI h lo r l) : zbF h r l := by
 rcases s with ⟨rfl, rfl⟩ | ⟨b, z, _, rfl, hz⟩
 · exact zor h
 · have := RowI.sees (L := l) ⟨z, hz⟩ (Zh l.length) (zm _)
   rwa [List.take_length, zP] at this
theorem zj3 (n : Nat) {h : ze} {a b : V} {l : List Int} (ha : zbF h a l) (hb : zbF h b l) (hl : l.length < lim) : ∀ (d i M : Nat) (v0 : V), i + d = l.length -> d < M -> Ze M (je n a b) [v0, .int .i64 (i : Int)] h = some (.ret [.bool true], h) := by
 obtain ⟨⟨sa, hsa⟩, ga⟩ := ha
 intro d
 induction d with
 | zero =>
   intro i M v0 h1 h2
   obtain ⟨M, rfl⟩ : ∃ M', M = M' + 1 := ⟨M - 1, by omega⟩
   obtain rfl : i = l.length := by omega
   rw [zL]
   unfold je
   rw [hsa, zb]
   simp only [gv, zg, zk, zA, zC, zb, zo]
   rw [if_neg (by simp)]
 | succ d ih =>
   intro i M v0 h1 h2
   obtain ⟨M, rfl⟩ : ∃ M', M = M' + 1 := ⟨M - 1, by omega⟩
   obtain ⟨x, hx⟩ : ∃ x, l[i]? = some x := ⟨_, zf (by omega)⟩
   obtain ⟨p, p1, p2⟩ := ga i x hx
   obtain ⟨q, q1, q2⟩ := hb.2 i x hx
   have hlt : decide ((i : Int) < (l.length : Int)) = true := by simp; omega
   have key : ∀ next, je n a b [v0, .int .i64 (i : Int)] h next = next [v0, .int .i64 ((i + 1 : Nat) : Int)] h := by
    intro next
    unfold je
    rw [hsa, zb]
    simp only [gv, zg, zk, zA, zC, zb, zo, hlt, if_true, Zo, zH, p1, p2, q1, q2, zl, zr, zm, Nat.reduceLT, and_self, za, zg1, zM, XF (show i < lim by omega)]
    rw [if_neg (by simp)]
   rw [zL, key]
   exact ih (i + 1) M v0 (by omega) (by omega)
theorem qq (n : Nat) {h : ze} {a b : V} {l : List Int} (ha : zbF h a l) (hb : zbF h b l) (hl : l.length < lim) (hn : l.length < n) : call (n + 1) 19 [a, b] h = some (.ret [.bool true], h) := by
 refine (zop n a b h).trans ?_
 unfold zp3
 obtain ⟨sa, hsa⟩ := ha.1
 obtain ⟨sb, hsb⟩ := hb.1
 rw [hsa, zb, hsb, zb, if_neg (by simp)]
 exact zj3 n ha hb hl l.length 0 n (.bool false) (by omega) hn
end Go.Proofs.Tryz
namespace Go.Sk
open Go.L Go.Rp
theorem zj4 (m : Nat) (c x : Int) (xs : List Int) (h : xs.length <= m) : (XB (m : Int) c x xs).2.length <= m := by
 unfold XB
 split
 · split
   · simp; omega
   · exact h
 · split
   · split
     · simp; omega
     · exact h
   · exact h
theorem zeW (m : Nat) : ∀ (l : List O) (xs : List Int), xs.length <= m -> (Qx (m : Int) l xs).2.length <= m
 | [], _, h => h
 | o :: l, xs, h => zeW m l _ (zj4 m o.k o.v xs h)
theorem zj5 (m : Nat) (c x : Int) (xs : List Int) (h : xs.length <= m) : (Xd (m : Int) c x xs).2.length <= m := by
 unfold Xd
 split
 · split
   · simp; omega
   · exact h
 split
 · split
   · simp; omega
   · exact h
 split
 · split
   · simp at h ⊢; omega
   · exact h
 split
 · split
   · simp; omega
   · exact h
 · exact h
theorem zeX (m : Nat) : ∀ (l : List O) (xs : List Int), xs.length <= m -> (QH (m : Int) l xs).2.length <= m
 | [], _, h => h
 | o :: l, xs, h => zeX m l _ (zj5 m o.k o.v xs h)
end Go.Sk
namespace Go.Proofs.Tryz
open Go.L Go.Rp Go.Sk
set_option maxRecDepth 100000
theorem zf9 (n s : Nat) (osb : Bool) (b c : Nat) (hc : c < 100000) (os : List O) (hos : os.length < lim) : ∀ (d i N : Nat) (h : ze) (xs : List Int) (done : List R), RngAt h s b c xs -> i + d = os.length -> done.length = i -> d < N →
    ∃ h', Ze N (W7 (n + 3) s (os.map O.w) osb) [.sl 2 [] false, .sl 2 (done.map R.w ++ List.replicate d [.int .u8 0, .int .i32 0]) false, .bool false, .int .i64 (i : Int)] h = some (.ret [.row h'.length 2 0 os.length], h' ++ [.row 35 2 ((done ++ (QH (c : Int) (os.drop i) xs).1).map R.w) true]) /\ RngAt h' s b c (QH (c : Int) (os.drop i) xs).2 /\ RFed h h' s b := by
 intro d
 induction d with
 | zero =>
   intro i N h xs done hb h1 h2 h3
   obtain ⟨N, rfl⟩ : ∃ N', N = N' + 1 := ⟨N - 1, by omega⟩
   rw [zL]
   unfold W7
   simp only [gv, zg, zk]
   rw [zC, zb, zo, if_neg (by simp; omega), Z9 (by omega)]
   refine ⟨h, ?_, hb, RFed.refl ..⟩
   simp only [lsl, QH, Zn, QK, zA]
   rw [show done.length = os.length by omega]
 | succ d ih =>
   intro i N h xs done hb h1 h2 h3
   obtain ⟨N, rfl⟩ : ∃ N', N = N' + 1 := ⟨N - 1, by omega⟩
   have hi : i < os.length := by omega
   obtain ⟨h', e, b1, b2⟩ := zhs n hb hc os[i].k os[i].v
   obtain ⟨h'', e', d1, d2⟩ := ih (i + 1) N h' _ (done ++ [zh3 (c : Int) os[i] xs]) b1 (by omega) (by simp; omega) (by omega)
   have hd : os.drop i = os[i] :: os.drop (i + 1) := zW hi
   refine ⟨h'', ?_, by rw [hd]; exact d1, b2.trans d2⟩
   rw [hd]
   simp only [QH]
   rw [show done ++ (zh3 (c : Int) os[i] xs :: (QH (c : Int) (os.drop (i + 1)) (Xd (c : Int) os[i].k os[i].v xs).2).1) = done ++ [zh3 (c : Int) os[i] xs] ++ (QH (c : Int) (os.drop (i + 1)) (Xd (c : Int) os[i].k os[i].v xs).2).1 by simp, <- e', zL]
   have hix : Xa 2 i (.sl 2 (os.map O.w) osb) = some (.iptr 2 (O.w os[i]) 0) := by
    simp [Xa, zf hi]
   have key : ∀ next, W7 (n + 3) s (os.map O.w) osb [.sl 2 [] false, .sl 2 (done.map R.w ++ List.replicate (d + 1) [.int .u8 0, .int .i32 0]) false, .bool false, .int .i64 (i : Int)] h next = next [.sl 2 [] false, .sl 2 ((done ++ [zh3 (c : Int) os[i] xs]).map R.w ++ List.replicate d [.int .u8 0, .int .i32 0]) false, .bool false, .int .i64 ((i + 1 : Nat) : Int)] h' := by
    intro next
    unfold W7
    simp only [gv, zg, zk]
    rw [zC, zb, zo, if_pos (by simp; omega), Zo, zH, hix, zb]
    simp only [zu]
    rw [zl, if_pos (by decide), zP, QB, if_pos (XR _), if_pos (by rw [XR]; decide), W3, zP, QB]
    show cl (call (n + 3) _ [.ptr s 0, .agg [.int .u8 os[i].k, .int .i32 os[i].v]] h) _ _ = _
    rw [e, zK, zw, zH]
    have hlen : i < (done.map R.w ++ List.replicate (d + 1) [V.int .u8 0, V.int .i32 0]).length := by simp; omega
    have hget : (done.map R.w ++ List.replicate (d + 1) [V.int .u8 0, V.int .i32 0])[i]? = some [.int .u8 0, .int .i32 0] := by
     rw [zG (by simp; omega)]; simp [h2]
    rw [if_pos (by refine ⟨?_, hlen, by decide⟩; first | trivial | rfl), if_pos (by rfl), if_pos (by refine ⟨?_, by decide, zm 2⟩; first | trivial | rfl)]
    simp only [lsl, zhk, V.cells]
    rw [hget, zb, zM, zb, XF (by omega)]
    have hset : (done.map R.w ++ List.replicate (d + 1) [V.int .u8 0, V.int .i32 0]).set i (setR [V.int .u8 0, V.int .i32 0] 0 [V.int .u8 (Xd (c : Int) os[i].k os[i].v xs).1.1, V.int .i32 (Xd (c : Int) os[i].k os[i].v xs).1.2]) = (done ++ [zh3 (c : Int) os[i] xs]).map R.w ++ List.replicate d [V.int .u8 0, V.int .i32 0] := by
     rw [Zw _ _ (by simp; omega)]
     simp [h2, Xn, R.w, setR, zh3]
    rw [hset]
   rw [key]
theorem zga (n s : Nat) {h : ze} {b c : Nat} {xs : List Int} (hb : RngAt h s b c xs) (hc : c < 100000) (os : List O) (osb : Bool) (hos : os.length < lim) (hn : os.length < n) :
    ∃ h', call (n + 4) 176 [.bf 201 [.ptr s 0], .sl 2 (os.map O.w) osb] h = some (.ret [.row h'.length 2 0 os.length], h' ++ [.row 35 2 ((QH (c : Int) os xs).1.map R.w) true]) /\ RngAt h' s b c (QH (c : Int) os xs).2 /\ RFed h h' s b := by
 obtain ⟨h', e, b1, b2⟩ := zf9 n s osb b c hc os hos os.length 0 (n + 3) h xs [] hb (by omega) rfl (by omega)
 refine ⟨h', (zjL (n + 3) s _ osb h).trans ?_, b1, b2⟩
 unfold zkY
 rw [zA, Zo, zH, zH, if_pos ⟨zm _, by omega, rfl⟩]
 exact e
def noH (xs : List Int) : List (Int × Nat) := xs.map fun x => (x, 0)
theorem Wi (xs : List Int) : (noH xs).length = xs.length := zA ..
theorem zbZ (xs : List Int) : (noH xs).map Prod.fst = xs := by unfold noH; rw [List.map_map]; exact List.map_id _
def KF (k m : Nat) (os : List O) (st : St) : St × List R :=
 if k = 1 then ((noH (Qx (m : Int) os (st.1.map Prod.fst)).2, st.2), (Qx (m : Int) os (st.1.map Prod.fst)).1)
 else if k = 2 then ((noH (QH (m : Int) os (st.1.map Prod.fst)).2, st.2), (QH (m : Int) os (st.1.map Prod.fst)).1)
 else jc os (m : Int) st
def BodAt (k : Nat) (h : ze) (s : Nat) (Y : List Nat) (m : Nat) (its : List (Int × Nat)) : Prop :=
 (k = 1 /\ ∃ xs qb, its = noH xs /\ StkAt h s qb (m : Int) xs /\ Y = s :: qb.toList) ∨
 (k = 2 /\ ∃ xs b, its = noH xs /\ RngAt h s b m xs /\ Y = [s, b]) ∨
 (k = 3 /\ ∃ ts, its = itT ts /\ (∃ N, SkAt h s ts (m : Int) N) /\ Y = skB s ts)
def zdr (k s : Nat) : V := .iface (if k = 1 then 112 else if k = 2 then 116 else 120) (.agg [.ptr s 0])
structure ObAt (k : Nat) (h : ze) (o s c : Nat) (cb : Option Nat) (Y : List Nat) (m : Nat) (pl : Bool) (st : St) : Prop where
 box : h[o]? = some (.box 3 [zdr k s, .ptr c 0, .bool pl])
 bits : BitsAt h c cb st.2
 body : BodAt k h s Y m st.1
 room : st.1.length <= m
 most : m <= 1000
 oc : o ≠ c
 ocb : cb ≠ some o
 oY : o ∉ Y
 cY : c ∉ Y
 cbY : ∀ b, cb = some b -> b ∉ Y
def obB (o c : Nat) (cb : Option Nat) (Y : List Nat) : List Nat := o :: c :: (cb.toList ++ Y)
theorem BodAt.lt {k : Nat} {h : ze} {s : Nat} {Y : List Nat} {m : Nat} {its : List (Int × Nat)} (B : BodAt k h s Y m its) : ∀ y ∈ Y, y < h.length := by
 rcases B with ⟨rfl, xs, qb, rfl, S, rfl⟩ | ⟨rfl, xs, b, rfl, R, rfl⟩ | ⟨rfl, ts, rfl, ⟨N, S⟩, rfl⟩
 · intro y hy
   obtain ⟨v, sz, k1, k2⟩ := S.box
   rcases zF.1 hy with rfl | hy
   · exact zQ k1
   · cases qb with
     | none => simp at hy
     | some b =>
       simp at hy; subst hy
       obtain ⟨_, l, z, _, k3, _⟩ := S
       exact zQ k3
 · intro y hy
   obtain ⟨_, l, z, f, k1, k2, _⟩ := R
   simp at hy
   rcases hy with rfl | rfl
   · exact zQ k1
   · exact zQ k2
 · exact S.lt
theorem BitsAt.blt {h : ze} {c b : Nat} {bits : List Bool} (B : BitsAt h c (some b) bits) : b < h.length := by
 obtain ⟨_, lo, l, z, _, k, _⟩ := B
 exact zQ k
theorem BitsAt.clt {h : ze} {c : Nat} {cb : Option Nat} {bits : List Bool} (B : BitsAt h c cb bits) : c < h.length := by
 cases cb with
 | none => exact zQ B.2
 | some b =>
   obtain ⟨_, lo, l, z, k, _⟩ := B
   exact zQ k
theorem BodAt.keep {k : Nat} {h h' : ze} {s : Nat} {Y : List Nat} {m : Nat} {its : List (Int × Nat)} (B : BodAt k h s Y m its) (hk : ∀ y ∈ Y, h'[y]? = h[y]?) : BodAt k h' s Y m its := by
 rcases B with ⟨rfl, xs, qb, rfl, S, rfl⟩ | ⟨rfl, xs, b, rfl, R, rfl⟩ | ⟨rfl, ts, rfl, ⟨N, S⟩, rfl⟩
 · exact .inl ⟨rfl, xs, qb, rfl, S.keep (hk s (by simp)) (fun b hb => hk b (by simp [hb])), rfl⟩
 · exact .inr (.inl ⟨rfl, xs, b, rfl, R.keep (hk s (by simp)) (hk b (by simp)), rfl⟩)
 · exact .inr (.inr ⟨rfl, ts, rfl, ⟨N, S.keep hk⟩, rfl⟩)
theorem ObAt.keep {k : Nat} {h h' : ze} {o s c : Nat} {cb : Option Nat} {Y : List Nat} {m : Nat} {pl : Bool} {st : St} (A : ObAt k h o s c cb Y m pl st) (hk : ∀ y ∈ obB o c cb Y, h'[y]? = h[y]?) : ObAt k h' o s c cb Y m pl st :=
 ⟨(hk o (by simp [obB])).trans A.box, A.bits.keep (hk c (by simp [obB])) (fun b hb => hk b (by simp [obB, hb])), A.body.keep (fun y hy => hk y (by simp [obB, hy])), A.room, A.most, A.oc, A.ocb, A.oY, A.cY, A.cbY⟩
theorem ObAt.lt {k : Nat} {h : ze} {o s c : Nat} {cb : Option Nat} {Y : List Nat} {m : Nat} {pl : Bool} {st : St} (A : ObAt k h o s c cb Y m pl st) : ∀ y ∈ obB o c cb Y, y < h.length := by
 intro y hy
 simp only [obB, zF, Zm] at hy
 rcases hy with rfl | rfl | hy | hy
 · exact zQ A.box
 · exact A.bits.clt
 · cases cb with
   | none => simp at hy
   | some b => simp at hy; subst hy; exact A.bits.blt
 · exact A.body.lt y hy
structure XFed (h h' : ze) (X X' : List Nat) : Prop where
 len : h.length <= h'.length
 old : ∀ i, i < h.length -> i ∉ X -> h'[i]? = h[i]?
 new : ∀ x ∈ X', x ∈ X \/ h.length <= x
structure BFed (h h' : ze) (c : Nat) (Y Y' : List Nat) : Prop where
 len : h.length <= h'.length
 old : ∀ i, i < h.length -> i ∉ c :: Y -> h'[i]? = h[i]?
 new : ∀ x ∈ Y', x ∈ Y \/ h.length <= x
def zj6 (k : Nat) (pl : Bool) : Nat := if k = 1 then (if pl then 173 else 171) else if k = 2 then (if pl then 198 else 196) else (if pl then 221 else 219)
theorem zos (n : Nat) {k : Nat} {h : ze} {s c : Nat} {cb : Option Nat} {Y : List Nat} {m : Nat} {st : St} (pl : Bool) (B : BodAt k h s Y m st.1) (C : BitsAt h c cb st.2) (room : st.1.length <= m) (hm : m <= 1000) (cY : c ∉ Y) (cbY : ∀ b, cb = some b -> b ∉ Y) (os : List O) (osb : Bool) (hk : ∀ o ∈ os, 0 <= o.k /\ o.k < 256) (hos : os.length <= 1000) (hn : 2 * os.length + m + 100 <= n) :
    ∃ h' Y' T, call (n + 7) (zj6 k pl) [.agg [.ptr s 0], .ptr c 0, .sl 2 (os.map O.w) osb] h = some (.ret [.row T 2 0 os.length], h') /\ RowR h' T (KF k m os st).2 /\ BodAt k h' s Y' m (KF k m os st).1.1 /\ BitsAt h' c cb (KF k m os st).1.2 /\ (KF k m os st).1.1.length <= m /\ h.length <= T /\ T ∉ Y' /\ BFed h h' c Y Y' := by
 have hlim : 1000000 < lim := by unfold lim; omega
 have hlt := B.lt
 have hcl := C.clt
 rcases B with ⟨rfl, xs, qb, hits, S, rfl⟩ | ⟨rfl, xs, b, hits, RR, rfl⟩ | ⟨rfl, ts, hits, S, rfl⟩
 · have hxs : st.1.map Prod.fst = xs := by rw [hits, zbZ]
   have hxl : xs.length <= m := by rw [hits, Wi] at room; exact room
   have hsc : c ≠ s := fun e => cY (by simp [e])
   have hcq : qb ≠ some c := fun e => cY (by simp [e])
   have hsb : ∀ b, cb = some b -> b ≠ s /\ qb ≠ some b := fun b hb => ⟨fun e => cbY b hb (by simp [e]), fun e => cbY b hb (by simp [e])⟩
   simp only [KF, hxs, if_true]
   have hrl := zeW m os xs hxl
   cases pl with
   | false =>
     obtain ⟨h', qb', T, e, c1, c2, c3, c4, c5⟩ := zda (n + 1) S os osb hxl (by omega) (by omega) (by omega) (fun b hb => hlt b (by simp [hb]))
     refine ⟨h', s :: qb'.toList, T, ?_, ⟨true, c1⟩, .inl ⟨rfl, _, qb', rfl, c4, rfl⟩, C.keep (c5.old c hcl hsc hcq) (fun b hb => c5.old b (hb ▸ C).blt (hsb b hb).1 (hsb b hb).2), by rw [Wi]; exact hrl, c2, ?_, ⟨c5.len, fun i h1 h2 => c5.old i h1 (fun e => h2 (by simp [e])) (fun e => h2 (by simp [e])), ?_⟩⟩
     · show call (n + 6 + 1) 171 _ h = _
       rw [zhG]
       unfold zhF
       rw [e, zK, zw]
     · intro hT
       have := hlt s (by simp)
       rcases zF.1 hT with rfl | hT
       · omega
       · cases qb' with
         | none => simp at hT
         | some b => simp at hT; exact c3 (by rw [hT])
     · intro x hx
       rcases zF.1 hx with rfl | hx
       · exact .inl (by simp)
       · cases qb' with
         | none => simp at hx
         | some b =>
           simp at hx; subst hx
           rcases c5.own _ rfl with e | e
           · exact .inl (by simp [e])
           · exact .inr e
   | true =>
     obtain ⟨h', qb', e, c4, c5⟩ := zfN n s S os osb hk (by omega) (by omega)
     have hk' : ∀ j, j < h'.length -> (h' ++ [HB.row 35 2 ((Qx (m : Int) os xs).1.map R.w) true])[j]? = h'[j]? := fun j hj => zj hj
     have hql : ∀ b, qb' = some b -> b < h'.length := fun b hb => by
      rw [hb] at c4
      obtain ⟨_, l, z, _, k3, _⟩ := c4
      exact zQ k3
     have hsl' : s < h'.length := by have := hlt s (by simp); have := c5.len; omega
     have hlen := c5.len
     refine ⟨h' ++ [HB.row 35 2 ((Qx (m : Int) os xs).1.map R.w) true], s :: qb'.toList, h'.length, ?_, ⟨true, zD⟩, .inl ⟨rfl, _, qb', rfl, c4.keep (hk' s hsl') (fun b hb => hk' b (hql b hb)), rfl⟩, C.keep ((hk' c (by omega)).trans (c5.old c hcl hsc hcq)) (fun b hb => (hk' b (by have := (hb ▸ C).blt; omega)).trans (c5.old b (hb ▸ C).blt (hsb b hb).1 (hsb b hb).2)), by rw [Wi]; exact hrl, hlen, ?_, ⟨by simp; omega, fun i h1 h2 => (hk' i (by omega)).trans (c5.old i h1 (fun e => h2 (by simp [e])) (fun e => h2 (by simp [e]))), ?_⟩⟩
     · show call (n + 6 + 1) 173 _ h = _
       rw [zhI]
       unfold zhH
       rw [e, zK, zw]
     · intro hT
       rcases zF.1 hT with hT | hT
       · omega
       · cases qb' with
         | none => simp at hT
         | some b => simp at hT; have := hql b rfl; omega
     · intro x hx
       rcases zF.1 hx with rfl | hx
       · exact .inl (by simp)
       · cases qb' with
         | none => simp at hx
         | some b =>
           simp at hx; subst hx
           rcases c5.own _ rfl with e | e
           · exact .inl (by simp [e])
           · exact .inr e
 · have hxs : st.1.map Prod.fst = xs := by rw [hits, zbZ]
   have hxl : xs.length <= m := by rw [hits, Wi] at room; exact room
   have hsc : c ≠ s := fun e => cY (by simp [e])
   have hcq : c ≠ b := fun e => cY (by simp [e])
   have hsb : ∀ x, cb = some x -> x ≠ s /\ x ≠ b := fun x hb => ⟨fun e => cbY x hb (by simp [e]), fun e => cbY x hb (by simp [e])⟩
   have hsl := hlt s (by simp)
   have hbl := hlt b (by simp)
   simp only [KF, hxs, if_neg (show ¬ (2 = 1) by decide), if_true]
   have hrl := zeX m os xs hxl
   cases pl with
   | false =>
     obtain ⟨h', T, e, c1, c2, c4, c5, c6⟩ := zdb (n + 1) RR os osb (by omega) (by omega) (by omega)
     refine ⟨h', [s, b], T, ?_, ⟨true, c1⟩, .inr (.inl ⟨rfl, _, b, rfl, c4, rfl⟩), C.keep (c6 c hcl hsc hcq) (fun x hb => c6 x (hb ▸ C).blt (hsb x hb).1 (hsb x hb).2), by rw [Wi]; exact hrl, c2, ?_, ⟨c5, fun i h1 h2 => c6 i h1 (fun e => h2 (by simp [e])) (fun e => h2 (by simp [e])), fun x hx => .inl hx⟩⟩
     · show call (n + 6 + 1) 196 _ h = _
       rw [zhM]
       unfold zhL
       rw [e, zK, zw]
     · simp; omega
   | true =>
     obtain ⟨h', e, c4, c5⟩ := zga (n + 2) s RR (by omega) os osb (by omega) (by omega)
     have hlen := c5.len
     have hk' : ∀ j, j < h'.length -> (h' ++ [HB.row 35 2 ((QH (m : Int) os xs).1.map R.w) true])[j]? = h'[j]? := fun j hj => zj hj
     refine ⟨h' ++ [HB.row 35 2 ((QH (m : Int) os xs).1.map R.w) true], [s, b], h'.length, ?_, ⟨true, zD⟩, .inr (.inl ⟨rfl, _, b, rfl, c4.keep (hk' s (by omega)) (hk' b (by omega)), rfl⟩), C.keep ((hk' c (by omega)).trans (c5.old c hsc hcq)) (fun x hb => (hk' x (by have := (hb ▸ C).blt; omega)).trans (c5.old x (hsb x hb).1 (hsb x hb).2)), by rw [Wi]; exact hrl, by omega, ?_, ⟨by simp; omega, fun i h1 h2 => (hk' i (by omega)).trans (c5.old i (fun e => h2 (by simp [e])) (fun e => h2 (by simp [e]))), fun x hx => .inl hx⟩⟩
     · show call (n + 6 + 1) 198 _ h = _
       rw [zhO]
       unfold zhN
       rw [e, zK, zw]
     · simp; omega
 · have hst : st = (itT ts, st.2) := by rw [<- hits]
   have htl : ts.length <= m := by rw [hits] at room; simpa [itT] using room
   simp only [KF, if_neg (show ¬ (3 = 1) by decide), if_neg (show ¬ (3 = 2) by decide)]
   have fin : ∀ (h' : ze) (ts' : List Tw) (bits' : List Bool) (tb : Nat) (told' : List R), Did h h' s ts ts' (m : Int) c cb bits' tb told' -> jc os (m : Int) (itT ts, st.2) = ((itT ts', bits'), told') -> RowR h' tb (jc os (m : Int) st).2 /\ BodAt 3 h' s (skB s ts') m (jc os (m : Int) st).1.1 /\ BitsAt h' c cb (jc os (m : Int) st).1.2 /\ (jc os (m : Int) st).1.1.length <= m /\ h.length <= tb /\ tb ∉ skB s ts' /\ BFed h h' c (skB s ts) (skB s ts') := by
    intro h' ts' bits' tb told' D hd
    rw [hst, hd]
    refine ⟨D.tl, .inr (.inr ⟨rfl, ts', rfl, D.sk, rfl⟩), D.bt, ?_, D.tb, ?_, ⟨D.frm.len, fun i h1 h2 => D.frm.old i h1 h2, fun x hx => ?_⟩⟩
    · have := D.room; simp [itT]; omega
    · intro hT
      obtain ⟨N, S'⟩ := D.sk
      unfold skB at hT
      rw [<- WA s (ts'.length : Int) (m : Int) ts'] at hT
      obtain ⟨x, hx, rfl⟩ := ZF.1 hT
      have h1 := S'.rep.at_ x hx
      obtain ⟨z, hz⟩ := D.tl
      unfold Ki at h1
      rw [hz] at h1
      cases h1
    · rcases D.new x hx with e | e
      · exact .inl e
      · exact .inr e
   cases pl with
   | false =>
     obtain ⟨h', ts', bits', tb, told', e, D, hd⟩ := zdZ (n + 2) os osb S C cY cbY (by omega) (by omega) (by omega) (by omega)
     refine ⟨h', skB s ts', tb, ?_, fin h' ts' bits' tb told' D hd⟩
     show call (n + 6 + 1) 219 _ h = _
     rw [zhS]
     unfold zhR
     rw [e, zK, zw]
   | true =>
     obtain ⟨h', ts', bits', tb, told', e, D, hd⟩ := zj0 (n + 2) os osb S C cY cbY (by omega) (by omega) (by omega)
     refine ⟨h', skB s ts', tb, ?_, fin h' ts' bits' tb told' D hd⟩
     show call (n + 6 + 1) 221 _ h = _
     rw [zhU]
     unfold zhT
     rw [e, zK, zw]
end Go.Proofs.Tryz
namespace Go.Proofs.Tryz
open Go.L Go.Rp Go.Sk
set_option maxRecDepth 100000
theorem Jg (h : ze) (c : Nat) : X1 prog h .eql 25 (V.ptr c 0) (V.val (.pointer none)) = some (.bool false) := by kernel_rfl
theorem zaf (h : ze) (c : Nat) : X1 prog h .neq 25 (V.ptr c 0) (V.val (.pointer none)) = some (.bool true) := by kernel_rfl
theorem BodAt.kind {k : Nat} {h : ze} {s : Nat} {Y : List Nat} {m : Nat} {its : List (Int × Nat)} (B : BodAt k h s Y m its) : k = 1 \/ k = 2 \/ k = 3 := by
 rcases B with ⟨h, _⟩ | ⟨h, _⟩ | ⟨h, _⟩ <;> omega
def ziI (k : Nat) : Nat := if k = 1 then 112 else if k = 2 then 116 else 120
theorem zj7 {k : Nat} (hk : k = 1 \/ k = 2 \/ k = 3) (s : Nat) : Qq prog (ziI k) (.agg [.ptr s 0]) "reaper/object.plain" = some (zj6 k true, .agg [.ptr s 0]) := by
 rcases hk with rfl | rfl | rfl
 · show Qq prog 112 (.agg [.ptr s 0]) "reaper/object.plain" = some (173, .agg [.ptr s 0]); kernel_rfl
 · show Qq prog 116 (.agg [.ptr s 0]) "reaper/object.plain" = some (198, .agg [.ptr s 0]); kernel_rfl
 · show Qq prog 120 (.agg [.ptr s 0]) "reaper/object.plain" = some (221, .agg [.ptr s 0]); kernel_rfl
theorem zj8 {k : Nat} (hk : k = 1 \/ k = 2 \/ k = 3) (s : Nat) : Qq prog (ziI k) (.agg [.ptr s 0]) "reaper/object.batch" = some (zj6 k false, .agg [.ptr s 0]) := by
 rcases hk with rfl | rfl | rfl
 · show Qq prog 112 (.agg [.ptr s 0]) "reaper/object.batch" = some (171, .agg [.ptr s 0]); kernel_rfl
 · show Qq prog 116 (.agg [.ptr s 0]) "reaper/object.batch" = some (196, .agg [.ptr s 0]); kernel_rfl
 · show Qq prog 120 (.agg [.ptr s 0]) "reaper/object.batch" = some (219, .agg [.ptr s 0]); kernel_rfl
theorem zlg {k : Nat} (hk : k = 1 \/ k = 2 \/ k = 3) (pl : Bool) : X9 (zj6 k pl) = true /\ okV prog 28 (zj6 k pl) = true := by
 rcases hk with rfl | rfl | rfl <;> cases pl
 · show X9 171 = true /\ okV prog 28 171 = true; exact ⟨by kernel_rfl, by kernel_rfl⟩
 · show X9 173 = true /\ okV prog 28 173 = true; exact ⟨by kernel_rfl, by kernel_rfl⟩
 · show X9 196 = true /\ okV prog 28 196 = true; exact ⟨by kernel_rfl, by kernel_rfl⟩
 · show X9 198 = true /\ okV prog 28 198 = true; exact ⟨by kernel_rfl, by kernel_rfl⟩
 · show X9 219 = true /\ okV prog 28 219 = true; exact ⟨by kernel_rfl, by kernel_rfl⟩
 · show X9 221 = true /\ okV prog 28 221 = true; exact ⟨by kernel_rfl, by kernel_rfl⟩
theorem Ky (n : Nat) {k : Nat} {h : ze} {o s c : Nat} {cb : Option Nat} {Y : List Nat} {m : Nat} {pl : Bool} {st : St} (A : ObAt k h o s c cb Y m pl st) (os : List O) (osb : Bool) (hk : ∀ o ∈ os, 0 <= o.k /\ o.k < 256) (hos : os.length <= 1000) (hn : 2 * os.length + m + 100 <= n) :
    ∃ h' Y' T, call (n + 8) 17 [.ptr o 0, .sl 2 (os.map O.w) osb] h = some (.ret [.row T 2 0 os.length], h') /\ RowR h' T (KF k m os st).2 /\ ObAt k h' o s c cb Y' m pl (KF k m os st).1 /\ h.length <= T /\ T ∉ obB o c cb Y' /\ XFed h h' (obB o c cb Y) (obB o c cb Y') := by
 have hkk := A.body.kind
 obtain ⟨h', Y', T, e, b1, b2, b3, b4, b5, b6, b7⟩ := zos n pl A.body A.bits A.room A.most A.cY A.cbY os osb hk hos hn
 have hol := zQ A.box
 have hA := A.lt
 have oX : o ∉ c :: Y := by
  intro ho
  rcases zF.1 ho with e | e
  · exact A.oc e
  · exact A.oY e
 have hcl := A.bits.clt
 refine ⟨h', Y', T, ?_, b1, ⟨(b7.old o hol oX).trans A.box, b3, b2, b4, A.most, A.oc, A.ocb, ?_, ?_, ?_⟩, b5, ?_, ⟨b7.len, fun i h1 h2 => b7.old i h1 (fun hm => h2 ?_), fun x hx => ?_⟩⟩
 · rw [show n + 8 = (n + 7) + 1 from rfl, znJ]
   unfold zpX
   rw [Jg, zb, zo, if_neg (by decide), zx A.box, zl, if_pos (by decide)]
   simp only [za, zi, zb]
   rw [zo]
   cases pl with
   | true =>
     rw [if_pos rfl, zx A.box, zl, if_pos (by decide)]
     simp only [za, zi, zb]
     rw [zx A.box, zl, if_pos (by decide)]
     simp only [za, zi, zb]
     rw [if_pos (by rfl)]
     show bd2 (Qq prog (ziI k) (.agg [.ptr s 0]) "reaper/object.plain") _ = _
     rw [zj7 hkk, Zd, if_pos (zlg hkk true)]
     show clH (call (n + 7) (zj6 k true) [.agg [.ptr s 0], .ptr c 0, .sl 2 (os.map O.w) osb] h) _ = _
     rw [e]
     rfl
   | false =>
     rw [if_neg (by decide), zx A.box, zl, if_pos (by decide)]
     simp only [za, zi, zb]
     rw [zx A.box, zl, if_pos (by decide)]
     simp only [za, zi, zb]
     rw [if_pos (by rfl)]
     show bd2 (Qq prog (ziI k) (.agg [.ptr s 0]) "reaper/object.batch") _ = _
     rw [zj8 hkk, Zd, if_pos (zlg hkk false)]
     show clH (call (n + 7) (zj6 k false) [.agg [.ptr s 0], .ptr c 0, .sl 2 (os.map O.w) osb] h) _ = _
     rw [e]
     rfl
 · intro hy
   rcases b7.new o hy with e1 | e1
   · exact A.oY e1
   · omega
 · intro hy
   rcases b7.new c hy with e1 | e1
   · exact A.cY e1
   · omega
 · intro b hb hy
   rcases b7.new b hy with e1 | e1
   · exact A.cbY b hb e1
   · have := (hb ▸ A.bits).blt; omega
 · intro hT
   simp only [obB, zF, Zm] at hT
   rcases hT with e1 | e1 | e1 | e1
   · omega
   · omega
   · cases cb with
     | none => simp at e1
     | some b => simp at e1; have := A.bits.blt; omega
   · exact b6 e1
 · rcases zF.1 hm with e1 | e1
   · simp [obB, e1]
   · simp [obB, e1]
 · simp only [obB, zF, Zm] at hx ⊢
   rcases hx with e1 | e1 | e1 | e1
   · exact .inl (.inl e1)
   · exact .inl (.inr (.inl e1))
   · exact .inl (.inr (.inr (.inl e1)))
   · rcases b7.new x e1 with e2 | e2
     · exact .inl (.inr (.inr (.inr e2)))
     · exact .inr e2
def SlJ (h : ze) (lo : Nat) (r : V) (l : List Int) : Prop := SlI h lo r l \/ r = .sl 1 (l.map (XA .i32)) false
theorem SlJ.sees {h : ze} {lo : Nat} {r : V} {l : List Int} (s : SlJ h lo r l) : zbF h r l := by
 rcases s with s | rfl
 · exact s.sees
 · exact ⟨⟨1, QX ..⟩, fun i x hx => ⟨_, QW (es := XA .i32 x) (by rw [zJ, hx]; rfl) false, XP ..⟩⟩
theorem SlI.keepB {h h' : ze} {lo : Nat} {r : V} {l : List Int} (s : SlI h lo r l) (hk : ∀ b, lo <= b -> b < h.length -> h'[b]? = h[b]?) : SlI h' lo r l := by
 rcases s with s | ⟨b, z, h1, h2, h3⟩
 · exact .inl s
 · exact .inr ⟨b, z, h1, h2, (hk b h1 (zQ h3)).trans h3⟩
theorem SlJ.keep {h h' : ze} {lo : Nat} {r : V} {l : List Int} (s : SlJ h lo r l) (hk : ∀ b, lo <= b -> b < h.length -> h'[b]? = h[b]?) : SlJ h' lo r l := s.imp (fun s => s.keepB hk) id
theorem zqW {ts : List Tw} (hh : ∀ t ∈ ts, 1 <= t.ht) : lvV 0 ts = (itT ts).map Prod.fst := by
 unfold lvV itT
 rw [List.map_map, Xe.2 (fun t ht => by have := hh t ht; simp; omega)]
 rfl
theorem zj9 {k : Nat} (hk : k = 1 \/ k = 2 \/ k = 3) (s : Nat) : Qq prog (ziI k) (.agg [.ptr s 0]) "Items" = some (if k = 1 then 168 else if k = 2 then 191 else 217, .ptr s 0) := by
 rcases hk with rfl | rfl | rfl
 · show Qq prog 112 (.agg [.ptr s 0]) "Items" = some (168, .ptr s 0); kernel_rfl
 · show Qq prog 116 (.agg [.ptr s 0]) "Items" = some (191, .ptr s 0); kernel_rfl
 · show Qq prog 120 (.agg [.ptr s 0]) "Items" = some (217, .ptr s 0); kernel_rfl
theorem zot {k : Nat} (hk : k = 1 \/ k = 2 \/ k = 3) : X9 (if k = 1 then 168 else if k = 2 then 191 else 217) = true /\ okV prog 27 (if k = 1 then 168 else if k = 2 then 191 else 217) = true := by
 rcases hk with rfl | rfl | rfl
 · show X9 168 = true /\ okV prog 27 168 = true; exact ⟨by kernel_rfl, by kernel_rfl⟩
 · show X9 191 = true /\ okV prog 27 191 = true; exact ⟨by kernel_rfl, by kernel_rfl⟩
 · show X9 217 = true /\ okV prog 27 217 = true; exact ⟨by kernel_rfl, by kernel_rfl⟩
theorem zds (n : Nat) {k : Nat} {h : ze} {s : Nat} {Y : List Nat} {m : Nat} {its : List (Int × Nat)} (B : BodAt k h s Y m its) (room : its.length <= m) (hm : m <= 1000) (hn : m + 10 < n) :
    ∃ h' r, call (n + 3) (if k = 1 then 168 else if k = 2 then 191 else 217) [.ptr s 0] h = some (.ret [r], h') /\ SlJ h' h.length r (its.map Prod.fst) /\ h.length <= h'.length /\ ∀ i, i < h.length -> h'[i]? = h[i]? := by
 have hlim : 1000000 < lim := by unfold lim; omega
 rcases B with ⟨rfl, xs, qb, rfl, S, rfl⟩ | ⟨rfl, xs, b, rfl, RR, rfl⟩ | ⟨rfl, ts, rfl, ⟨N, S⟩, rfl⟩
 · rw [Wi] at room
   rw [zbZ]
   exact ⟨h ++ [HB.row 21 1 (xs.map WO) true], .row h.length 1 0 xs.length, K1 (n + 2) S (by omega), .inl (.inr ⟨h.length, true, zm _, rfl, zD⟩), by simp, fun i hi => zj hi⟩
 · rw [Wi] at room
   rw [zbZ]
   obtain ⟨h', r, z, e, b1, b2, b3, b4⟩ := zdi n RR (by omega) (by omega)
   exact ⟨h', _, e, .inl (.inr ⟨r, z, b2, rfl, b1⟩), b3, b4⟩
 · rw [Q4] at room
   obtain ⟨h', r, e, b1, b2, b3⟩ := zjT n S (by omega) (by omega)
   rw [zqW (fun t ht => (S.ht t ht).1)] at b1
   exact ⟨h', r, e, .inl b1, b2, b3⟩
theorem Wj (n : Nat) {k : Nat} {h : ze} {o s c : Nat} {cb : Option Nat} {Y : List Nat} {m : Nat} {pl : Bool} {st : St} (A : ObAt k h o s c cb Y m pl st) (hn : m + 10 < n) :
    ∃ h' r, call (n + 4) 20 [.ptr o 0] h = some (.ret [r], h') /\ SlJ h' h.length r (st.1.map Prod.fst) /\ h.length <= h'.length /\ ∀ i, i < h.length -> h'[i]? = h[i]? := by
 have hkk := A.body.kind
 obtain ⟨h', r, e, b1, b2, b3⟩ := zds n A.body A.room A.most hn
 refine ⟨h', r, ?_, b1, b2, b3⟩
 rw [show n + 4 = (n + 3) + 1 from rfl, zhE]
 unfold zhD
 rw [Jg, zb, zo, if_neg (by decide), zx A.box, zl, if_pos (by decide)]
 simp only [za, zi, zb]
 show bd2 (Qq prog (ziI k) (.agg [.ptr s 0]) "Items") _ = _
 rw [zj9 hkk, Zd, if_pos (zot hkk)]
 show cl (call (n + 3) _ [.ptr s 0] h) _ _ = _
 rw [e, zK, zw]
theorem zgb (n : Nat) {k : Nat} {h : ze} {o s c : Nat} {cb : Option Nat} {Y : List Nat} {m : Nat} {pl : Bool} {st : St} (A : ObAt k h o s c cb Y m pl st) (bs : List Int) (bb : Bool) (hs : YF bs = true) (hl : st.2.length + 8 * bs.length <= 20000) (hn : bs.length + 8 < n) :
    ∃ h' cb', call (n + 2) 23 [.ptr o 0, .sl 1 (bs.map (XA .u8)) bb] h = some (.ret [], h') /\ ObAt k h' o s c cb' Y m pl (st.1, st.2 ++ bs.flatMap qg) /\ XFed h h' (obB o c cb Y) (obB o c cb' Y) := by
 obtain ⟨h', cb', e, b1, b2⟩ := zl3 n A.bits bs bb hs hl hn
 have hol := zQ A.box
 have hYl := A.body.lt
 have hnew : ∀ b, cb' = some b -> cb = some b \/ h.length <= b := b2.own
 have hY : ∀ y ∈ Y, h'[y]? = h[y]? := fun y hy => b2.old y (hYl y hy) (fun e => A.cY (e ▸ hy)) (fun e => A.cbY y e hy)
 refine ⟨h', cb', ?_, ⟨(b2.old o hol A.oc A.ocb).trans A.box, b1, A.body.keep hY, A.room, A.most, A.oc, fun e => ?_, A.oY, A.cY, fun b hb hy => ?_⟩, ⟨b2.len, fun i h1 h2 => b2.old i h1 (fun e => h2 (by simp [obB, e])) (fun e => h2 (by simp [obB, e])), fun x hx => ?_⟩⟩
 · rw [show n + 2 = (n + 1) + 1 from rfl, zjJ]
   unfold zkW
   rw [zaf, zb, zo, if_pos rfl, zx A.box, zl, if_pos (by decide)]
   simp only [za, zi, zb]
   rw [e, zK]
 · rcases hnew o e with k1 | k1
   · exact A.ocb k1
   · omega
 · rcases hnew b hb with k1 | k1
   · exact A.cbY b k1 hy
   · have := hYl b hy; omega
 · simp only [obB, zF, Zm] at hx ⊢
   rcases hx with e1 | e1 | e1 | e1
   · exact .inl (.inl e1)
   · exact .inl (.inr (.inl e1))
   · cases cb' with
     | none => simp at e1
     | some b =>
       simp at e1; subst e1
       rcases hnew _ rfl with k1 | k1
       · exact .inl (.inr (.inr (.inl (by simp [k1]))))
       · exact .inr k1
   · exact .inl (.inr (.inr (.inr e1)))
def zpr : List (V × V) := [(.int .u8 1, .fn 56 []), (.int .u8 2, .fn 58 []), (.int .u8 3, .fn 60 [])]
noncomputable def zag (n F : Nat) (m : Int) (p : Bool) (h : ze) : Option (Res × ze) :=
 (cl (call n F [(V.int .i64 m)] h) (fun r16 h17 =>
 (Zs r16 fun v19 =>
 (cl (call n 62 [] h17) (fun r20 h21 =>
 (Zs r20 fun v23 =>
 (bd (Ji prog 125 [(0, v19), (1, v23), (2, (V.bool p))]) fun cs24 =>
 (if (cs24).length = 3 then
 some (Res.ret [(V.ptr (h21).length 0)], (h21 ++ [(HB.box 3 cs24)])) else none)))) (fun z22 h21 => some (Res.pan z22, h21))))) (fun z18 h17 => some (Res.pan z18, h17)))
theorem zou (n : Nat) (m : Int) (p : Bool) : call (n + 1) 15 [.int .u8 1, .int .i64 m, .bool p] [] = zag n 56 m p [.map zpr] := by kernel_rfl
theorem zov (n : Nat) (m : Int) (p : Bool) : call (n + 1) 15 [.int .u8 2, .int .i64 m, .bool p] [] = zag n 58 m p [.map zpr] := by kernel_rfl
theorem zow (n : Nat) (m : Int) (p : Bool) : call (n + 1) 15 [.int .u8 3, .int .i64 m, .bool p] [] = zag n 60 m p [.map zpr] := by kernel_rfl
def jg (m : Int) : Nat := (if 0 < (if 1000 < m then 1000 else m) then (if 1000 < m then 1000 else m) else 0).toNat
theorem zlh (m : Int) : (if 0 < (if 1000 < m then 1000 else m) then (if 1000 < m then 1000 else m) else 0) = ((jg m : Nat) : Int) := by
 unfold jg
 (repeat' split) <;> omega
theorem zli (m : Int) : jg m <= 1000 := by
 unfold jg
 (repeat' split) <;> omega
theorem zox (m : Int) : max 0 (min m 1000) = ((jg m : Nat) : Int) := by
 unfold jg
 (repeat' split) <;> omega
theorem zgc (n : Nat) (h : ze) (m : Int) : call (n + 1) 57 [.int .i64 m] h = some (.ret [.ptr h.length 0], h ++ [.box 2 [.sl 0 [] true, .int .i64 (jg m : Int)]]) := by
 rw [zlU, <- zlh]
 rfl
theorem zgd (n : Nat) (h : ze) (m : Int) : call (n + 1) 59 [.int .i64 m] h = some (.ret [.ptr (h.length + 1) 0], h ++ [.row 21 1 (List.replicate (jg m) [.int .i32 0]) true, .box 3 [.row h.length 1 0 (jg m), .int .i64 0, .int .i64 0]]) := by
 have hc := zli m
 rw [zl5]
 unfold znx
 rw [zlh, Zo, zH, zH, if_pos ⟨zm _, by unfold lim; omega, by first | trivial | rfl⟩]
 simp
def zqX (k : Nat) : Nat := if k = 1 then 56 else if k = 2 then 58 else 60
theorem zoy (v : V) (s : Nat) : Ji prog 112 [(0, .ptr s 0)] = some [.ptr s 0] := by kernel_rfl
theorem zoz (s : Nat) : Ji prog 116 [(0, .ptr s 0)] = some [.ptr s 0] := by kernel_rfl
theorem zoA (s : Nat) : Ji prog 120 [(0, .ptr s 0)] = some [.ptr s 0] := by kernel_rfl
theorem zoB (t : Nat) (v : V) (c : Nat) (p : Bool) : Ji prog 125 [(0, .iface t v), (1, .ptr c 0), (2, .bool p)] = some [.iface t v, .ptr c 0, .bool p] := by kernel_rfl
theorem zps (n : Nat) {k : Nat} (hk : k = 1 \/ k = 2 \/ k = 3) (m : Int) (g : ze) : ∃ g' s Y, call (n + 2) (zqX k) [.int .i64 m] g = some (.ret [zdr k s], g') /\ BodAt k g' s Y (jg m) [] /\ g.length <= g'.length /\ (∀ i, i < g.length -> g'[i]? = g[i]?) /\ ∀ y ∈ Y, g.length <= y := by
 rcases hk with rfl | rfl | rfl
 · refine ⟨_, _, [g.length], ?_, .inl ⟨rfl, [], none, rfl, ⟨rfl, zD⟩, rfl⟩, by simp, fun i hi => zj hi, by simp⟩
   show call (n + 1 + 1) 56 [.int .i64 m] g = _
   rw [zjG]
   unfold zkT
   rw [zgc, zK, zw, zoy (.bool true), zb]
   rfl
 · refine ⟨g ++ [.row 21 1 (List.replicate (jg m) [.int .i32 0]) true, .box 3 [.row g.length 1 0 (jg m), .int .i64 0, .int .i64 0]], g.length + 1, [g.length + 1, g.length], ?_, .inr (.inl ⟨rfl, [], g.length, rfl, ⟨by omega, List.replicate (jg m) [.int .i32 0], true, 0, ?_, ?_, by simp, ?_, by simp, by simp, ?_⟩, rfl⟩), by simp, fun i hi => zj hi, by simp⟩
   · show call (n + 1 + 1) 58 [.int .i64 m] g = _
     rw [zjH]
     unfold zkU
     rw [zgd, zK, zw, zoz, zb]
     rfl
   · rw [zG (by omega), Xh]; rfl
   · rw [zG (by omega), Q6]; rfl
   · omega
   · intro es hes; rw [(List.mem_replicate.1 hes).2]; rfl
 · obtain ⟨N, e, S⟩ := zig n g m
   rw [zox] at e S
   refine ⟨_, g.length, [g.length], ?_, .inr (.inr ⟨rfl, [], rfl, ⟨N, S⟩, rfl⟩), by simp, fun i hi => zj hi, by simp⟩
   show call (n + 1 + 1) 60 [.int .i64 m] g = _
   rw [zjI]
   unfold zkV
   rw [e, zK, zw, zoA, zb]
   rfl
theorem zpt (n : Nat) {k : Nat} (hk : k = 1 \/ k = 2 \/ k = 3) (m : Int) (pl : Bool) (g : ze) : ∃ h' o s c Y, zag (n + 2) (zqX k) m pl g = some (.ret [.ptr o 0], h') /\ ObAt k h' o s c none Y (jg m) pl ([], []) /\ g.length <= h'.length /\ (∀ i, i < g.length -> h'[i]? = g[i]?) /\ ∀ x ∈ obB o c none Y, g.length <= x := by
 obtain ⟨g', s, Y, e, B, b1, b2, b3⟩ := zps n hk m g
 have hY := B.lt
 have k1 : ∀ i, i < g'.length -> ((g' ++ [HB.box 1 [V.sl 0 [] true]]) ++ [HB.box 3 [zdr k s, .ptr g'.length 0, .bool pl]])[i]? = g'[i]? := fun i hi => by
  rw [zj (by simp; omega), zj hi]
 refine ⟨(g' ++ [HB.box 1 [V.sl 0 [] true]]) ++ [HB.box 3 [zdr k s, .ptr g'.length 0, .bool pl]], g'.length + 1, s, g'.length, Y, ?_, ⟨?_, ⟨rfl, ?_⟩, B.keep (fun y hy => k1 y (hY y hy)), Zh _, zli m, by omega, by simp, fun hy => by have := hY _ hy; omega, fun hy => by have := hY _ hy; omega, by simp⟩, by simp; omega, fun i hi => (k1 i (by omega)).trans (b2 i hi), ?_⟩
 · unfold zag
   rw [e, zK, zw, zdJ, zK, zw]
   unfold zdr
   rw [zoB, zb, if_pos (by rfl)]
   simp
 · rw [zG (by simp)]; simp
 · rw [zj (by simp), zD]
 · intro x hx
   simp only [obB, zF, Zm, Option.toList_none, List.not_mem_nil, false_or] at hx
   rcases hx with e1 | e1 | e1
   · omega
   · omega
   · exact b3 x e1
theorem ziJ (n : Nat) {k : Nat} (hk : k = 1 \/ k = 2 \/ k = 3) (m : Int) (pl : Bool) : ∃ h' o s c Y, call (n + 3) 15 [.int .u8 (k : Int), .int .i64 m, .bool pl] [] = some (.ret [.ptr o 0], h') /\ ObAt k h' o s c none Y (jg m) pl ([], []) := by
 obtain ⟨h', o, s, c, Y, e, A, _⟩ := zpt n hk m pl [.map zpr]
 refine ⟨h', o, s, c, Y, ?_, A⟩
 rw [<- e]
 rcases hk with rfl | rfl | rfl
 · exact zou (n + 2) m pl
 · exact zov (n + 2) m pl
 · exact zow (n + 2) m pl
end Go.Proofs.Tryz
namespace Go.Proofs.Tryz
open Go.L Go.Rp Go.Sk
set_option maxRecDepth 100000
theorem zpu (s : Nat) : jC prog 120 true (.iface 120 (.agg [.ptr s 0])) = some (.agg [.ptr s 0], true) := by kernel_rfl
theorem zpv (s : Nat) : jC prog 120 true (.iface 112 (.agg [.ptr s 0])) = some (.agg [.val (.pointer none)], false) := by kernel_rfl
theorem zpw (s : Nat) : jC prog 120 true (.iface 116 (.agg [.ptr s 0])) = some (.agg [.val (.pointer none)], false) := by kernel_rfl
def lvI (k j : Nat) (its : List (Int × Nat)) : List Int := if k = 3 then (its.filter fun p => decide (j < p.2)).map Prod.fst else []
theorem zqr (j : Nat) (ts : List Tw) : lvV j ts = ((itT ts).filter fun p => decide (j < p.2)).map Prod.fst := by
 unfold lvV itT
 induction ts with
 | nil => rfl
 | cons t ts ih =>
   rw [zU, QS, QS]
   by_cases h : j < t.ht
   · simp [h, ih]
   · simp [h, ih]
theorem jS (n : Nat) {k : Nat} {h : ze} {o s c : Nat} {cb : Option Nat} {Y : List Nat} {m : Nat} {pl : Bool} {st : St} (A : ObAt k h o s c cb Y m pl st) {j : Nat} (hj : j < 8) (hn : m + 10 < n) :
    ∃ h' r, call (n + 3) 29 [.ptr o 0, .int .i64 ((j + 1 : Nat) : Int)] h = some (.ret [r], h') /\ SlJ h' h.length r (lvI k j st.1) /\ h.length <= h'.length /\ ∀ i, i < h.length -> h'[i]? = h[i]? := by
 have hroom := A.room
 have hmost := A.most
 rcases A.body with ⟨rfl, xs, qb, hi, S, rfl⟩ | ⟨rfl, xs, b, hi, RR, rfl⟩ | ⟨rfl, ts, hi, ⟨N, S⟩, rfl⟩
 · refine ⟨h, _, ?_, .inr rfl, zm _, fun _ _ => rfl⟩
   rw [show n + 3 = (n + 2) + 1 from rfl, zaD]
   unfold zfs
   rw [Jg, zb, zo, if_neg (by decide), zx A.box, zl, if_pos (by decide)]
   simp only [za, zb]
   show bd2 (jC prog 120 true (.iface 112 (.agg [.ptr s 0]))) _ = _
   rw [zpv, Zd, if_pos (by rfl), if_pos (by exact zm 1), if_pos (by rfl)]
   rfl
 · refine ⟨h, _, ?_, .inr rfl, zm _, fun _ _ => rfl⟩
   rw [show n + 3 = (n + 2) + 1 from rfl, zaD]
   unfold zfs
   rw [Jg, zb, zo, if_neg (by decide), zx A.box, zl, if_pos (by decide)]
   simp only [za, zb]
   show bd2 (jC prog 120 true (.iface 116 (.agg [.ptr s 0]))) _ = _
   rw [zpw, Zd, if_pos (by rfl), if_pos (by exact zm 1), if_pos (by rfl)]
   rfl
 · rw [hi, Q4] at hroom
   obtain ⟨h', r, e, b1, b2, b3⟩ := zdh n S hj (by unfold lim; omega) (by omega)
   refine ⟨h', r, ?_, .inl (by rw [hi]; show SlI h' h.length r (if 3 = 3 then _ else []); rw [if_pos rfl, <- zqr]; exact b1), b2, b3⟩
   rw [show n + 3 = (n + 2) + 1 from rfl, zaD]
   unfold zfs
   rw [Jg, zb, zo, if_neg (by decide), zx A.box, zl, if_pos (by decide)]
   simp only [za, zb]
   show bd2 (jC prog 120 true (.iface 120 (.agg [.ptr s 0]))) _ = _
   rw [zpu, Zd, if_pos (by rfl), if_pos (by exact zm 1), if_neg (by decide)]
   show bd (some (V.ptr s 0)) _ = _
   rw [zb, e, zK, zw]
end Go.Proofs.Tryz
namespace Go.Proofs.Tryz
open Go.L Go.Rp Go.Sk
set_option maxRecDepth 100000
end Go.Proofs.Tryz
namespace Go.Proofs.Tryz
open Go.L
set_option maxRecDepth 100000
end Go.Proofs.Tryz
namespace Go.Proofs.Tryz
open Go.L
set_option maxRecDepth 100000
end Go.Proofs.Tryz
namespace Go.Proofs.Tryz
open Go.L
set_option maxRecDepth 100000
end Go.Proofs.Tryz
namespace Go.Proofs.Tryz
open Go.L Go.Rp Go.Sk
set_option maxRecDepth 100000
end Go.Proofs.Tryz
namespace Go.Proofs.Tryz
open Go.L Go.Rp Go.Sk
set_option maxRecDepth 100000
end Go.Proofs.Tryz
namespace Go.Proofs.Tryz
open Go.L Go.Rp Go.Sk
set_option maxRecDepth 100000
def ziK (h : ze) (r : V) (l : List R) : Prop := (∃ sz, Xq h r = some (sz, l.map R.w)) /\ ∀ (i : Nat) (x : R), l[i]? = some x -> ∃ p, Xa 2 i r = some p /\ zu h p = some (R.w x, 2, 0)
theorem RowR.sees {h : ze} {b : Nat} {l : List R} (r : RowR h b l) : ziK h (.row b 2 0 l.length) l := ⟨⟨2, r.slc⟩, fun i x hx => ⟨_, r.get hx 0⟩⟩
theorem zpx (a b c d : Int) : bop prog .neq 35 (.agg [.int .u8 a, .int .i32 b]) (.agg [.int .u8 c, .int .i32 d]) = some (.bool !(a == c && (b == d && true))) := by kernel_rfl
theorem zka (n : Nat) {h : ze} {a b : V} {l : List R} (ha : ziK h a l) (hb : ziK h b l) (hl : l.length < lim) : ∀ (d i M : Nat) (v0 : V), i + d = l.length -> d < M -> Ze M (jf n a b) [v0, .int .i64 (i : Int)] h = some (.ret [.bool true], h) := by
 obtain ⟨⟨sa, hsa⟩, ga⟩ := ha
 intro d
 induction d with
 | zero =>
   intro i M v0 h1 h2
   obtain ⟨M, rfl⟩ : ∃ M', M = M' + 1 := ⟨M - 1, by omega⟩
   obtain rfl : i = l.length := by omega
   rw [zL]
   unfold jf
   rw [hsa, zb]
   simp only [gv, zg, zk, zA, zC, zb, zo]
   rw [if_neg (by simp)]
 | succ d ih =>
   intro i M v0 h1 h2
   obtain ⟨M, rfl⟩ : ∃ M', M = M' + 1 := ⟨M - 1, by omega⟩
   obtain ⟨x, hx⟩ : ∃ x, l[i]? = some x := ⟨_, zf (by omega)⟩
   obtain ⟨p, p1, p2⟩ := ga i x hx
   obtain ⟨q, q1, q2⟩ := hb.2 i x hx
   have hlt : decide ((i : Int) < (l.length : Int)) = true := by simp; omega
   have hc : V.agg (List.take 2 (List.drop 0 (R.w x))) = .agg [.int .u8 x.c, .int .i32 x.v] := rfl
   have key : ∀ next, jf n a b [v0, .int .i64 (i : Int)] h next = next [v0, .int .i64 ((i + 1 : Nat) : Int)] h := by
    intro next
    unfold jf
    rw [hsa, zb]
    simp only [gv, zg, zk, zA, zC, zb, zo, hlt, if_true, Zo, zH, p1, p2, q1, q2, zl, zr, zm, Nat.reduceLT, and_self, hc, zpx, zM, XF (show i < lim by omega)]
    rw [if_neg (by simp)]
   rw [zL, key]
   exact ih (i + 1) M v0 (by omega) (by omega)
theorem zkb (n : Nat) {h : ze} {a b : V} {l : List R} (ha : ziK h a l) (hb : ziK h b l) (hl : l.length < lim) (hn : l.length < n) : call (n + 1) 24 [a, b] h = some (.ret [.bool true], h) := by
 refine (zoq n a b h).trans ?_
 unfold zp4
 obtain ⟨sa, hsa⟩ := ha.1
 obtain ⟨sb, hsb⟩ := hb.1
 rw [hsa, zb, hsb, zb, if_neg (by simp)]
 exact zka n ha hb hl l.length 0 n (.bool false) (by omega) hn
end Go.Proofs.Tryz
namespace Go.Proofs.Tryz
open Go.L Go.Rp Go.Sk
set_option maxRecDepth 100000
end Go.Proofs.Tryz
namespace Go.Rp
end Go.Rp
namespace Go.L
open Go.ChangeShapes Go.WideShapes Go.Rp
section
variable {H : Type} {enc : TypeId × Value -> H} {P : Program} {w : World} {held : Bool}
end
end Go.L
namespace Go.Sk
open Go.L Go.Rp
end Go.Sk
namespace Go.Proofs.Tryz
open Go.L Go.Rp Go.Sk
set_option maxRecDepth 100000
theorem zoC (k m : Nat) (os : List O) (st : St) : (KF k m os st).2.length = os.length := by
 unfold KF
 split
 · exact zc8 ..
 split
 · exact zc9 ..
 · unfold jc; rw [ziz]; simp
theorem zkc {c : List Int} {kinds : Int} (hc : YF c = true) (hk : 1 <= kinds) (hk2 : kinds <= 100) : ∀ o ∈ ops c kinds, 0 <= o.k /\ o.k < 256 := by
 intro o ho
 unfold ops at ho
 obtain ⟨x, hx, rfl⟩ := ZF.1 ho
 have h1 := Int.emod_nonneg x (show kinds ≠ 0 by omega)
 have h2 := Int.emod_lt_of_pos x (show 0 < kinds by omega)
 unfold Go.Rp.opOf
 simp only
 omega
theorem zkd {m : Nat} (h : m <= 1000) : jg (m : Int) = m := by
 unfold jg
 (repeat' split) <;> omega
theorem ziL : ∀ (l : List Bool) (n : Nat), (hgt n l).2.length <= l.length
 | [], n => zm _
 | b :: r, n => by
   simp only [hgt]
   split
   · exact zm _
   · split
     · have := ziL r (n + 1); simp; omega
     · simp
theorem zoD (m : Int) (st : St) (o : O) : (stp m st o).1.2.length <= st.2.length := by
 unfold stp
 split
 · split
   · exact zm _
   · exact ziL ..
 · split
   · split <;> exact zm _
   · exact zm _
theorem zeY (os : List O) (m : Int) : ∀ (l : List Int) (st : St) (told : List R), (WC os m l st told).1.2.length <= st.2.length
 | [], st, told => zm _
 | k :: l, st, told => Z2 (zeY os m l _ _) (zoD m st _)
theorem zms (k m : Nat) (os : List O) (st : St) : (KF k m os st).1.2.length <= st.2.length := by
 unfold KF
 split
 · exact zm _
 split
 · exact zm _
 · exact zeY ..
theorem zke (l : List Int) : (l.flatMap qg).length = 8 * l.length := by
 induction l with
 | nil => rfl
 | cons x l ih => rw [List.flatMap_cons, zE, ih]; simp [qg]; omega
end Go.Proofs.Tryz
namespace Go.Proofs.Tryz
open Go.L Go.Rp Go.Sk
set_option maxRecDepth 100000
end Go.Proofs.Tryz
namespace Go.Proofs.Tryz
open Go.L Go.Rp Go.Sk
set_option maxRecDepth 100000
def Two (p q : Bool) (k m : Nat) (h : ze) (oa sa ca ob sb cc : Nat) (st : St) : Prop := ∃ cba Ya cbb Yb, ObAt k h oa sa ca cba Ya m p st /\ ObAt k h ob sb cc cbb Yb m q st /\ ∀ x ∈ obB oa ca cba Ya, x ∉ obB ob cc cbb Yb
section
variable {p q : Bool} {k m : Nat} {h : ze} {oa sa ca ob sb cc : Nat} {st : St}
theorem Two.keep {h' : ze} (A : Two p q k m h oa sa ca ob sb cc st) (hk : ∀ i, i < h.length -> h'[i]? = h[i]?) : Two p q k m h' oa sa ca ob sb cc st := by
 obtain ⟨cba, Ya, cbb, Yb, A1, A2, dis⟩ := A
 exact ⟨cba, Ya, cbb, Yb, A1.keep (fun y hy => hk y (A1.lt y hy)), A2.keep (fun y hy => hk y (A2.lt y hy)), dis⟩
theorem zqs (n : Nat) (A : Two p q k m h oa sa ca ob sb cc st) (os : List O) (osb : Bool) (hk : ∀ o ∈ os, 0 <= o.k /\ o.k < 256) (hos : os.length <= 1000) (hn : 2 * os.length + m + 100 <= n) :
    ∃ h1 T1 h2 T2, call (n + 8) 17 [.ptr oa 0, .sl 2 (os.map O.w) osb] h = some (.ret [.row T1 2 0 os.length], h1) /\ call (n + 8) 17 [.ptr ob 0, .sl 2 (os.map O.w) osb] h1 = some (.ret [.row T2 2 0 os.length], h2) ∧
     RowR h2 T1 (KF k m os st).2 /\ RowR h2 T2 (KF k m os st).2 /\ Two p q k m h2 oa sa ca ob sb cc (KF k m os st).1 := by
 obtain ⟨cba, Ya, cbb, Yb, A1, A2, dis⟩ := A
 obtain ⟨h1, Y1, T1, e1, R1, B1, t1, u1, F1⟩ := Ky n A1 os osb hk hos hn
 have A2' := A2.keep (h' := h1) (fun y hy => F1.old y (A2.lt y hy) (fun hx => dis y hx hy))
 obtain ⟨h2, Y2, T2, e2, R2, B2, t2, u2, F2⟩ := Ky n A2' os osb hk hos hn
 have dis1 : ∀ x ∈ obB oa ca cba Y1, x ∉ obB ob cc cbb Yb := fun x hx hy => by
  rcases F1.new x hx with h0 | h0
  · exact dis x h0 hy
  · have := A2.lt x hy; omega
 have hT1 : T1 < h1.length := by obtain ⟨z, hz⟩ := R1; exact zQ hz
 have hT1' : T1 ∉ obB ob cc cbb Yb := fun hy => by have := A2.lt _ hy; omega
 refine ⟨h1, T1, h2, T2, e1, e2, R1.keep (F2.old T1 hT1 hT1'), R2, cba, Y1, cbb, Y2, B1.keep (fun y hy => F2.old y (B1.lt y hy) (dis1 y hy)), B2, fun x hx hy => ?_⟩
 rcases F2.new x hy with h0 | h0
 · exact dis1 x hx h0
 · have := B1.lt x hx; omega
theorem zmt (n : Nat) (A : Two p q k m h oa sa ca ob sb cc st) (hn : m + 10 < n) :
    ∃ h1 r1 h2 r2, call (n + 4) 20 [.ptr oa 0] h = some (.ret [r1], h1) /\ call (n + 4) 20 [.ptr ob 0] h1 = some (.ret [r2], h2) /\ zbF h2 r1 (st.1.map Prod.fst) /\ zbF h2 r2 (st.1.map Prod.fst) /\ Two p q k m h2 oa sa ca ob sb cc st := by
 have A' := A
 obtain ⟨cba, Ya, cbb, Yb, A1, A2, dis⟩ := A
 obtain ⟨h1, r1, e1, S1, l1, o1⟩ := Wj n A1 hn
 obtain ⟨h2, r2, e2, S2, l2, o2⟩ := Wj n (A2.keep (h' := h1) (fun y hy => o1 y (A2.lt y hy))) hn
 exact ⟨h1, r1, h2, r2, e1, e2, (S1.keep (fun b _ hb => o2 b hb)).sees, S2.sees, A'.keep (fun i hi => (o2 i (by omega)).trans (o1 i hi))⟩
theorem zmu (n : Nat) (A : Two p q k m h oa sa ca ob sb cc st) {j : Nat} (hj : j < 8) (hn : m + 10 < n) :
    ∃ h1 r1 h2 r2, call (n + 3) 29 [.ptr oa 0, .int .i64 ((j + 1 : Nat) : Int)] h = some (.ret [r1], h1) /\ call (n + 3) 29 [.ptr ob 0, .int .i64 ((j + 1 : Nat) : Int)] h1 = some (.ret [r2], h2) /\ zbF h2 r1 (lvI k j st.1) /\ zbF h2 r2 (lvI k j st.1) /\ Two p q k m h2 oa sa ca ob sb cc st := by
 have A' := A
 obtain ⟨cba, Ya, cbb, Yb, A1, A2, dis⟩ := A
 obtain ⟨h1, r1, e1, S1, l1, o1⟩ := jS n A1 hj hn
 obtain ⟨h2, r2, e2, S2, l2, o2⟩ := jS n (A2.keep (h' := h1) (fun y hy => o1 y (A2.lt y hy))) hj hn
 exact ⟨h1, r1, h2, r2, e1, e2, (S1.keep (fun b _ hb => o2 b hb)).sees, S2.sees, A'.keep (fun i hi => (o2 i (by omega)).trans (o1 i hi))⟩
end
theorem zpy (k j : Nat) (its : List (Int × Nat)) : (lvI k j its).length <= its.length := by
 unfold lvI
 split
 · rw [zA]; exact List.length_filter_le _ _
 · exact Zh _
end Go.Proofs.Tryz
namespace Go.Proofs.Tryz
open Go.L
set_option maxRecDepth 100000
noncomputable def zlj (n : Nat) (s : Nat) (h : ze) : Option (Res × ze) :=
 (bd (X1 prog h .eql 113 (V.ptr s 0) (V.val (.pointer none))) fun v0 =>
 (bv v0 fun b1 => if b1 then
 (cl (call n 59 [(V.int .i64 0)] h) (fun r2 h3 =>
 (Zs r2 fun v5 =>
 some (Res.ret [v5], h3))) (fun z4 h3 => some (Res.pan z4, h3)))
 else
 (bd3 (zu h (V.ptr s 0)) fun cs7 m6 o8 => if (o8 + 1 <= m6 /\ 0 < 1) then
 (bd (cs7)[o8]? fun v9 =>
 (bd (Xq h v9) fun p10 =>
 (if ((p10.1 = 1 \/ (p10.2).isEmpty = true) /\ (p10.2).length < lim) then
 (bd3 (zu h (V.ptr s 1)) fun cs12 m11 o13 => if (o13 + 1 <= m11 /\ 0 < 1) then
 (bd (cs12)[o13]? fun v14 =>
 (bd3 (zu h (V.ptr s 2)) fun cs16 m15 o17 => if (o17 + 1 <= m15 /\ 0 < 1) then
 (bd (cs16)[o17]? fun v18 =>
 (bd (Ji prog 174 [(0, (V.row (h).length 1 0 (p10.2).length)), (1, v14), (2, v18)]) fun cs19 =>
 (bd (Ji prog 176 [(0, (V.agg cs19))]) fun cs20 =>
 (if (cs20).length = 3 then
 some (Res.ret [(V.ptr ((h ++ [(HB.row 21 1 p10.2 true)])).length 0)], ((h ++ [(HB.row 21 1 p10.2 true)]) ++ [(HB.box 3 cs20)])) else none)))) else none)) else none) else none))) else none)))
theorem zkf (n : Nat) (s : Nat) (h : ze) : call (n + 1) 200 [(V.ptr s 0)] h = zlj n s h := by kernel_rfl
noncomputable def ziM (n : Nat) (s : Nat) (h : ze) : Option (Res × ze) :=
 (bd (X1 prog h .eql 122 (V.ptr s 0) (V.val (.pointer none))) fun v0 =>
 (bv v0 fun b1 => if b1 then
 (cl (call n 62 [] h) (fun r2 h3 =>
 (Zs r2 fun v5 =>
 some (Res.ret [v5], h3))) (fun z4 h3 => some (Res.pan z4, h3)))
 else
 (bd3 (zu h (V.ptr s 0)) fun cs7 m6 o8 => if (o8 + 1 <= m6 /\ 0 < 1) then
 (bd (cs7)[o8]? fun v9 =>
 (bd (Xq h v9) fun p10 =>
 (if ((p10.1 = 1 \/ (p10.2).isEmpty = true) /\ (p10.2).length < lim) then
 some (Res.ret [(V.ptr ((h ++ [(HB.row 4 1 p10.2 true)])).length 0)], ((h ++ [(HB.row 4 1 p10.2 true)]) ++ [(HB.box 1 [(V.row (h).length 1 0 (p10.2).length)])])) else none))) else none)))
theorem ziN (n : Nat) (s : Nat) (h : ze) : call (n + 1) 69 [(V.ptr s 0)] h = ziM n s h := by kernel_rfl
noncomputable def zaR (n : Nat) (x3 : Nat) (x4 : Nat) (b : Nat) (z16 : V) (h : ze) : Option (Bool × ze) :=
 (lpR ((h)[b]?) fun cD cV cF cP cA cB =>
 (bd3 (zu ((h).set b (HB.loop cD cV cF cP cA cB .busy)) (V.ptr x4 0)) fun cs29 m28 o30 => if (o30 + 8 <= m28 /\ 0 < 8) then
 (bd (ZN 0 z16) fun p31 =>
 (bd (ZN 0 p31) fun p32 =>
 (bd3 (zu ((h).set b (HB.loop cD cV cF cP cA cB .busy)) p32) fun cs34 m33 o35 => if (o35 + 1 <= m33 /\ 0 < 1) then
 (bd (cs34)[o35]? fun v36 =>
 (bd (ZN 0 z16) fun p37 =>
 (bd (ZN 1 p37) fun p38 =>
 (bd3 (zu ((h).set b (HB.loop cD cV cF cP cA cB .busy)) p38) fun cs40 m39 o41 => if (o41 + 1 <= m39 /\ 0 < 1) then
 (bd (cs40)[o41]? fun v42 =>
 (clH (call n 232 [v36, v42] ((h).set b (HB.loop cD cV cF cP cA cB .busy))) fun r43 h44 =>
 (Zs r43 fun v46 =>
 (ziW ((h).set b (HB.loop cD cV cF cP cA cB .busy)) h44 (if qok [(((h).set b (HB.loop cD cV cF cP cA cB .busy))).length] [x4, x4] = true then
 (clH (call n 231 [(V.agg ((cs29).drop o30 |>.take 8)), v46] h44) fun r47 h48 =>
 (Zs r47 fun v50 =>
 (if ((V.cells v50)).length = 8 then
 (bd2 (Zp h48 (V.cells v50) (V.ptr x4 0)) fun b51 x52 =>
 (bd3 (zu ((h48).set b51 x52) (V.ptr x3 0)) fun cs54 m53 o55 => if (o55 + 1 <= m53 /\ 0 < 1) then
 (bd (cs54)[o55]? fun v56 =>
 (bd (ZN 0 v56) fun p57 =>
 (bd (ZN 10 p57) fun p58 =>
 (bd3 (zu ((h48).set b51 x52) p58) fun cs60 m59 o61 => if (o61 + 1 <= m59 /\ 0 < 1) then
 (bd (cs60)[o61]? fun v62 =>
 (bd (bop prog .add 3 v62 (V.int .i64 1)) fun v63 =>
 (bd (ZN 0 v56) fun p64 =>
 (bd (ZN 10 p64) fun p65 =>
 (if ((V.cells v63)).length = 1 then
 (bd2 (Zp ((h48).set b51 x52) (V.cells v63) p65) fun b66 x67 =>
 (lpB ((((((h48).set b51 x52)).set b66 x67))[b]?) fun eD eV eF eP eA eB => some (true, (((((h48).set b51 x52)).set b66 x67)).set b (HB.loop eD eV eF eP eA eB .ready)))) else none))))) else none)))) else none)) else none))) else none))))) else none)))) else none))) else none))
theorem zge (n : Nat) (y0 : Option V) (y2 : Option V) (x3 : Nat) (x4 : Nat) (y6 : Option V) (y7 : Option V) (y8 : Option V) (y9 : Option V) (y10 : Option V) (y12 : Option V) (y13 : Option V) (y14 : Option V) (y15 : Option V) (b : Nat) (z16 : V) (h : ze) : zas prog (call n) X9 Wr n (L.textDraws prog) false [y0, none, y2, some (V.ptr x3 0), some (V.ptr x4 0), none, y6, y7, y8, y9, y10, none, y12, y13, y14, y15, none, none, none, none, none, none, none, none, none, none, none, none, none, none, none, none, none, none, none, none] [16] (WM (Xo f223)) (WN (Xo f223)) b [z16] h = zaR n x3 x4 b z16 h := by kernel_rfl
noncomputable def zlk (n : Nat) (s : Nat) (h : ze) : Option (Res × ze) :=
 (cl (call n 226 [(V.ptr s 0)] h) (fun r0 h1 =>
 (Zs r0 fun v3 =>
 (cl (call n 61 [v3] h1) (fun r4 h5 =>
 (Zs r4 fun v7 =>
 (if ((V.cells v7)).length = 1 then
 (if (((V.cells v7)).length <= 1) then
 (bd (X1 prog h5 .eql 117 (V.ptr s 0) (V.val (.pointer none))) fun v8 =>
 (bv v8 fun b9 => if b9 then
 (bd ((setR [(V.val (.pointer none))] 0 (V.cells v7)))[0]? fun v10 =>
 some (Res.ret [v10], h5))
 else
 (bd ((setR [(V.val (.pointer none))] 0 (V.cells v7)))[0]? fun v11 =>
 (cl (call n 230 [v11] h5) (fun r12 h13 =>
 (Zs r12 fun v15 =>
 (if ((V.cells v15)).length = 8 then
 (if (((V.cells v15)).length <= 8) then
 (cl (call n 100 [(V.ptr s 0), (V.int .i64 1)] h13) (fun r16 h17 =>
 (Zs r16 fun v19 =>
 (fnK v19 fun f20 c21 => if ((Wk prog f20).isNone && (XL (WM (Xo f223)) && XL (WN (Xo f223)))) = true then
 (clN (call n f20 ((V.yld ((((h17 ++ [(HB.box 8 (setR [(V.val (.pointer none)), (V.val (.pointer none)), (V.val (.pointer none)), (V.val (.pointer none)), (V.val (.pointer none)), (V.val (.pointer none)), (V.val (.pointer none)), (V.val (.pointer none))] 0 (V.cells v15)))]) ++ [(HB.box 1 (setR [(V.val (.pointer none))] 0 (V.cells v7)))])).length + 1)) :: c21) (((h17 ++ [(HB.box 8 (setR [(V.val (.pointer none)), (V.val (.pointer none)), (V.val (.pointer none)), (V.val (.pointer none)), (V.val (.pointer none)), (V.val (.pointer none)), (V.val (.pointer none)), (V.val (.pointer none))] 0 (V.cells v15)))]) ++ [(HB.box 1 (setR [(V.val (.pointer none))] 0 (V.cells v7)))]) ++ [HB.defb, HB.loop (((h17 ++ [(HB.box 8 (setR [(V.val (.pointer none)), (V.val (.pointer none)), (V.val (.pointer none)), (V.val (.pointer none)), (V.val (.pointer none)), (V.val (.pointer none)), (V.val (.pointer none)), (V.val (.pointer none))] 0 (V.cells v15)))]) ++ [(HB.box 1 (setR [(V.val (.pointer none))] 0 (V.cells v7)))])).length false [some (V.ptr s 0), none, some (V.val (.pointer none)), some (V.ptr ((h17 ++ [(HB.box 8 (setR [(V.val (.pointer none)), (V.val (.pointer none)), (V.val (.pointer none)), (V.val (.pointer none)), (V.val (.pointer none)), (V.val (.pointer none)), (V.val (.pointer none)), (V.val (.pointer none))] 0 (V.cells v15)))])).length 0), some (V.ptr (h17).length 0), none, some (V.ptr s 0), some v3, some v7, some (V.ptr s 0), some (V.bool false), none, some v11, some v15, some (V.ptr s 0), some v19, none, none, none, none, none, none, none, none, none, none, none, none, none, none, none, none, none, none, none, none] [16] (WM (Xo f223)) (WN (Xo f223)) .ready])) fun h23 => lpE ((h23)[((((h17 ++ [(HB.box 8 (setR [(V.val (.pointer none)), (V.val (.pointer none)), (V.val (.pointer none)), (V.val (.pointer none)), (V.val (.pointer none)), (V.val (.pointer none)), (V.val (.pointer none)), (V.val (.pointer none))] 0 (V.cells v15)))]) ++ [(HB.box 1 (setR [(V.val (.pointer none))] 0 (V.cells v7)))])).length + 1)]?) (
 (bd3 (zu ((h23).set ((((h17 ++ [(HB.box 8 (setR [(V.val (.pointer none)), (V.val (.pointer none)), (V.val (.pointer none)), (V.val (.pointer none)), (V.val (.pointer none)), (V.val (.pointer none)), (V.val (.pointer none)), (V.val (.pointer none))] 0 (V.cells v15)))]) ++ [(HB.box 1 (setR [(V.val (.pointer none))] 0 (V.cells v7)))])).length + 1) HB.dead) (V.ptr ((h17 ++ [(HB.box 8 (setR [(V.val (.pointer none)), (V.val (.pointer none)), (V.val (.pointer none)), (V.val (.pointer none)), (V.val (.pointer none)), (V.val (.pointer none)), (V.val (.pointer none)), (V.val (.pointer none))] 0 (V.cells v15)))])).length 0)) fun cs25 m24 o26 => if (o26 + 1 <= m24 /\ 0 < 1) then
 (bd (cs25)[o26]? fun v27 =>
 (dfB ((((h23).set ((((h17 ++ [(HB.box 8 (setR [(V.val (.pointer none)), (V.val (.pointer none)), (V.val (.pointer none)), (V.val (.pointer none)), (V.val (.pointer none)), (V.val (.pointer none)), (V.val (.pointer none)), (V.val (.pointer none))] 0 (V.cells v15)))]) ++ [(HB.box 1 (setR [(V.val (.pointer none))] 0 (V.cells v7)))])).length + 1) HB.dead))[(((h17 ++ [(HB.box 8 (setR [(V.val (.pointer none)), (V.val (.pointer none)), (V.val (.pointer none)), (V.val (.pointer none)), (V.val (.pointer none)), (V.val (.pointer none)), (V.val (.pointer none)), (V.val (.pointer none))] 0 (V.cells v15)))]) ++ [(HB.box 1 (setR [(V.val (.pointer none))] 0 (V.cells v7)))])).length]?) (
 some (Res.ret [v27], ((((h23).set ((((h17 ++ [(HB.box 8 (setR [(V.val (.pointer none)), (V.val (.pointer none)), (V.val (.pointer none)), (V.val (.pointer none)), (V.val (.pointer none)), (V.val (.pointer none)), (V.val (.pointer none)), (V.val (.pointer none))] 0 (V.cells v15)))]) ++ [(HB.box 1 (setR [(V.val (.pointer none))] 0 (V.cells v7)))])).length + 1) HB.dead)).set (((h17 ++ [(HB.box 8 (setR [(V.val (.pointer none)), (V.val (.pointer none)), (V.val (.pointer none)), (V.val (.pointer none)), (V.val (.pointer none)), (V.val (.pointer none)), (V.val (.pointer none)), (V.val (.pointer none))] 0 (V.cells v15)))]) ++ [(HB.box 1 (setR [(V.val (.pointer none))] 0 (V.cells v7)))])).length HB.dead))))) else none)) (
 (dfB ((((h23).set ((((h17 ++ [(HB.box 8 (setR [(V.val (.pointer none)), (V.val (.pointer none)), (V.val (.pointer none)), (V.val (.pointer none)), (V.val (.pointer none)), (V.val (.pointer none)), (V.val (.pointer none)), (V.val (.pointer none))] 0 (V.cells v15)))]) ++ [(HB.box 1 (setR [(V.val (.pointer none))] 0 (V.cells v7)))])).length + 1) HB.dead))[(((h17 ++ [(HB.box 8 (setR [(V.val (.pointer none)), (V.val (.pointer none)), (V.val (.pointer none)), (V.val (.pointer none)), (V.val (.pointer none)), (V.val (.pointer none)), (V.val (.pointer none)), (V.val (.pointer none))] 0 (V.cells v15)))]) ++ [(HB.box 1 (setR [(V.val (.pointer none))] 0 (V.cells v7)))])).length]?) (
 some (Res.ret [(V.val (.pointer none))], ((((h23).set ((((h17 ++ [(HB.box 8 (setR [(V.val (.pointer none)), (V.val (.pointer none)), (V.val (.pointer none)), (V.val (.pointer none)), (V.val (.pointer none)), (V.val (.pointer none)), (V.val (.pointer none)), (V.val (.pointer none))] 0 (V.cells v15)))]) ++ [(HB.box 1 (setR [(V.val (.pointer none))] 0 (V.cells v7)))])).length + 1) HB.dead)).set (((h17 ++ [(HB.box 8 (setR [(V.val (.pointer none)), (V.val (.pointer none)), (V.val (.pointer none)), (V.val (.pointer none)), (V.val (.pointer none)), (V.val (.pointer none)), (V.val (.pointer none)), (V.val (.pointer none))] 0 (V.cells v15)))]) ++ [(HB.box 1 (setR [(V.val (.pointer none))] 0 (V.cells v7)))])).length HB.dead)))))) else none))) (fun z18 h17 => some (Res.pan z18, h17))) else none) else none))) (fun z14 h13 => some (Res.pan z14, h13)))))) else none) else none))) (fun z6 h5 => some (Res.pan z6, h5))))) (fun z2 h1 => some (Res.pan z2, h1)))
theorem zkg (n : Nat) (s : Nat) (h : ze) : call (n + 1) 223 [(V.ptr s 0)] h = zlk n s h := by kernel_rfl
noncomputable def zll (n : Nat) (s : Nat) (h : ze) : Option (Res × ze) :=
 (bd (X1 prog h .eql 25 (V.ptr s 0) (V.val (.pointer none))) fun v0 =>
 (bv v0 fun b1 => if b1 then
 some (Res.ret [(V.val (.pointer none))], h)
 else
 (bd3 (zu h (V.ptr s 0)) fun cs3 m2 o4 => if (o4 + 1 <= m2 /\ 0 < 1) then
 (bd (cs3)[o4]? fun v5 =>
 (ifK v5 fun t6 w7 => bd2 (Qq prog t6 w7 "reaper/object.copy") fun f8 w9 => if (X9 f8 = true /\ okV prog 108 f8 = true) then
 (clH (call n f8 ([w9] ++ []) h) fun r10 h11 =>
 (Zs r10 fun v13 =>
 (ziW h h11 (if qok [(h).length] [s, s] = true then
 (bd3 (zu h11 (V.ptr s 1)) fun cs15 m14 o16 => if (o16 + 1 <= m14 /\ 0 < 1) then
 (bd (cs15)[o16]? fun v17 =>
 (clH (call n 69 [v17] h11) fun r18 h19 =>
 (Zs r18 fun v21 =>
 (ziW h11 h19 (if qok [(h).length, (h11).length] [s, s] = true then
 (bd3 (zu h19 (V.ptr s 2)) fun cs23 m22 o24 => if (o24 + 1 <= m22 /\ 0 < 1) then
 (bd (cs23)[o24]? fun v25 =>
 (bd (Ji prog 125 [(0, v13), (1, v21), (2, v25)]) fun cs26 =>
 (if (cs26).length = 3 then
 some (Res.ret [(V.ptr (h19).length 0)], (h19 ++ [(HB.box 3 cs26)])) else none))) else none) else none))))) else none) else none)))) else none)) else none)))
theorem zkh (n : Nat) (s : Nat) (h : ze) : call (n + 1) 28 [(V.ptr s 0)] h = zll n s h := by kernel_rfl
end Go.Proofs.Tryz
namespace Go.Proofs.Tryz
open Go.L Go.Rp Go.Sk
set_option maxRecDepth 100000
theorem zlm : XL (WM (Xo f223)) = true /\ XL (WN (Xo f223)) = true := ⟨by kernel_rfl, by kernel_rfl⟩
theorem zpz : ((Wk prog 132).isNone && (XL (WM (Xo f223)) && XL (WN (Xo f223)))) = true := by kernel_rfl
def zgf (y0 y2 : Option V) (x3 x4 : Nat) (y6 y7 y8 y9 y10 y12 y13 y14 y15 : Option V) : List (Option V) := [y0, none, y2, some (V.ptr x3 0), some (V.ptr x4 0), none, y6, y7, y8, y9, y10, none, y12, y13, y14, y15, none, none, none, none, none, none, none, none, none, none, none, none, none, none, none, none, none, none, none, none]
noncomputable def zaS (D : Nat) (fr : List (Option V)) (st : LSt) : HB := .loop D false fr [16] (WM (Xo f223)) (WN (Xo f223)) st
theorem zdt {h : ze} {b c : Nat} (hb : b ≠ c) (x : HB) (o : Nat) : zu (h.set b x) (.ptr c o) = zu h (.ptr c o) := by
 simp only [zu]; rw [zd hb]
theorem zki {h : ze} {b c : Nat} (hb : b ≠ c) (x : HB) (vs : List V) (o : Nat) : Zp (h.set b x) vs (.ptr c o) = Zp h vs (.ptr c o) := by
 simp only [Zp]; rw [zd hb]
section
variable {y0 y2 y6 y7 y8 y9 y10 y12 y13 y14 y15 : Option V}
theorem zoE (n : Nat) {h : ze} {b D x3 x4 : Nat} (hb : h[b]? = some (zaS D (zgf y0 y2 x3 x4 y6 y7 y8 y9 y10 y12 y13 y14 y15) .ready)) (z : V) : rnd n b [z] h = zaR n x3 x4 b z h :=
 (zdg n hb [z] rfl zlm.1 zlm.2).trans (zge n y0 y2 x3 x4 y6 y7 y8 y9 y10 y12 y13 y14 y15 b z h)
structure CpAt (h hh : ze) (s : Nat) (ts : List Tw) (most : Int) (N : Nx) (fr : List (Option V)) : Prop where
 len : h.length + 7 <= hh.length
 old : ∀ i, i < h.length -> hh[i]? = h[i]?
 sk : SkAt hh h.length ts most N
 fresh : ∀ t ∈ ts, h.length + 7 <= t.b
 p0 : hh[h.length + 1]? = some (.box 1 [.ptr s 0])
 p1 : hh[h.length + 2]? = some (.box 1 [.int .i64 1])
 pa : hh[h.length + 3]? = some (.box 8 (Zu (fun k => Z5 h.length ts (ZZ ts k ts.length))))
 po : hh[h.length + 4]? = some (.box 1 [.ptr h.length 0])
 df : hh[h.length + 5]? = some .defb
 lp : hh[h.length + 6]? = some (zaS (h.length + 5) fr .ready)
theorem zoF {ts : List Tw} {v : Int} (h : ∀ t ∈ ts, t.v <= v) : Xj ts v = ts.length := by
 unfold Xj
 induction ts with
 | nil => rfl
 | cons a ts ih =>
   rw [List.takeWhile_cons, if_pos (decide_eq_true (h a (zy ..))), zB, zB, ih fun t ht => h t (zq _ ht)]
theorem zpA (n : Nat) {h hh : ze} {s : Nat} {ts : List Tw} {most : Int} {N M : Nx} (C : CpAt h hh s ts most N (zgf y0 y2 (h.length + 4) (h.length + 3) y6 y7 y8 y9 y10 y12 y13 y14 y15)) {x : Tw} (hx : Ki h M (ndT x)) (hht : 1 <= x.ht /\ x.ht <= 8) (hv : ∀ t ∈ ts, t.v <= x.v) (hl : ts.length + 1 < lim) (hn : ts.length + 8 < n) :
    ∃ hh' u N', rnd (n + 2) (h.length + 6) [.ptr x.b 0] hh = some (true, hh') /\ CpAt h hh' s (ts ++ [u]) most N' (zgf y0 y2 (h.length + 4) (h.length + 3) y6 y7 y8 y9 y10 y12 y13 y14 y15) /\ u.v = x.v /\ u.ht = x.ht := by
 rw [zoE (n + 2) C.lp]
 have hlen := C.len
 have hxb : x.b < h.length := zQ hx
 unfold zaR
 rw [C.lp]
 simp only [zaS, lpR]
 generalize hbusy : HB.loop (h.length + 5) false (zgf y0 y2 (h.length + 4) (h.length + 3) y6 y7 y8 y9 y10 y12 y13 y14 y15) [16] (WM (Xo f223)) (WN (Xo f223)) .busy = B0
 obtain ⟨G, hG⟩ : ∃ G, G = hh.set (h.length + 6) B0 := ⟨_, rfl⟩
 rw [<- hG]
 have hGl : G.length = hh.length := by rw [hG, zp]
 have hGo : ∀ i, i ≠ h.length + 6 -> G[i]? = hh[i]? := fun i hi => by rw [hG, zd (Ne.symm hi)]
 have hGb : G[h.length + 6]? = some B0 := by rw [hG]; exact Xf (by omega) _
 have hsk : ∀ b ∈ skB h.length ts, b = h.length \/ h.length + 7 <= b := fun b hb => by
  rcases zF.1 hb with e | hb
  · exact .inl e
  · obtain ⟨t, ht, rfl⟩ := ZF.1 hb
    exact .inr (C.fresh t ht)
 have SG : SkAt G h.length ts most N := C.sk.keep fun b hb => hGo b (by rcases hsk b hb with e | e <;> omega)
 have hul := zoF hv
 obtain ⟨u, h1, h2, N', cs, B, hub, huv, hut, _, etall, eput, ec, ec10, ew, S2, l2, o2⟩ := zde n SG x.v (x.ht : Int) (fun _ => 0) (fun k hk => ⟨Zh _, trivial⟩) hn (by omega)
 rw [hul] at eput S2
 have hins : ins ts ts.length u = ts ++ [u] := by simp [ins]
 rw [hins] at eput S2
 have huT : u.ht = x.ht := by omega
 have hh1 : h1 = G ++ [.box 10 ([.int .i32 x.v, .int .i64 (max 1 (min (x.ht : Int) 8))] ++ Yl (fun _ => jA))] := by
  have := (zeP (n + 1) G x.v (x.ht : Int)).symm.trans etall
  simp only [Option.some.injEq, Prod.mk.injEq] at this
  exact this.2.symm
 have hpre : pre G h1 := fun i hi => by rw [hh1, zj hi]
 have hGx : ∀ o, zu G (.ptr x.b o) = some ((ndT x).cells M, 10, o) := fun o => zx (by rw [hGo _ (by omega), C.old _ hxb]; exact hx) o
 have hpa : zu G (.ptr (h.length + 3) 0) = some (Zu (fun k => Z5 h.length ts (ZZ ts k ts.length)), 8, 0) := zx (by rw [hGo _ (by omega)]; exact C.pa) 0
 have h2o : ∀ i, i < hh.length -> i ∉ skB h.length ts -> h2[i]? = G[i]? := fun i hi1 hi2 => by
  have := o2 i (by omega) hi2
  rwa [zd (fun e => hi2 (by rw [<- e]; exact zy ..))] at this
 have h23 : ∀ i, h.length < i -> i < h.length + 7 -> h2[i]? = G[i]? := fun i a b => h2o i (by omega) (fun hm => by rcases hsk i hm with e | e <;> omega)
 have hl2 : h2.length = hh.length + 1 := by rw [zp] at l2; omega
 obtain ⟨P2, hP2⟩ : ∃ P2, P2 = fun k => Z5 h.length (ts ++ [u]) (ZZ (ts ++ [u]) k (ts.length + 1)) := ⟨_, rfl⟩
 rw [<- hP2] at eput
 have hwp : Zp h2 (Zu P2) (.ptr (h.length + 3) 0) = some (h.length + 3, .box 8 (Zu P2)) := by
  rw [ZO (n := 8) (cs := Zu (fun k => Z5 h.length ts (ZZ ts k ts.length))) (by rw [h23 _ (by omega) (by omega), hGo _ (by omega)]; exact C.pa) (by rw [Zz]; omega)]
  rw [JT (by rw [Zz, Zz]; omega), Qu, zT, Zl (by rw [Zz, Zz]; omega), Zn]
 rw [hpa, zl, if_pos (by omega), Xx, zb, Xx, zb]
 simp only [zV, zr]
 rw [hGx, zl, if_pos (by omega), Nd.get0, zb, zb, Xx, zb]
 simp only [zV, zr]
 rw [hGx, zl, if_pos (by omega), Nd.get1, zb]
 have et' : call (n + 2) 232 [V.int .i32 (ndT x).v, .int .i64 (ndT x).ht] G = some (.ret [.ptr u.b 0], h1) := etall
 rw [et']
 simp only [clH]
 rw [zw, zca hpre, if_pos (by rw [jp]; simp; omega), zaG]
 rw [eput]
 simp only [clH]
 rw [zw]
 rw [show (V.agg (Zu P2)).cells = Zu P2 from rfl, if_pos (Zz _), hwp, Zd]
 have hpo : zu (h2.set (h.length + 3) (.box 8 (Zu P2))) (.ptr (h.length + 4) 0) = some ([.ptr h.length 0], 1, 0) := by
  rw [zdt (by omega)]
  exact zx (by rw [h23 _ (by omega) (by omega), hGo _ (by omega)]; exact C.po) 0
 rw [hpo, zl, if_pos (by omega)]
 simp only [za, zb, Xx, zr, zV]
 rw [zdt (by omega), ec, zl, if_pos (by omega), ec10, zb, zM, zb, XF (by omega)]
 rw [show V.cells (V.int .i64 ((ts.length + 1 : Nat) : Int)) = [V.int .i64 ((ts.length + 1 : Nat) : Int)] from rfl, if_pos (by rfl), zki (by omega), ew, Zd]
 have hb6 : ((h2.set (h.length + 3) (.box 8 (Zu P2))).set h.length B)[h.length + 6]? = some B0 := by
  rw [zd (by omega), zd (by omega), h23 _ (by omega) (by omega)]; exact hGb
 rw [hb6, <- hbusy]
 simp only [lpB]
 have hoth : ∀ i, i ≠ h.length + 6 -> i ≠ h.length + 3 -> (((h2.set (h.length + 3) (.box 8 (Zu P2))).set h.length B).set (h.length + 6) (HB.loop (h.length + 5) false (zgf y0 y2 (h.length + 4) (h.length + 3) y6 y7 y8 y9 y10 y12 y13 y14 y15) [16] (WM (Xo f223)) (WN (Xo f223)) .ready))[i]? = (h2.set h.length B)[i]? := fun i a b => by
  rw [zd (Ne.symm a), List.set_comm _ _ (by omega), zd (Ne.symm b)]
 have hmid : ∀ i, h.length < i -> i < h.length + 7 -> (h2.set h.length B)[i]? = G[i]? := fun i a b => by rw [zd (by omega), h23 i a b]
 have hfr : ∀ t ∈ ts ++ [u], h.length + 7 <= t.b := fun t ht => by
  rcases Zm.1 ht with ht | ht
  · exact C.fresh t ht
  · rw [ZP.1 ht]; omega
 refine ⟨_, u, N', rfl, ⟨by simp only [zp]; omega, fun i hi => ?_, S2.keep fun b hb => ?_, hfr, ?_, ?_, ?_, ?_, ?_, ?_⟩, huv, huT⟩
 · rw [hoth i (by omega) (by omega), o2 i (by omega) (fun hm => by rcases hsk i hm with e | e <;> omega), hGo i (by omega), C.old i hi]
 · have : b = h.length \/ h.length + 7 <= b := by
     rcases zF.1 hb with e | hb
     · exact .inl e
     · obtain ⟨t, ht, rfl⟩ := ZF.1 hb
       exact .inr (hfr t ht)
   exact hoth b (by omega) (by omega)
 · rw [hoth _ (by omega) (by omega), hmid _ (by omega) (by omega), hGo _ (by omega)]; exact C.p0
 · rw [hoth _ (by omega) (by omega), hmid _ (by omega) (by omega), hGo _ (by omega)]; exact C.p1
 · rw [zd (by omega), List.set_comm _ _ (by omega), Xf (by rw [zp]; omega), hP2, zE]; rfl
 · rw [hoth _ (by omega) (by omega), hmid _ (by omega) (by omega), hGo _ (by omega)]; exact C.po
 · rw [hoth _ (by omega) (by omega), hmid _ (by omega) (by omega), hGo _ (by omega)]; exact C.df
 · exact Xf (by simp only [zp]; omega) _
theorem zpB (n : Nat) {h : ze} {s : Nat} {ss : List Tw} {most : Int} {M : Nx} (S : SkAt h s ss most M) (hlim : ss.length + 1 < lim) (hn : ss.length + 8 < n) : ∀ (d K : Nat) (hh : ze) (ts : List Tw) (N : Nx), ts.length + d = ss.length -> d < K -> itT ts = itT (ss.take ts.length) -> CpAt h hh s ts most N (zgf y0 y2 (h.length + 4) (h.length + 3) y6 y7 y8 y9 y10 y12 y13 y14 y15) →
    ∃ hh' ts' N', Ze K (QD (n + 2) (h.length + 6) (h.length + 2)) [nx 0 (ss.drop ts.length)] hh = some (.ret [], hh') /\ itT ts' = itT ss /\ CpAt h hh' s ts' most N' (zgf y0 y2 (h.length + 4) (h.length + 3) y6 y7 y8 y9 y10 y12 y13 y14 y15) := by
 intro d
 induction d with
 | zero =>
   intro K hh ts N h1 h2 hi C
   obtain ⟨K, rfl⟩ : ∃ K', K = K' + 1 := ⟨K - 1, by omega⟩
   refine ⟨hh, ts, N, ?_, by rw [hi, zN (by omega)], C⟩
   rw [zL, Zl (by omega)]
   unfold QD
   show bd (X1 prog hh .neq 177 (gv [jA] 0) _) _ = _
   simp only [gv, zg, jA, qj, zb, zo]
   rw [if_neg (by decide)]
 | succ d ih =>
   intro K hh ts N h1 h2 hi C
   obtain ⟨K, rfl⟩ : ∃ K', K = K' + 1 := ⟨K - 1, by omega⟩
   have hlt : ts.length < ss.length := by omega
   have hx : ss[ts.length]? = some ss[ts.length] := zf hlt
   have hdr : ss.drop ts.length = ss[ts.length] :: ss.drop (ts.length + 1) := zW hlt
   generalize ss[ts.length] = x at hx hdr
   have hht := S.ht x (zI hx)
   have hmem : ndT x ∈ nds s (ss.length : Int) most ss := zq _ (Zi (zI hx))
   have hxa := S.rep.at_ _ hmem
   have hv : ∀ t ∈ ts, t.v <= x.v := fun t ht => by
    obtain ⟨i, hi'⟩ := Z1.1 ht
    have hil := (zh.1 hi').1
    have h3 : (itT (ss.take ts.length))[i]? = some (t.v, t.ht) := by rw [<- hi]; unfold itT; rw [zJ, hi']; rfl
    unfold itT at h3
    rw [zJ, zX, if_pos hil] at h3
    cases hz : ss[i]? with
    | none => rw [hz] at h3; cases h3
    | some z =>
      rw [hz] at h3
      simp at h3
      have := S.up
      unfold Rise at this
      have hp := Xz.1 this i ts.length (by omega) hlt hil
      rw [zf (by omega)] at hz hx
      rw [<- h3.1, <- Option.some.inj hz, <- Option.some.inj hx]; exact hp
   obtain ⟨hh1, u, N1, e1, C1, u1, u2⟩ := zpA n C hxa hht hv (by omega) (by omega)
   have hlen1 : (ts ++ [u]).length = ts.length + 1 := by simp
   obtain ⟨hh2, ts2, N2, e2, i2, C2⟩ := ih K hh1 (ts ++ [u]) N1 (by omega) (by omega) (by
    rw [hlen1, List.take_add_one, hx]
    unfold itT at hi ⊢
    rw [ZC, ZC, hi]
    simp [u1, u2]) C1
   rw [hlen1] at e2
   refine ⟨hh2, ts2, N2, ?_, i2, C2⟩
   have hxb : x.b < h.length := zQ hxa
   have hnx : nx 0 (ss.drop ts.length) = .ptr x.b 0 := by
    rw [hdr]; unfold nx Kh; rw [List.find?_cons_of_pos (by simp; omega)]
   have hrd : zu hh1 (.ptr x.b 2) = some ((ndT x).cells M, 10, 2) := zx (by rw [C1.old _ hxb]; exact hxa) _
   have hgx : ((ndT x).cells M)[2]? = some (nx 0 (ss.drop (ts.length + 1))) := by
    rw [show (2 : Nat) = 2 + 0 from rfl, (ndT x).get _ (by omega)]
    have := S.lk.tw ts.length x 0 hx (by omega)
    rw [if_pos (by omega)] at this
    rw [<- this]; rfl
   have key : ∀ next, QD (n + 2) (h.length + 6) (h.length + 2) [.ptr x.b 0] hh next = next [nx 0 (ss.drop (ts.length + 1))] hh1 := by
    intro next
    unfold QD
    simp only [gv, zg, Kj, zb, zo, if_true, e1, Zd]
    rw [zx C1.p1, zl, if_pos (by decide)]
    simp only [za, zb, ZH]
    rw [show IntKind.i64.wrap (1 - 1) = ((0 : Nat) : Int) by decide]
    simp only [Xx, zr, zV, zb, nv_int, Qb]
    rw [if_pos (by omega), hrd, zl, if_pos (by omega), hgx, zb]
   rw [zL, hnx, key]
   exact e2
end
theorem zmv (Q : Nat -> Nat) : setR [V.val (.pointer none), V.val (.pointer none), V.val (.pointer none), V.val (.pointer none), V.val (.pointer none), V.val (.pointer none), V.val (.pointer none), V.val (.pointer none)] 0 (Zu Q) = Zu Q := by
 rw [JT (by rw [Zz]; decide), Qu, zT, Zz, Zl (by decide), Zn]
theorem zd0 (n : Nat) {h : ze} {s : Nat} {ss : List Tw} {m : Nat} {M : Nx} (S : SkAt h s ss (m : Int) M) (hm : m <= 1000) (hlim : ss.length + 1 < lim) (hn : ss.length + 20 < n) :
    ∃ hh' ts N, call (n + 4) 223 [.ptr s 0] h = some (.ret [.ptr h.length 0], hh') /\ SkAt hh' h.length ts (m : Int) N /\ itT ts = itT ss /\ (∀ t ∈ ts, h.length <= t.b) /\ h.length <= hh'.length /\ ∀ i, i < h.length -> hh'[i]? = h[i]? := by
 have hsl : s < h.length := zQ S.hb
 obtain ⟨N0, enew, S0⟩ := zig (n + 2) h (m : Int)
 rw [show max 0 (min (m : Int) 1000) = (m : Int) by omega] at enew S0
 obtain ⟨h5, hh5⟩ : ∃ h5 : ze, h5 = h ++ [.box 12 ((ndH h.length 0 (m : Int)).cells (fun _ _ => jA))] := ⟨_, rfl⟩
 rw [<- hh5] at enew S0
 have hl5 : h5.length = h.length + 1 := by rw [hh5]; simp
 have hlv : call (n + 3) 100 [.ptr s 0, .int .i64 1] h5 = some (.ret [.fn 132 [.ptr h5.length 0, .ptr (h5.length + 1) 0]], h5 ++ [.box 1 [.ptr s 0], .box 1 [.int .i64 1]]) := by
  refine (zeB (n + 2) s _ h5).trans ?_
  unfold zjx
  simp
 rw [show n + 4 = (n + 3) + 1 from rfl, zkg]
 unfold zlk
 rw [zaI (n + 2) S, zK, zw, enew, zK, zw, show V.cells (V.ptr h.length 0) = [V.ptr h.length 0] from rfl, if_pos (by rfl), if_pos (by exact zm 1), Wb, zb, zo, if_neg (by decide)]
 simp only [K7, JD, za, zb]
 rw [qk (n + 2) h5 h.length (by omega), zK, zw, show V.cells (V.agg (Zu fun _ => h.length)) = Zu (fun _ => h.length) from rfl, if_pos (Zz _), if_pos (by rw [Zz]; exact zm 8), hlv, zK, zw]
 simp only [zjj]
 rw [if_pos zpz, zmv]
 simp only [zE, zB, zO, List.append_assoc, ZT, zT, ZK, zr, Nat.reduceAdd, hl5]
 obtain ⟨HS, hHS⟩ : ∃ HS : ze, HS = h5 ++ [HB.box 1 [V.ptr s 0], HB.box 1 [V.int IntKind.i64 1], HB.box 8 (Zu fun _ => h.length), HB.box 1 [V.ptr h.length 0], HB.defb, zaS (h.length + 5) (zgf (some (V.ptr s 0)) (some (V.val (.pointer none))) (h.length + 4) (h.length + 3) (some (V.ptr s 0)) (some (V.int .i64 (m : Int))) (some (V.ptr h.length 0)) (some (V.ptr s 0)) (some (V.bool false)) (some (V.ptr h.length 0)) (some (V.agg (Zu fun _ => h.length))) (some (V.ptr s 0)) (some (V.fn 132 [V.ptr (h.length + 1) 0, V.ptr (h.length + 2) 0]))) .ready] := ⟨_, rfl⟩
 have hS : ∀ (T : List HB) i, (h5 ++ T)[h.length + 1 + i]? = T[i]? := fun T i => by rw [zG (by omega), hl5, Xh]
 have hS0 : ∀ (T : List HB), (h5 ++ T)[h.length + 1]? = T[0]? := fun T => hS T 0
 have C0 : CpAt h HS s [] (m : Int) N0 _ := ⟨by rw [hHS]; simp; omega, fun i hi => by rw [hHS, zj (by omega), hh5, zj hi], S0.keep (fun b hb => by
     have hb' : b = h.length := by simpa [skB] using hb
     rw [hHS, zj (by omega)]), by simp, by rw [hHS, hS0]; rfl, by rw [hHS]; exact hS _ 1, by rw [hHS]; exact hS _ 2, by rw [hHS]; exact hS _ 3, by rw [hHS]; exact hS _ 4, by rw [hHS]; exact hS _ 5⟩
 obtain ⟨hh', ts, N, e, ei, C⟩ := zpB n S hlim (by omega) ss.length (n + 2) HS [] N0 (by simp) (by omega) (by simp [itT]) C0
 rw [zO, zP] at e
 have hit : call (n + 3) 132 [.yld (h.length + 6), .ptr (h.length + 1) 0, .ptr (h.length + 2) 0] HS = some (.ret [], hh') := by
  refine (zcQ (n + 2) _ _ _ HS).trans ?_
  unfold zfy
  have hrd : zu HS (.ptr s 2) = some ((ndH s (ss.length : Int) (m : Int)).cells M, 12, 2) := by
   refine zx ?_ _
   rw [C0.old _ hsl]
   exact S.hb
  have hg : ((ndH s (ss.length : Int) (m : Int)).cells M)[2]? = some (nx 0 ss) := by
   rw [show (2 : Nat) = 2 + 0 from rfl, (ndH s (ss.length : Int) (m : Int)).get _ (by omega)]
   exact congrArg some (S.lk.hd 0 (by omega))
  rw [zx C0.p0, zl, if_pos (by decide)]
  simp only [za, zb]
  rw [zx C0.p1, zl, if_pos (by decide)]
  simp only [za, zb, ZH]
  rw [show IntKind.i64.wrap (1 - 1) = ((0 : Nat) : Int) by decide]
  simp only [Xx, zr, zV, zb, nv_int, Qb]
  rw [if_pos (by omega), hrd, zl, if_pos (by omega), hg, zb]
  exact e
 have hHS' := hHS
 simp only [zaS, zgf] at hHS'
 rw [<- hHS', hit]
 simp only [clN]
 have hlen := C.len
 have hlp := C.lp
 rw [hlp]
 simp only [zaS, lpE]
 have hdf : (hh'.set (h.length + 6) HB.dead)[h.length + 5]? = some .defb := by rw [zd (by omega)]; exact C.df
 have hrest : ∀ i, i ≠ h.length + 6 -> i ≠ h.length + 5 -> ((hh'.set (h.length + 6) HB.dead).set (h.length + 5) HB.dead)[i]? = hh'[i]? := fun i a b => by rw [zd (Ne.symm b), zd (Ne.symm a)]
 have hout : zu (hh'.set (h.length + 6) HB.dead) (.ptr (h.length + 4) 0) = some ([.ptr h.length 0], 1, 0) := zx (by rw [zd (by omega)]; exact C.po) 0
 rw [hout, zl, if_pos (by decide)]
 simp only [za, zb]
 rw [hdf]
 simp only [dfB]
 refine ⟨_, ts, N, rfl, C.sk.keep fun b hb => ?_, ei, fun t ht => by have := C.fresh t ht; omega, by simp only [zp]; omega, fun i hi => by rw [hrest i (by omega) (by omega), C.old i hi]⟩
 refine hrest b ?_ ?_ <;>
 · rcases zF.1 hb with e | hb
   · omega
   · obtain ⟨t, ht, rfl⟩ := ZF.1 hb
     have := C.fresh t ht
     omega
end Go.Proofs.Tryz
namespace Go.Proofs.Tryz
open Go.L Go.Rp Go.Sk
set_option maxRecDepth 100000
theorem zpC (a b c d : Nat) (m : Int) : Ji prog 172 [(0, .row a b c d), (1, .int .i64 m)] = some [.row a b c d, .int .i64 m] := by kernel_rfl
theorem zmw (a b c d : Nat) (m k : Int) : Ji prog 174 [(0, .row a b c d), (1, .int .i64 m), (2, .int .i64 k)] = some [.row a b c d, .int .i64 m, .int .i64 k] := by kernel_rfl
theorem zoG (x y z : V) : Ji prog 176 [(0, .agg [x, y, z])] = some [x, y, z] := by kernel_rfl
theorem zkj {h : ze} (x y : HB) : ((h ++ [x]) ++ [y])[h.length]? = some x /\ ((h ++ [x]) ++ [y])[h.length + 1]? = some y := by
 constructor
 · rw [zj (by simp), zD]
 · rw [zG (by simp)]; simp
theorem zgg {h : ze} (x y : HB) {i : Nat} (hi : i < h.length) : ((h ++ [x]) ++ [y])[i]? = h[i]? := by
 rw [zj (by simp; omega), zj hi]
theorem zd1 (n : Nat) {h : ze} {s : Nat} {sb : Option Nat} {most : Int} {xs : List Int} (hb : StkAt h s sb most xs) (hl : xs.length < lim) (hsb : ∀ b, sb = some b -> b < h.length) :
    ∃ h', call (n + 2) 175 [.ptr s 0] h = some (.ret [.ptr (h.length + 1) 0], h') /\ StkAt h' (h.length + 1) (some h.length) most xs /\ h'.length = h.length + 2 /\ ∀ i, i < h.length -> h'[i]? = h[i]? := by
 obtain ⟨v, sz, h1, h2, h3⟩ := hb.box
 have hs := zQ h1
 have hb' : StkAt (h ++ [HB.row 21 1 (xs.map WO) true]) s sb most xs := hb.keep (zj hs) (fun b e => zj (hsb b e))
 obtain ⟨k1, k2⟩ := zkj (h := h) (HB.row 21 1 (xs.map WO) true) (.box 2 [.row h.length 1 0 xs.length, .int .i64 most])
 refine ⟨(h ++ [HB.row 21 1 (xs.map WO) true]) ++ [.box 2 [.row h.length 1 0 xs.length, .int .i64 most]], ?_, ⟨by omega, xs.map WO, true, k2, k1, by simp, by rw [zN (by simp)]⟩, by simp, fun i hi => zgg _ _ hi⟩
 rw [show n + 2 = (n + 1) + 1 from rfl, zjp]
 unfold zkI
 rw [K1 n hb hl, zK, zw, jJ n hb', zK, zw, zpC, zb, if_pos (by rfl)]
 simp
theorem zd2 (n : Nat) {h : ze} {s b c : Nat} {xs : List Int} (hb : RngAt h s b c xs) (hc : c < lim) :
    ∃ h', call (n + 1) 200 [.ptr s 0] h = some (.ret [.ptr (h.length + 1) 0], h') /\ RngAt h' (h.length + 1) h.length c xs /\ h'.length = h.length + 2 /\ ∀ i, i < h.length -> h'[i]? = h[i]? := by
 obtain ⟨k, l, z, f, e1, e2, e3, e4, e5, e6, e7⟩ := hb
 obtain ⟨k1, k2⟩ := zkj (h := h) (HB.row 21 1 l true) (.box 3 [.row h.length 1 0 c, .int .i64 ((f : Nat) : Int), .int .i64 (xs.length : Int)])
 refine ⟨(h ++ [HB.row 21 1 l true]) ++ [.box 3 [.row h.length 1 0 c, .int .i64 ((f : Nat) : Int), .int .i64 (xs.length : Int)]], ?_, ⟨by omega, l, true, f, k2, k1, e3, e4, e5, e6, e7⟩, by simp, fun i hi => zgg _ _ hi⟩
 have hsl : Xq h (.row b 1 0 c) = some (1, l) := by rw [<- e3]; exact K0 e2
 rw [zkf]
 unfold zlj
 rw [Yj, zb, zo, if_neg (by decide)]
 simp only [zx e1]
 rw [zl, if_pos (by decide)]
 simp only [za, zi, zb]
 rw [hsl, zb, if_pos ⟨.inl rfl, by rw [e3]; exact hc⟩, zl, if_pos (by decide)]
 simp only [za, zi, zb]
 rw [zl, if_pos (by decide)]
 simp only [za, zi, zb]
 rw [e3, zmw, zb, zoG, zb, if_pos (by rfl)]
 simp
theorem zdu (n : Nat) {h : ze} {c : Nat} {cb : Option Nat} {bits : List Bool} (hb : BitsAt h c cb bits) (hl : bits.length < lim) :
    ∃ h', call (n + 1) 69 [.ptr c 0] h = some (.ret [.ptr (h.length + 1) 0], h') /\ BitsAt h' (h.length + 1) (some h.length) bits /\ h'.length = h.length + 2 /\ ∀ i, i < h.length -> h'[i]? = h[i]? := by
 obtain ⟨k1, k2⟩ := zkj (h := h) (HB.row 4 1 (bits.map YG) true) (.box 1 [.row h.length 1 0 bits.length])
 obtain ⟨v, sz, h1, h2, h3⟩ : ∃ v sz, h[c]? = some (.box 1 [v]) /\ Xq h v = some (sz, bits.map YG) /\ (sz = 1 \/ bits = []) := by
  cases cb with
  | none =>
    obtain ⟨rfl, e⟩ := hb
    exact ⟨_, 0, e, rfl, .inr rfl⟩
  | some b =>
    obtain ⟨_, lo, l, z, e1, e2, e3, e4⟩ := hb
    exact ⟨_, 1, e1, by rw [Qi e2 (by omega) e3, e4], .inl rfl⟩
 refine ⟨(h ++ [HB.row 4 1 (bits.map YG) true]) ++ [.box 1 [.row h.length 1 0 bits.length]], ?_, ⟨by omega, 0, bits.map YG, true, by rw [zr]; exact k2, k1, by simp, by rw [zN (by simp), zP]⟩, by simp, fun i hi => zgg _ _ hi⟩
 rw [ziN]
 unfold ziM
 rw [Kd, zb, zo, if_neg (by decide), zx h1, zl, if_pos (by decide)]
 simp only [za, zb]
 rw [h2, zb, if_pos ⟨h3.imp id (fun e => by rw [e]; rfl), by simpa using hl⟩]
 simp
def ziO (k : Nat) : Nat := if k = 1 then 172 else if k = 2 then 197 else 220
theorem zmx {k : Nat} (hk : k = 1 \/ k = 2 \/ k = 3) (s : Nat) : Qq prog (ziI k) (.agg [.ptr s 0]) "reaper/object.copy" = some (ziO k, .agg [.ptr s 0]) := by
 rcases hk with rfl | rfl | rfl
 · show Qq prog 112 (.agg [.ptr s 0]) "reaper/object.copy" = some (172, .agg [.ptr s 0]); kernel_rfl
 · show Qq prog 116 (.agg [.ptr s 0]) "reaper/object.copy" = some (197, .agg [.ptr s 0]); kernel_rfl
 · show Qq prog 120 (.agg [.ptr s 0]) "reaper/object.copy" = some (220, .agg [.ptr s 0]); kernel_rfl
theorem zoH {k : Nat} (hk : k = 1 \/ k = 2 \/ k = 3) : X9 (ziO k) = true /\ okV prog 108 (ziO k) = true := by
 rcases hk with rfl | rfl | rfl
 · show X9 172 = true /\ okV prog 108 172 = true; exact ⟨by kernel_rfl, by kernel_rfl⟩
 · show X9 197 = true /\ okV prog 108 197 = true; exact ⟨by kernel_rfl, by kernel_rfl⟩
 · show X9 220 = true /\ okV prog 108 220 = true; exact ⟨by kernel_rfl, by kernel_rfl⟩
theorem zd3 (n : Nat) {k : Nat} {h : ze} {s : Nat} {Y : List Nat} {m : Nat} {its : List (Int × Nat)} (B : BodAt k h s Y m its) (room : its.length <= m) (hm : m <= 1000) (hn : m + 40 < n) :
    ∃ h' s' Y', call (n + 5) (ziO k) [.agg [.ptr s 0]] h = some (.ret [zdr k s'], h') /\ BodAt k h' s' Y' m its /\ h.length <= h'.length /\ (∀ i, i < h.length -> h'[i]? = h[i]?) /\ ∀ y ∈ Y', h.length <= y := by
 have hlim : 1000000 < lim := by unfold lim; omega
 have hlt := B.lt
 rcases B with ⟨rfl, xs, qb, rfl, S, rfl⟩ | ⟨rfl, xs, b, rfl, RR, rfl⟩ | ⟨rfl, ts, rfl, ⟨N, S⟩, rfl⟩
 · rw [Wi] at room
   obtain ⟨h', e, S', l', o'⟩ := zd1 (n + 2) S (by omega) (fun b hb => hlt b (by simp [hb]))
   refine ⟨h', h.length + 1, [h.length + 1, h.length], ?_, .inl ⟨rfl, xs, some h.length, rfl, S', rfl⟩, by omega, o', fun y hy => by simp at hy; omega⟩
   show call (n + 4 + 1) 172 _ h = _
   rw [zhK]
   unfold zhJ
   rw [e, zK, zw, zoy (.bool true), zb]
   rfl
 · rw [Wi] at room
   have hcl : m < lim := by omega
   obtain ⟨h', e, R', l', o'⟩ := zd2 (n + 3) RR hcl
   refine ⟨h', h.length + 1, [h.length + 1, h.length], ?_, .inr (.inl ⟨rfl, xs, h.length, rfl, R', rfl⟩), by omega, o', fun y hy => by simp at hy; omega⟩
   show call (n + 4 + 1) 197 _ h = _
   rw [zhQ]
   unfold zhP
   rw [e, zK, zw, zoz, zb]
   rfl
 · rw [Q4] at room
   obtain ⟨h', ts', N', e, S', ei, fr, l', o'⟩ := zd0 n S hm (by omega) (by omega)
   refine ⟨h', h.length, skB h.length ts', ?_, .inr (.inr ⟨rfl, ts', ei.symm, ⟨N', S'⟩, rfl⟩), l', o', fun y hy => ?_⟩
   · show call (n + 4 + 1) 220 _ h = _
     rw [zhW]
     unfold zhV
     rw [e, zK, zw, zoA, zb]
     rfl
   · rcases zF.1 hy with e | hy
     · omega
     · obtain ⟨t, ht, rfl⟩ := ZF.1 hy
       exact fr t ht
theorem zah (n : Nat) {k : Nat} {h : ze} {o s c : Nat} {cb : Option Nat} {Y : List Nat} {m : Nat} {pl : Bool} {st : St} (A : ObAt k h o s c cb Y m pl st) (hb : st.2.length < lim) (hn : m + 40 < n) :
    ∃ h' o' s' c' cb' Y', call (n + 6) 28 [.ptr o 0] h = some (.ret [.ptr o' 0], h') /\ ObAt k h' o' s' c' cb' Y' m pl st /\ h.length <= h'.length /\ (∀ i, i < h.length -> h'[i]? = h[i]?) /\ ∀ x ∈ obB o' c' cb' Y', h.length <= x := by
 have hkk := A.body.kind
 have hol := zQ A.box
 obtain ⟨h1, s1, Y1, e1, B1, l1, o1, y1⟩ := zd3 n A.body A.room A.most hn
 have C1 : BitsAt h1 c cb st.2 := A.bits.keep (o1 c A.bits.clt) (fun b hb => o1 b (by have := A.bits; rw [hb] at this; exact this.blt))
 obtain ⟨h2, e2, C2, l2, o2⟩ := zdu (n + 4) C1 hb
 have hb1 : h1[o]? = some (.box 3 [zdr k s, .ptr c 0, .bool pl]) := (o1 o hol).trans A.box
 have hb2 : h2[o]? = some (.box 3 [zdr k s, .ptr c 0, .bool pl]) := (o2 o (by omega)).trans hb1
 have hY1 := B1.lt
 have k3 : ∀ i, i < h2.length -> (h2 ++ [HB.box 3 [zdr k s1, .ptr (h1.length + 1) 0, .bool pl]])[i]? = h2[i]? := fun i hi => zj hi
 refine ⟨h2 ++ [HB.box 3 [zdr k s1, .ptr (h1.length + 1) 0, .bool pl]], h2.length, s1, h1.length + 1, some h1.length, Y1, ?_, ⟨zD, C2.keep (k3 _ (by omega)) (fun b hb => by cases hb; exact k3 _ (by omega)), B1.keep (fun y hy => (k3 y (by have := hY1 y hy; omega)).trans (o2 y (hY1 y hy))), A.room, A.most, by omega, fun e => by have := Option.some.inj e; omega, fun hy => by have := hY1 _ hy; omega, fun hy => by have := hY1 _ hy; omega, fun b hb hy => by cases hb; have := hY1 _ hy; omega⟩, by simp; omega, fun i hi => by rw [k3 i (by omega), o2 i (by omega), o1 i hi], fun x hx => ?_⟩
 · rw [show n + 6 = (n + 5) + 1 from rfl, zkh]
   unfold zll
   rw [Jg, zb, zo, if_neg (by decide), zx A.box, zl, if_pos (by decide)]
   simp only [za, zb]
   show bd2 (Qq prog (ziI k) (.agg [.ptr s 0]) "reaper/object.copy") _ = _
   rw [zmx hkk, Zd, if_pos (zoH hkk)]
   show clH (call (n + 5) (ziO k) [.agg [.ptr s 0]] h) _ = _
   rw [e1]
   simp only [clH]
   rw [zw, zca o1, if_pos (by rw [jp]; simp; exact hol), zx hb1, zl, if_pos (by decide)]
   simp only [za, zi, zb]
   rw [e2]
   simp only [clH]
   rw [zw, zca o2, if_pos (by simp [qok]; omega), zx hb2, zl, if_pos (by decide)]
   simp only [za, zi, zb]
   unfold zdr
   rw [zoB, zb, if_pos (by rfl)]
 · simp only [obB, zF, Zm, Option.toList_some, ZP] at hx
   rcases hx with e | e | e | e
   · omega
   · omega
   · simp at e; omega
   · exact y1 x e
end Go.Proofs.Tryz
namespace Go.Proofs.Tryz
open Go.L Go.Rp Go.Sk
set_option maxRecDepth 100000
theorem zoI (n : Nat) (h : ze) : call (n + 1) 23 [.val (.pointer none), .sl 1 [[.int .u8 1]] false] h = some (.ret [], h) := by kernel_rfl
theorem zqt (n : Nat) (h : ze) : call (n + 1) 17 [.val (.pointer none), .sl 2 [[.int .u8 1, .int .i32 0]] false] h = some (.ret [.sl 2 [] false], h) := by kernel_rfl
theorem zpD (n : Nat) (h : ze) : call (n + 1) 30 [.val (.pointer none)] h = some (.ret [.int .i64 0], h) := by kernel_rfl
theorem zmy (n : Nat) (h : ze) : call (n + 1) 20 [.val (.pointer none)] h = some (.ret [.sl 1 [] false], h) := by kernel_rfl
theorem zmz (n : Nat) (h : ze) : call (n + 1) 29 [.val (.pointer none), .int .i64 1] h = some (.ret [.sl 1 [] false], h) := by kernel_rfl
theorem zoJ (n : Nat) (h : ze) : call (n + 1) 28 [.val (.pointer none)] h = some (.ret [.val (.pointer none)], h) := by kernel_rfl
theorem zpE (h : ze) : X1 prog h .eql 25 (.val (.pointer none)) (.val (.pointer none)) = some (.bool true) := by kernel_rfl
theorem zkk (x0 x1 : Int) (c d : List Int) (cb db : Bool) (h0 : 0 <= x0 /\ x0 < 256) (h1 : 0 <= x1 /\ x1 < 256) (hc : YF c = true) (hd : YF d = true) (lc : c.length <= 140737488355328) (ld : d.length <= 140737488355328) :
    call 3001 7 [.int .u8 x0, .int .u8 x1, .sl 1 (c.map (XA .u8)) cb, .sl 1 (d.map (XA .u8)) db] [] = some (.ret [.bool true], []) := by
 refine (zjl 3000 x0 x1 (c.map (XA .u8)) cb (d.map (XA .u8)) db []).trans ?_
 have hlim : 1000000 < lim := by unfold lim; omega
 have key : ∃ H, zfr 3000 x0 x1 (c.map (XA .u8)) cb (d.map (XA .u8)) db = some (.ret [.bool true], H) := by
  obtain ⟨k, hk⟩ : ∃ k : Nat, (k : Int) = 1 + x0 % 3 := ⟨(1 + x0 % 3).toNat, by omega⟩
  have hkk : k = 1 \/ k = 2 \/ k = 3 := by omega
  have hkw : IntKind.u8.wrap (1 + Int.tmod x0 3) = (k : Int) := by rw [Jh h0.1, w8, hk] <;> omega
  obtain ⟨m, hm⟩ : ∃ m : Nat, (m : Int) = 1 + x1 % 12 := ⟨(1 + x1 % 12).toNat, by omega⟩
  have hmw : IntKind.i64.wrap (1 + IntKind.i64.wrap (Int.tmod x1 12)) = (m : Int) := by
   rw [Jh h1.1, show IntKind.i64.wrap (x1 % 12) = x1 % 12 by rw [w64] <;> omega, w64, hm] <;> omega
  have hsum : IntKind.i64.wrap ((((c.map (XA .u8)).length : Nat) : Int) + (((d.map (XA .u8)).length : Nat) : Int)) = (c.length : Int) + (d.length : Int) := by
   rw [zA, zA, w64] <;> omega
  obtain ⟨g1, o, s, cc, Y, e1, A1⟩ := ziJ 2997 hkk (m : Int) false
  rw [zkd (by omega)] at A1
  unfold zfr
  rw [hkw, hmw, hsum, e1, zK, zw, Jg, zb, zo, if_neg (by decide)]
  by_cases hl : c.length + d.length > 150
  · refine ⟨g1, ?_⟩
    rw [if_pos (by simp; omega), zaf, zb, zo, if_pos rfl, zeu 2900 g1, zK, zw]
  · rw [if_neg (by simp; omega)]
    obtain ⟨g2, cb2, e2, A2, F2⟩ := zgb 2998 A1 c cb hc (by simp; omega) (by omega)
    have e3 := zdq 3000 c 1 cb 4 g2 (.inl rfl) hc (by decide) (by decide) (by decide)
    have hl3 := zf8 c 4
    have hb3 : (([] : List Bool) ++ c.flatMap qg).length <= 1200 := by rw [zT, zke]; omega
    generalize hst2 : (([] : List (Int × Nat)), ([] : List Bool) ++ c.flatMap qg) = st2 at A2
    have h22 : st2.2.length <= 1200 := by rw [<- hst2]; exact hb3
    obtain ⟨g3, Y3, T3, e4, _, A3, _, _, F3⟩ := Ky 2992 A2 (ops c 4) false (zkc hc (by decide) (by decide)) (by omega) (by omega)
    have h32 := zms k m (ops c 4) st2
    generalize (KF k m (ops c 4) st2).1 = st at A3 h32
    obtain ⟨g4, oa, sa, ca, cba, Ya, e5, B4, l4, o4, n4⟩ := zah 2994 A3 (by omega) (by omega)
    have A4 := A3.keep (h' := g4) (fun y hy => o4 y (A3.lt y hy))
    obtain ⟨g5, ob, sb, cq, cbb, Yb, e6, C5, l5, o5, n5⟩ := zah 2994 A4 (by omega) (by omega)
    have A5 := A4.keep (h' := g5) (fun y hy => o5 y (A4.lt y hy))
    have B5 := B4.keep (h' := g5) (fun y hy => o5 y (B4.lt y hy))
    have D5 : Two false false k m g5 oa sa ca ob sb cq st := ⟨cba, Ya, cbb, Yb, B5, C5, fun x hx hy => by have := B4.lt x hx; have := n5 x hy; omega⟩
    obtain ⟨g6, r6, e7, S6, l6, o6⟩ := Wj 2996 B5 (by omega)
    have A6 := A5.keep (h' := g6) (fun y hy => o6 y (A5.lt y hy))
    have e8 := zdq 3000 d 1 db 2 g6 (.inl rfl) hd (by decide) (by decide) (by decide)
    have hl8 := zf8 d 2
    obtain ⟨g7, Y7, T7, e9, _, _, _, _, F7⟩ := Ky 2992 A6 (ops d 2) false (zkc hd (by decide) (by decide)) (by omega) (by omega)
    have hXo : ∀ x ∈ obB o cc cb2 Y3, x < g3.length := A3.lt
    have hXa : ∀ x ∈ obB oa ca cba Ya, x ∉ obB o cc cb2 Y3 := fun x hx hy => by have := n4 x hx; have := hXo x hy; omega
    have hXb : ∀ x ∈ obB ob cq cbb Yb, x ∉ obB o cc cb2 Y3 := fun x hx hy => by have := n5 x hx; have := hXo x hy; omega
    have S7 := S6.keep (h' := g7) (fun b hb hb2 => F7.old b hb2 (fun hy => by have := hXo b hy; omega))
    have B7 := B5.keep (h' := g7) (fun y hy => (F7.old y (by have := B5.lt y hy; omega) (hXa y hy)).trans (o6 y (B5.lt y hy)))
    have C7 := C5.keep (h' := g7) (fun y hy => (F7.old y (by have := C5.lt y hy; omega) (hXb y hy)).trans (o6 y (C5.lt y hy)))
    have hl7 := F7.len
    obtain ⟨g8, r8, e10, S8, l8, o8⟩ := Wj 2996 B7 (by omega)
    have S7' := S7.keep (h' := g8) (fun b _ hb2 => o8 b hb2)
    have hroom := B5.room
    have e11 := qq 2999 S8.sees S7'.sees (by rw [zA]; omega) (by rw [zA]; omega)
    have D8 : Two false false k m g8 oa sa ca ob sb cq st := ⟨cba, Ya, cbb, Yb, B7.keep (fun y hy => o8 y (B7.lt y hy)), C7.keep (fun y hy => o8 y (C7.lt y hy)), fun x hx hy => by have := B4.lt x hx; have := n5 x hy; omega⟩
    have e12 := fun g => zdq 3000 d 1 db 4 g (.inl rfl) hd (by decide) (by decide) (by decide)
    have hl12 := zf8 d 4
    obtain ⟨g9, T9, g10, T10, e13, e14, R1, R2, D10⟩ := zqs 2992 D8 (ops d 4) false (zkc hd (by decide) (by decide)) (by omega) (by omega)
    have hlen := zoC k m (ops d 4) st
    generalize KF k m (ops d 4) st = q at R1 R2 D10 hlen
    have e15 := zkb 2999 R1.sees R2.sees (by omega) (by omega)
    rw [hlen] at e15
    have hroom2 : q.1.1.length <= m := by obtain ⟨_, _, _, _, B, _⟩ := D10; exact B.room
    obtain ⟨g11, r11, g12, r12, e16, e17, s11, s12, D12⟩ := zmu 2997 D10 (j := 1) (by decide) (by omega)
    have hll := zpy k 1 q.1.1
    have e18 := qq 2999 s11 s12 (by omega) (by omega)
    obtain ⟨g13, r13, g14, r14, e19, e20, s13, s14, D14⟩ := zmt 2996 D12 (by omega)
    have e21 := qq 2999 s13 s14 (by rw [zA]; omega) (by rw [zA]; omega)
    refine ⟨g14, ?_⟩
    have q16 : call 3000 29 [.ptr oa 0, .int .i64 2] g10 = _ := e16
    have q17 : call 3000 29 [.ptr ob 0, .int .i64 2] g11 = _ := e17
    rw [e2, zK, e3, zK, zw, e4, zK, zw, e5, zK, zw, e6, zK, zw, e7, zK, zw, e8, zK, zw, e9, zK, zw, e10, zK, zw, e11, zK, zw, e12, zK, zw, e13, zK, zw, e12, zK, zw, e14, zK, zw, zoI 2999, zK,
     zeu 2900, zK, zw, zo, if_pos rfl, zo, if_pos rfl, e15, zK, zw, zo, if_pos rfl, q16, zK, zw, q17, zK, zw, e18, zK, zw, zo, if_pos rfl, e19, zK, zw, e20, zK, zw, e21, zK, zw, zo, if_pos rfl,
     zqt 2999, zK, zw, QX, zb, if_pos (by rfl), zpD 2999, zK, zw, Xi, zb, zo, if_pos (by rfl), zmy 2999, zK, zw, QX, zb, if_pos (by rfl), zmz 2999, zK, zw, QX, zb, if_pos (by rfl), zoJ 2999, zK, zw, zpE, zb]
 obtain ⟨H, key⟩ := key
 rw [key]
 exact zkG (by simp [XA]) (by simp)
end Go.Proofs.Tryz
