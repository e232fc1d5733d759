/- So1 Kp Kq Kr Kv Krf Kx Lops Sops Kyw Ko Tj Ra Ro Rp Rq Ue Tk Tl Uf: what the law needs of these -/
import Derived.Test.YtclhmdhdpejhhaaGreatRsp13
set_option linter.unusedVariables false
set_option linter.unusedSimpArgs false
namespace Go.Proofs.Tryz
open Go.L Go.Rp
set_option maxRecDepth 100000
abbrev iL (l : List Int) : List (List V) := l.map (Xf .i64)
theorem wN {e : Int} {n : Nat} (h : e = (n : Int)) (hn : n < lim) : IntKind.i64.wrap e = (n : Int) := by unfold lim at hn; subst h; rw [w64] <;> omega
theorem zgd (l : List Int) (i : Nat) (x : Int) : (iL l).set i [V.int .i64 x] = iL (l.set i x) := by
 unfold iL; rw [Jb]; rfl
theorem XG (l : List Int) : (iL l).length = l.length := by simp
theorem QX {l : List Int} {i : Nat} {x : Int} (h : l[i]? = some x) : (iL l)[i]? = some [V.int .i64 x] := by
 unfold iL; rw [zI, h]; rfl
theorem zb2 (a b : V) : setR [a] 0 [b] = [b] := rfl
theorem KB {n m k : Nat} : (1 = 1 /\ n < m /\ (some k : Option Nat) ≠ some 0) ↔ (n < m /\ (k == 0) = false) := by simp
theorem zb3 : (1 = 1 /\ 0 < 1 /\ 0 + 1 <= 1) ↔ True := by decide
theorem WU {α : Type} (P : List α) (x : α) (R : List α) {i : Nat} (h : i = P.length) : (P ++ x :: R)[i]? = some x := by subst h; simp
theorem jF {α : Type} (P : List α) (x y : α) (R : List α) {i : Nat} (h : i = P.length) : (P ++ x :: R).set i y = P ++ y :: R := by subst h; simp
theorem zrw (P A M B S : List Int) (x y : Int) {i j : Nat} (hi : i = P.length) (hj : j = P.length + 1 + A.length + M.length) :
    (P ++ (x :: A ++ (M ++ (y :: B ++ S))))[i]? = some x /\ (P ++ (x :: A ++ (M ++ (y :: B ++ S))))[j]? = some y /\ (P ++ (y :: A ++ (M ++ (y :: B ++ S))))[j]? = some y ∧
    (P ++ (x :: A ++ (M ++ (y :: B ++ S)))).set i y = P ++ (y :: A ++ (M ++ (y :: B ++ S))) /\ (P ++ (y :: A ++ (M ++ (y :: B ++ S)))).set j x = (P ++ [y]) ++ (A ++ ((M ++ [x]) ++ (B ++ S))) := by
 have e : ∀ u : Int, P ++ (u :: A ++ (M ++ (y :: B ++ S))) = (P ++ u :: (A ++ M)) ++ y :: (B ++ S) := fun u => by simp
 have hl : ∀ u : Int, j = (P ++ u :: (A ++ M)).length := fun u => by simp; omega
 refine ⟨WU P x _ hi, ?_, ?_, jF P x y _ hi, ?_⟩
 · rw [e]; exact WU _ _ _ (hl x)
 · rw [e]; exact WU _ _ _ (hl y)
 · rw [e, jF _ _ _ _ (hl y)]; simp
theorem zeS (n : Nat) (H : zd) (a b k : Nat) (S : List Int) : ∀ (A B P M : List Int) (i Mx : Nat), B.length = A.length -> i + A.length = k -> a + i = P.length -> b + i = P.length + A.length + M.length -> P.length + A.length + M.length + B.length < lim -> A.length < Mx →
    zV Mx (zaa n a b k) [.sl 1 (iL (P ++ (A ++ (M ++ (B ++ S))))) false, .int .i64 (i : Int)] H = some (.ret [.sl 1 (iL (P ++ (B ++ (M ++ (A ++ S))))) false], H)
 | _, _, _, _, i, 0, _, _, _, _, _, h => by omega
 | [], B, P, M, i, Mx + 1, hB, hk, ha, hb, hl, hm => by
   obtain rfl : B = [] := by cases B <;> simp_all
   have hik : ¬ (i : Int) < (k : Int) := by simp at hk; omega
   rw [zD]
   simp only [zaa, gv, zh, zf, zt, za, zm, hik, decide_false, zn, if_false, lsl, zX]
 | x :: A, [], P, M, i, Mx + 1, hB, hk, ha, hb, hl, hm => by simp at hB
 | x :: A, y :: B, P, M, i, Mx + 1, hB, hk, ha, hb, hl, hm => by
   simp only [zA] at hB hk hb hl hm
   have hik : (i : Int) < (k : Int) := by omega
   have e1 : IntKind.i64.wrap ((a : Int) + (i : Int)) = ((a + i : Nat) : Int) := wN (by omega) (by omega)
   have e2 : IntKind.i64.wrap ((b : Int) + (i : Int)) = ((b + i : Nat) : Int) := wN (by omega) (by omega)
   have e3 : IntKind.i64.wrap ((i : Int) + 1) = ((i + 1 : Nat) : Int) := wN (by omega) (by omega)
   obtain ⟨s1, s2, s3, s4, s5⟩ := zrw P A M B S x y ha (show b + i = P.length + 1 + A.length + M.length by omega)
   have l1 : a + i < (P ++ (x :: A ++ (M ++ (y :: B ++ S)))).length := (zi.1 s1).1
   have l2 : b + i < (P ++ (x :: A ++ (M ++ (y :: B ++ S)))).length := (zi.1 s2).1
   have l3 : b + i < (P ++ (y :: A ++ (M ++ (y :: B ++ S)))).length := (zi.1 s3).1
   have ih := zeS n H a b k S A B (P ++ [y]) (M ++ [x]) (i + 1) Mx (by omega) (by omega) (by simp; omega) (by simp; omega) (by simp; omega) (by omega)
   rw [zD]
   simp only [zaa, gv, zh, zf, zt, za, zm, hik, decide_true, if_true, zK, e1, e2, e3, Zd, zw, lsl, XG, KB, Nat.reduceBEq, and_true, if_true, l1, l2, l3, QX s1, QX s2, zb, V.cells, zA, zP, zr, zb3, zb2, zgd, s4,
    QX s3, s5, ih]
   simp
theorem zaW (n : Nat) (H : zd) (c : V) (a b k : Nat) (P A M B S : List Int) (hB : B.length = A.length) (hk : A.length = k) (ha : a = P.length) (hb : b = P.length + A.length + M.length) (hl : P.length + A.length + M.length + B.length < lim) (hn : k + 2 <= n) :
    call n 251 [.sl 1 (iL (P ++ (A ++ (M ++ (B ++ S))))) false, .int .i64 (a : Int), .int .i64 (b : Int), .int .i64 (k : Int), c] H = some (.ret [.sl 1 (iL (P ++ (B ++ (M ++ (A ++ S))))) false], H) := by
 obtain ⟨N, rfl⟩ : ∃ N, n = N + 1 := ⟨n - 1, by omega⟩
 rw [zoy]
 unfold zqr
 exact zeS N H a b k S A B P M 0 N hB (by omega) (by omega) (by omega) hl (by omega)
theorem zdo (n : Nat) (H : zd) (c : V) (m : Nat) : ∀ (Mx : Nat) (A B P S : List Int), A ≠ [] -> B ≠ [] -> m = P.length + A.length -> P.length + A.length + B.length < lim -> A.length + B.length <= Mx -> A.length + B.length + 2 <= n →
    zV Mx (zab n m c) [.sl 1 (iL (P ++ (A ++ (B ++ S)))) false, .int .i64 (A.length : Int), .int .i64 (B.length : Int)] H = some (.ret [.sl 1 (iL (P ++ (B ++ (A ++ S)))) false], H)
 | 0, A, B, P, S, hA, hB, _, _, h, _ => by
   cases A with
   | nil => exact absurd rfl hA
   | cons => simp at h
 | Mx + 1, A, B, P, S, hA, hB, hm, hl, hx, hn => by
   have a0 : 0 < A.length := ZJ.2 hA
   have b0 : 0 < B.length := ZJ.2 hB
   have e1 : IntKind.i64.wrap ((m : Int) - (A.length : Int)) = ((P.length : Nat) : Int) := wN (by omega) (by omega)
   rw [zD]
   by_cases h1 : A.length = B.length
   · have hne : ((A.length : Int) != (B.length : Int)) = false := by simp [h1]
     have hs := zaW n H c P.length m A.length P A [] B S h1.symm rfl rfl (by simpa using hm) (by simp; omega) (by omega)
     simp only [zX] at hs
     simp only [zab, gv, zh, zf, K6, za, zm, hne, zn, if_false, ZN, e1, lsl]
     rw [hs, J0]
   · have hne : ((A.length : Int) != (B.length : Int)) = true := by simp; omega
     by_cases h2 : B.length < A.length
     ·
      have hgt : (A.length : Int) > (B.length : Int) := by omega
      obtain ⟨A1, A2, rfl, hA1⟩ : ∃ A1 A2, A = A1 ++ A2 /\ A1.length = B.length := ⟨A.take B.length, A.drop B.length, (Zv _ _).symm, by rw [Ze]; omega⟩
      rw [zB] at *
      have hs := zaW n H c P.length m B.length P A1 A2 B S hA1.symm hA1 rfl (by omega) (by omega) (by omega)
      have e2 : IntKind.i64.wrap (((A1.length + A2.length : Nat) : Int) - (B.length : Int)) = ((A2.length : Nat) : Int) := wN (by omega) (by omega)
      have ih := zdo n H c m Mx A2 A1 (P ++ B) S (by rintro rfl; simp at h2; omega) (by rintro rfl; simp at hA1; omega) (by simp; omega) (by simp; omega) (by omega) (by omega)
      simp only [List.append_assoc] at hs ih ⊢
      rw [hA1] at ih
      simp only [zab, gv, zh, zf, K6, za, zm, hne, if_true, Xy, hgt, decide_true, ZN, e1, lsl]
      rw [hs, J0, e2, ih]
     · have hgt : ¬ (A.length : Int) > (B.length : Int) := by omega
       obtain ⟨B1, B2, rfl, hB2⟩ : ∃ B1 B2, B = B1 ++ B2 /\ B2.length = A.length := ⟨B.take (B.length - A.length), B.drop (B.length - A.length), (Zv _ _).symm, by rw [Xp]; omega⟩
       rw [zB] at *
       have hs := zaW n H c P.length (P.length + A.length + B1.length) A.length P A B1 B2 S hB2 rfl rfl rfl (by omega) (by omega)
       have e2 : IntKind.i64.wrap ((m : Int) + ((B1.length + B2.length : Nat) : Int)) = ((m + (B1.length + B2.length) : Nat) : Int) := wN (by omega) (by omega)
       have e3 : IntKind.i64.wrap (((m + (B1.length + B2.length) : Nat) : Int) - (A.length : Int)) = ((P.length + A.length + B1.length : Nat) : Int) := wN (by omega) (by omega)
       have e4 : IntKind.i64.wrap (((B1.length + B2.length : Nat) : Int) - (A.length : Int)) = ((B1.length : Nat) : Int) := wN (by omega) (by omega)
       have ih := zdo n H c m Mx B2 B1 P (A ++ S) (by rintro rfl; simp at hB2; omega) (by rintro rfl; simp at h1; omega) (by omega) (by omega) (by omega) (by omega)
       simp only [List.append_assoc] at hs ih ⊢
       rw [hB2] at ih
       simp only [zab, gv, zh, zf, K6, za, zm, hne, if_true, Xy, hgt, decide_false, zn, if_false, ZN, zK, e1, e2, e3, lsl]
       rw [hs, J0, e4, ih]
theorem zoB (n : Nat) (H : zd) (c : V) (a m b : Nat) (P A B S : List Int) (hA : A ≠ []) (hB : B ≠ []) (ha : a = P.length) (hm : m = P.length + A.length) (hb : b = P.length + A.length + B.length) (hl : P.length + A.length + B.length < lim) (hn : A.length + B.length + 3 <= n) :
    call n 250 [.sl 1 (iL (P ++ (A ++ (B ++ S)))) false, .int .i64 (a : Int), .int .i64 (m : Int), .int .i64 (b : Int), c] H = some (.ret [.sl 1 (iL (P ++ (B ++ (A ++ S)))) false], H) := by
 obtain ⟨N, rfl⟩ : ∃ N, n = N + 1 := ⟨n - 1, by omega⟩
 have e1 : IntKind.i64.wrap ((m : Int) - (a : Int)) = ((A.length : Nat) : Int) := wN (by omega) (by omega)
 have e2 : IntKind.i64.wrap ((b : Int) - (m : Int)) = ((B.length : Nat) : Int) := wN (by omega) (by omega)
 rw [zpL]
 unfold zrr
 rw [e1, e2]
 exact zdo N H c m N A B P S hA hB hm hl (by omega) (by omega)
end Go.Proofs.Tryz
namespace Go.Proofs.Tryz
open Go.L Go.Rp
set_option maxRecDepth 100000
structure CmpOk (n0 : Nat) (c : V) (H : zd) (K : Int -> Int) (D : Int -> Prop) : Prop where
 ex : ∃ f caps, c = .fn f caps /\ okV prog 3 f = true /\ QD f = true /\ ∀ n, n0 <= n -> ∀ x y, D x -> D y -> ∃ q, call n f ([.int .i64 x, .int .i64 y] ++ caps) H = some (.ret [.int .i64 q], H) /\ (q < 0 ↔ K x < K y)
theorem adj (Q T : List Int) (y x : Int) {i j : Nat} (hi : i = Q.length) (hj : j = Q.length + 1) :
    (Q ++ y :: x :: T)[i]? = some y /\ (Q ++ y :: x :: T)[j]? = some x /\ (Q ++ y :: x :: T).set j y = Q ++ y :: y :: T /\ (Q ++ y :: x :: T).set i x = Q ++ x :: x :: T ∧
    (Q ++ y :: y :: T)[i]? = some y /\ (Q ++ x :: x :: T)[j]? = some x /\ (Q ++ y :: y :: T).set i x = Q ++ x :: y :: T /\ (Q ++ x :: x :: T).set j y = Q ++ x :: y :: T := by
 have e : ∀ u v : Int, Q ++ u :: v :: T = (Q ++ [u]) ++ v :: T := fun u v => by simp
 have hl : ∀ u : Int, j = (Q ++ [u]).length := fun u => by simp; omega
 refine ⟨WU _ _ _ hi, ?_, ?_, jF _ _ _ _ hi, WU _ _ _ hi, ?_, jF _ _ _ _ hi, ?_⟩
 · rw [e]; exact WU _ _ _ (hl y)
 · rw [e, jF _ _ _ _ (hl y)]; simp
 · rw [e]; exact WU _ _ _ (hl x)
 · rw [e, jF _ _ _ _ (hl x)]; simp
section
variable {K : Int -> Int} {D : Int -> Prop} {H : zd} {c : V} {n0 : Nat} {p : Nat -> Int}
theorem zeT (hc : CmpOk n0 c H K D) (n a i : Nat) (st1 : List V) (next3 : List V -> zd -> Option (Res × zd)) (hst : gv st1 1 = .int .i64 (i : Int)) (hi : i + 1 < lim) (hn : n0 <= n) (R : List Int) : ∀ (r : List Int) (x : Int) (b P : List Int) (j Mx : Nat),
    a = P.length -> j = P.length + r.length -> j + b.length + R.length + 1 < lim -> (∀ y ∈ r, D y) -> D x -> r.length < Mx →
    zV Mx (zb0 n a c st1 next3) [.sl 1 (iL (P ++ (r.reverse ++ (x :: (b ++ R))))) false, .int .i64 (j : Int)] H = next3 [.sl 1 (iL (P ++ (jN K r x b ++ R))) false, .int .i64 ((i + 1 : Nat) : Int)] H
 | _, _, _, _, _, 0, _, _, _, _, _, h => by omega
 | [], x, b, P, j, Mx + 1, ha, hj, hl, hr, hx, hM => by
   have hja : ¬ (j : Int) > (a : Int) := by simp at hj; omega
   have e1 : IntKind.i64.wrap ((i : Int) + 1) = ((i + 1 : Nat) : Int) := wN (by omega) hi
   rw [zD]
   simp only [zb0, gv, zh, zf, Xy, za, zm, hja, decide_false, zn, if_false, lsl]
   simp only [gv] at hst
   simp only [hst, zK, za, e1, jN, List.reverse_nil, zX, Z3]
 | y :: r, x, b, P, j, Mx + 1, ha, hj, hl, hr, hx, hM => by
   obtain ⟨f, caps, hcf, hok, hk, hcmp⟩ := hc.ex
   have hfn : ∀ k : Nat -> List V -> Option (Res × zd), fnK c k = k f caps := fun k => by rw [hcf]; rfl
   simp only [zA] at hj hM
   have hja : (j : Int) > (a : Int) := by omega
   have hL : P ++ ((y :: r).reverse ++ (x :: (b ++ R))) = (P ++ r.reverse) ++ y :: x :: (b ++ R) := by simp
   have e1 : IntKind.i64.wrap ((i : Int) + 1) = ((i + 1 : Nat) : Int) := wN (by omega) hi
   have e2 : IntKind.i64.wrap ((j : Int) - 1) = ((j - 1 : Nat) : Int) := wN (by omega) (by omega)
   obtain ⟨s1, s2, s3, s4, s5, s6, s7, s8⟩ := adj (P ++ r.reverse) (b ++ R) y x (i := j - 1) (j := j) (by simp; omega) (by simp; omega)
   have l1 := (zi.1 s1).1
   have l2 := (zi.1 s2).1
   have l5 := (zi.1 s5).1
   obtain ⟨q, hq, hqk⟩ := hcmp n hn x y hx (hr y (by simp))
   have ih := zeT hc n a i st1 next3 hst hi hn R r x (y :: b) P (j - 1) Mx ha (by omega) (by simp; omega) (fun z hz => hr z (zp _ hz)) hx (by omega)
   rw [zD, hL]
   simp only [zb0, gv, zh, zf, Xy, za, zm, hja, decide_true, if_true, Zd, zw, lsl, XG, KB, Nat.reduceBEq, and_true, l1, l2, QX s1, QX s2, zb, ZN, e2, hfn, hok, hk]
   rw [hq, zM]
   simp only [zE, zt, za, zm]
   by_cases hxy : K x < K y
   · have hq0 : q < 0 := hqk.2 hxy
     simp only [hq0, decide_true, if_true, Zd, zw, za, QX s1, QX s2, zb, V.cells, zA, zP, zr, zb3, zb2, zgd, s3, XG, l1, l2, l5, QX s5, s7, if_true]
     rw [jN, if_pos hxy]
     have hL2 : (P ++ r.reverse) ++ x :: y :: (b ++ R) = P ++ (r.reverse ++ (x :: (y :: b ++ R))) := by simp
     rw [hL2]
     exact ih
   · have hq0 : ¬ q < 0 := fun h => hxy (hqk.1 h)
     simp only [gv] at hst
     simp only [hq0, decide_false, zn, if_false, hst, zK, za, e1]
     rw [jN, if_neg hxy]
     simp
theorem zis (hc : CmpOk n0 c H K D) (n lo len : Nat) (hn : n0 <= n) (hn2 : len <= n) (hlim : lo + len + 1 < lim) (P S : List Int) (hP : lo = P.length) (hD : ∀ x ∈ rng p lo len, D x) (hS : lo + len + S.length < lim) : ∀ (d k Mx : Nat), 1 <= k -> (k + d = len \/ (len = 0 /\ k = 1 /\ d = 0)) -> d < Mx →
    zV Mx (zad n lo ((lo + len : Nat) : Int) c) [.sl 1 (iL (P ++ (sR K p lo (min k len) ++ (rng p (lo + k) (len - k) ++ S)))) false, .int .i64 ((lo + k : Nat) : Int)] H = some (.ret [.sl 1 (iL (P ++ (sR K p lo len ++ S))) false], H)
 | d, k, 0, _, _, h => by omega
 | 0, k, Mx + 1, h1, hk, _ => by
   have hik : ¬ ((lo + k : Nat) : Int) < ((lo + len : Nat) : Int) := by omega
   have hmin : min k len = len := by omega
   have hz : len - k = 0 := by omega
   rw [zD]
   simp only [zad, gv, zh, zf, zt, za, zm, hik, decide_false, zn, if_false, lsl, hmin, hz]
   rfl
 | d + 1, k, Mx + 1, h1, hk, hM => by
   have hkl : k + (d + 1) = len := by omega
   have hik : ((lo + k : Nat) : Int) < ((lo + len : Nat) : Int) := by omega
   have hmin : min k len = k := by omega
   have hr : rng p (lo + k) (len - k) = p (lo + k) :: rng p (lo + (k + 1)) (len - (k + 1)) := by
    rw [show len - k = (len - (k + 1)) + 1 by omega, zio, ZQ]
   have ih := zis hc n lo len hn hn2 hlim P S hP hD hS d (k + 1) Mx (by omega) (by omega) (by omega)
   have hm2 : min (k + 1) len = k + 1 := by omega
   rw [hm2] at ih
   have hDk : ∀ y ∈ (sR K p lo k).reverse, D y := fun y hy => hD y (by
    obtain ⟨i, h1, h2, h3⟩ := zaV.1 (List.mem_reverse.1 hy)
    exact Kz.2 ⟨i, h1, by omega, h3⟩)
   have inner := zeT hc n lo (lo + k) [.sl 1 (iL (P ++ (sR K p lo k ++ (rng p (lo + k) (len - k) ++ S)))) false, .int .i64 ((lo + k : Nat) : Int)] (zV Mx (zad n lo ((lo + len : Nat) : Int) c)) rfl (by omega) hn (rng p (lo + (k + 1)) (len - (k + 1)) ++ S)
    (sR K p lo k).reverse (p (lo + k)) [] P (lo + k) n hP (by rw [Jw, Yz]; omega) (by rw [zB, zb1]; simp; omega) hDk (hD _ (Kz.2 ⟨_, by omega, by omega, rfl⟩)) (by rw [Jw, Yz]; omega)
   rw [QM, zX] at inner
   rw [zD, hmin]
   simp only [zad, gv, zh, zf, zt, za, zm, hik, decide_true, if_true, lsl]
   have hL : P ++ (sR K p lo k ++ (rng p (lo + k) (len - k) ++ S)) = P ++ (sR K p lo k ++ (p (lo + k) :: (rng p (lo + (k + 1)) (len - (k + 1)) ++ S))) := by rw [hr]; rfl
   simp only [hL] at inner ⊢
   rw [inner]
   exact ih
theorem zit (hc : CmpOk n0 c H K D) (n lo len : Nat) (P S : List Int) (hP : lo = P.length) (hD : ∀ x ∈ rng p lo len, D x) (hS : lo + len + S.length + 1 < lim) (hn : n0 + 1 <= n) (hn2 : len + 2 <= n) :
    call n 248 [.sl 1 (iL (P ++ (rng p lo len ++ S))) false, .int .i64 (lo : Int), .int .i64 ((lo + len : Nat) : Int), c] H = some (.ret [.sl 1 (iL (P ++ (sR K p lo len ++ S))) false], H) := by
 obtain ⟨N, rfl⟩ : ∃ N, n = N + 1 := ⟨n - 1, by omega⟩
 have e1 : IntKind.i64.wrap ((lo : Int) + 1) = ((lo + 1 : Nat) : Int) := wN (by omega) (by omega)
 rw [zpN]
 unfold zrt
 rw [e1]
 have h1 : rng p lo len = sR K p lo (min 1 len) ++ rng p (lo + 1) (len - 1) := by
  cases len with
  | zero => simp [rng, sR]
  | succ l =>
    have : min 1 (l + 1) = 1 := by omega
    rw [this, zio]; simp [sR, jN]
 rw [h1, List.append_assoc]
 exact zis hc N lo len (by omega) (by omega) (by omega) P S hP hD (by omega) (len - 1) 1 N (by omega) (by omega) (by omega)
theorem zdp {l : V} {body : List V -> zd -> (List V -> zd -> Option (Res × zd)) -> Option (Res × zd)} {fin : Nat -> Option (Res × zd)} {Q : Nat -> Prop} (lo hi : Nat)
    (step : ∀ i j : Nat, lo <= i -> i < j -> j <= hi -> ∀ next, (Q ((i + j) / 2) /\ body [l, .int .i64 (i : Int), .int .i64 (j : Int)] H next = next [l, .int .i64 (((i + j) / 2 + 1 : Nat) : Int), .int .i64 (j : Int)] H) \/ (¬ Q ((i + j) / 2) /\ body [l, .int .i64 (i : Int), .int .i64 (j : Int)] H next = next [l, .int .i64 (i : Int), .int .i64 (((i + j) / 2 : Nat) : Int)] H))
    (stop : ∀ i : Nat, lo <= i -> i <= hi -> ∀ next, body [l, .int .i64 (i : Int), .int .i64 (i : Int)] H next = fin i) : ∀ (M i j : Nat), j - i < M -> lo <= i -> i <= j -> j <= hi -> (i = lo \/ Q (i - 1)) -> (j = hi \/ ¬ Q j) →
    ∃ r, lo <= r /\ r <= hi /\ (r = lo \/ Q (r - 1)) /\ (r = hi \/ ¬ Q r) /\ zV M body [l, .int .i64 (i : Int), .int .i64 (j : Int)] H = fin r
 | 0, i, j, h, _, _, _, _, _ => by omega
 | M + 1, i, j, h, h1, h2, h3, h4, h5 => by
   by_cases hij : i = j
   · subst hij
     exact ⟨i, h1, h3, h4, h5, by rw [zD]; exact stop i h1 h3 _⟩
   · rcases step i j h1 (by omega) h3 (zV M body) with ⟨q, e⟩ | ⟨q, e⟩
     · obtain ⟨r, r1, r2, r3, r4, r5⟩ := zdp lo hi step stop M ((i + j) / 2 + 1) j (by omega) (by omega) (by omega) h3 (.inr (by simpa using q)) h5
       exact ⟨r, r1, r2, r3, r4, by rw [zD, e]; exact r5⟩
     · obtain ⟨r, r1, r2, r3, r4, r5⟩ := zdp lo hi step stop M i ((i + j) / 2) (by omega) h1 (by omega) (by omega) h4 (.inr q)
       exact ⟨r, r1, r2, r3, r4, by rw [zD, e]; exact r5⟩
end
theorem zj0 (a : Int) : cvt prog 3 204 (.int .i64 a) = some (.int .u64 (IntKind.u64.wrap a)) := by kernel_rfl
theorem zge (a : Int) : cvt prog 204 3 (.int .u64 a) = some (.int .i64 (IntKind.i64.wrap a)) := by kernel_rfl
theorem zld (a : Int) : bop prog .shr 204 (.int .u64 a) (.int .u64 1) = some (.int .u64 (a.fdiv (2 ^ (min (1 : Int).toNat 64)))) := by kernel_rfl
theorem zb4 {i j : Nat} (h : i + j < lim) : IntKind.i64.wrap ((IntKind.u64.wrap (((i + j : Nat) : Int))).fdiv (2 ^ (min (1 : Int).toNat 64))) = (((i + j) / 2 : Nat) : Int) := by
 have e : IntKind.u64.wrap (((i + j : Nat) : Int)) = ((i + j : Nat) : Int) := by rw [IntKind.wrap_u64]; unfold lim at h; omega
 rw [e]
 have e2 : (2 : Int) ^ (min (1 : Int).toNat 64) = 2 := by decide
 rw [e2, Int.fdiv_eq_ediv_of_nonneg _ (by decide)]
 exact wN (by omega) (by omega)
end Go.Proofs.Tryz
namespace Go.Proofs.Tryz
open Go.L Go.Rp
set_option maxRecDepth 100000
noncomputable def zj1 (n : Nat) (b : Int) (c : V) (v100 v138 : V) (l : List (List V)) (h : zd) : Option (Res × zd) :=
 bd (bop prog .lss 3 v100 v138) fun v153 =>
 bv v153 fun b154 => if b154 then
  bd (bop prog .lss 3 v138 (V.int .i64 b)) fun v155 =>
  bv v155 fun b156 => if b156 then
   clm (call n 249 (V.sl 1 l false :: [v100, v138, (V.int .i64 b), c]) h) 1 fun l157 r158 h159 => some (Res.ret (V.sl 1 l157 false :: []), h159)
  else some (Res.ret (V.sl 1 l false :: []), h)
 else some (Res.ret (V.sl 1 l false :: []), h)
noncomputable def zmu (n : Nat) (a b : Int) (c : V) (v100 v138 v1 : V) (l : List (List V)) (h : zd) : Option (Res × zd) :=
 bd (bop prog .lss 3 (V.int .i64 a) v1) fun v146 =>
 bv v146 fun b147 => if b147 then
  bd (bop prog .lss 3 v1 v100) fun v148 =>
  bv v148 fun b149 => if b149 then
   clm (call n 249 (V.sl 1 l false :: [(V.int .i64 a), v1, v100, c]) h) 1 fun l150 r151 h152 => zj1 n b c v100 v138 l150 h152
  else zj1 n b c v100 v138 l h
 else zj1 n b c v100 v138 l h
noncomputable def zoC (n : Nat) (a m b : Int) (c : V) (v100 v101 v1 : V) (l : List (List V)) (hh : zd) : Option (Res × zd) :=
 bd (bop prog .sub 3 v101 v1) fun v138 =>
 bd (bop prog .lss 3 v1 (V.int .i64 m)) fun v139 =>
 bv v139 fun b140 => if b140 then
  bd (bop prog .lss 3 (V.int .i64 m) v138) fun v141 =>
  bv v141 fun b142 => if b142 then
   clm (call n 250 (V.sl 1 l false :: [v1, (V.int .i64 m), v138, c]) hh) 1 fun l143 r144 h145 => zmu n a b c v100 v138 v1 l143 h145
  else zmu n a b c v100 v138 v1 l hh
 else zmu n a b c v100 v138 v1 l hh
def zle (c : V) (H : zd) (K : Int -> Int) (D : Int -> Prop) (n sz : Nat) : Prop := ∀ (A B P S : List Int) (a m b : Nat), A ≠ [] -> B ≠ [] -> A.length + B.length <= sz -> a = P.length -> m = P.length + A.length -> b = P.length + A.length + B.length -> 2 * b + 1 < lim →
 Sd K A -> Sd K B -> (∀ x ∈ A, ∀ y ∈ B, x < y) -> (∀ x ∈ A, D x) -> (∀ y ∈ B, D y) -> ∃ C, C.Perm (A ++ B) /\ Sd K C ∧
  call n 249 [.sl 1 (iL (P ++ (A ++ (B ++ S)))) false, .int .i64 (a : Int), .int .i64 (m : Int), .int .i64 (b : Int), c] H = some (.ret [.sl 1 (iL (P ++ (C ++ S))) false], H)
section
variable {K : Int -> Int} {D : Int -> Prop} {H : zd} {c : V}
theorem zpP {n sz : Nat} (ih : zle c H K D n sz) (A B P S : List Int) (mid e b : Nat) (hsz : A.length + B.length <= sz) (hm : mid = P.length) (he : e = P.length + A.length) (hb : b = P.length + A.length + B.length) (hl : 2 * b + 1 < lim)
    (hA : Sd K A) (hB : Sd K B) (hlt : ∀ x ∈ A, ∀ y ∈ B, x < y) (dA : ∀ x ∈ A, D x) (dB : ∀ y ∈ B, D y) : ∃ C, C.Perm (A ++ B) /\ Sd K C ∧
    zj1 n b c (.int .i64 (mid : Int)) (.int .i64 (e : Int)) (iL (P ++ (A ++ (B ++ S)))) H = some (.ret [.sl 1 (iL (P ++ (C ++ S))) false], H) := by
 unfold zj1
 by_cases h1 : A = []
 · subst h1
   have hc : ¬ (mid : Int) < (e : Int) := by simp at he; omega
   exact ⟨B, .refl _, hB, by simp only [zt, za, zm, hc, decide_false, zn, if_false, zX]⟩
 · have hA0 : 0 < A.length := ZJ.2 h1
   have hc : (mid : Int) < (e : Int) := by omega
   by_cases h2 : B = []
   · subst h2
     have hc2 : ¬ (e : Int) < (b : Int) := by simp at hb; omega
     exact ⟨A, by simp, hA, by simp only [zt, za, zm, hc, hc2, decide_true, decide_false, zn, if_false, if_true, zX]⟩
   · have hB0 : 0 < B.length := ZJ.2 h2
     have hc2 : (e : Int) < (b : Int) := by omega
     obtain ⟨C, p, s, e1⟩ := ih A B P S mid e b h1 h2 hsz hm he hb hl hA hB hlt dA dB
     refine ⟨C, p, s, ?_⟩
     simp only [zt, za, zm, hc, hc2, decide_true, if_true]
     rw [e1, J0]
theorem zpQ {n sz : Nat} (ih : zle c H K D n sz) (A1 A2 B1 B2 P S : List Int) (a r mid e b : Nat) (h1z : A1.length + B1.length <= sz) (h2z : A2.length + B2.length <= sz) (ha : a = P.length) (hr : r = P.length + A1.length) (hm : mid = P.length + A1.length + B1.length) (he : e = mid + A2.length) (hb : b = e + B2.length) (hl : 2 * b + 1 < lim)
    (s1 : Sd K A1) (t1 : Sd K B1) (s2 : Sd K A2) (t2 : Sd K B2) (hlt : ∀ x ∈ A1 ++ A2, ∀ y ∈ B1 ++ B2, x < y) (dA : ∀ x ∈ A1 ++ A2, D x) (dB : ∀ y ∈ B1 ++ B2, D y) : ∃ C1 C2, C1.Perm (A1 ++ B1) /\ Sd K C1 /\ C2.Perm (A2 ++ B2) /\ Sd K C2 ∧
    zmu n a b c (.int .i64 (mid : Int)) (.int .i64 (e : Int)) (.int .i64 (r : Int)) (iL (P ++ (A1 ++ (B1 ++ (A2 ++ (B2 ++ S)))))) H = some (.ret [.sl 1 (iL (P ++ (C1 ++ (C2 ++ S)))) false], H) := by
 have hU : ∀ C1 : List Int, C1.length = A1.length + B1.length -> ∃ C2, C2.Perm (A2 ++ B2) /\ Sd K C2 /\ zj1 n b c (.int .i64 (mid : Int)) (.int .i64 (e : Int)) (iL (P ++ (C1 ++ (A2 ++ (B2 ++ S))))) H = some (.ret [.sl 1 (iL (P ++ (C1 ++ (C2 ++ S)))) false], H) := fun C1 hC => by
  obtain ⟨C2, p, s, e1⟩ := zpP ih A2 B2 (P ++ C1) S mid e b h2z (by simp; omega) (by simp; omega) (by simp; omega) hl s2 t2 (fun x hx y hy => hlt x (ZF _ hx) y (ZF _ hy)) (fun x hx => dA x (ZF _ hx)) (fun y hy => dB y (ZF _ hy))
  exact ⟨C2, p, s, by simpa only [List.append_assoc] using e1⟩
 unfold zmu
 by_cases h1 : A1 = []
 · subst h1
   have hc : ¬ (a : Int) < (r : Int) := by simp at hr; omega
   obtain ⟨C2, p, s, e1⟩ := hU B1 (by simp)
   exact ⟨B1, C2, .refl _, t1, p, s, by simp only [zt, za, zm, hc, decide_false, zn, if_false, zX]; exact e1⟩
 · have hA0 : 0 < A1.length := ZJ.2 h1
   have hc : (a : Int) < (r : Int) := by omega
   by_cases h2 : B1 = []
   · subst h2
     have hc2 : ¬ (r : Int) < (mid : Int) := by simp at hm; omega
     obtain ⟨C2, p, s, e1⟩ := hU A1 (by simp)
     exact ⟨A1, C2, by simp, s1, p, s, by simp only [zt, za, zm, hc, hc2, decide_true, decide_false, zn, if_false, if_true, zX]; exact e1⟩
   · have hB0 : 0 < B1.length := ZJ.2 h2
     have hc2 : (r : Int) < (mid : Int) := by omega
     obtain ⟨C1, p1, q1, e1⟩ := ih A1 B1 P (A2 ++ (B2 ++ S)) a r mid h1 h2 h1z ha hr hm (by omega) s1 t1 (fun x hx y hy => hlt x (zW _ hx) y (zW _ hy)) (fun x hx => dA x (zW _ hx)) (fun y hy => dB y (zW _ hy))
     obtain ⟨C2, p2, q2, e2⟩ := hU C1 (by rw [p1.length_eq]; simp)
     refine ⟨C1, C2, p1, q1, p2, q2, ?_⟩
     simp only [zt, za, zm, hc, hc2, decide_true, if_true]
     rw [e1, J0, e2]
theorem zpR {n sz : Nat} (ih : zle c H K D n sz) (A1 A2 B1 B2 P S : List Int) (a r m mid nn b : Nat) (h1z : A1.length + B1.length <= sz) (h2z : A2.length + B2.length <= sz) (ha : a = P.length) (hr : r = P.length + A1.length) (hmm : m = r + A2.length) (hm : mid = P.length + A1.length + B1.length) (hnn : nn = mid + m) (hb : b = m + B1.length + B2.length) (hl : 2 * b + 1 < lim) (hn : A2.length + B1.length + 3 <= n)
    (s1 : Sd K A1) (t1 : Sd K B1) (s2 : Sd K A2) (t2 : Sd K B2) (hlt : ∀ x ∈ A1 ++ A2, ∀ y ∈ B1 ++ B2, x < y) (dA : ∀ x ∈ A1 ++ A2, D x) (dB : ∀ y ∈ B1 ++ B2, D y) : ∃ C1 C2, C1.Perm (A1 ++ B1) /\ Sd K C1 /\ C2.Perm (A2 ++ B2) /\ Sd K C2 ∧
    zoC n a m b c (.int .i64 (mid : Int)) (.int .i64 (nn : Int)) (.int .i64 (r : Int)) (iL (P ++ ((A1 ++ A2) ++ ((B1 ++ B2) ++ S)))) H = some (.ret [.sl 1 (iL (P ++ (C1 ++ (C2 ++ S)))) false], H) := by
 obtain ⟨C1, C2, p1, q1, p2, q2, e1⟩ := zpQ ih A1 A2 B1 B2 P S a r mid (m + B1.length) b h1z h2z ha hr hm (by omega) (by omega) hl s1 t1 s2 t2 hlt dA dB
 refine ⟨C1, C2, p1, q1, p2, q2, ?_⟩
 have e2 : IntKind.i64.wrap ((nn : Int) - (r : Int)) = ((m + B1.length : Nat) : Int) := wN (by omega) (by omega)
 unfold zoC
 simp only [ZN, za, e2, zt, zm]
 by_cases h1 : A2 = []
 · subst h1
   have hc : ¬ (r : Int) < (m : Int) := by simp at hmm; omega
   simp only [hc, decide_false, zn, if_false]
   simpa only [Zm, zX, List.append_assoc] using e1
 · have hA0 : 0 < A2.length := ZJ.2 h1
   have hc : (r : Int) < (m : Int) := by omega
   by_cases h2 : B1 = []
   · subst h2
     have hc2 : ¬ (m : Int) < ((m + ([] : List Int).length : Nat) : Int) := by simp
     simp only [hc, hc2, decide_true, decide_false, zn, if_false, if_true]
     simpa only [Zm, zX, List.append_assoc] using e1
   · have hB0 : 0 < B1.length := ZJ.2 h2
     have hc2 : (m : Int) < ((m + B1.length : Nat) : Int) := by omega
     have hrot := zoB n H c r m (m + B1.length) (P ++ A1) A2 B1 (B2 ++ S) h1 h2 (by simp; omega) (by simp; omega) (by simp; omega) (by simp; omega) hn
     simp only [hc, hc2, decide_true, if_true]
     simp only [List.append_assoc] at hrot e1 ⊢
     rw [hrot, J0, e1]
end
end Go.Proofs.Tryz
namespace Go.Proofs.Tryz
open Go.L Go.Rp
set_option maxRecDepth 100000
theorem zai {k : Nat} : ((some k : Option Nat) ≠ some 0) = ((k == 0) = false) := by simp
theorem zlo : (0 : Nat) < 1 := by decide
theorem ole : (1 : Nat) <= 1 := by decide
theorem zb5 (P A S : List Int) {h : Nat} (h1 : P.length <= h) (h2 : h < P.length + A.length) : (P ++ (A ++ S))[h]? = some (A.getD (h - P.length) 0) := by
 rw [zG h1, zl (by omega), zQ, zg (by omega)]; rfl
theorem zaj {A : List Int} {k : Nat} (h : k < A.length) : A.getD k 0 ∈ A := by
 rw [zQ, zg h]; exact Z9 h
section
variable {K : Int -> Int} {D : Int -> Prop} {H : zd} {c : V} {n0 : Nat} {p : Nat -> Int}
theorem ziu (n i : Nat) (st1 : List V) (hst : st1.getD 1 (.bool false) = .int .i64 (i : Int)) (hi : i + 1 < lim) (x : Int) (R : List Int) : ∀ (B P : List Int) (k Mx : Nat), k = P.length -> i = k + 1 + B.length -> B.length < Mx →
    zV Mx (jh n st1) [.sl 1 (iL (P ++ (x :: (B ++ R)))) false, .int .i64 (k : Int)] H = some (.ret [.sl 1 (iL (P ++ (B ++ (x :: R)))) false], H)
 | _, _, _, 0, _, _, h => by omega
 | [], P, k, Mx + 1, hk, hi', hM => by
   have e1 : IntKind.i64.wrap ((i : Int) - 1) = ((i - 1 : Nat) : Int) := wN (by omega) (by omega)
   have hc : ¬ (k : Int) < ((i - 1 : Nat) : Int) := by simp at hi'; omega
   rw [zD]
   simp only [jh, gv, zh, zf, hst, ZN, za, e1, zt, zm, hc, decide_false, zn, if_false, lsl, zX]
 | y :: B, P, k, Mx + 1, hk, hi', hM => by
   simp only [zA] at hi' hM
   have e1 : IntKind.i64.wrap ((i : Int) - 1) = ((i - 1 : Nat) : Int) := wN (by omega) (by omega)
   have e2 : IntKind.i64.wrap ((k : Int) + 1) = ((k + 1 : Nat) : Int) := wN (by omega) (by omega)
   have hc : (k : Int) < ((i - 1 : Nat) : Int) := by omega
   obtain ⟨s1, s2, s3, s4, s5, s6, s7, s8⟩ := adj P (B ++ R) x y hk (show k + 1 = P.length + 1 by omega)
   have l1 := (zi.1 s1).1
   have l2 := (zi.1 s2).1
   have l6 := (zi.1 s6).1
   have ih := ziu n i st1 hst hi x R B (P ++ [y]) (k + 1) Mx (by simp; omega) (by omega) (by omega)
   rw [zD, Z3]
   simp only [jh, gv, zh, zf, hst, ZN, zK, za, e1, e2, zt, zm, hc, decide_true, if_true, Zd, zw, lsl, XG, KB, zai, true_and, zlo, ole, Nat.reduceBEq, and_true, l1, l2, l6, QX s1, QX s2, zb, V.cells, zA, zP, zr, zb3, zb2, zgd, s4, QX s6, s8]
   simpa only [List.append_assoc, Z3, zX] using ih
theorem ziv (n i : Nat) (st50 : List V) (hst : st50.getD 1 (.bool false) = .int .i64 (i : Int)) (x : Int) : ∀ (r R P : List Int) (k Mx : Nat), i = P.length -> k = P.length + r.length -> k + 1 < lim -> r.length < Mx →
    zV Mx (ji n st50) [.sl 1 (iL (P ++ (r.reverse ++ (x :: R)))) false, .int .i64 (k : Int)] H = some (.ret [.sl 1 (iL (P ++ (x :: (r.reverse ++ R)))) false], H)
 | _, _, _, _, 0, _, _, _, h => by omega
 | [], R, P, k, Mx + 1, hi, hk, hl, hM => by
   have hc : ¬ (k : Int) > (i : Int) := by simp at hk; omega
   rw [zD]
   simp only [ji, gv, zh, zf, hst, Xy, za, zm, hc, decide_false, zn, if_false, lsl, zX, List.reverse_nil]
 | y :: r, R, P, k, Mx + 1, hi, hk, hl, hM => by
   simp only [zA] at hk hM
   have e1 : IntKind.i64.wrap ((k : Int) - 1) = ((k - 1 : Nat) : Int) := wN (by omega) (by omega)
   have hc : (k : Int) > (i : Int) := by omega
   have hL : P ++ ((y :: r).reverse ++ (x :: R)) = (P ++ r.reverse) ++ y :: x :: R := by simp
   obtain ⟨s1, s2, s3, s4, s5, s6, s7, s8⟩ := adj (P ++ r.reverse) R y x (i := k - 1) (j := k) (by simp; omega) (by simp; omega)
   have l1 := (zi.1 s1).1
   have l2 := (zi.1 s2).1
   have l5 := (zi.1 s5).1
   have ih := ziv n i st50 hst x r (y :: R) P (k - 1) Mx hi (by omega) (by omega) (by omega)
   rw [zD, hL]
   simp only [ji, gv, zh, zf, hst, ZN, za, e1, Xy, zm, hc, decide_true, if_true, Zd, zw, lsl, XG, KB, zai, true_and, zlo, ole, Nat.reduceBEq, and_true, l1, l2, l5, QX s1, QX s2, zb, V.cells, zA, zP, zr, zb3, zb2, zgd, s3, QX s5, s7]
   simpa only [List.append_assoc, J9, Z3, zX] using ih
theorem zpS (hc : CmpOk n0 c H K D) (n : Nat) (x : Int) (B P S : List Int) (a m b : Nat) (ha : a = P.length) (hm : m = P.length + 1) (hb : b = P.length + 1 + B.length) (hl : 2 * b + 1 < lim) (hB : Sd K B) (hlt : ∀ y ∈ B, x < y) (dx : D x) (dB : ∀ y ∈ B, D y) (hn : n0 <= n) (hn2 : B.length + 2 <= n) :
    ∃ C, C.Perm (x :: B) /\ Sd K C /\ zV n (zac n a c) [.sl 1 (iL (P ++ (x :: (B ++ S)))) false, .int .i64 (m : Int), .int .i64 (b : Int)] H = some (.ret [.sl 1 (iL (P ++ (C ++ S))) false], H) := by
 obtain ⟨f, caps, hcf, hok, hk, hcmp⟩ := hc.ex
 have hfn : ∀ k : Nat -> List V -> Option (Res × zd), fnK c k = k f caps := fun k => by rw [hcf]; rfl
 have gx : (P ++ (x :: (B ++ S)))[a]? = some x := WU _ _ _ ha
 have gB : ∀ h, m <= h -> h < b -> (P ++ (x :: (B ++ S)))[h]? = some (B.getD (h - m) 0) := fun h h1 h2 => by
  have := zb5 (P ++ [x]) B S (h := h) (by simp; omega) (by simp; omega)
  simp only [List.append_assoc, Z3, zX, zB, ZA] at this
  rw [this, hm]
 obtain ⟨r, r1, r2, r3, r4, r5⟩ := zdp (H := H) (l := .sl 1 (iL (P ++ (x :: (B ++ S)))) false) (body := zac n a c) (fin := fun i => zV n (jh n [.sl 1 (iL (P ++ (x :: (B ++ S)))) false, .int .i64 (i : Int), .int .i64 (i : Int)]) [.sl 1 (iL (P ++ (x :: (B ++ S)))) false, .int .i64 (a : Int)] H) (Q := fun h => K (B.getD (h - m) 0) < K x) m b
  (fun i j h1 h2 h3 next => by
   have hij : (i : Int) < (j : Int) := by omega
   have e1 : IntKind.i64.wrap ((i : Int) + (j : Int)) = ((i + j : Nat) : Int) := wN (by omega) (by omega)
   have g1 := gB ((i + j) / 2) (by omega) (by omega)
   have l1 := (zi.1 g1).1
   have l2 := (zi.1 gx).1
   have e2 : IntKind.i64.wrap ((((i + j) / 2 : Nat) : Int) + 1) = (((i + j) / 2 + 1 : Nat) : Int) := wN (by omega) (by omega)
   obtain ⟨q, hq, hqk⟩ := hcmp n hn (B.getD ((i + j) / 2 - m) 0) x (dB _ (zaj (by omega))) dx
   simp only [zac, gv, zh, zf, zt, za, zm, hij, decide_true, if_true, zK, e1, zj0, zld, zge, zb4 (show i + j < lim by omega), Zd, zw, lsl, XG, KB, zai, true_and, zlo, ole, Nat.reduceBEq, and_true, l1, l2, QX g1, QX gx, zb, hfn, hok, hk]
   rw [hq, zM]
   simp only [zE, zt, za, zm, zK, e2]
   by_cases h : K (B.getD ((i + j) / 2 - m) 0) < K x
   · exact .inl ⟨h, by simp only [hqk.2 h, decide_true, if_true]⟩
   · exact .inr ⟨h, by simp only [show ¬ q < 0 from fun h' => h (hqk.1 h'), decide_false, zn, if_false]⟩)
  (fun i h1 h2 next => by
   have hii : ¬ (i : Int) < (i : Int) := by omega
   simp only [zac, gv, zh, zf, zt, za, zm, hii, decide_false, zn, if_false, lsl])
  n m b (by omega) (zk _) (by omega) (zk _) (.inl rfl) (.inl rfl)
 rw [r5]
 have hB2 : B = B.take (r - m) ++ B.drop (r - m) := (Zv _ _).symm
 refine ⟨B.take (r - m) ++ x :: B.drop (r - m), ?_, zmr hB (by omega) hlt ?_ ?_, ?_⟩
 · refine List.perm_middle.trans ?_
   rw [<- hB2]
 · rcases r3 with h | h
   · exact .inl (by omega)
   · exact .inr (by rw [show r - m - 1 = r - 1 - m by omega]; exact h)
 · rcases r4 with h | h
   · exact .inl (by omega)
   · exact .inr h
 · have := ziu (H := H) n r [.sl 1 (iL (P ++ (x :: (B ++ S)))) false, .int .i64 (r : Int), .int .i64 (r : Int)] rfl (by omega) x (B.drop (r - m) ++ S) (B.take (r - m)) P a n ha (by rw [Ze]; omega) (by rw [Ze]; omega)
   have e : B ++ S = B.take (r - m) ++ (B.drop (r - m) ++ S) := by rw [<- List.append_assoc, <- hB2]
   rw [e]
   rw [e] at this
   rw [this]
   simp
theorem zoD (hc : CmpOk n0 c H K D) (n : Nat) (x : Int) (A P S : List Int) (a m : Nat) (ha : a = P.length) (hm : m = P.length + A.length) (hl : 2 * (m + 1) + 1 < lim) (hA : Sd K A) (hlt : ∀ y ∈ A, y < x) (dx : D x) (dA : ∀ y ∈ A, D y) (hn : n0 <= n) (hn2 : A.length + 2 <= n) :
    ∃ C, C.Perm (A ++ [x]) /\ Sd K C /\ zV n (jj n m c) [.sl 1 (iL (P ++ (A ++ (x :: S)))) false, .int .i64 (a : Int), .int .i64 (m : Int)] H = some (.ret [.sl 1 (iL (P ++ (C ++ S))) false], H) := by
 obtain ⟨f, caps, hcf, hok, hk, hcmp⟩ := hc.ex
 have hfn : ∀ k : Nat -> List V -> Option (Res × zd), fnK c k = k f caps := fun k => by rw [hcf]; rfl
 have gx : (P ++ (A ++ (x :: S)))[m]? = some x := by rw [<- List.append_assoc]; exact WU _ _ _ (by simp; omega)
 have gA : ∀ h, a <= h -> h < m -> (P ++ (A ++ (x :: S)))[h]? = some (A.getD (h - a) 0) := fun h h1 h2 => by
  rw [zb5 P A (x :: S) (h := h) (by omega) (by omega), ha]
 obtain ⟨r, r1, r2, r3, r4, r5⟩ := zdp (H := H) (l := .sl 1 (iL (P ++ (A ++ (x :: S)))) false) (body := jj n m c) (fin := fun i => zV n (ji n [.sl 1 (iL (P ++ (A ++ (x :: S)))) false, .int .i64 (i : Int), .int .i64 (i : Int)]) [.sl 1 (iL (P ++ (A ++ (x :: S)))) false, .int .i64 (m : Int)] H) (Q := fun h => ¬ K x < K (A.getD (h - a) 0)) a m
  (fun i j h1 h2 h3 next => by
   have hij : (i : Int) < (j : Int) := by omega
   have e1 : IntKind.i64.wrap ((i : Int) + (j : Int)) = ((i + j : Nat) : Int) := wN (by omega) (by omega)
   have g1 := gA ((i + j) / 2) (by omega) (by omega)
   have l1 := (zi.1 g1).1
   have l2 := (zi.1 gx).1
   have e2 : IntKind.i64.wrap ((((i + j) / 2 : Nat) : Int) + 1) = (((i + j) / 2 + 1 : Nat) : Int) := wN (by omega) (by omega)
   obtain ⟨q, hq, hqk⟩ := hcmp n hn x (A.getD ((i + j) / 2 - a) 0) dx (dA _ (zaj (by omega)))
   simp only [jj, gv, zh, zf, zt, za, zm, hij, decide_true, if_true, zK, e1, zj0, zld, zge, zb4 (show i + j < lim by omega), Zd, zw, lsl, XG, KB, zai, true_and, zlo, ole, Nat.reduceBEq, and_true, l1, l2, QX g1, QX gx, zb, hfn, hok, hk]
   rw [hq, zM]
   simp only [zE, zt, za, Ki, zm, zK, e2]
   by_cases h : K x < K (A.getD ((i + j) / 2 - a) 0)
   · exact .inr ⟨fun h' => h' h, by simp only [hqk.2 h, decide_true, QP, zn, if_false]⟩
   · exact .inl ⟨h, by simp only [show ¬ q < 0 from fun h' => h (hqk.1 h'), decide_false, Bool.not_false, if_true]⟩)
  (fun i h1 h2 next => by
   have hii : ¬ (i : Int) < (i : Int) := by omega
   simp only [jj, gv, zh, zf, zt, za, zm, hii, decide_false, zn, if_false, lsl])
  n a m (by omega) (zk _) (by omega) (zk _) (.inl rfl) (.inl rfl)
 rw [r5]
 have hA2 : A = A.take (r - a) ++ A.drop (r - a) := (Zv _ _).symm
 refine ⟨A.take (r - a) ++ x :: A.drop (r - a), ?_, zjZ hA (by omega) hlt ?_ ?_, ?_⟩
 · refine List.perm_middle.trans ?_
   rw [<- hA2]
   exact (List.perm_append_singleton x A).symm
 · rcases r3 with h | h
   · exact .inl (by omega)
   · exact .inr (by rw [show r - a - 1 = r - 1 - a by omega]; exact h)
 · rcases r4 with h | h
   · exact .inl (by omega)
   · exact .inr (by simpa using h)
 · have := ziv (H := H) n r [.sl 1 (iL (P ++ (A ++ (x :: S)))) false, .int .i64 (r : Int), .int .i64 (r : Int)] rfl x (A.drop (r - a)).reverse S (P ++ A.take (r - a)) m n (by simp; omega) (by simp; omega) (by omega) (by simp; omega)
   rw [QM] at this
   have e : P ++ (A ++ (x :: S)) = (P ++ A.take (r - a)) ++ (A.drop (r - a) ++ (x :: S)) := by
    conv => lhs; rw [hA2]
    simp only [List.append_assoc]
   rw [e]
   rw [e] at this
   rw [this]
   simp
end
end Go.Proofs.Tryz
namespace Go.Proofs.Tryz
open Go.L Go.Rp
set_option maxRecDepth 100000
section
variable {K : Int -> Int} {D : Int -> Prop} {H : zd} {c : V} {n0 : Nat} {p : Nat -> Int}
theorem zj2 (hc : CmpOk n0 c H K D) (n : Nat) (A B P S : List Int) (a m b mid nn lo hi : Nat) (body : List V -> zd -> (List V -> zd -> Option (Res × zd)) -> Option (Res × zd))
    (hbody : ∀ st hh next, body st hh next = YP n a m b c (.int .i64 (mid : Int)) (.int .i64 (nn : Int)) (.int .i64 ((nn - 1 : Nat) : Int)) st hh next)
    (ha : a = P.length) (hm : m = P.length + A.length) (hb : b = P.length + A.length + B.length) (hmid : mid = (a + b) / 2) (hnn : nn = mid + m) (hl : 2 * b + 1 < lim)
    (hlo : (m > mid /\ lo = nn - b /\ hi = mid) \/ (m <= mid /\ lo = a /\ hi = m)) (hA0 : 0 < A.length) (hB0 : 0 < B.length)
    (dA : ∀ x ∈ A, D x) (dB : ∀ y ∈ B, D y) (hn : n0 <= n) (hn2 : hi < n + lo) :
    ∃ r, a <= r /\ r <= m /\ r <= mid /\ mid <= r + B.length /\ (r - a = 0 \/ B.length <= mid - r \/ ¬ K (B.getD (mid - r) 0) < K (A.getD (r - a - 1) 0)) /\ (mid - r = 0 \/ A.length <= r - a \/ K (B.getD (mid - r - 1) 0) < K (A.getD (r - a) 0)) ∧
     zV n body [.sl 1 (iL (P ++ (A ++ (B ++ S)))) false, .int .i64 (lo : Int), .int .i64 (hi : Int)] H = zoC n a m b c (.int .i64 (mid : Int)) (.int .i64 (nn : Int)) (.int .i64 (r : Int)) (iL (P ++ (A ++ (B ++ S)))) H := by
 obtain ⟨f, caps, hcf, hok, hk, hcmp⟩ := hc.ex
 have hfn : ∀ k : Nat -> List V -> Option (Res × zd), fnK c k = k f caps := fun k => by rw [hcf]; rfl
 have gA : ∀ h, a <= h -> h < m -> (P ++ (A ++ (B ++ S)))[h]? = some (A.getD (h - a) 0) := fun h h1 h2 => by
  rw [zb5 P A (B ++ S) (h := h) (by omega) (by omega), ha]
 have gB : ∀ h, m <= h -> h < b -> (P ++ (A ++ (B ++ S)))[h]? = some (B.getD (h - m) 0) := fun h h1 h2 => by
  have := zb5 (P ++ A) B S (h := h) (by simp; omega) (by simp; omega)
  simp only [List.append_assoc, zB] at this
  rw [this, hm]
 have hlom : a <= lo /\ lo <= hi /\ hi <= m /\ hi <= mid /\ mid <= lo + B.length := by
  rcases hlo with ⟨h1, h2, h3⟩ | ⟨h1, h2, h3⟩ <;> omega
 obtain ⟨r, r1, r2, r3, r4, r5⟩ := zdp (H := H) (l := .sl 1 (iL (P ++ (A ++ (B ++ S)))) false) (body := body) (fin := fun i => zoC n a m b c (.int .i64 (mid : Int)) (.int .i64 (nn : Int)) (.int .i64 (i : Int)) (iL (P ++ (A ++ (B ++ S)))) H) (Q := fun h => ¬ K (B.getD (mid - 1 - h) 0) < K (A.getD (h - a) 0)) lo hi
  (fun i j h1 h2 h3 next => by
   rw [hbody]
   have hij : (i : Int) < (j : Int) := by omega
   have e1 : IntKind.i64.wrap ((i : Int) + (j : Int)) = ((i + j : Nat) : Int) := wN (by omega) (by omega)
   have g1 := gA ((i + j) / 2) (by omega) (by omega)
   have g2 := gB (nn - 1 - (i + j) / 2) (by omega) (by omega)
   have l1 := (zi.1 g1).1
   have l2 := (zi.1 g2).1
   have e2 : IntKind.i64.wrap ((((i + j) / 2 : Nat) : Int) + 1) = (((i + j) / 2 + 1 : Nat) : Int) := wN (by omega) (by omega)
   have e3 : IntKind.i64.wrap (((nn - 1 : Nat) : Int) - (((i + j) / 2 : Nat) : Int)) = ((nn - 1 - (i + j) / 2 : Nat) : Int) := wN (by omega) (by omega)
   have e4 : nn - 1 - (i + j) / 2 - m = mid - 1 - (i + j) / 2 := by omega
   rw [e4] at g2
   obtain ⟨q, hq, hqk⟩ := hcmp n hn (B.getD (mid - 1 - (i + j) / 2) 0) (A.getD ((i + j) / 2 - a) 0) (dB _ (zaj (by omega))) (dA _ (zaj (by omega)))
   simp only [YP, gv, zh, zf, zt, za, zm, hij, decide_true, if_true, zK, e1, zj0, zld, zge, zb4 (show i + j < lim by omega), ZN, e3, Zd, zw, lsl, XG, KB, zai, true_and, zlo, ole, Nat.reduceBEq, and_true, l1, l2, QX g1, QX g2, zb, hfn, hok, hk]
   rw [hq, zM]
   simp only [zE, zt, za, Ki, zm, zK, e2]
   by_cases h : K (B.getD (mid - 1 - (i + j) / 2) 0) < K (A.getD ((i + j) / 2 - a) 0)
   · exact .inr ⟨fun h' => h' h, by simp only [hqk.2 h, decide_true, QP, zn, if_false]⟩
   · exact .inl ⟨h, by simp only [show ¬ q < 0 from fun h' => h (hqk.1 h'), decide_false, Bool.not_false, if_true]⟩)
  (fun i h1 h2 next => by
   have hii : ¬ (i : Int) < (i : Int) := by omega
   rw [hbody]
   simp only [YP, gv, zh, zf, zt, za, zm, hii, decide_false, zn, if_false, lsl, zoC, zmu, zj1])
  n lo hi (by omega) (zk _) hlom.2.1 (zk _) (.inl rfl) (.inl rfl)
 refine ⟨r, by omega, by omega, by omega, by omega, ?_, ?_, r5⟩
 · rcases r3 with h | h
   · rcases hlo with ⟨h1, h2, h3⟩ | ⟨h1, h2, h3⟩
     · exact .inr (.inl (by omega))
     · exact .inl (by omega)
   · by_cases h0 : r - a = 0
     · exact .inl h0
     · refine .inr (.inr ?_)
       rw [show mid - r = mid - 1 - (r - 1) by omega, show r - a - 1 = r - 1 - a by omega]
       exact h
 · rcases r4 with h | h
   · rcases hlo with ⟨h1, h2, h3⟩ | ⟨h1, h2, h3⟩
     · exact .inl (by omega)
     · exact .inr (.inl (by omega))
   · refine .inr (.inr ?_)
     rw [show mid - r - 1 = mid - 1 - r by omega]
     simpa using h
theorem zeU (hc : CmpOk n0 c H K D) : ∀ (sz n : Nat), n0 + 2 * sz + 8 <= n -> zle c H K D n sz
 | 0, n, _ => fun A B P S a m b hA hB hsz => by
   have := ZJ.2 hA; omega
 | sz + 1, n, hn => fun A B P S a m b hA hB hsz ha hm hb hl sA sB hlt dA dB => by
   obtain ⟨N, rfl⟩ : ∃ N, n = N + 1 := ⟨n - 1, by omega⟩
   have ih := zeU hc sz N (by omega)
   have hA0 := ZJ.2 hA
   have hB0 := ZJ.2 hB
   have e1 : IntKind.i64.wrap ((m : Int) - (a : Int)) = ((A.length : Nat) : Int) := wN (by omega) (by omega)
   have e2 : IntKind.i64.wrap ((b : Int) - (m : Int)) = ((B.length : Nat) : Int) := wN (by omega) (by omega)
   have e3 : IntKind.i64.wrap ((a : Int) + (b : Int)) = ((a + b : Nat) : Int) := wN (by omega) (by omega)
   rw [zpM]
   unfold zrs
   rw [e1, e2, e3]
   by_cases h1 : A.length = 1
   · obtain ⟨x, rfl⟩ := ZS.1 h1
     have hc1 : ((([x] : List Int).length : Int) == 1) = true := by simp
     rw [if_pos hc1]
     obtain ⟨C, p, s, e⟩ := zpS hc N x B P S a m b ha (by simpa using hm) (by simpa using hb) hl sB (fun y hy => hlt x (by simp) y hy) (dA x (by simp)) dB (by omega) (by omega)
     exact ⟨C, by simpa using p, s, by simpa using e⟩
   · have hc1 : ¬ (((A.length : Nat) : Int) == 1) = true := by simp; omega
     rw [if_neg hc1]
     by_cases h2 : B.length = 1
     · obtain ⟨x, rfl⟩ := ZS.1 h2
       have hc2 : ((([x] : List Int).length : Int) == 1) = true := by simp
       rw [if_pos hc2]
       obtain ⟨C, p, s, e⟩ := zoD hc N x A P S a m ha hm (by simp at hb; omega) sA (fun y hy => hlt y hy x (by simp)) (dB x (by simp)) dA (by omega) (by simp at hsz; omega)
       exact ⟨C, p, s, by simpa using e⟩
     · have hc2 : ¬ (((B.length : Nat) : Int) == 1) = true := by simp; omega
       rw [if_neg hc2]
       obtain ⟨mid, hmid⟩ : ∃ mid, mid = (a + b) / 2 := ⟨_, rfl⟩
       obtain ⟨nn, hnn⟩ : ∃ nn, nn = mid + m := ⟨_, rfl⟩
       have e4 : IntKind.i64.wrap ((mid : Int) + (m : Int)) = ((nn : Nat) : Int) := wN (by omega) (by omega)
       have e5 : IntKind.i64.wrap ((nn : Int) - 1) = ((nn - 1 : Nat) : Int) := wN (by omega) (by omega)
       have e6 := zb4 (show a + b < lim by omega)
       rw [<- hmid] at e6
       simp only [zld, za, zge, e6, zK, e4, Xy, zm]
       have key : ∀ (lo hi : Nat) (body : List V -> zd -> (List V -> zd -> Option (Res × zd)) -> Option (Res × zd)), (∀ st hh next, body st hh next = YP N a m b c (.int .i64 (mid : Int)) (.int .i64 (nn : Int)) (.int .i64 ((nn - 1 : Nat) : Int)) st hh next) →
           ((m > mid /\ lo = nn - b /\ hi = mid) \/ (m <= mid /\ lo = a /\ hi = m)) -> ∃ C, C.Perm (A ++ B) /\ Sd K C /\ zV N body [.sl 1 (iL (P ++ (A ++ (B ++ S)))) false, .int .i64 (lo : Int), .int .i64 (hi : Int)] H = some (.ret [.sl 1 (iL (P ++ (C ++ S))) false], H) := fun lo hi body hbody hlo => by
        obtain ⟨r, r1, r2, r3, r4, r5, r6, r7⟩ := zj2 hc N A B P S a m b mid nn lo hi body hbody ha hm hb hmid hnn hl hlo hA0 hB0 dA dB (by omega) (by omega)
        have hAt : A = A.take (r - a) ++ A.drop (r - a) := (Zv _ _).symm
        have hBt : B = B.take (mid - r) ++ B.drop (mid - r) := (Zv _ _).symm
        have hcr := zru sA sB (by omega) (by omega) hlt r5 r6
        have tA : (A.take (r - a)).length = r - a := by rw [Ze]; omega
        have tB : (B.take (mid - r)).length = mid - r := by rw [Ze]; omega
        have dA' : (A.drop (r - a)).length = A.length - (r - a) := Xp
        have dB' : (B.drop (mid - r)).length = B.length - (mid - r) := Xp
        obtain ⟨C1, C2, p1, q1, p2, q2, e⟩ := zpR ih (A.take (r - a)) (A.drop (r - a)) (B.take (mid - r)) (B.drop (mid - r)) P S a r m mid nn b (by omega) (by omega) ha (by omega) (by omega) (by omega) hnn (by omega) hl (by omega)
         (sA.sublist (J8 _ _)) (sB.sublist (J8 _ _)) (sA.sublist (Qg _ _)) (sB.sublist (Qg _ _)) (by rw [<- hAt, <- hBt]; exact hlt) (by rw [<- hAt]; exact dA) (by rw [<- hBt]; exact dB)
        rw [<- hAt, <- hBt] at e
        refine ⟨C1 ++ C2, ?_, Zz.2 ⟨q1, q2, fun u hu v hv => hcr u (p1.mem_iff.1 hu) v (p2.mem_iff.1 hv)⟩, ?_⟩
        · refine (p1.append p2).trans ?_
          conv => rhs; rw [hAt, hBt]
          simp only [List.append_assoc]
          refine List.Perm.append_left _ ?_
          rw [<- List.append_assoc, <- List.append_assoc]
          exact List.Perm.append_right _ List.perm_append_comm
        · rw [r7, e]; simp only [List.append_assoc]
       by_cases hg : (m : Int) > (mid : Int)
       · have e7 : IntKind.i64.wrap ((nn : Int) - (b : Int)) = ((nn - b : Nat) : Int) := wN (by omega) (by omega)
         simp only [hg, decide_true, if_true, ZN, za, e7, e5]
         exact key (nn - b) mid _ (fun _ _ _ => rfl) (.inl ⟨by omega, rfl, rfl⟩)
       · simp only [hg, decide_false, zn, if_false, ZN, za, e5]
         exact key a m _ (fun _ _ _ => rfl) (.inr ⟨by omega, rfl, rfl⟩)
theorem zoE (hp : zga p) (hc : CmpOk n0 c H K D) (n lo i j : Nat) (P S : List Int) (hP : lo = P.length) (hi : 0 < i) (hj : 0 < j) (hl : 2 * (lo + i + j) + 1 < lim) (hD : ∀ x ∈ rng p lo (i + j), D x) (hn : n0 + 2 * (i + j) + 8 <= n) :
    call n 249 [.sl 1 (iL (P ++ (sR K p lo i ++ (sR K p (lo + i) j ++ S)))) false, .int .i64 (lo : Int), .int .i64 ((lo + i : Nat) : Int), .int .i64 ((lo + i + j : Nat) : Int), c] H = some (.ret [.sl 1 (iL (P ++ (sR K p lo (i + j) ++ S))) false], H) := by
 have hne : ∀ l k, 0 < k -> sR K p l k ≠ [] := fun l k hk h => by have := Yz (K := K) (p := p) l k; rw [h] at this; simp at this; omega
 obtain ⟨C, q, s, e⟩ := zeU hc (i + j) n hn (sR K p lo i) (sR K p (lo + i) j) P S lo (lo + i) (lo + i + j) (hne _ _ hi) (hne _ _ hj) (by rw [Yz, Yz]; omega) hP (by rw [Yz]; omega) (by rw [Yz, Yz]; omega) hl (ziq hp _ _) (ziq hp _ _)
  (fun x hx y hy => zrv hp hx hy) (fun x hx => hD x (jE (zk _) (by omega) (Kz.2 (zaV.1 hx)))) (fun x hx => hD x (jE (Nat.le_add_right _ _) (by omega) (Kz.2 (zaV.1 hx))))
 rw [e, zpO hp q s]
end
end Go.Proofs.Tryz
namespace Go.Proofs.Tryz
open Go.L Go.Rp
set_option maxRecDepth 100000
@[simp] theorem Yr (a b : Int) : bop prog .mul 3 (.int .i64 a) (.int .i64 b) = some (.int .i64 (IntKind.i64.wrap (a * b))) := by kernel_rfl
section
variable {K : Int -> Int} {D : Int -> Prop} {H : zd} {c : V} {n0 : Nat} {p : Nat -> Int}
theorem YQ {bs : Nat} (hb : 0 < bs) (f lo len : Nat) (h : bs <= len) (hf : len <= f) : Q9 K p bs f lo len = sR K p lo bs ++ Q9 K p bs f (lo + bs) (len - bs) := by
 rcases Z2 bs len with h1 | h1
 · exact zmt hb f lo len h1 hf
 · obtain rfl : len = bs := by omega
   rw [JR f lo len (zk _) (by omega), QL, JR f _ 0 (by omega) (by omega)]
   simp [sR]
theorem zdq (hc : CmpOk n0 c H K D) (n k f : Nat) (hD : ∀ x ∈ rng p 0 k, D x) (hl : 2 * k + 100 < lim) (hn : n0 + k + 25 <= n) (hf : k <= f) (hf0 : 0 < f) : ∀ (M len a : Nat) (P : List Int), a = P.length -> a + len = k -> len < M -> ∃ u v : Nat,
    zV M (zae n k c) [.sl 1 (iL (P ++ rng p a len)) false, .int .i64 (a : Int), .int .i64 ((a + 20 : Nat) : Int)] H = zV n (WZ n k c) [.sl 1 (iL (P ++ Q9 K p 20 f a len)) false, .int .i64 20, .int .i64 (u : Int), .int .i64 (v : Int)] H
 | 0, _, _, _, _, _, h => by omega
 | M + 1, len, a, P, ha, hk, hM => by
   rw [zD]
   by_cases h : 20 <= len
   · have h1 : ((a + 20 : Nat) : Int) <= (k : Int) := by omega
     have e1 : IntKind.i64.wrap (((a + 20 : Nat) : Int) + 20) = ((a + 20 + 20 : Nat) : Int) := wN (by omega) (by omega)
     have hr : rng p a len = rng p a 20 ++ rng p (a + 20) (len - 20) := by rw [<- zgb]; congr 1; omega
     have hi := zit hc n a 20 P (rng p (a + 20) (len - 20)) ha (fun x hx => hD x (jE (by omega) (by omega) hx)) (by rw [zb1]; omega) (by omega) (by omega)
     obtain ⟨u, v, e⟩ := zdq hc n k f hD hl hn hf hf0 M (len - 20) (a + 20) (P ++ sR K p a 20) (by rw [zB, Yz]; omega) (by omega) (by omega)
     refine ⟨u, v, ?_⟩
     simp only [zae, gv, zh, zf, Yo, za, zm, h1, decide_true, if_true, lsl]
     rw [hr, hi, J0]
     simp only [zK, za, e1]
     rw [YQ (by omega) f a len h (by omega), <- List.append_assoc, <- List.append_assoc]
     exact e
   · have h1 : ¬ ((a + 20 : Nat) : Int) <= (k : Int) := by omega
     have hi := zit hc n a len P [] ha (fun x hx => hD x (jE (by omega) (by omega) hx)) (by simp; omega) (by omega) (by omega)
     rw [Zm, Zm, hk] at hi
     refine ⟨a, a + 20, ?_⟩
     simp only [zae, gv, zh, zf, Yo, za, zm, h1, decide_false, zn, if_false, lsl]
     rw [hi, J0, JR f a len (by omega) hf0]
theorem zdr (hp : zga p) (hc : CmpOk n0 c H K D) (n k f bs : Nat) (st14 : List V) (next16 : List V -> zd -> Option (Res × zd)) (hst : st14.getD 1 (.bool false) = .int .i64 (bs : Int)) (hb : 0 < bs) (hbk : bs < k) (hD : ∀ x ∈ rng p 0 k, D x) (hl : 4 * k + 100 < lim) (hn : n0 + 2 * k + 8 <= n) (hf : k <= f) : ∀ (M len a : Nat) (P : List Int), a = P.length -> a + len = k -> len < M -> ∃ u v : Nat,
    zV M (jD n k c st14 next16) [.sl 1 (iL (P ++ Q9 K p bs f a len)) false, .int .i64 (a : Int), .int .i64 ((a + 2 * bs : Nat) : Int)] H = next16 [.sl 1 (iL (P ++ Q9 K p (2 * bs) f a len)) false, .int .i64 ((2 * bs : Nat) : Int), .int .i64 (u : Int), .int .i64 (v : Int)] H
 | 0, _, _, _, _, _, h => by omega
 | M + 1, len, a, P, ha, hk, hM => by
   rw [zD]
   have e1 : IntKind.i64.wrap ((a : Int) + (bs : Int)) = ((a + bs : Nat) : Int) := wN (by omega) (by omega)
   have e2 : IntKind.i64.wrap (2 * (bs : Int)) = ((2 * bs : Nat) : Int) := wN (by omega) (by omega)
   have e3 : IntKind.i64.wrap ((bs : Int) * 2) = ((2 * bs : Nat) : Int) := wN (by omega) (by omega)
   by_cases h : 2 * bs <= len
   · have h1 : ((a + 2 * bs : Nat) : Int) <= (k : Int) := by omega
     have e4 : IntKind.i64.wrap (((a + 2 * bs : Nat) : Int) + ((2 * bs : Nat) : Int)) = ((a + 2 * bs + 2 * bs : Nat) : Int) := wN (by omega) (by omega)
     have hs := zoE hp hc n a bs bs P (Q9 K p bs f (a + bs + bs) (len - bs - bs)) ha hb hb (by omega) (fun x hx => hD x (jE (by omega) (by omega) hx)) (by omega)
     obtain ⟨u, v, e⟩ := zdr hp hc n k f bs st14 next16 hst hb hbk hD hl hn hf M (len - 2 * bs) (a + 2 * bs) (P ++ sR K p a (2 * bs)) (by rw [zB, Yz]; omega) (by omega) (by omega)
     refine ⟨u, v, ?_⟩
     rw [YQ hb f a len (by omega) (by omega), YQ hb f (a + bs) (len - bs) (by omega) (by omega), YQ (bs := 2 * bs) (by omega) f a len h (by omega)]
     simp only [jD, gv, zh, zf, hst, Yo, za, zm, h1, decide_true, if_true, zK, e1, lsl]
     rw [show ((a + bs + bs : Nat) : Int) = ((a + 2 * bs : Nat) : Int) by omega] at hs
     rw [hs, J0]
     simp only [Yr, zK, za, e2, e4]
     rw [show bs + bs = 2 * bs by omega, show a + bs + bs = a + 2 * bs by omega, show len - bs - bs = len - 2 * bs by omega, <- List.append_assoc, <- List.append_assoc]
     exact e
   · have h1 : ¬ ((a + 2 * bs : Nat) : Int) <= (k : Int) := by omega
     refine ⟨a, a + 2 * bs, ?_⟩
     simp only [jD, gv, zh, zf, hst, Yo, za, zm, h1, decide_false, zn, if_false, zK, e1, zt, lsl]
     by_cases h2 : bs < len
     · have h3 : ((a + bs : Nat) : Int) < (k : Int) := by omega
       have hs := zoE hp hc n a bs (len - bs) P [] ha hb (by omega) (by omega) (fun x hx => hD x (jE (by omega) (by omega) hx)) (by omega)
       rw [Zm, Zm, show a + bs + (len - bs) = k by omega, show bs + (len - bs) = len by omega] at hs
       simp only [h3, decide_true, if_true]
       rw [YQ hb f a len (by omega) (by omega), JR f (a + bs) (len - bs) (by omega) (by omega), JR (bs := 2 * bs) f a len (by omega) (by omega), hs, J0]
       simp only [Yr, za, e3]
     · have h3 : ¬ ((a + bs : Nat) : Int) < (k : Int) := by omega
       simp only [h3, decide_false, zn, if_false, Yr, za, e3]
       rw [JR f a len (by omega) (by omega), JR (bs := 2 * bs) f a len (by omega) (by omega)]
theorem ziw (hp : zga p) (hc : CmpOk n0 c H K D) (n k f : Nat) (hD : ∀ x ∈ rng p 0 k, D x) (hl : 4 * k + 100 < lim) (hn : n0 + 2 * k + 8 <= n) (hf : k <= f) (hf0 : 0 < f) : ∀ (M bs u v : Nat), 0 < bs -> k < M + bs -> 0 < M →
    zV M (WZ n k c) [.sl 1 (iL (Q9 K p bs f 0 k)) false, .int .i64 (bs : Int), .int .i64 (u : Int), .int .i64 (v : Int)] H = some (.ret [.sl 1 (iL (sR K p 0 k)) false], H)
 | 0, _, _, _, _, _, h => by omega
 | M + 1, bs, u, v, hb, hM, _ => by
   rw [zD]
   by_cases h : bs < k
   · have h1 : (bs : Int) < (k : Int) := by omega
     have e2 : IntKind.i64.wrap (2 * (bs : Int)) = ((2 * bs : Nat) : Int) := wN (by omega) (by omega)
     obtain ⟨u', v', e⟩ := zdr hp hc n k f bs [.sl 1 (iL (Q9 K p bs f 0 k)) false, .int .i64 (bs : Int), .int .i64 (u : Int), .int .i64 (v : Int)] (zV M (WZ n k c)) rfl hb h hD hl hn hf n k 0 [] rfl (by omega) (by omega)
     have ih := ziw hp hc n k f hD hl hn hf hf0 M (2 * bs) u' v' (by omega) (by omega) (by omega)
     simp only [zX, zr] at e
     simp only [WZ, gv, zh, zf, zt, za, zm, h1, decide_true, if_true, Yr, e2, lsl]
     exact e.trans ih
   · have h1 : ¬ (bs : Int) < (k : Int) := by omega
     simp only [WZ, gv, zh, zf, zt, za, zm, h1, decide_false, zn, if_false, lsl]
     rw [JR f 0 k (by omega) hf0]
theorem zmv (hp : zga p) (hc : CmpOk n0 c H K D) (n k : Nat) (hD : ∀ x ∈ rng p 0 k, D x) (hl : 4 * k + 100 < lim) (hn : n0 + 2 * k + 40 <= n) :
    call n 240 [.sl 1 (iL (rng p 0 k)) false, c] H = some (.ret [.sl 1 (iL (sR K p 0 k)) false], H) := by
 obtain ⟨N, rfl⟩ : ∃ N, n = N + 2 := ⟨n - 2, by omega⟩
 obtain ⟨u, v, e⟩ := zdq hc N k (k + 1) hD (by omega) (by omega) (by omega) (by omega) N k 0 [] rfl (by omega) (by omega)
 have e2 := ziw hp hc N k (k + 1) hD hl (by omega) (by omega) (by omega) N 20 u v (by omega) (by omega) (by omega)
 rw [zoA]
 unfold zqt
 rw [zoz]
 unfold zqs
 simp only [zX] at e
 rw [show ((20 : Nat) : Int) = (20 : Int) from rfl] at e2
 have e3 : (((iL (rng p 0 k)).length : Nat) : Int) = (k : Int) := by rw [XG, zb1]
 rw [e3]
 have e4 := e.trans e2
 rw [show (((0 : Nat) + 20 : Nat) : Int) = (20 : Int) from rfl, show (((0 : Nat)) : Int) = (0 : Int) from rfl] at e4
 rw [e4, J0]
end
end Go.Proofs.Tryz
namespace Go.Proofs.Tryz
open Go.L Go.Rp Go.Sk
set_option maxRecDepth 100000
def oAt (os : List O) (x : Int) : O := os.getD x.toNat ⟨0, 0⟩
theorem Jd {os : List O} {k : Nat} {x : O} (h : os[k]? = some x) : oAt os (k : Int) = x := by
 unfold oAt; rw [XI, zQ, h]; rfl
def YA (os : List O) (x : Int) : Int := (oAt os x).v
theorem zix (n : Nat) (o : O) (h : zd) : call (n + 1) 235 [.agg (O.w o)] h = some (.ret [.int .i32 o.v], h) := by
 refine (zmo n o.k o.v h).trans ?_
 exact WS (by simp) (by simp)
theorem zds (x : O) : List.take 2 (List.drop 0 (O.w x)) = O.w x := rfl
theorem zqV (os : List O) (lb : Bool) (H : zd) : CmpOk 4 (.fn 241 [.iptr 1 [.fn 235 []] 0, .iptr 1 [.sl 2 (os.map O.w) lb] 0]) H (YA os) (fun x => 0 <= x /\ x < (os.length : Int)) where
 ex := by
  refine ⟨_, _, rfl, by kernel_rfl, by kernel_rfl, fun n hn x y hx hy => ?_⟩
  obtain ⟨m, rfl⟩ : ∃ m, n = (m + 3) + 1 := ⟨n - 4, by omega⟩
  obtain ⟨i, rfl⟩ : ∃ i : Nat, x = (i : Int) := ⟨x.toNat, (ZD hx.1).symm⟩
  obtain ⟨j, rfl⟩ : ∃ j : Nat, y = (j : Int) := ⟨y.toNat, (ZD hy.1).symm⟩
  obtain ⟨a, ha⟩ : ∃ a, os[i]? = some a := ⟨_, zg (by omega)⟩
  obtain ⟨b, hb⟩ : ∃ b, os[j]? = some b := ⟨_, zg (by omega)⟩
  have hav : (os.map O.w)[i]? = some (O.w a) := by rw [Yx, ha]; rfl
  have hbv : (os.map O.w)[j]? = some (O.w b) := by rw [Yx, hb]; rfl
  refine ⟨zoq (YA os (i : Int)) (YA os (j : Int)), ?_, ?_⟩
  · refine (zov (m + 3) (i : Int) (j : Int) (os.map O.w) lb H).trans ?_
    unfold zqp
    have e1 : ∀ (u : O) (h : zd), call (m + 3) 235 [.agg (O.w u)] h = some (.ret [.int .i32 u.v], h) := fun u h => zix (m + 2) u h
    have e2 : ∀ (u v : Int) (h : zd), call (m + 3) 242 [.int .i32 u, .int .i32 v] h = some (.ret [.int .i64 (zoq u v)], h) := fun u v h => zf6 (m + 1) u v h
    have fi : nv (V.int .i64 (i : Int)) = some i := Zd _ _
    have fj : nv (V.int .i64 (j : Int)) = some j := Zd _ _
    rw [fi, zw, Xl hav, za]
    first
     | rw [ZC, zo, if_pos (by decide), zds, e1, zbV, zE, fj, zw, Xl hbv, za, ZC, zo, if_pos (by decide), zds, e1, zbV, zE, e2, zbW, zE]
       rw [show YA os (i : Int) = a.v from by unfold YA; rw [Jd ha], show YA os (j : Int) = b.v from by unfold YA; rw [Jd hb]]
     | (simp only [esP, zds]
        rw [e1, zbV, zE, fj, zw, Xl hbv, za]
        simp only [esP, zds]
        rw [e1, zbV, zE, e2, zbW, zE]
        rw [show YA os (i : Int) = a.v from by unfold YA; rw [Jd ha], show YA os (j : Int) = b.v from by unfold YA; rw [Jd hb]])
  · unfold zoq
    split
    · rename_i h; exact ⟨fun _ => h, fun _ => by omega⟩
    · rename_i h; split <;> exact ⟨fun e => by omega, fun e => absurd e h⟩
def QO (os : List O) : Nat -> List Int
 | 0 => []
 | k + 1 => if (oAt os (k : Int)).k = 1 then QO os k ++ [(k : Int)] else QO os k
def Qy (os : List O) : Nat -> List Int
 | 0 => []
 | k + 1 => if (oAt os (k : Int)).k = 1 then Qy os k else Qy os k ++ [(k : Int)]
theorem Jh (os : List O) : ∀ (n : Nat) (x : Int), x ∈ QO os n -> 0 <= x /\ x < (n : Int) /\ (oAt os x).k = 1
 | 0, x, h => by cases h
 | n + 1, x, h => by
   simp only [QO] at h
   split at h
   · rename_i hk
     rcases Zl.1 h with h | h
     · have := Jh os n x h; omega
     · rw [Zy] at h; subst h; exact ⟨by omega, by omega, hk⟩
   · have := Jh os n x h; omega
theorem Qi (os : List O) : ∀ (n : Nat) (x : Int), x ∈ Qy os n -> 0 <= x /\ x < (n : Int) /\ (oAt os x).k ≠ 1
 | 0, x, h => by cases h
 | n + 1, x, h => by
   simp only [Qy] at h
   split at h
   · have := Qi os n x h; omega
   · rename_i hk
     rcases Zl.1 h with h | h
     · have := Qi os n x h; omega
     · rw [Zy] at h; subst h; exact ⟨by omega, by omega, hk⟩
theorem YR (os : List O) : ∀ n : Nat, (QO os n).Pairwise (· < ·)
 | 0 => .nil
 | n + 1 => by
   simp only [QO]
   split
   · refine Zz.2 ⟨YR os n, JU .., fun a ha b hb => ?_⟩
     rw [Zy] at hb; subst hb
     exact (Jh os n a ha).2.1
   · exact YR os n
theorem YS (os : List O) : ∀ n : Nat, (QO os n).length + (Qy os n).length = n
 | 0 => rfl
 | n + 1 => by
   have := YS os n
   simp only [QO, Qy]
   split
   · rw [zB, zA, zP]; omega
   · rw [zB, zA, zP]; omega
def WD (os : List O) : List Int := QO os os.length
def Xg (os : List O) : List Int := Qy os os.length
def Z1 (os : List O) : List Int := sR (YA os) (atP (WD os) (os.length : Int)) 0 (WD os).length
theorem Ye (os : List O) : (Z1 os).Perm (WD os) := by
 have := KA (K := YA os) (p := atP (WD os) (os.length : Int)) 0 (WD os).length
 rwa [zgc] at this
theorem jG (os : List O) : (Z1 os).length = (WD os).length := (Ye os).length_eq
theorem ziy (os : List O) : Sd (YA os) (Z1 os) := ziq (zir (YR os _) fun x hx => (Jh os _ x hx).2.1) 0 _
theorem zpT (n : Nat) {h : zd} {b : Nat} (os : List O) (lb : Bool) (hb : h[b]? = some (.row 3 1 (iL (WD os)) true)) (hl : 4 * os.length + 100 < lim) (hn : 2 * os.length + 50 <= n) :
    call (n + 1) 234 [.sl 2 (os.map O.w) lb, .row b 1 0 (WD os).length, .fn 235 []] h = some (.ret [.row b 1 0 (WD os).length], (h.set b .dead).set b (.row 3 1 (iL (Z1 os)) true)) := by
 have hlen := YS os os.length
 have hpl : (WD os).length <= os.length := by unfold WD; omega
 have hs := zmv (p := atP (WD os) (os.length : Int)) (H := h.set b .dead) (zir (YR os _) fun x hx => (Jh os _ x hx).2.1) (zqV os lb (h.set b .dead)) n (WD os).length (fun x hx => by
  rw [zgc] at hx
  have := Jh os _ x hx
  exact ⟨this.1, this.2.1⟩) (by omega) (by omega)
 rw [zgc] at hs
 refine (zow n (os.map O.w) lb b (WD os).length h).trans ?_
 unfold zqq
 rw [hb]
 simp only [rwT]
 rw [if_pos (by rw [XG]; refine ⟨⟨?_, ?_, ?_⟩, ?_, ?_⟩ <;> first | trivial | rfl), hs]
 simp only [clr]
 rw [if_pos (And.intro (by first | trivial | rfl) (by rw [XG, XG]; exact jG os))]
 rfl
theorem zlf (x : Int) : JD prog 55 1 [(0, .int .i64 x)] = some (1, [[.int .i64 x]]) := by kernel_rfl
theorem zgf (l : List Int) (x : Int) (h : l.length + 1 < lim) : app 3 1 (S.own 3 1 (iL l)) [[.int .i64 x]] = some (iL (l ++ [x])) := by
 simp only [app]
 rw [if_pos (by refine ⟨?_, ?_, by simpa using h⟩ <;> first | trivial | rfl)]
 simp [iL, Xf]
theorem zrS (x : O) : (setR [V.int .u8 0, V.int .i32 0] 0 (O.w x))[0]? = some (.int .u8 x.k) := rfl
theorem ziz (a b : Int) : bop prog .eql 5 (.int .u8 a) (.int .u8 b) = some (.bool (a == b)) := by kernel_rfl
def JS (h : zd) (os : List O) : zd := h ++ [.row 3 1 (iL (Z1 os)) true, .row 3 1 (iL (Xg os)) true]
theorem ziA (n : Nat) (h : zd) (os : List O) (lb : Bool) (hl : 4 * os.length + 100 < lim) (hn : 2 * os.length + 50 <= n) : ∀ (d k M : Nat), k + d = os.length -> d < M →
    zV M (YO (n + 1) (os.map O.w) lb) [.sl 1 (iL (QO os k)) false, .sl 1 (iL (Qy os k)) false, .int .i64 (k : Int)] h = some (.ret [.row h.length 1 0 (WD os).length, .row (h.length + 1) 1 0 (Xg os).length], JS h os) := by
 intro d
 induction d with
 | zero =>
   intro k M h1 h2
   obtain ⟨M, rfl⟩ : ∃ M', M = M' + 1 := ⟨M - 1, by omega⟩
   obtain rfl : k = os.length := by omega
   have hb := zpT n (h := h ++ [.row 3 1 (iL (WD os)) true]) (b := h.length) os lb zJ hl hn
   have hset : ((h ++ [HB.row 3 1 (iL (WD os)) true]).set h.length .dead).set h.length (.row 3 1 (iL (Z1 os)) true) = h ++ [.row 3 1 (iL (Z1 os)) true] := by
    rw [List.set_set, Zu _ _ (zk _), QL]; rfl
   rw [hset] at hb
   rw [zD]
   unfold YO
   simp only [gv, zf, zh, zx, zt, za, zm]
   rw [if_neg (by simp)]
   rw [show lsl (V.sl 1 (iL (QO os os.length)) false) = iL (WD os) from rfl, show lsl (V.sl 1 (iL (Qy os os.length)) false) = iL (Xg os) from rfl, XG, XG, hb, zM, zE]
   simp [JS]
 | succ d ih =>
   intro k M h1 h2
   obtain ⟨M, rfl⟩ : ∃ M', M = M' + 1 := ⟨M - 1, by omega⟩
   obtain ⟨x, hx⟩ : ∃ x, os[k]? = some x := ⟨_, zg (by omega)⟩
   have hxv : (os.map O.w)[k]? = some (O.w x) := by rw [Yx, hx]; rfl
   have hlt : decide ((k : Int) < (os.length : Int)) = true := by simp; omega
   have hpl := YS os k
   have hox := Jd hx
   have IH := ih (k + 1) M (by omega) (by omega)
   rw [zD]
   have key : ∀ next, YO (n + 1) (os.map O.w) lb [.sl 1 (iL (QO os k)) false, .sl 1 (iL (Qy os k)) false, .int .i64 (k : Int)] h next = next [.sl 1 (iL (QO os (k + 1))) false, .sl 1 (iL (Qy os (k + 1))) false, .int .i64 ((k + 1 : Nat) : Int)] h := by
    intro next
    unfold YO
    simp only [gv, zf, zh, zx, zt, za, zm, hlt, if_true, Zd, zw, Xl hxv, ZC, zo, zr, zk, Nat.reduceLT, and_self, zds, show (O.w x).length = 2 from rfl, zrS, ziz, zlf, zK, Xv (show k < lim by omega)]
    rw [show lsl (V.sl 1 (iL (QO os k)) false) = iL (QO os k) from rfl, show lsl (V.sl 1 (iL (Qy os k)) false) = iL (Qy os k) from rfl]
    by_cases hk : x.k = 1
    · rw [if_pos (by simp [hk]), zgf _ _ (by omega), za]
      simp only [QO, Qy, hox, hk, if_true]
    · rw [if_neg (by simp [hk]), zgf _ _ (by omega), za]
      simp only [QO, Qy, hox, hk, if_false]
   rw [key]
   exact IH
theorem zbs (n : Nat) (h : zd) (os : List O) (lb : Bool) (hl : 4 * os.length + 100 < lim) (hn : 2 * os.length + 50 <= n) :
    call (n + 2) 225 [.sl 2 (os.map O.w) lb] h = some (.ret [.row h.length 1 0 (WD os).length, .row (h.length + 1) 1 0 (Xg os).length], JS h os) := by
 refine (zmp (n + 1) (os.map O.w) lb h).trans ?_
 unfold zox
 exact ziA n h os lb hl hn os.length 0 (n + 1) (by omega) (by omega)
end Go.Proofs.Tryz
namespace Go.Proofs.Tryz
open Go.L Go.Rp Go.Sk
set_option maxRecDepth 100000
abbrev St := List (Int × Nat) × List Bool
def stp (most : Int) (st : St) (o : O) : St × R :=
 if o.k = 1 then (if most <= (st.1.length : Int) then (st, ⟨3, 0⟩) else ((zbN st.1 o.v (hgt 1 st.2).1, (hgt 1 st.2).2), ⟨1, 0⟩))
 else if o.k = 2 then (match st.1 with | [] => (st, ⟨4, 0⟩) | p :: r => ((r, st.2), ⟨2, p.1⟩))
 else (st, ⟨5, 0⟩)
def J5 (os : List O) (most : Int) : List Int -> St -> List R -> St × List R
 | [], st, told => (st, told)
 | k :: r, st, told => J5 os most r (stp most st (oAt os k)).1 (told.set k.toNat (stp most st (oAt os k)).2)
theorem Ys (os : List O) (most : Int) : ∀ (l m : List Int) (st : St) (told : List R), J5 os most (l ++ m) st told = J5 os most m (J5 os most l st told).1 (J5 os most l st told).2
 | [], m, st, told => rfl
 | k :: l, m, st, told => Ys os most l m _ _
theorem ziB (os : List O) (most : Int) : ∀ (l : List Int) (st : St) (told : List R), (J5 os most l st told).2.length = told.length
 | [], _, _ => rfl
 | k :: l, st, told => by
   show (J5 os most l _ _).2.length = _
   rw [ziB os most l, zq]
structure Frm (h h' : zd) (X : List Nat) : Prop where
 len : h.length <= h'.length
 old : ∀ i, i < h.length -> i ∉ X -> h'[i]? = h[i]?
theorem Frm.refl (h : zd) (X : List Nat) : Frm h h X := ⟨zk _, fun _ _ _ => rfl⟩
theorem Frm.trans {h h1 h2 : zd} {X Y : List Nat} (a : Frm h h1 X) (b : Frm h1 h2 Y) (hY : ∀ y ∈ Y, y ∈ X \/ h.length <= y) : Frm h h2 X :=
 ⟨Xn a.len b.len, fun i h1' h2' => (b.old i (by have := a.len; omega) fun hm => by rcases hY i hm with h | h; exact h2' h; omega).trans (a.old i h1' h2')⟩
theorem Grew.frm {h h' : zd} {s : Nat} {ts ts' : List Tw} {most : Int} (g : Grew h h' s ts ts' most) : Frm h h' (skB s ts) := ⟨g.len, g.old⟩
theorem Frm.push (h : zd) (l : List HB) (X : List Nat) : Frm h (h ++ l) X := ⟨by simp, fun i hi _ => zl hi⟩
def RowR (h : zd) (b : Nat) (l : List R) : Prop := ∃ z, h[b]? = some (.row 35 2 (l.map R.w) z)
theorem RowR.keep {h h' : zd} {b : Nat} {l : List R} (r : RowR h b l) (hk : h'[b]? = h[b]?) : RowR h' b l := by obtain ⟨z, hz⟩ := r; exact ⟨z, hk.trans hz⟩
theorem RowR.code {h : zd} {b : Nat} {l : List R} (r : RowR h b l) {i : Nat} {x : R} (hx : l[i]? = some x) (c : Int) :
    ∃ B, Zs h [.int .u8 c] (.rptr b 2 i 0) = some (b, B) /\ RowR (h.set b B) b (l.set i ⟨c, x.v⟩) := by
 obtain ⟨z, hz⟩ := r
 refine ⟨_, JP hz (by decide) (by simp) (by rw [Kn, hx]; rfl), z, ?_⟩
 rw [Xq (zS hz), Jb]
 rfl
theorem RowR.all {h : zd} {b : Nat} {l : List R} (r : RowR h b l) {i : Nat} {x : R} (hx : l[i]? = some x) (c v : Int) :
    ∃ B, Zs h [.int .u8 c, .int .i32 v] (.rptr b 2 i 0) = some (b, B) /\ RowR (h.set b B) b (l.set i ⟨c, v⟩) := by
 obtain ⟨z, hz⟩ := r
 refine ⟨_, JP hz (by decide) (by simp) (by rw [Kn, hx]; rfl), z, ?_⟩
 rw [Xq (zS hz), Jb]
 rfl
theorem ziC {b n i : Nat} (h : i < n) : ZK 2 i (.row b 2 0 n) = some (.rptr b 2 i 0) := by simpa using XL (b := b) (sz := 2) (lo := 0) (hi := n) (show i < n - 0 by omega)
theorem zak (v : Int) : Q4 prog 35 [(0, .int .u8 2), (1, .int .i32 v)] = some [.int .u8 2, .int .i32 v] := by kernel_rfl
theorem zpU (x : O) : (O.w x)[0]? = some (.int .u8 x.k) := rfl
theorem zlg (x : O) : (O.w x)[1]? = some (.int .i32 x.v) := rfl
theorem zeV (k n : Nat) (cs : List V) (o : Nat) : ZU k (.iptr n cs o) = some (.iptr n cs (o + k)) := rfl
theorem ziD (a b : Int) : bop prog .neq 5 (.int .u8 a) (.int .u8 b) = some (.bool (a != b)) := by kernel_rfl
theorem zmw (n : Nat) {s : Nat} {most : Int} (os : List O) (lb : Bool) (L : List Int) (hL : ∀ x ∈ L, 0 <= x /\ x < (os.length : Int) /\ (oAt os x).k ≠ 1) (hnd : L.Nodup) (tb pb : Nat) (hlim : L.length < lim) (hn : 8 < n) (bits : List Bool) : ∀ (d i M : Nat) (h : zd) (ts : List Tw) (told : List R) (v0 : V), i + d = L.length -> d < M →
    (∃ N, SkAt h s ts most N) -> ts.length < lim -> RowR h tb told -> RowI h pb .i64 3 L -> told.length = os.length -> tb ∉ skB s ts -> pb ∉ skB s ts -> pb ≠ tb -> (∀ x ∈ L.drop i, told[x.toNat]? = some ⟨0, 0⟩) →
    ∃ h' ts' told', zV M (Yd (n + 2) s (os.map O.w) lb (.row pb 1 0 L.length) (.row tb 2 0 os.length) (1, iL L)) [v0, .int .i64 (i : Int)] h = some (.ret [.row tb 2 0 os.length], h') ∧
     (∃ N, SkAt h' s ts' most N) /\ (∀ b ∈ skB s ts', b ∈ skB s ts) /\ Frm h h' (tb :: skB s ts) /\ h'.length = h.length /\ RowR h' tb told' /\ J5 os most (L.drop i) (itT ts, bits) told = ((itT ts', bits), told') := by
 intro d
 induction d with
 | zero =>
   intro i M h ts told v0 h1 h2 S hts rt rp hlt nt np hpt h0
   obtain ⟨M, rfl⟩ : ∃ M', M = M' + 1 := ⟨M - 1, by omega⟩
   obtain rfl : i = L.length := by omega
   refine ⟨h, ts, told, ?_, S, fun b hb => hb, .refl _ _, rfl, rt, by rw [List.drop_length]; rfl⟩
   rw [zD]
   unfold Yd
   simp only [gv, zf, zh, XG, zt, za, zm]
   rw [if_neg (by simp)]
 | succ d ih =>
   intro i M h ts told v0 h1 h2 S hts rt rp hlt nt np hpt h0
   obtain ⟨M, rfl⟩ : ∃ M', M = M' + 1 := ⟨M - 1, by omega⟩
   obtain ⟨x, hx⟩ : ∃ x, L[i]? = some x := ⟨_, zg (by omega)⟩
   have hdr : L.drop i = x :: L.drop (i + 1) := by
    rw [zT (by omega)]
    rw [zg (by omega)] at hx
    rw [Option.some.inj hx]
   obtain ⟨x0, x1, xk⟩ := hL x (zH hx)
   obtain ⟨k, rfl⟩ : ∃ k : Nat, x = (k : Int) := ⟨x.toNat, (ZD x0).symm⟩
   have hk : k < os.length := by omega
   obtain ⟨o, ho⟩ : ∃ o, os[k]? = some o := ⟨_, zg hk⟩
   have hov : (os.map O.w)[k]? = some (O.w o) := by rw [Yx, ho]; rfl
   have hoo := Jd ho
   have ht0 : told[k]? = some ⟨0, 0⟩ := by
    have := h0 (k : Int) (by rw [hdr]; exact zy ..)
    simpa using this
   obtain ⟨B1, w1, r1⟩ := rt.code ht0 5
   have hl1 : decide ((i : Int) < (L.length : Int)) = true := by simp; omega
   obtain ⟨g1, g2⟩ := rp.get hx
   have htk : k < told.length := by omega
   have hkeep1 : ∀ b, b ≠ tb -> (h.set tb B1)[b]? = h[b]? := fun b hb => ze (Ne.symm hb)
   have hrest : ∀ (told2 : List R) (r : R), told2 = told.set k r -> ∀ y ∈ L.drop (i + 1), told2[y.toNat]? = some ⟨0, 0⟩ := fun told2 r e y hy => by
    rw [e, ze]
    · exact h0 y (by rw [hdr]; exact zp _ hy)
    · intro e2
      have hy0 := hL y (Zf hy)
      have hyk : y = (k : Int) := by omega
      have hnd2 : (L.drop i).Nodup := hnd.sublist (Qg _ _)
      rw [hdr] at hnd2
      exact (ZE.1 hnd2).1 (hyk ▸ hy)
   rw [hoo] at xk
   have hw1 : Zs h [.int .u8 5] (.rptr tb 2 k 0) = some (tb, B1) := w1
   have S1 : ∃ N, SkAt (h.set tb B1) s ts most N := by obtain ⟨N, S⟩ := S; exact ⟨N, S.keep fun b hb => hkeep1 b fun e => nt (e ▸ hb)⟩
   have fk : nv (V.int .i64 (k : Int)) = some k := Zd _ _
   have rp1 : RowI (h.set tb B1) pb .i64 3 L := rp.keep (hkeep1 pb hpt)
   have base : ∀ next, Yd (n + 2) s (os.map O.w) lb (.row pb 1 0 L.length) (.row tb 2 0 os.length) (1, iL L) [v0, .int .i64 (i : Int)] h next =
       (if (o.k != 2) = true then next [.sl 2 (lsl v0) false, .int .i64 ((i + 1 : Nat) : Int)] (h.set tb B1) else
        (bd2 (Zs (h.set tb B1) [.int .u8 4] (.rptr tb 2 k 0)) fun b31 x32 =>
        (cl (call (n + 2) 239 [.ptr s 0] (((h.set tb B1)).set b31 x32)) (fun r33 h34 =>
        (bd (r33)[0]? fun v36 =>
        (bd (r33)[1]? fun v37 =>
        (bv v37 fun b38 => if b38 then
        (bd (Q4 prog 35 [(0, (V.int .u8 2)), (1, v36)]) fun cs39 =>
        (if (cs39).length = 2 then
        (bd2 (Zs h34 cs39 (.rptr tb 2 k 0)) fun b42 x43 =>
        (next [(V.sl 2 (lsl v0) false), .int .i64 ((i + 1 : Nat) : Int)] ((h34).set b42 x43))) else none))
        else
        (next [(V.sl 2 (lsl v0) false), .int .i64 ((i + 1 : Nat) : Int)] h34))))) (fun z35 h34 => some (Res.pan z35, h34))))) := by
    intro next
    unfold Yd
    simp only [gv, zf, zh, XG, zt, za, zm, hl1, if_true, Zd, zw, g1, g2, zo, zr, zk, Nat.reduceLT, and_self, zb, ziC hk, zl6, Zb, hw1, Zj, Xl hov, zeV, ZC, Nat.reduceAdd, Nat.reduceLeDiff, zpU, ziD, zK, Xv (show i < lim by omega)]
   obtain ⟨N, hS⟩ := S
   rw [zD, base]
   have hst5 : stp most (itT ts, bits) o = if o.k = 2 then (match itT ts with | [] => ((itT ts, bits), ⟨4, 0⟩) | p :: r => ((r, bits), ⟨2, p.1⟩)) else ((itT ts, bits), ⟨5, 0⟩) := by
    unfold stp; rw [if_neg xk]
   have hrun : J5 os most (L.drop i) (itT ts, bits) told = J5 os most (L.drop (i + 1)) (stp most (itT ts, bits) o).1 (told.set k (stp most (itT ts, bits) o).2) := by
    rw [hdr]; show J5 os most _ (stp most (itT ts, bits) (oAt os (k : Int))).1 (told.set (k : Int).toNat (stp most (itT ts, bits) (oAt os (k : Int))).2) = _
    rw [hoo, XI]
   by_cases hk2 : o.k = 2
   · rw [if_neg (by simp [hk2])]
     have ht5 : (told.set k ⟨5, 0⟩)[k]? = some ⟨5, 0⟩ := Zq htk
     obtain ⟨B2, w2, r2⟩ := r1.code ht5 4
     have e2 : (told.set k ⟨5, 0⟩).set k ⟨4, 0⟩ = told.set k ⟨4, 0⟩ := List.set_set ..
     replace r2 : RowR ((h.set tb B1).set tb B2) tb (told.set k ⟨4, 0⟩) := by rw [<- e2]; exact r2
     rw [w2, Zj]
     have hkeep2 : ∀ b, b ≠ tb -> ((h.set tb B1).set tb B2)[b]? = h[b]? := fun b hb => by rw [ze (Ne.symm hb)]; exact hkeep1 b hb
     have S2 : SkAt ((h.set tb B1).set tb B2) s ts most N := hS.keep fun b hb => hkeep2 b fun e => nt (e ▸ hb)
     cases ts with
     | nil =>
       rw [zoo n S2, zM]
       simp only [zb, zj, za, zm]
       rw [if_neg (by decide)]
       obtain ⟨h', ts', told', e, b1, b2, b3, b4, b5, b6⟩ := ih (i + 1) M ((h.set tb B1).set tb B2) [] (told.set k ⟨4, 0⟩) (.sl 2 (lsl v0) false) (by omega) (by omega) ⟨N, S2⟩ hts r2 (rp.keep (hkeep2 pb hpt)) (by rw [zq]; exact hlt) nt np hpt (hrest _ ⟨4, 0⟩ rfl)
       refine ⟨h', ts', told', e, b1, b2, ?_, by rw [b4, zq, zq], b5, ?_⟩
       · exact Frm.trans ⟨by simp, fun j _ hj => hkeep2 j fun e => hj (e ▸ zy ..)⟩ b3 fun y hy => .inl hy
       · rw [hrun, hst5, if_pos hk2]
         exact b6
     | cons t ts =>
       obtain ⟨h3, e3, T⟩ := zon n S2 hn (by simp at hts; omega)
       rw [e3, zM]
       simp only [zb, zj, za, zm]
       rw [if_pos (by first | trivial | rfl), zak, za, if_pos (by first | trivial | rfl)]
       have hts3 : tb ≠ s := fun e => nt (e ▸ zy ..)
       have hps3 : pb ≠ s := fun e => np (e ▸ zy ..)
       have r3 : RowR h3 tb (told.set k ⟨4, 0⟩) := r2.keep (T.old tb hts3)
       obtain ⟨B3, w3, r4⟩ := r3.all (show (told.set k ⟨4, 0⟩)[k]? = some ⟨4, 0⟩ from Zq htk) 2 t.v
       have e4 : (told.set k ⟨4, 0⟩).set k ⟨2, t.v⟩ = told.set k ⟨2, t.v⟩ := List.set_set ..
       replace r4 : RowR (h3.set tb B3) tb (told.set k ⟨2, t.v⟩) := by rw [<- e4]; exact r4
       rw [w3, Zj]
       have hkeep4 : ∀ b, b ≠ tb -> (h3.set tb B3)[b]? = h3[b]? := fun b hb => ze (Ne.symm hb)
       have nt' : tb ∉ skB s ts := fun hm => nt (by
        rcases zL.1 hm with e | hm
        · exact e ▸ zy ..
        · exact zp _ (zp _ hm))
       have hsub : ∀ b ∈ skB s ts, b ∈ skB s (t :: ts) := fun b hb => by
        rcases zL.1 hb with e | hm
        · exact e ▸ zy ..
        · exact zp _ (zp _ hm)
       have S4 : ∃ N, SkAt (h3.set tb B3) s ts most N := by obtain ⟨N', S'⟩ := T.sk; exact ⟨N', S'.keep fun b hb => hkeep4 b fun e => nt' (e ▸ hb)⟩
       obtain ⟨h', ts', told', e, b1, b2, b3, b4, b5, b6⟩ := ih (i + 1) M (h3.set tb B3) ts (told.set k ⟨2, t.v⟩) (.sl 2 (lsl v0) false) (by omega) (by omega) S4 (by simp at hts; omega) r4 (rp.keep (by rw [hkeep4 pb hpt, T.old pb hps3, hkeep2 pb hpt])) (by rw [zq]; exact hlt) nt' (fun hm => np (hsub pb hm)) hpt (hrest _ ⟨2, t.v⟩ rfl)
       refine ⟨h', ts', told', e, b1, fun b hb => hsub b (b2 b hb), ?_, by rw [b4, zq, T.len, zq, zq], b5, ?_⟩
       · refine Frm.trans (h1 := h3.set tb B3) ⟨by rw [zq, T.len, zq, zq]; exact zk _, fun j _ hj => ?_⟩ b3 fun y hy => .inl ?_
         · have hj1 : j ≠ tb := fun e => hj (e ▸ zy ..)
           have hj2 : j ≠ s := fun e => hj (e ▸ zp _ (zy ..))
           rw [hkeep4 j hj1, T.old j hj2, hkeep2 j hj1]
         · rcases zL.1 hy with e | hy
           · exact e ▸ zy ..
           · exact zp _ (hsub y hy)
       · rw [hrun, hst5, if_pos hk2]
         exact b6
   · rw [if_pos (by simp [hk2])]
     obtain ⟨h', ts', told', e, b1, b2, b3, b4, b5, b6⟩ := ih (i + 1) M (h.set tb B1) ts (told.set k ⟨5, 0⟩) (.sl 2 (lsl v0) false) (by omega) (by omega) S1 hts r1 rp1 (by rw [zq]; exact hlt) nt np hpt (hrest _ ⟨5, 0⟩ rfl)
     refine ⟨h', ts', told', e, b1, b2, ?_, by rw [b4, zq], b5, ?_⟩
     · exact Frm.trans ⟨by simp, fun j _ hj => hkeep1 j fun e => hj (e ▸ zy ..)⟩ b3 fun y hy => .inl hy
     · rw [hrun, hst5, if_neg hk2]
       exact b6
theorem zmx (n : Nat) {h : zd} {s : Nat} {ts : List Tw} {most : Int} (os : List O) (lb : Bool) (told : List R) (tb pb : Nat) (bits : List Bool) (S : ∃ N, SkAt h s ts most N) (hts : ts.length < lim) (rt : RowR h tb told) (rp : RowI h pb .i64 3 (Xg os)) (hlt : told.length = os.length) (nt : tb ∉ skB s ts) (np : pb ∉ skB s ts) (hpt : pb ≠ tb) (h0 : ∀ x ∈ Xg os, told[x.toNat]? = some ⟨0, 0⟩) (hlim : os.length < lim) (hn : os.length + 8 < n) :
    ∃ h' ts' told', call (n + 3) 229 [.ptr s 0, .sl 2 (os.map O.w) lb, .row pb 1 0 (Xg os).length, .row tb 2 0 os.length] h = some (.ret [.row tb 2 0 os.length], h') ∧
     (∃ N, SkAt h' s ts' most N) /\ (∀ b ∈ skB s ts', b ∈ skB s ts) /\ Frm h h' (tb :: skB s ts) /\ h'.length = h.length /\ RowR h' tb told' /\ J5 os most (Xg os) (itT ts, bits) told = ((itT ts', bits), told') := by
 have hl := YS os os.length
 have hol : (Xg os).length <= os.length := by unfold Xg; omega
 have hnd : (Xg os).Nodup := by
  have : ∀ n : Nat, (Qy os n).Pairwise (· < ·) := fun n => by
   induction n with
   | zero => exact .nil
   | succ n ih =>
     simp only [Qy]
     split
     · exact ih
     · refine Zz.2 ⟨ih, JU .., fun a ha b hb => ?_⟩
       rw [Zy] at hb; subst hb
       exact (Qi os n a ha).2.1
  exact (this os.length).imp fun h => by omega
 obtain ⟨h', ts', told', e, r⟩ := zmw n os lb (Xg os) (Qi os os.length) hnd tb pb (by omega) (by omega) bits (Xg os).length 0 (n + 2) h ts told (.sl 2 [] false) (by omega) (by omega) S hts rt rp hlt nt np hpt (by rw [zN]; exact h0)
 refine ⟨h', ts', told', ?_, by rw [zN] at r; exact r⟩
 refine (zjX (n + 2) s (os.map O.w) lb _ _ h).trans ?_
 unfold zlc
 rw [rp.slc, za]
 exact e
end Go.Proofs.Tryz
namespace Go.Proofs.Tryz
open Go.L Go.Rp Go.Sk
set_option maxRecDepth 100000
structure Env (h : zd) (s : Nat) (ts : List Tw) (most : Int) (c : Nat) (cb : Option Nat) (bits : List Bool) (p1 : Nat) (P : List Int) (p2 : Nat) (Q : List Int) : Prop where
 sk : ∃ N, SkAt h s ts most N
 bt : BitsAt h c cb bits
 r1 : RowI h p1 .i64 3 P
 r2 : RowI h p2 .i64 3 Q
 nc : c ∉ skB s ts
 ncb : ∀ b, cb = some b -> b ∉ skB s ts
 n1 : p1 ∉ skB s ts /\ p1 ≠ c
 n2 : p2 ∉ skB s ts /\ p2 ≠ c
theorem BitsAt.lt {h : zd} {c : Nat} {cb : Option Nat} {bits : List Bool} (hb : BitsAt h c cb bits) : c < h.length /\ ∀ b, cb = some b -> b < h.length := by
 cases cb with
 | none => exact ⟨zS hb.2, fun b e => by cases e⟩
 | some b =>
   obtain ⟨_, lo, l, z, h2, h3, _⟩ := hb
   exact ⟨zS h2, fun b' e => by cases e; exact zS h3⟩
theorem Env.coin {h h' : zd} {s : Nat} {ts : List Tw} {most : Int} {c : Nat} {cb : Option Nat} {bits bits' : List Bool} {p1 p2 : Nat} {P Q : List Int} (E : Env h s ts most c cb bits p1 P p2 Q) (hb : BitsAt h' c cb bits') (hk : ∀ i, i ≠ c -> h'[i]? = h[i]?) : Env h' s ts most c cb bits' p1 P p2 Q :=
 ⟨by obtain ⟨N, S⟩ := E.sk; exact ⟨N, S.keep fun b hb => hk b fun e => E.nc (e ▸ hb)⟩, hb, E.r1.keep (hk _ E.n1.2), E.r2.keep (hk _ E.n2.2), E.nc, E.ncb, E.n1, E.n2⟩
theorem RowI.lt {h : zd} {b : Nat} {k : IntKind} {e : Nat} {l : List Int} (r : RowI h b k e l) : b < h.length := by obtain ⟨z, hz⟩ := r; exact zS hz
theorem Env.grew {h h' : zd} {s : Nat} {ts ts' : List Tw} {most : Int} {c : Nat} {cb : Option Nat} {bits : List Bool} {p1 p2 : Nat} {P Q : List Int} (E : Env h s ts most c cb bits p1 P p2 Q) (G : Grew h h' s ts ts' most) : Env h' s ts' most c cb bits p1 P p2 Q := by
 have l := E.bt.lt
 have hn : ∀ b, b < h.length -> b ∉ skB s ts -> b ∉ skB s ts' := fun b h1 h2 hm => by rcases G.new b hm with h | h; exact h2 h; omega
 exact ⟨G.sk, E.bt.keep (G.old c l.1 E.nc) fun b hb => G.old b (l.2 b hb) (E.ncb b hb), E.r1.keep (G.old _ E.r1.lt E.n1.1), E.r2.keep (G.old _ E.r2.lt E.n2.1), hn c l.1 E.nc, fun b hb => hn b (l.2 b hb) (E.ncb b hb), ⟨hn _ E.r1.lt E.n1.1, E.n1.2⟩, ⟨hn _ E.r2.lt E.n2.1, E.n2.2⟩⟩
theorem Env.push {h : zd} {s : Nat} {ts : List Tw} {most : Int} {c : Nat} {cb : Option Nat} {bits : List Bool} {p1 p2 : Nat} {P Q : List Int} (E : Env h s ts most c cb bits p1 P p2 Q) (l : List HB) : Env (h ++ l) s ts most c cb bits p1 P p2 Q := by
 have hk : ∀ b, b < h.length -> (h ++ l)[b]? = h[b]? := fun b hb => zl hb
 have lt := E.bt.lt
 obtain ⟨N, S⟩ := E.sk
 exact ⟨⟨N, S.keep fun b hb => hk b (S.lt b hb)⟩, E.bt.keep (hk c lt.1) fun b hb => hk b (lt.2 b hb), E.r1.keep (hk _ E.r1.lt), E.r2.keep (hk _ E.r2.lt), E.nc, E.ncb, E.n1, E.n2⟩
structure Did (h h' : zd) (s : Nat) (ts ts' : List Tw) (most : Int) (c : Nat) (cb : Option Nat) (bits' : List Bool) (tb : Nat) (told : List R) : Prop where
 sk : ∃ N, SkAt h' s ts' most N
 bt : BitsAt h' c cb bits'
 tl : RowR h' tb told
 tb : h.length <= tb
 frm : Frm h h' (c :: skB s ts)
 new : ∀ b ∈ skB s ts', b ∈ skB s ts \/ h.length <= b
 room : (ts'.length : Int) <= most
theorem zlh (bits : List Bool) : hOf ((hgt 1 bits).1 : Int) = (hgt 1 bits).1 := by
 have := zkT bits 1 (zk _) (by omega)
 unfold hOf
 omega
theorem zal (l : List (Int × Nat)) (v : Int) (T : Nat) : (zbN l v T).length = l.length + 1 := by
 unfold zbN
 rw [zB, zA]
 have := congrArg List.length (List.takeWhile_append_dropWhile (p := fun p : Int × Nat => decide (p.1 <= v)) (l := l))
 rw [zB] at this
 omega
theorem Jq (ts : List Tw) : (itT ts).length = ts.length := by simp [itT]
theorem zoF {most : Int} {st : St} {o : O} (h : (st.1.length : Int) <= most) : ((stp most st o).1.1.length : Int) <= most := by
 unfold stp
 split
 · split
   · exact h
   · simp only [zal]; omega
 · split
   · split
     · exact h
     · rename_i p r e; rw [e] at h; simp at h; simp only; omega
   · exact h
theorem zaX {os : List O} {most : Int} : ∀ (l : List Int) {st : St} {told : List R}, (st.1.length : Int) <= most -> ((J5 os most l st told).1.1.length : Int) <= most
 | [], st, told, h => h
 | k :: l, st, told, h => zaX l (zoF h)
theorem zaY (l : List R) : lsl (V.sl 2 (l.map R.w) false) = l.map R.w := rfl
theorem zgg (x : R) (c : Int) : setR (R.w x) 0 [.int .u8 c] = R.w ⟨c, x.v⟩ := rfl
theorem zj3 (n : Nat) {s c : Nat} {cb : Option Nat} {most : Int} (os : List O) (lb : Bool) (P : List Int) (hP : ∀ x ∈ P, 0 <= x /\ x < (os.length : Int) /\ (oAt os x).k = 1) (hnd : P.Nodup) (p1 p2 : Nat) (Q0 : List Int) (v6 : V) (hlim : P.length < lim) : ∀ (d i M : Nat) (h : zd) (ts : List Tw) (bits : List Bool) (told : List R) (v0 v2 : V), i + d = P.length -> d < M →
    Env h s ts most c cb bits p1 P p2 Q0 -> ts.length + d < lim -> ts.length + d + 10 < n -> told.length = os.length -> (∀ x ∈ P.drop i, told[x.toNat]? = some ⟨0, 0⟩) →
    ∃ h' ts' bits' told' v0' v2' M', zV M (QI (n + 3) s c (os.map O.w) lb (.row p1 1 0 P.length) v6 (1, iL P)) [v0, .sl 2 (told.map R.w) false, v2, .int .i64 (i : Int)] h = QI (n + 3) s c (os.map O.w) lb (.row p1 1 0 P.length) v6 (1, iL P) [v0', .sl 2 (told'.map R.w) false, v2', .int .i64 (P.length : Int)] h' (zV M' (QI (n + 3) s c (os.map O.w) lb (.row p1 1 0 P.length) v6 (1, iL P))) ∧
     Env h' s ts' most c cb bits' p1 P p2 Q0 /\ Frm h h' (c :: skB s ts) /\ (∀ b ∈ skB s ts', b ∈ skB s ts \/ h.length <= b) /\ told'.length = os.length /\ ts'.length <= ts.length + d /\ J5 os most (P.drop i) (itT ts, bits) told = ((itT ts', bits'), told') /\ (∀ y : Nat, (∀ x ∈ P.drop i, x ≠ (y : Int)) -> told'[y]? = told[y]?) := by
 intro d
 induction d with
 | zero =>
   intro i M h ts bits told v0 v2 h1 h2 E hts hn hlt h0
   obtain ⟨M, rfl⟩ : ∃ M', M = M' + 1 := ⟨M - 1, by omega⟩
   obtain rfl : i = P.length := by omega
   exact ⟨h, ts, bits, told, v0, v2, M, zD .., E, .refl _ _, fun b hb => .inl hb, hlt, zk _, by rw [List.drop_length]; rfl, fun _ _ => rfl⟩
 | succ d ih =>
   intro i M h ts bits told v0 v2 h1 h2 E hts hn hlt h0
   obtain ⟨M, rfl⟩ : ∃ M', M = M' + 1 := ⟨M - 1, by omega⟩
   obtain ⟨x, hx⟩ : ∃ x, P[i]? = some x := ⟨_, zg (by omega)⟩
   have hdr : P.drop i = x :: P.drop (i + 1) := by
    rw [zT (by omega)]
    rw [zg (by omega)] at hx
    rw [Option.some.inj hx]
   obtain ⟨x0, x1, xk⟩ := hP x (zH hx)
   obtain ⟨k, rfl⟩ : ∃ k : Nat, x = (k : Int) := ⟨x.toNat, (ZD x0).symm⟩
   have hk : k < os.length := by omega
   obtain ⟨o, ho⟩ : ∃ o, os[k]? = some o := ⟨_, zg hk⟩
   have hov : (os.map O.w)[k]? = some (O.w o) := by rw [Yx, ho]; rfl
   have hoo := Jd ho
   rw [hoo] at xk
   have ht0 : told[k]? = some ⟨0, 0⟩ := by
    have := h0 (k : Int) (by rw [hdr]; exact zy ..)
    simpa using this
   have htk : k < told.length := by omega
   have htv : (told.map R.w)[k]? = some (R.w ⟨0, 0⟩) := by rw [Kn, ht0]; rfl
   have hl1 : decide ((i : Int) < (P.length : Int)) = true := by simp; omega
   obtain ⟨g1, g2⟩ := E.r1.get hx
   have hnd2 : (P.drop i).Nodup := hnd.sublist (Qg _ _)
   rw [hdr] at hnd2
   have hrest : ∀ (told2 : List R) (r : R), told2 = told.set k r -> ∀ y ∈ P.drop (i + 1), told2[y.toNat]? = some ⟨0, 0⟩ := fun told2 r e y hy => by
    rw [e, ze]
    · exact h0 y (by rw [hdr]; exact zp _ hy)
    · intro e2
      have hy0 := hP y (Zf hy)
      have hyk : y = (k : Int) := by omega
      exact (ZE.1 hnd2).1 (hyk ▸ hy)
   have hrun : J5 os most (P.drop i) (itT ts, bits) told = J5 os most (P.drop (i + 1)) (stp most (itT ts, bits) o).1 (told.set k (stp most (itT ts, bits) o).2) := by
    rw [hdr]; show J5 os most _ (stp most (itT ts, bits) (oAt os (k : Int))).1 (told.set (k : Int).toNat (stp most (itT ts, bits) (oAt os (k : Int))).2) = _
    rw [hoo, XI]
   have hoth : ∀ (r : R) (told' : List R), (∀ y : Nat, (∀ x ∈ P.drop (i + 1), x ≠ (y : Int)) -> told'[y]? = (told.set k r)[y]?) -> ∀ y : Nat, (∀ x ∈ P.drop i, x ≠ (y : Int)) -> told'[y]? = told[y]? := fun r told' hh y hy => by
    rw [hdr] at hy
    rw [hh y fun x hx => hy x (zp _ hx), ze]
    intro e
    exact hy (k : Int) (zy ..) (by omega)
   obtain ⟨N, hS⟩ := E.sk
   have hlenC := q9 (n + 2) hS
   have hmostC := zeR (n + 2) hS
   have hset3 : (told.map R.w).set k (setR (R.w ⟨0, 0⟩) 0 [.int .u8 3]) = (told.set k ⟨3, 0⟩).map R.w := by rw [zgg, Jb]
   have c1 : (2 = 2 /\ k < (told.map R.w).length /\ (some 28 : Option Nat) ≠ some 7) := ⟨rfl, by rw [zx]; exact htk, by decide⟩
   by_cases hfull : (ts.length : Int) < most
   ·
    obtain ⟨h2', e2, B2, l2, f2⟩ := zbj n E.bt (by omega)
    have E2 := E.coin B2 f2
    obtain ⟨N2, hS2⟩ := E2.sk
    obtain ⟨h3, ts3, e3, P3⟩ := zie n hS2 o.v ((hgt 1 bits).1 : Int) (by omega) (by omega) hfull
    have E3 := E2.grew P3.grew
    have hset1 : ((told.set k ⟨3, 0⟩).map R.w).set k (setR (R.w ⟨3, 0⟩) 0 [.int .u8 1]) = (told.set k ⟨1, 0⟩).map R.w := by rw [zgg, <- Jb, List.set_set]
    have htv3 : ((told.set k ⟨3, 0⟩).map R.w)[k]? = some (R.w ⟨3, 0⟩) := by rw [Kn, Zq htk]; rfl
    have key : ∀ next, QI (n + 3) s c (os.map O.w) lb (.row p1 1 0 P.length) v6 (1, iL P) [v0, .sl 2 (told.map R.w) false, v2, .int .i64 (i : Int)] h next = next [.sl 2 (lsl v0) false, .sl 2 ((told.set k ⟨1, 0⟩).map R.w) false, .bool false, .int .i64 ((i + 1 : Nat) : Int)] h3 := by
     intro next
     unfold QI
     simp only [gv, zf, zh, XG, zt, za, zm, hl1, if_true, Zd, zw, g1, g2, zo, zr, zk, Nat.reduceLT, and_self, zb, zaY]
     rw [if_pos (by exact ⟨trivial, c1.2.1, by decide⟩), htv, za, hlenC, zM, zE, hmostC, zM, zE, zt, za, zm, if_pos (by exact decide_eq_true hfull)]
     rw [Xl hov, za]
     simp only [esP, zlg, za]
     rw [e2, zbW, zE, e3, zbW, zE, hset3]
     rw [if_pos (by exact ⟨trivial, by rw [zx, zq]; exact htk, by decide⟩), htv3, za, zK, za, hset1, Xv (show i < lim by omega)]
    have hlen3 : ts3.length = ts.length + 1 := by
     have := congrArg List.length P3.items
     rwa [Jq, zal, Jq] at this
    obtain ⟨h', ts', bits', told', v0', v2', M', e, b1, b2, b3, b4, b5, b6, b7⟩ := ih (i + 1) M h3 ts3 (hgt 1 bits).2 (told.set k ⟨1, 0⟩) (.sl 2 (lsl v0) false) (.bool false) (by omega) (by omega) E3 (by omega) (by omega) (by rw [zq]; exact hlt) (hrest _ ⟨1, 0⟩ rfl)
    refine ⟨h', ts', bits', told', v0', v2', M', by rw [zD, key]; exact e, b1, ?_, fun b hb => ?_, b4, by omega, ?_, hoth ⟨1, 0⟩ told' b7⟩
    · have f3 : Frm h h3 (c :: skB s ts) := Frm.trans (h1 := h2') ⟨Nat.le_of_eq l2.symm, fun j _ hj => f2 j fun e => hj (e ▸ zy ..)⟩ P3.grew.frm fun y hy => .inl (zp _ hy)
      refine f3.trans b2 fun y hy => ?_
      rcases zL.1 hy with e | hy
      · exact .inl (e ▸ zy ..)
      · rcases P3.grew.new y hy with h | h
        · exact .inl (zp _ h)
        · exact .inr (by omega)
    · have hl3 := P3.len
      rcases b3 b hb with h | h
      · rcases P3.grew.new b h with h | h
        · exact .inl h
        · exact .inr (by omega)
      · exact .inr (by omega)
    · rw [hrun]
      have hst : stp most (itT ts, bits) o = ((zbN (itT ts) o.v (hgt 1 bits).1, (hgt 1 bits).2), ⟨1, 0⟩) := by
       unfold stp
       rw [if_pos xk, if_neg (by simp only [Jq]; omega)]
      rw [hst, <- zlh bits, <- P3.items]
      exact b6
   · have key : ∀ next, QI (n + 3) s c (os.map O.w) lb (.row p1 1 0 P.length) v6 (1, iL P) [v0, .sl 2 (told.map R.w) false, v2, .int .i64 (i : Int)] h next = next [.sl 2 (lsl v0) false, .sl 2 ((told.set k ⟨3, 0⟩).map R.w) false, .bool false, .int .i64 ((i + 1 : Nat) : Int)] h := by
       intro next
       unfold QI
       simp only [gv, zf, zh, XG, zt, za, zm, hl1, if_true, Zd, zw, g1, g2, zo, zr, zk, Nat.reduceLT, and_self, zb, zaY]
       rw [if_pos (by exact ⟨trivial, c1.2.1, by decide⟩), htv, za, hlenC, zM, zE, hmostC, zM, zE, zt, za, zm, if_neg (by intro e; exact hfull (of_decide_eq_true e)), zK, za, hset3, Xv (show i < lim by omega)]
     obtain ⟨h', ts', bits', told', v0', v2', M', e, b1, b2, b3, b4, b5, b6, b7⟩ := ih (i + 1) M h ts bits (told.set k ⟨3, 0⟩) (.sl 2 (lsl v0) false) (.bool false) (by omega) (by omega) E (by omega) (by omega) (by rw [zq]; exact hlt) (hrest _ ⟨3, 0⟩ rfl)
     refine ⟨h', ts', bits', told', v0', v2', M', by rw [zD, key]; exact e, b1, b2, b3, b4, by omega, ?_, hoth ⟨3, 0⟩ told' b7⟩
     rw [hrun]
     have hst : stp most (itT ts, bits) o = ((itT ts, bits), ⟨3, 0⟩) := by
      unfold stp
      rw [if_pos xk, if_pos (by simp only [Jq]; omega)]
     rw [hst]
     exact b6
theorem zj4 (n : Nat) : List.replicate n [V.int .u8 0, V.int .i32 0] = (List.replicate n (⟨0, 0⟩ : R)).map R.w := by rw [List.map_replicate]; rfl
def WJ (os : List O) (most : Int) (st : St) : St × List R := J5 os most (Z1 os ++ Xg os) st (List.replicate os.length ⟨0, 0⟩)
theorem zbt (os : List O) : ∀ x ∈ Xg os, ∀ y ∈ Z1 os, y ≠ x := fun x hx y hy e => by
 have h1 := Qi os _ x hx
 have h2 := Jh os _ y ((Ye os).mem_iff.1 hy)
 rw [e] at h2
 exact h1.2.2 h2.2.2
theorem jk (os : List O) : (Z1 os).Nodup := (Ye os).nodup_iff.2 ((YR os os.length).imp fun h => by omega)
theorem XS (os : List O) : ∀ x ∈ Z1 os, 0 <= x /\ x < (os.length : Int) /\ (oAt os x).k = 1 := fun x hx => Jh os _ x ((Ye os).mem_iff.1 hx)
theorem ziE {h : zd} {s : Nat} {ts : List Tw} {most : Int} {c : Nat} {cb : Option Nat} {bits : List Bool} (os : List O) (S : ∃ N, SkAt h s ts most N) (B : BitsAt h c cb bits) (nc : c ∉ skB s ts) (ncb : ∀ b, cb = some b -> b ∉ skB s ts) :
    Env (JS h os) s ts most c cb bits h.length (Z1 os) (h.length + 1) (Xg os) := by
 obtain ⟨N, S⟩ := S
 have l := B.lt
 have hk : ∀ b, b < h.length -> (JS h os)[b]? = h[b]? := fun b hb => zl hb
 have h0 : (JS h os)[h.length]? = some (.row 3 1 (iL (Z1 os)) true) := by unfold JS; rw [zG (zk _), QL]; rfl
 have h1 : (JS h os)[h.length + 1]? = some (.row 3 1 (iL (Xg os)) true) := by unfold JS; rw [zG (by omega), Xw]; rfl
 exact ⟨⟨N, S.keep fun b hb => hk b (S.lt b hb)⟩, B.keep (hk c l.1) fun b hb => hk b (l.2 b hb), ⟨_, h0⟩, ⟨_, h1⟩, nc, ncb, ⟨fun hm => by have := S.lt _ hm; omega, by omega⟩, ⟨fun hm => by have := S.lt _ hm; omega, by omega⟩⟩
theorem ziF (n : Nat) {h hh : zd} {s : Nat} {ts ts1 : List Tw} {most : Int} {c : Nat} {cb : Option Nat} {bits : List Bool} {p1 p2 : Nat} (os : List O) (lb : Bool) (told : List R) (E : Env hh s ts1 most c cb bits p1 (Z1 os) p2 (Xg os)) (hp2 : h.length <= p2) (hlt : told.length = os.length) (h0 : ∀ x ∈ Xg os, told[x.toNat]? = some ⟨0, 0⟩) (hts : ts1.length < lim) (hlim : os.length < lim) (hn : os.length + 8 < n) (hF : Frm h hh (c :: skB s ts)) (hN : ∀ b ∈ skB s ts1, b ∈ skB s ts \/ h.length <= b) (hroom : (ts1.length : Int) <= most) :
    ∃ h' ts' told', call (n + 3) 229 [.ptr s 0, .sl 2 (os.map O.w) lb, .row p2 1 0 (Xg os).length, .row hh.length 2 0 os.length] (hh ++ [.row 35 2 (told.map R.w) true]) = some (.ret [.row hh.length 2 0 os.length], h') ∧
     Did h h' s ts ts' most c cb bits hh.length told' /\ J5 os most (Xg os) (itT ts1, bits) told = ((itT ts', bits), told') := by
 have E1 := E.push [.row 35 2 (told.map R.w) true]
 have rt : RowR (hh ++ [.row 35 2 (told.map R.w) true]) hh.length told := ⟨true, zJ⟩
 obtain ⟨N, S⟩ := E.sk
 have nt : hh.length ∉ skB s ts1 := fun hm => by have := S.lt _ hm; omega
 have hpl := E.r2.lt
 obtain ⟨h', ts', told', e, a1, a2, a3, a4, a5, a6⟩ := zmx n os lb told hh.length p2 bits E1.sk hts rt E1.r2 hlt nt E.n2.1 (by omega) h0 hlim hn
 have hl := E.bt.lt
 refine ⟨h', ts', told', e, ⟨a1, ?_, a5, hF.len, ?_, fun b hb => ?_, ?_⟩, a6⟩
 · have hk : ∀ i, i < hh.length -> i ∉ skB s ts1 -> h'[i]? = hh[i]? := fun i h1 h2 => by
     rw [a3.old i (by rw [zB]; omega) (fun hm => by rcases zL.1 hm with e | hm; omega; exact h2 hm), zl h1]
   exact E.bt.keep (hk c hl.1 E.nc) fun b hb => hk b (hl.2 b hb) (E.ncb b hb)
 · refine (hF.trans (Frm.push hh _ []) (fun y hy => by cases hy)).trans a3 fun y hy => ?_
   rcases zL.1 hy with e | hy
   · exact .inr (by have := hF.len; omega)
   · rcases hN y hy with h | h
     · exact .inl (zp _ h)
     · exact .inr h
 · exact hN b (a2 b hb)
 · have h1 := congrArg (fun p => (p.1.1.length : Int)) a6
   simp only [Jq] at h1
   rw [<- h1]
   exact zaX _ (by simp only [Jq]; exact hroom)
theorem zj5 (n : Nat) {h : zd} {s : Nat} {ts : List Tw} {most : Int} {c : Nat} {cb : Option Nat} {bits : List Bool} (os : List O) (lb : Bool) (S : ∃ N, SkAt h s ts most N) (B : BitsAt h c cb bits) (nc : c ∉ skB s ts) (ncb : ∀ b, cb = some b -> b ∉ skB s ts) (hroom : (ts.length : Int) <= most) (hl : ts.length + 4 * os.length + 100 < lim) (hn : ts.length + 2 * os.length + 50 <= n) :
    ∃ h' ts' bits' tb told', call (n + 4) 224 [.ptr s 0, .ptr c 0, .sl 2 (os.map O.w) lb] h = some (.ret [.row tb 2 0 os.length], h') /\ Did h h' s ts ts' most c cb bits' tb told' /\ WJ os most (itT ts, bits) = ((itT ts', bits'), told') := by
 have hpl := YS os os.length
 have hsl := jG os
 have hpo : (WD os).length <= os.length := by unfold WD; omega
 have E0 := ziE os S B nc ncb
 have hlf : (JS h os).length = h.length + 2 := by simp [JS]
 obtain ⟨h1, ts1, bits1, told1, v0', v2', M', e, b1, b2, b3, b4, b5, b6, b7⟩ := zj3 n os lb (Z1 os) (XS os) (jk os) h.length (h.length + 1) (Xg os) (.row (h.length + 1) 1 0 (Xg os).length) (by omega) (Z1 os).length 0 (n + 3) (JS h os) ts bits (List.replicate os.length ⟨0, 0⟩) (.sl 2 [] false) (.bool false) (by omega) (by omega) E0 (by omega) (by omega) (by simp) (fun x hx => by
  have := XS os x (Zf hx)
  rw [ZY, if_pos (by omega)])
 rw [zN] at b6 b7
 have hF : Frm h h1 (c :: skB s ts) := Frm.trans (Frm.push h _ (c :: skB s ts)) b2 fun y hy => .inl hy
 have hN : ∀ b ∈ skB s ts1, b ∈ skB s ts \/ h.length <= b := fun b hb => (b3 b hb).imp id fun h => by omega
 have hr1 : (ts1.length : Int) <= most := by
  have h1 := congrArg (fun p => (p.1.1.length : Int)) b6
  simp only [Jq] at h1
  rw [<- h1]
  exact zaX _ (by simp only [Jq]; exact hroom)
 obtain ⟨h', ts', told', e2, D, r⟩ := ziF (ts := ts) n os lb told1 b1 (by omega) b4 (fun x hx => by
  have hm := Qi os _ x hx
  rw [b7 x.toNat fun y hy => fun e => zbt os x hx y hy (by omega), ZY, if_pos (by omega)]) (by omega) (by omega) (by omega) hF hN hr1
 refine ⟨h', ts', bits1, h1.length, told', ?_, D, ?_⟩
 · refine (zim (n + 3) s c (os.map O.w) lb h).trans ?_
   unfold zil
   have fN : nv (V.int .i64 (os.length : Int)) = some os.length := Zd _ _
   have hpc : call (n + 3) 225 [.sl 2 (os.map O.w) lb] h = some (.ret [.row h.length 1 0 (WD os).length, .row (h.length + 1) 1 0 (Xg os).length], JS h os) := zbs (n + 1) h os lb (by omega) (by omega)
   simp only [zx]
   rw [fN, zw, zw, if_pos (by first | exact ⟨zk _, by omega, rfl⟩ | exact ⟨trivial, by omega, trivial⟩ | exact ⟨zk _, by omega, trivial⟩), hpc, zM]
   simp only [zb, zj, za]
   rw [<- hsl, E0.r1.slc, za, zj4]
   refine e.trans ?_
   unfold QI
   simp only [gv, zf, zh, XG, zt, za, zm]
   rw [if_neg (by simp), zaY, zx, b4, e2, zM, zE]
 · unfold WJ
   rw [Ys, b6]
   exact r
end Go.Proofs.Tryz
namespace Go.Proofs.Tryz
open Go.L Go.Rp Go.Sk
set_option maxRecDepth 100000
def qv : Nat -> List Bool -> List Int × List Bool
 | 0, bits => ([], bits)
 | k + 1, bits => (((hgt 1 bits).1 : Int) :: (qv k (hgt 1 bits).2).1, (qv k (hgt 1 bits).2).2)
theorem ziG : ∀ (k : Nat) (bits : List Bool), (qv k bits).1.length = k
 | 0, _ => rfl
 | k + 1, bits => by simp [qv, ziG k]
def Ja (r : R) : List Int -> List R -> List R
 | [], told => told
 | k :: l, told => Ja r l (told.set k.toNat r)
theorem qw (r : R) : ∀ (l : List Int) (told : List R), (Ja r l told).length = told.length
 | [], _ => rfl
 | k :: l, told => by show (Ja r l _).length = _; rw [qw r l, zq]
theorem jH (r : R) : ∀ (l : List Int) (told : List R) (y : Nat), (∀ x ∈ l, x.toNat ≠ y) -> (Ja r l told)[y]? = told[y]?
 | [], _, _, _ => rfl
 | k :: l, told, y, h => by
   show (Ja r l _)[y]? = _
   rw [jH r l _ y fun x hx => h x (zp _ hx), ze (h k (zy ..))]
theorem zli (os : List O) (most : Int) : ∀ (P : List Int) (st : St) (told : List R), (∀ x ∈ P, (oAt os x).k = 1) -> (st.1.length : Int) + P.length <= most →
    J5 os most P st told = ((qu st.1 ((P.map (YA os)).zip (qv P.length st.2).1), (qv P.length st.2).2), Ja ⟨1, 0⟩ P told)
 | [], st, told, _, _ => rfl
 | k :: P, st, told, hk, hm => by
   have hst : stp most st (oAt os k) = ((zbN st.1 (oAt os k).v (hgt 1 st.2).1, (hgt 1 st.2).2), ⟨1, 0⟩) := by
    unfold stp
    rw [if_pos (hk k (zy ..)), if_neg (by simp at hm; omega)]
   show J5 os most P (stp most st (oAt os k)).1 (told.set k.toNat (stp most st (oAt os k)).2) = _
   rw [hst, zli os most P _ _ (fun x hx => hk x (zp _ hx)) (by rw [zal]; simp at hm ⊢; omega)]
   simp only [zU, zA, qv, XP, qu, Ja, zlh]
   rfl
theorem ziH (os : List O) (most : Int) : ∀ (P : List Int) (st : St) (told : List R), (∀ x ∈ P, (oAt os x).k = 1) -> most <= (st.1.length : Int) -> J5 os most P st told = (st, Ja ⟨3, 0⟩ P told)
 | [], st, told, _, _ => rfl
 | k :: P, st, told, hk, hm => by
   have hst : stp most st (oAt os k) = (st, ⟨3, 0⟩) := by
    unfold stp
    rw [if_pos (hk k (zy ..)), if_pos hm]
   show J5 os most P (stp most st (oAt os k)).1 (told.set k.toNat (stp most st (oAt os k)).2) = _
   rw [hst]
   exact ziH os most P st _ (fun x hx => hk x (zp _ hx)) hm
theorem RowI.getP {h : zd} {b : Nat} {k : IntKind} {e : Nat} {l : List Int} (r : RowI h b k e l) {lo hi i : Nat} {x : Int} (hi' : lo + i < hi) (hx : l[lo + i]? = some x) : ZK 1 i (.row b 1 lo hi) = some (.rptr b 1 (lo + i) 0) /\ zu h (.rptr b 1 (lo + i) 0) = some ([.int k x], 1, 0) := by
 obtain ⟨z, hz⟩ := r
 refine ⟨XL (by omega), Xz hz (by decide) ?_⟩
 rw [zI, hx]
 rfl
theorem RowI.slcP {h : zd} {b : Nat} {k : IntKind} {e : Nat} {l : List Int} (r : RowI h b k e l) {lo hi : Nat} (h1 : lo <= hi) (h2 : hi <= l.length) : ZW h (.row b 1 lo hi) = some (1, ((l.take hi).drop lo).map (Xf k)) := by
 obtain ⟨z, hz⟩ := r
 rw [Qw hz h1 (by rw [zx]; exact h2), List.map_drop, List.map_take]
theorem zpV (l : List Int) (x : Int) (h : l.length + 1 < lim) : app 21 1 (S.own 21 1 (l.map (Xf .i32))) [[.int .i32 x]] = some ((l ++ [x]).map (Xf .i32)) := by
 simp only [app]
 rw [if_pos (by refine ⟨?_, ?_, by simpa using h⟩ <;> first | trivial | rfl)]
 simp [Xf]
theorem zlj (l : List Int) : lsl (V.sl 1 (l.map (Xf .i32)) false) = l.map (Xf .i32) := rfl
theorem zoG (l : List Int) : lsl (V.sl 1 (iL l) false) = iL l := rfl
theorem zmy (n : Nat) {s c : Nat} {cb : Option Nat} {most : Int} {ts : List Tw} (os : List O) (lb : Bool) (P0 : List Int) (hP : ∀ x ∈ P0, 0 <= x /\ x < (os.length : Int)) (hnd : P0.Nodup) (p1 p2 : Nat) (Q0 : List Int) (v5 v6 v18 : V) (r : Nat) (hr : r <= P0.length) (hlim : P0.length < lim) (hn : 8 <= n) : ∀ (d i M : Nat) (h : zd) (bits : List Bool) (told : List R) (vs hs : List Int) (v0 v4 : V), i + d = r -> d < M →
    Env h s ts most c cb bits p1 P0 p2 Q0 -> told.length = os.length -> vs.length = i -> hs.length = i -> (∀ x ∈ P0.drop i, told[x.toNat]? = some ⟨0, 0⟩) →
    ∃ h' v0' v4' M', zV M (Q8 (n + 3) s c (os.map O.w) lb v5 v6 v18 (.row p1 1 0 r) (1, iL (P0.take r))) [v0, .sl 2 (told.map R.w) false, .sl 1 (vs.map (Xf .i32)) false, .sl 1 (iL hs) false, v4, .int .i64 (i : Int)] h =
     Q8 (n + 3) s c (os.map O.w) lb v5 v6 v18 (.row p1 1 0 r) (1, iL (P0.take r)) [v0', .sl 2 ((Ja ⟨1, 0⟩ ((P0.take r).drop i) told).map R.w) false, .sl 1 ((vs ++ ((P0.take r).drop i).map (YA os)).map (Xf .i32)) false, .sl 1 (iL (hs ++ (qv d bits).1)) false, v4', .int .i64 (r : Int)] h' (zV M' (Q8 (n + 3) s c (os.map O.w) lb v5 v6 v18 (.row p1 1 0 r) (1, iL (P0.take r)))) ∧
     Env h' s ts most c cb (qv d bits).2 p1 P0 p2 Q0 /\ h'.length = h.length /\ ∀ i, i ≠ c -> h'[i]? = h[i]? := by
 intro d
 induction d with
 | zero =>
   intro i M h bits told vs hs v0 v4 h1 h2 E hlt hvl hhl h0
   obtain ⟨M, rfl⟩ : ∃ M', M = M' + 1 := ⟨M - 1, by omega⟩
   obtain rfl : i = r := by omega
   have hd : (P0.take i).drop i = [] := Zx (by rw [Ze]; omega)
   refine ⟨h, v0, v4, M, ?_, E, rfl, fun _ _ => rfl⟩
   rw [hd]
   simp only [Ja, Jr, Zm, qv]
   exact zD ..
 | succ d ih =>
   intro i M h bits told vs hs v0 v4 h1 h2 E hlt hvl hhl h0
   obtain ⟨M, rfl⟩ : ∃ M', M = M' + 1 := ⟨M - 1, by omega⟩
   have hiP : i < P0.length := by omega
   obtain ⟨x, hx⟩ : ∃ x, P0[i]? = some x := ⟨_, zg hiP⟩
   have hdr : P0.drop i = x :: P0.drop (i + 1) := by
    rw [zT hiP]
    rw [zg hiP] at hx
    rw [Option.some.inj hx]
   have hdt : (P0.take r).drop i = x :: (P0.take r).drop (i + 1) := by
    have hil : i < (P0.take r).length := by rw [Ze]; omega
    rw [zT hil]
    rw [zg hiP] at hx
    rw [<- Option.some.inj hx, List.getElem_take]
   obtain ⟨x0, x1⟩ := hP x (zH hx)
   obtain ⟨k, rfl⟩ : ∃ k : Nat, x = (k : Int) := ⟨x.toNat, (ZD x0).symm⟩
   have hk : k < os.length := by omega
   obtain ⟨o, ho⟩ : ∃ o, os[k]? = some o := ⟨_, zg hk⟩
   have hov : (os.map O.w)[k]? = some (O.w o) := by rw [Yx, ho]; rfl
   have hoo := Jd ho
   have hkv : YA os (k : Int) = o.v := by unfold YA; rw [hoo]
   have ht0 : told[k]? = some ⟨0, 0⟩ := by
    have := h0 (k : Int) (by rw [hdr]; exact zy ..)
    simpa using this
   have htk : k < told.length := by omega
   have htv : (told.map R.w)[k]? = some (R.w ⟨0, 0⟩) := by rw [Kn, ht0]; rfl
   have hl1 : decide ((i : Int) < ((P0.take r).length : Int)) = true := by rw [Ze]; simp; omega
   obtain ⟨g1, g2⟩ := E.r1.getP (lo := 0) (hi := r) (i := i) (by omega) (by rw [zr]; exact hx)
   rw [zr] at g1 g2
   have hnd2 : (P0.drop i).Nodup := hnd.sublist (Qg _ _)
   rw [hdr] at hnd2
   obtain ⟨h2', e2, B2, l2, f2⟩ := zbj n E.bt hn
   have E2 := E.coin B2 f2
   have hset1 : (told.map R.w).set k (setR (R.w ⟨0, 0⟩) 0 [.int .u8 1]) = (told.set k ⟨1, 0⟩).map R.w := by rw [zgg, Jb]
   have key : ∀ next, Q8 (n + 3) s c (os.map O.w) lb v5 v6 v18 (.row p1 1 0 r) (1, iL (P0.take r)) [v0, .sl 2 (told.map R.w) false, .sl 1 (vs.map (Xf .i32)) false, .sl 1 (iL hs) false, v4, .int .i64 (i : Int)] h next = next [.sl 2 (lsl v0) false, .sl 2 ((told.set k ⟨1, 0⟩).map R.w) false, .sl 1 ((vs ++ [o.v]).map (Xf .i32)) false, .sl 1 (iL (hs ++ [((hgt 1 bits).1 : Int)])) false, .bool false, .int .i64 ((i + 1 : Nat) : Int)] h2' := by
    intro next
    unfold Q8
    simp only [gv, zf, zh, XG, zt, za, zm, hl1, if_true, Zd, zw, g1, g2, zo, zr, zk, Nat.reduceLT, and_self, zb, Xl hov, zeV, ZC, Nat.reduceAdd, Nat.reduceLeDiff, zlg, zbZ, zlj, zoG, zaY]
    rw [zpV _ _ (by omega), za, e2, zM, zE, zlf, za, zgf _ _ (by omega), za]
    rw [if_pos (by exact ⟨trivial, by rw [zx]; exact htk, by decide⟩), htv, za, zK, za, hset1, Xv (show i < lim by omega)]
   obtain ⟨h', v0', v4', M', e, b1, b2, b3⟩ := ih (i + 1) M h2' (hgt 1 bits).2 (told.set k ⟨1, 0⟩) (vs ++ [o.v]) (hs ++ [((hgt 1 bits).1 : Int)]) (.sl 2 (lsl v0) false) (.bool false) (by omega) (by omega) E2 (by rw [zq]; exact hlt) (by simp; omega) (by simp; omega) (fun y hy => by
    rw [ze]
    · exact h0 y (by rw [hdr]; exact zp _ hy)
    · intro e2
      have hy0 := hP y (Zf hy)
      have hyk : y = (k : Int) := by omega
      exact (ZE.1 hnd2).1 (hyk ▸ hy))
   refine ⟨h', v0', v4', M', ?_, b1, by rw [b2, l2], fun j hj => by rw [b3 j hj, f2 j hj]⟩
   rw [zD, key, e, hdt]
   simp only [Ja, XI, zU, hkv, qv, List.append_assoc, Z3, zX]
theorem zmz (n : Nat) {s c : Nat} {cb : Option Nat} {most : Int} {ts : List Tw} {bits : List Bool} {h : zd} (os : List O) (lb : Bool) (P0 : List Int) (hP : ∀ x ∈ P0, 0 <= x /\ x < (os.length : Int)) (hnd : P0.Nodup) (p1 p2 : Nat) (Q0 : List Int) (v6 : V) (r : Nat) (hr : r <= P0.length) (hlim : P0.length < lim) (E : Env h s ts most c cb bits p1 P0 p2 Q0) : ∀ (d i M : Nat) (told : List R) (v0 v2 : V), r + i + d = P0.length -> d < M →
    told.length = os.length -> (∀ x ∈ P0.drop (r + i), told[x.toNat]? = some ⟨0, 0⟩) →
    ∃ v0' v2' M', zV M (Q7 (n + 3) s (os.map O.w) lb v6 (.row p1 1 r P0.length) (1, iL (P0.drop r))) [v0, .sl 2 (told.map R.w) false, v2, .int .i64 (i : Int)] h =
     Q7 (n + 3) s (os.map O.w) lb v6 (.row p1 1 r P0.length) (1, iL (P0.drop r)) [v0', .sl 2 ((Ja ⟨3, 0⟩ (P0.drop (r + i)) told).map R.w) false, v2', .int .i64 ((P0.drop r).length : Int)] h (zV M' (Q7 (n + 3) s (os.map O.w) lb v6 (.row p1 1 r P0.length) (1, iL (P0.drop r)))) := by
 intro d
 induction d with
 | zero =>
   intro i M told v0 v2 h1 h2 hlt h0
   obtain ⟨M, rfl⟩ : ∃ M', M = M' + 1 := ⟨M - 1, by omega⟩
   have hi : i = (P0.drop r).length := by rw [Xp]; omega
   refine ⟨v0, v2, M, ?_⟩
   rw [Zx (i := r + i) (by omega), <- hi]
   exact zD ..
 | succ d ih =>
   intro i M told v0 v2 h1 h2 hlt h0
   obtain ⟨M, rfl⟩ : ∃ M', M = M' + 1 := ⟨M - 1, by omega⟩
   obtain ⟨x, hx⟩ : ∃ x, P0[r + i]? = some x := ⟨_, zg (by omega)⟩
   have hdr : P0.drop (r + i) = x :: P0.drop (r + (i + 1)) := by
    rw [zT (show r + i < P0.length by omega)]
    rw [zg (by omega)] at hx
    rw [Option.some.inj hx, ZQ]
   obtain ⟨x0, x1⟩ := hP x (zH hx)
   obtain ⟨k, rfl⟩ : ∃ k : Nat, x = (k : Int) := ⟨x.toNat, (ZD x0).symm⟩
   have ht0 : told[k]? = some ⟨0, 0⟩ := by
    have := h0 (k : Int) (by rw [hdr]; exact zy ..)
    simpa using this
   have htk : k < told.length := by omega
   have htv : (told.map R.w)[k]? = some (R.w ⟨0, 0⟩) := by rw [Kn, ht0]; rfl
   have hl1 : decide ((i : Int) < ((P0.drop r).length : Int)) = true := by rw [Xp]; simp; omega
   obtain ⟨g1, g2⟩ := E.r1.getP (lo := r) (hi := P0.length) (i := i) (by omega) hx
   have hnd2 : (P0.drop (r + i)).Nodup := hnd.sublist (Qg _ _)
   rw [hdr] at hnd2
   have hset1 : (told.map R.w).set k (setR (R.w ⟨0, 0⟩) 0 [.int .u8 3]) = (told.set k ⟨3, 0⟩).map R.w := by rw [zgg, Jb]
   have key : ∀ next, Q7 (n + 3) s (os.map O.w) lb v6 (.row p1 1 r P0.length) (1, iL (P0.drop r)) [v0, .sl 2 (told.map R.w) false, v2, .int .i64 (i : Int)] h next = next [.sl 2 (lsl v0) false, .sl 2 ((told.set k ⟨3, 0⟩).map R.w) false, .bool false, .int .i64 ((i + 1 : Nat) : Int)] h := by
    intro next
    unfold Q7
    simp only [gv, zf, zh, XG, zt, za, zm, hl1, if_true, Zd, zw, g1, g2, zo, zr, zk, Nat.reduceLT, and_self, zb, zaY]
    rw [if_pos (by exact ⟨trivial, by rw [zx]; exact htk, by decide⟩), htv, za, zK, za, hset1, Xv (show i < lim by omega)]
   obtain ⟨v0', v2', M', e⟩ := ih (i + 1) M (told.set k ⟨3, 0⟩) (.sl 2 (lsl v0) false) (.bool false) (by omega) (by omega) (by rw [zq]; exact hlt) (fun y hy => by
    rw [ze]
    · exact h0 y (by rw [hdr]; exact zp _ hy)
    · intro e2
      have hy0 := hP y (Zf hy)
      have hyk : y = (k : Int) := by omega
      exact (ZE.1 hnd2).1 (hyk ▸ hy))
   refine ⟨v0', v2', M', ?_⟩
   rw [zD, key, e, hdr]
   simp only [Ja, XI]
theorem zqW (a b : Int) : mm false [.int .i64 a, .int .i64 b] = some (.int .i64 (if b < a then b else a)) := rfl
theorem zj6 (os : List O) (r : Nat) : (((Z1 os).take r).map (YA os)).Pairwise (· <= ·) := by
 rw [List.pairwise_map]
 exact ((ziy os).sublist (J8 _ _)).imp fun h => h.of
theorem zd2 (n : Nat) {h : zd} {s : Nat} {ts : List Tw} {most : Int} {c : Nat} {cb : Option Nat} {bits : List Bool} (os : List O) (lb : Bool) (S : ∃ N, SkAt h s ts most N) (B : BitsAt h c cb bits) (nc : c ∉ skB s ts) (ncb : ∀ b, cb = some b -> b ∉ skB s ts) (hroom : (ts.length : Int) <= most) (hmost : most <= 1000) (hl : ts.length + 4 * os.length + 100 < lim) (hn : ts.length + 2 * os.length + 50 <= n) :
    ∃ h' ts' bits' tb told', call (n + 4) 222 [.ptr s 0, .ptr c 0, .sl 2 (os.map O.w) lb] h = some (.ret [.row tb 2 0 os.length], h') /\ Did h h' s ts ts' most c cb bits' tb told' /\ WJ os most (itT ts, bits) = ((itT ts', bits'), told') := by
 have hpl := YS os os.length
 have hsl := jG os
 have hpo : (WD os).length <= os.length := by unfold WD; omega
 have E0 := ziE os S B nc ncb
 have hlf : (JS h os).length = h.length + 2 := by simp [JS]
 have hkp := fun x hx => (XS os x hx).2.2
 obtain ⟨r, hr⟩ : ∃ r : Nat, (r : Int) = if most - (ts.length : Int) < ((Z1 os).length : Int) then most - (ts.length : Int) else ((Z1 os).length : Int) := ⟨(if most - (ts.length : Int) < ((Z1 os).length : Int) then most - (ts.length : Int) else ((Z1 os).length : Int)).toNat, ZD (by split <;> omega)⟩
 have hr1 : r <= (Z1 os).length := by split at hr <;> omega
 have hr2 : (ts.length : Int) + r <= most := by split at hr <;> omega
 have hr3 : r = (Z1 os).length \/ most <= (ts.length : Int) + r := by split at hr <;> omega
 have hlt1 : ((Z1 os).take r).length = r := by rw [Ze]; omega
 obtain ⟨h1, v0', v4', M', e1, E1, l1, f1⟩ := zmy n os lb (Z1 os) (fun x hx => ⟨(XS os x hx).1, (XS os x hx).2.1⟩) (jk os) h.length (h.length + 1) (Xg os) (.row h.length 1 0 (Z1 os).length) (.row (h.length + 1) 1 0 (Xg os).length) (.int .i64 (r : Int)) r hr1 (by omega) (by omega) r 0 (n + 3) (JS h os) bits (List.replicate os.length ⟨0, 0⟩) [] [] (.sl 2 [] false) (.bool false) (by omega) (by omega) E0 (by simp) rfl rfl (fun x hx => by
  have := XS os x (Zf hx)
  rw [ZY, if_pos (by omega)])
 rw [zN, zX, zX] at e1
 obtain ⟨vs, hvs⟩ : ∃ vs, vs = ((Z1 os).take r).map (YA os) := ⟨_, rfl⟩
 obtain ⟨hs, hhs⟩ : ∃ hs, hs = (qv r bits).1 := ⟨_, rfl⟩
 have hvl : vs.length = r := by rw [hvs, zx, hlt1]
 have hhl : hs.length = r := by rw [hhs, ziG]
 rw [<- hvs, <- hhs] at e1
 have E2 := E1.push [.row 21 1 (vs.map (Xf .i32)) true, .row 3 1 (iL hs) true]
 have hrow1 : RowI (h1 ++ [HB.row 21 1 (vs.map (Xf .i32)) true, HB.row 3 1 (iL hs) true]) h1.length .i32 21 vs := ⟨true, by rw [zG (zk _), QL]; rfl⟩
 have hrow2 : RowI (h1 ++ [HB.row 21 1 (vs.map (Xf .i32)) true, HB.row 3 1 (iL hs) true]) (h1.length + 1) .i64 3 hs := ⟨true, by rw [zG (by omega), Xw]; rfl⟩
 obtain ⟨N1, S1⟩ := E1.sk
 obtain ⟨h2, ts2, tb2, e2, G2, I2⟩ := zjU n E2.sk h1.length (h1.length + 1) vs hs (by omega) (hvs ▸ zj6 os r) hrow1 hrow2 (fun hm => by have := S1.lt _ hm; omega) (fun hm => by have := S1.lt _ hm; omega) (by rw [hvl]; exact hr2) (by rw [hvl]; omega) (by rw [hvl]; omega)
 have E3 := E2.grew G2
 have told1 := qw ⟨1, 0⟩ ((Z1 os).take r) (List.replicate os.length (⟨0, 0⟩ : R))
 rw [QB] at told1
 have hnd := jk os
 have hdis : ∀ x ∈ (Z1 os).drop r, ∀ y ∈ (Z1 os).take r, y.toNat ≠ x.toNat := fun x hx y hy e => by
  have a := XS os x (Zf hx)
  have b := XS os y (Zp hy)
  have hxy : x = y := by omega
  have hnd' : ((Z1 os).take r ++ (Z1 os).drop r).Nodup := by rw [Zv]; exact hnd
  exact (QJ.1 hnd').2.2 y hy x hx hxy.symm
 obtain ⟨v0'', v2'', M'', e3⟩ := zmz n os lb (Z1 os) (fun x hx => ⟨(XS os x hx).1, (XS os x hx).2.1⟩) hnd h.length (h.length + 1) (Xg os) (.row (h.length + 1) 1 0 (Xg os).length) r hr1 (by omega) E3 ((Z1 os).length - r) 0 (n + 3) (Ja ⟨1, 0⟩ ((Z1 os).take r) (List.replicate os.length ⟨0, 0⟩)) (.sl 2 (lsl v0') false) (.bool false) (by omega) (by omega) told1 (fun x hx => by
  rw [Zb] at hx
  rw [jH _ _ _ _ (hdis x hx)]
  have := XS os x (Zf hx)
  rw [ZY, if_pos (by omega)])
 simp only [Zb] at e3
 obtain ⟨told2, htold2⟩ : ∃ told2, told2 = Ja (⟨3, 0⟩ : R) ((Z1 os).drop r) (Ja ⟨1, 0⟩ ((Z1 os).take r) (List.replicate os.length ⟨0, 0⟩)) := ⟨_, rfl⟩
 rw [<- htold2] at e3
 have told2l : told2.length = os.length := by rw [htold2, qw, told1]
 have hlen2 : ts2.length = ts.length + r := by
  have hz : ∀ (q : List (Int × Int)) (l : List (Int × Nat)), (qu l q).length = l.length + q.length := fun q => by
   induction q with
   | nil => intro l; rfl
   | cons p q ih => intro l; show (qu (zbN l p.1 (hOf p.2)) q).length = _; rw [ih, zal, zA]; omega
  have := congrArg List.length I2
  rw [hz, Jq, Jq, List.length_zip, hvl, hhl, Nat.min_self] at this
  exact this
 have hF : Frm h h2 (c :: skB s ts) := by
  have a : Frm h (JS h os) (c :: skB s ts) := Frm.push h _ _
  have b : Frm (JS h os) h1 [c] := ⟨Nat.le_of_eq l1.symm, fun j _ hj => f1 j fun e => hj (e ▸ zy ..)⟩
  have c' : Frm h1 (h1 ++ [HB.row 21 1 (vs.map (Xf .i32)) true, HB.row 3 1 (iL hs) true]) [] := Frm.push h1 _ _
  exact (((a.trans b fun y hy => .inl (by rw [Zy] at hy; exact hy ▸ zy ..)).trans c' fun y hy => by cases hy).trans G2.frm fun y hy => .inl (zp _ hy))
 have hN : ∀ b ∈ skB s ts2, b ∈ skB s ts \/ h.length <= b := fun b hb => (G2.new b hb).imp id fun hh => by rw [zB, l1, hlf] at hh; omega
 have h0 : ∀ x ∈ Xg os, told2[x.toNat]? = some ⟨0, 0⟩ := fun x hx => by
  have hm := Qi os _ x hx
  have hne : ∀ y ∈ Z1 os, y.toNat ≠ x.toNat := fun y hy e => zbt os x hx y hy (by have := XS os y hy; omega)
  rw [htold2, jH _ _ _ _ fun y hy => hne y (Zf hy), jH _ _ _ _ fun y hy => hne y (Zp hy), ZY, if_pos (by omega)]
 obtain ⟨h', ts', told', e4, D, rr⟩ := ziF (ts := ts) n os lb told2 E3 (by omega) told2l h0 (by omega) (by omega) (by omega) hF hN (by omega)
 refine ⟨h', ts', (qv r bits).2, h2.length, told', ?_, D, ?_⟩
 · refine (zik (n + 3) s c (os.map O.w) lb h).trans ?_
   unfold zij
   have fN : nv (V.int .i64 (os.length : Int)) = some os.length := Zd _ _
   have fr : nv (V.int .i64 (r : Int)) = some r := Zd _ _
   have hpc : call (n + 3) 225 [.sl 2 (os.map O.w) lb] h = some (.ret [.row h.length 1 0 (WD os).length, .row (h.length + 1) 1 0 (Xg os).length], JS h os) := zbs (n + 1) h os lb (by omega) (by omega)
   obtain ⟨N0, S0⟩ := E0.sk
   have hm1 := zeR (n + 2) S0
   have hl1 := q9 (n + 2) S0
   have hsub : IntKind.i64.wrap (most - (ts.length : Int)) = most - (ts.length : Int) := by rw [w64] <;> omega
   have hs1 : ZP 1 0 r none true (.row h.length 1 0 (Z1 os).length) = some (.row h.length 1 0 r) := by simpa using JG (r := h.length) (sz := 1) (u := 0) (v := (Z1 os).length) (Zg r) (by omega) true
   have hs2 : ZP 1 r (Z1 os).length none true (.row h.length 1 0 (Z1 os).length) = some (.row h.length 1 r (Z1 os).length) := by simpa using JG (r := h.length) (sz := 1) (u := 0) (v := (Z1 os).length) hr1 (by omega) true
   have hc1 : ZW (JS h os) (.row h.length 1 0 r) = some (1, iL ((Z1 os).take r)) := by have := E0.r1.slcP (lo := 0) (hi := r) (Zg _) hr1; rwa [zN] at this
   have hc2 : ZW h2 (.row h.length 1 r (Z1 os).length) = some (1, iL ((Z1 os).drop r)) := by have := E3.r1.slcP (lo := r) (hi := (Z1 os).length) hr1 (zk _); rwa [Qq] at this
   simp only [zx]
   rw [fN, zw, zw, if_pos (by first | exact ⟨zk _, by omega, rfl⟩ | exact ⟨trivial, by omega, trivial⟩ | exact ⟨zk _, by omega, trivial⟩), hpc, zM]
   simp only [zb, zj, za]
   rw [<- hsl, E0.r1.slc, za, hm1, zM, zE, hl1, zM, zE, ZN, za, hsub]
   simp only [zx, YC, jV, za]
   rw [zqW, za, <- hr, W8, za, fr, zw, hs1, za, hc1, za, zj4]
   refine e1.trans ?_
   unfold Q8
   simp only [gv, zf, zh, XG, hlt1, zt, za, zm]
   rw [if_neg (by simp), zlj, zoG, XG, zx, List.append_assoc]
   rw [show (h1 ++ [HB.row 21 1 (vs.map (Xf .i32)) true]).length = h1.length + 1 by simp]
   rw [show ([HB.row 21 1 (vs.map (Xf .i32)) true] ++ [HB.row 3 1 (iL hs) true]) = [HB.row 21 1 (vs.map (Xf .i32)) true, HB.row 3 1 (iL hs) true] from rfl, e2, zM, zE, W8, za, fr, zw, Nat.sub_zero, hs2, za, hc2, za]
   rw [show lsl (V.sl 2 ((Ja (⟨1, 0⟩ : R) ((Z1 os).take r) (List.replicate os.length ⟨0, 0⟩)).map R.w) false) = (Ja (⟨1, 0⟩ : R) ((Z1 os).take r) (List.replicate os.length ⟨0, 0⟩)).map R.w from rfl]
   refine e3.trans ?_
   unfold Q7
   simp only [gv, zf, zh, XG, zt, za, zm]
   rw [if_neg (by simp), zaY, zx, told2l, e4, zM, zE]
 · unfold WJ
   have hp := zli os most ((Z1 os).take r) (itT ts, bits) (List.replicate os.length ⟨0, 0⟩) (fun x hx => hkp x (Zp hx)) (by simp only [Jq, hlt1]; exact hr2)
   simp only [hlt1, <- hvs, <- hhs, <- I2] at hp
   have hsplit : Z1 os ++ Xg os = (Z1 os).take r ++ ((Z1 os).drop r ++ Xg os) := by rw [<- List.append_assoc, Zv]
   rw [hsplit, Ys, hp, Ys]
   have hfull : J5 os most ((Z1 os).drop r) (itT ts2, (qv r bits).2) (Ja ⟨1, 0⟩ ((Z1 os).take r) (List.replicate os.length ⟨0, 0⟩)) = ((itT ts2, (qv r bits).2), told2) := by
    rcases hr3 with h3 | h3
    · rw [htold2, h3, List.drop_length]; rfl
    · rw [ziH os most _ _ _ (fun x hx => hkp x (Zf hx)) (by simp only [Jq, hlen2]; omega), htold2]
   rw [hfull]
   exact rr
end Go.Proofs.Tryz
namespace Go.Proofs.Tryz
open Go.L
set_option maxRecDepth 100000
noncomputable def jl (n : Nat) (a : V) (b : V) (st3 : List V) (hh4 : zd) (next5 : List V -> zd -> Option (Res × zd)) : Option (Res × zd) :=
 (bd (ZW hh4 a) fun p6 =>
 (bd (bop prog .lss 3 (gv st3 1) (V.int .i64 ((p6.2).length : Int))) fun v7 =>
 (bv v7 fun b8 => if b8 then
 (bdS (nv (gv st3 1)) fun n9 =>
 (bd (ZK 1 n9 a) fun p10 =>
 (bd3 (zu hh4 p10) fun cs12 m11 o13 => if (o13 + 1 <= m11 /\ 0 < 1) then
 (bd (cs12)[o13]? fun v14 =>
 (bdS (nv (gv st3 1)) fun n15 =>
 (bd (ZK 1 n15 b) fun p16 =>
 (bd3 (zu hh4 p16) fun cs18 m17 o19 => if (o19 + 1 <= m17 /\ 0 < 1) then
 (bd (cs18)[o19]? fun v20 =>
 (bd (bop prog .neq 21 v14 v20) fun v21 =>
 (bv v21 fun b22 => if b22 then
 some (Res.ret [(V.bool false)], hh4)
 else
 (bd (bop prog .add 3 (gv st3 1) (V.int .i64 1)) fun v23 =>
 (next5 [(gv st3 0), v23] hh4))))) else none)))) else none)))
 else
 some (Res.ret [(V.bool true)], hh4))))
noncomputable def zqu (n : Nat) (a : V) (b : V) (h : zd) : Option (Res × zd) :=
 (bd (ZW h a) fun p0 =>
 (bd (ZW h b) fun p1 =>
 (if (((p0.2).length : Int) != ((p1.2).length : Int)) then
 some (Res.ret [(V.bool false)], h)
 else
 (zV n (jl n a b) [(V.bool false), (V.int .i64 0)] h))))
theorem zoH (n : Nat) (a : V) (b : V) (h : zd) : call (n + 1) 19 [a, b] h = zqu n a b h := by kernel_rfl
noncomputable def jm (n : Nat) (a : V) (b : V) (st3 : List V) (hh4 : zd) (next5 : List V -> zd -> Option (Res × zd)) : Option (Res × zd) :=
 (bd (ZW hh4 a) fun p6 =>
 (bd (bop prog .lss 3 (gv st3 1) (V.int .i64 ((p6.2).length : Int))) fun v7 =>
 (bv v7 fun b8 => if b8 then
 (bdS (nv (gv st3 1)) fun n9 =>
 (bd (ZK 2 n9 a) fun p10 =>
 (bd3 (zu hh4 p10) fun cs12 m11 o13 => if (o13 + 2 <= m11 /\ 0 < 2) then
 (bdS (nv (gv st3 1)) fun n14 =>
 (bd (ZK 2 n14 b) fun p15 =>
 (bd3 (zu hh4 p15) fun cs17 m16 o18 => if (o18 + 2 <= m16 /\ 0 < 2) then
 (bd (bop prog .neq 35 (V.agg ((cs12).drop o13 |>.take 2)) (V.agg ((cs17).drop o18 |>.take 2))) fun v19 =>
 (bv v19 fun b20 => if b20 then
 some (Res.ret [(V.bool false)], hh4)
 else
 (bd (bop prog .add 3 (gv st3 1) (V.int .i64 1)) fun v21 =>
 (next5 [(gv st3 0), v21] hh4)))) else none))) else none)))
 else
 some (Res.ret [(V.bool true)], hh4))))
noncomputable def zqv (n : Nat) (a : V) (b : V) (h : zd) : Option (Res × zd) :=
 (bd (ZW h a) fun p0 =>
 (bd (ZW h b) fun p1 =>
 (if (((p0.2).length : Int) != ((p1.2).length : Int)) then
 some (Res.ret [(V.bool false)], h)
 else
 (zV n (jm n a b) [(V.bool false), (V.int .i64 0)] h))))
theorem zoI (n : Nat) (a : V) (b : V) (h : zd) : call (n + 1) 24 [a, b] h = zqv n a b h := by kernel_rfl
noncomputable def zoJ (n : Nat) (x0 : Int) (h : zd) : Option (Res × zd) :=
 some (Res.ret [(V.int .i64 (if 0 < (if 1000 < x0 then 1000 else x0) then (if 1000 < x0 then 1000 else x0) else 0))], h)
theorem ziI (n : Nat) (x0 : Int) (h : zd) : call (n + 1) 129 [(V.int .i64 x0)] h = zoJ n x0 h := by kernel_rfl
end Go.Proofs.Tryz
namespace Go.Proofs.Tryz
open Go.L Go.Rp Go.Sk
set_option maxRecDepth 100000
end Go.Proofs.Tryz
namespace Go.Proofs.Tryz
open Go.L
set_option maxRecDepth 100000
noncomputable def zam (n : Nat) (c : V) (kinds : Int) (st1 : List V) (hh2 : zd) (next3 : List V -> zd -> Option (Res × zd)) : Option (Res × zd) :=
 (bd (ZW hh2 c) fun p4 =>
 (bd (bop prog .lss 3 (gv st1 2) (V.int .i64 ((p4.2).length : Int))) fun v5 =>
 (bv v5 fun b6 => if b6 then
 (bd (bop prog .lss 3 (gv st1 2) (V.int .i64 80)) fun v7 =>
 (bv v7 fun b8 => if b8 then
 (bdS (nv (gv st1 2)) fun n9 =>
 (bd (ZK 1 n9 c) fun p10 =>
 (bd3 (zu hh2 p10) fun cs12 m11 o13 => if (o13 + 1 <= m11 /\ 0 < 1) then
 (bd (cs12)[o13]? fun v14 =>
 (bd (bop prog .rem 5 v14 (V.int .u8 kinds)) fun v15 =>
 (bd (bop prog .add 5 (V.int .u8 1) v15) fun v16 =>
 (bdS (nv (gv st1 2)) fun n17 =>
 (bd (ZK 1 n17 c) fun p18 =>
 (bd3 (zu hh2 p18) fun cs20 m19 o21 => if (o21 + 1 <= m19 /\ 0 < 1) then
 (bd (cs20)[o21]? fun v22 =>
 (bd (bop prog .quo 5 v22 (V.int .u8 8)) fun v23 =>
 (bd (cvt prog 5 21 v23) fun v24 =>
 (bd (bop prog .sub 21 v24 (V.int .i32 9)) fun v25 =>
 (bd (Q4 prog 33 [(0, v16), (1, v25)]) fun cs26 =>
 (bd (JD prog 23 1 [(0, (V.agg cs26))]) fun p27 =>
 (bd (app 33 2 (S.own 33 2 (lsl (gv st1 1))) p27.2) fun l28 =>
 (bd (bop prog .add 3 (gv st1 2) (V.int .i64 1)) fun v29 =>
 (next3 [(V.sl 2 (lsl (gv st1 0)) false), (V.sl 2 l28 false), v29] hh2))))))))) else none)))))) else none)))
 else
 some (Res.ret [(V.sl 2 (lsl (gv st1 1)) false)], hh2)))
 else
 some (Res.ret [(V.sl 2 (lsl (gv st1 1)) false)], hh2))))
noncomputable def zrx (n : Nat) (c : V) (kinds : Int) (h : zd) : Option (Res × zd) :=
 (zV n (zam n c kinds) [(V.sl 2 [] false), (V.sl 2 [] false), (V.int .i64 0)] h)
theorem zpW (n : Nat) (c : V) (kinds : Int) (h : zd) : call (n + 1) 14 [c, (V.int .u8 kinds)] h = zrx n c kinds h := by kernel_rfl
end Go.Proofs.Tryz
namespace Go.Proofs.Tryz
open Go.L Go.Rp
set_option maxRecDepth 100000
theorem zdt {a b : Int} (h : b ≠ 0) : bop prog .rem 5 (.int .u8 a) (.int .u8 b) = some (.int .u8 (a.tmod b)) := by
 have : bop prog .rem 5 (.int .u8 a) (.int .u8 b) = if b = 0 then none else some (.int .u8 (a.tmod b)) := by kernel_rfl
 rw [this, if_neg h]
theorem ziJ (a : Int) : bop prog .quo 5 (.int .u8 a) (.int .u8 8) = some (.int .u8 (IntKind.u8.wrap (a.tdiv 8))) := by kernel_rfl
theorem zpX (a : Int) : cvt prog 5 21 (.int .u8 a) = some (.int .i32 (IntKind.i32.wrap a)) := by kernel_rfl
theorem zry (k v : Int) : Q4 prog 33 [(0, .int .u8 k), (1, .int .i32 v)] = some (O.w ⟨k, v⟩) := by kernel_rfl
theorem w32 {n : Int} (h1 : -2147483648 <= n) (h2 : n < 2147483648) : IntKind.i32.wrap n = n := by rw [IntKind.wrap_i32]; omega
theorem ziK (c : List Int) (z : Nat) (b : Bool) (kinds : Int) (H : zd) (N : Nat) (hz : z = 1 \/ c = []) (hc : Jg c = true) (hk1 : 1 <= kinds) (hk2 : kinds <= 100) : ∀ (d k M : Nat), k + d = min c.length 80 -> d < M →
    zV M (zam N (.sl z (c.map (Xf .u8)) b) kinds) [.sl 2 [] false, .sl 2 (((c.take k).map (opOf kinds)).map O.w) false, .int .i64 (k : Int)] H = some (.ret [.sl 2 ((ops c kinds).map O.w) false], H)
 | d, k, 0, _, h => by omega
 | 0, k, M + 1, hk, _ => by
   have he : (c.take k).map (opOf kinds) = ops c kinds := by
    unfold ops
    rcases Z2 80 c.length with h | h
    · rw [show k = 80 by omega]
    · rw [zO (by omega), zO (by omega)]
   rw [zD, he]
   by_cases hl : (k : Int) < (c.length : Int)
   · have h80 : ¬ (k : Int) < 80 := by omega
     simp only [zam, gv, zh, zf, Xb, za, zx, zt, zm, hl, decide_true, if_true, h80, decide_false, zn, if_false, lsl]
   · simp only [zam, gv, zh, zf, Xb, za, zx, zt, zm, hl, decide_false, zn, if_false, lsl]
 | d + 1, k, M + 1, hk, hM => by
   have hl : (k : Int) < (c.length : Int) := by omega
   have h80 : (k : Int) < 80 := by omega
   obtain ⟨x, hx⟩ : ∃ x, c[k]? = some x := ⟨_, zg (by omega)⟩
   obtain rfl : z = 1 := hz.resolve_right (by rintro rfl; simp at hx)
   have hxv : (c.map (Xf .u8))[k]? = some [.int .u8 x] := by rw [zcL, hx]; rfl
   have hxs := zlX hc x (zH hx)
   have hk0 : kinds ≠ 0 := by omega
   have e1 : Int.tmod x kinds = x % kinds := QA hxs.1
   have h1 := Int.emod_nonneg x hk0
   have h2 := Int.emod_lt_of_pos x (show 0 < kinds by omega)
   have e2 : Int.tdiv x 8 = x / 8 := Int.tdiv_eq_ediv_of_nonneg hxs.1
   have w1 : IntKind.u8.wrap (1 + x % kinds) = 1 + x % kinds := w8 (by omega) (by omega)
   have w2 : IntKind.u8.wrap (x / 8) = x / 8 := w8 (by omega) (by omega)
   have w3 : IntKind.i32.wrap (x / 8) = x / 8 := w32 (by omega) (by omega)
   have w4 : IntKind.i32.wrap (x / 8 - 9) = x / 8 - 9 := w32 (by omega) (by omega)
   have hop : (⟨1 + x % kinds, x / 8 - 9⟩ : O) = opOf kinds x := rfl
   have Wb := zqR 33 ((c.take k).map (opOf kinds)) (opOf kinds x) (by rw [zx, Ze]; unfold lim; omega)
   have htk : (c.take k).map (opOf kinds) ++ [opOf kinds x] = (c.take (k + 1)).map (opOf kinds) := by
    rw [List.take_add_one, hx, ZG]; rfl
   rw [htk] at Wb
   rw [zD]
   simp only [zam, gv, zh, zf, Xb, Xl hxv, ZC, zo, zr, zk, Nat.reduceLT, and_self, za, zx, zt, zm, hl, h80, decide_true, if_true, Zd, zw, zcL, hx, Z0, Xf, zb, zdt hk0, e1, zjo, w1, ziJ, e2, w2, zpX, w3, zha, w4, zry, hop, zrp, lsl, Wb, zK, Xv (show k < lim by unfold lim; omega)]
   exact ziK c 1 b kinds H N (.inl rfl) hc hk1 hk2 d (k + 1) M (by omega) (by omega)
theorem zoK (n : Nat) (c : List Int) (z : Nat) (b : Bool) (kinds : Int) (H : zd) (hz : z = 1 \/ c = []) (hc : Jg c = true) (hk1 : 1 <= kinds) (hk2 : kinds <= 100) (hn : 90 <= n) :
    call n 14 [.sl z (c.map (Xf .u8)) b, .int .u8 kinds] H = some (.ret [.sl 2 ((ops c kinds).map O.w) false], H) := by
 obtain ⟨N, rfl⟩ : ∃ N, n = N + 1 := ⟨n - 1, by omega⟩
 rw [zpW]
 unfold zrx
 exact ziK c z b kinds H N hz hc hk1 hk2 (min c.length 80) 0 N (by omega) (by omega)
theorem zpY (c : List Int) (kinds : Int) : (ops c kinds).length <= 80 := by unfold ops; simp; omega
end Go.Proofs.Tryz
namespace Go.Proofs.Tryz
open Go.L Go.Rp Go.Sk
set_option maxRecDepth 100000
theorem RowR.get {h : zd} {b : Nat} {l : List R} (r : RowR h b l) {i : Nat} {x : R} (hx : l[i]? = some x) (o : Nat) : ZK 2 i (.row b 2 0 l.length) = some (.rptr b 2 i 0) /\ zu h (.rptr b 2 i o) = some (R.w x, 2, o) := by
 obtain ⟨z, hz⟩ := r
 have hi := (zi.1 hx).1
 exact ⟨ziC hi, Xz hz (by decide) (by rw [Kn, hx]; rfl)⟩
theorem RowR.slc {h : zd} {b : Nat} {l : List R} (r : RowR h b l) : ZW h (.row b 2 0 l.length) = some (2, l.map R.w) := by
 obtain ⟨z, hz⟩ := r
 have := qR hz
 rwa [zx] at this
theorem zrz {c : List Int} {kinds : Int} (hc : Jg c = true) : ∀ o ∈ ops c kinds, -2147483648 <= o.v /\ o.v < 2147483648 := by
 intro o ho
 unfold ops at ho
 obtain ⟨x, hx, rfl⟩ := ZR.1 ho
 unfold Jg at hc
 have := Zo.1 hc x (Zp hx)
 simp at this
 unfold Go.Rp.opOf
 simp only
 omega
end Go.Proofs.Tryz
namespace Go.Proofs.Tryz
open Go.L Go.Rp Go.Sk
set_option maxRecDepth 100000
def zgh (h : zd) (r : V) (l : List Int) : Prop := (∃ sz, ZW h r = some (sz, l.map (Xf .i32))) /\ ∀ (i : Nat) (x : Int), l[i]? = some x -> ∃ p, ZK 1 i r = some p /\ zu h p = some ([.int .i32 x], 1, 0)
theorem RowI.sees {h : zd} {b : Nat} {L : List Int} (r : RowI h b .i32 21 L) {lo hi : Nat} (h1 : lo <= hi) (h2 : hi <= L.length) : zgh h (.row b 1 lo hi) ((L.take hi).drop lo) := by
 refine ⟨⟨1, r.slcP h1 h2⟩, fun i x hx => ?_⟩
 rw [Zi] at hx
 have hi' : lo + i < hi := by
  have := (zi.1 hx).1
  rw [Ze] at this
  omega
 rw [List.getElem?_take_of_lt hi'] at hx
 obtain ⟨a, c⟩ := r.getP hi' hx
 exact ⟨_, a, c⟩
theorem zoL (h : zd) : zgh h (.sl 0 [] true) [] := ⟨⟨0, rfl⟩, fun i x hx => by simp at hx⟩
theorem SlI.sees {h : zd} {lo : Nat} {r : V} {l : List Int} (s : SlI h lo r l) : zgh h r l := by
 rcases s with ⟨rfl, rfl⟩ | ⟨b, z, _, rfl, hz⟩
 · exact zoL h
 · have := RowI.sees (L := l) ⟨z, hz⟩ (Zg l.length) (zk _)
   rwa [Qq, zN] at this
theorem zj7 (n : Nat) {h : zd} {a b : V} {l : List Int} (ha : zgh h a l) (hb : zgh h b l) (hl : l.length < lim) : ∀ (d i M : Nat) (v0 : V), i + d = l.length -> d < M -> zV M (jl n a b) [v0, .int .i64 (i : Int)] h = some (.ret [.bool true], h) := by
 obtain ⟨⟨sa, hsa⟩, ga⟩ := ha
 intro d
 induction d with
 | zero =>
   intro i M v0 h1 h2
   obtain ⟨M, rfl⟩ : ∃ M', M = M' + 1 := ⟨M - 1, by omega⟩
   obtain rfl : i = l.length := by omega
   rw [zD]
   unfold jl
   rw [hsa, za]
   simp only [gv, zf, zh, zx, zt, za, zm]
   rw [if_neg (by simp)]
 | succ d ih =>
   intro i M v0 h1 h2
   obtain ⟨M, rfl⟩ : ∃ M', M = M' + 1 := ⟨M - 1, by omega⟩
   obtain ⟨x, hx⟩ : ∃ x, l[i]? = some x := ⟨_, zg (by omega)⟩
   obtain ⟨p, p1, p2⟩ := ga i x hx
   obtain ⟨q, q1, q2⟩ := hb.2 i x hx
   have hlt : decide ((i : Int) < (l.length : Int)) = true := by simp; omega
   have key : ∀ next, jl n a b [v0, .int .i64 (i : Int)] h next = next [v0, .int .i64 ((i + 1 : Nat) : Int)] h := by
    intro next
    unfold jl
    rw [hsa, za]
    simp only [gv, zf, zh, zx, zt, za, zm, hlt, if_true, Zd, zw, p1, p2, q1, q2, zo, zr, zk, Nat.reduceLT, and_self, zb, zg9, zK, Xv (show i < lim by omega)]
    rw [if_neg (by simp)]
   rw [zD, key]
   exact ih (i + 1) M v0 (by omega) (by omega)
theorem zj8 (n : Nat) {h : zd} {a b : V} {l : List Int} (ha : zgh h a l) (hb : zgh h b l) (hl : l.length < lim) (hn : l.length < n) : call (n + 1) 19 [a, b] h = some (.ret [.bool true], h) := by
 refine (zoH n a b h).trans ?_
 unfold zqu
 obtain ⟨sa, hsa⟩ := ha.1
 obtain ⟨sb, hsb⟩ := hb.1
 rw [hsa, za, hsb, za, if_neg (by simp)]
 exact zj7 n ha hb hl l.length 0 n (.bool false) (by omega) hn
theorem zlk (os : List O) : ∀ (n k : Nat), k < n -> (k : Int) ∈ QO os n \/ (k : Int) ∈ Qy os n
 | 0, k, h => by omega
 | n + 1, k, h => by
   simp only [QO, Qy]
   by_cases e : k = n
   · subst e
     by_cases h1 : (oAt os (k : Int)).k = 1
     · rw [if_pos h1]; exact .inl (ZF _ (Zy.2 rfl))
     · rw [if_neg h1, if_neg h1]; exact .inr (ZF _ (Zy.2 rfl))
   · rcases zlk os n k (by omega) with h | h
     · left; split
       · exact zW _ h
       · exact h
     · right; split
       · exact h
       · exact zW _ h
theorem zmA (os : List O) (k : Nat) (hk : k < os.length) : (k : Int) ∈ Z1 os ++ Xg os := by
 rcases zlk os os.length k hk with h | h
 · exact zW _ ((Ye os).mem_iff.2 h)
 · exact ZF _ h
theorem zeW (os : List O) : ∀ x ∈ Z1 os ++ Xg os, 0 <= x /\ x < (os.length : Int) := fun x hx => by
 rcases Zl.1 hx with h | h
 · exact ⟨(XS os x h).1, (XS os x h).2.1⟩
 · have := Qi os _ x h; exact ⟨this.1, this.2.1⟩
end Go.Proofs.Tryz
namespace Go.Sk
open Go.L Go.Rp
theorem zj9 (m : Nat) (c x : Int) (xs : List Int) (h : xs.length <= m) : (Z4 (m : Int) c x xs).2.length <= m := by
 unfold Z4
 split
 · split
   · simp; omega
   · exact h
 · split
   · split
     · simp; omega
     · exact h
   · exact h
theorem zeX (m : Nat) : ∀ (l : List O) (xs : List Int), xs.length <= m -> (Ql (m : Int) l xs).2.length <= m
 | [], _, h => h
 | o :: l, xs, h => zeX m l _ (zj9 m o.k o.v xs h)
theorem zka (m : Nat) (c x : Int) (xs : List Int) (h : xs.length <= m) : (Zw (m : Int) c x xs).2.length <= m := by
 unfold Zw
 split
 · split
   · simp; omega
   · exact h
 split
 · split
   · simp; omega
   · exact h
 split
 · split
   · simp at h ⊢; omega
   · exact h
 split
 · split
   · simp; omega
   · exact h
 · exact h
theorem zeY (m : Nat) : ∀ (l : List O) (xs : List Int), xs.length <= m -> (Qx (m : Int) l xs).2.length <= m
 | [], _, h => h
 | o :: l, xs, h => zeY m l _ (zka m o.k o.v xs h)
end Go.Sk
namespace Go.Proofs.Tryz
open Go.L Go.Rp Go.Sk
set_option maxRecDepth 100000
theorem zgi (n s : Nat) (osb : Bool) (b c : Nat) (hc : c < 100000) (os : List O) (hos : os.length < lim) : ∀ (d i N : Nat) (h : zd) (xs : List Int) (done : List R), RngAt h s b c xs -> i + d = os.length -> done.length = i -> d < N →
    ∃ h', zV N (Yb (n + 3) s (os.map O.w) osb) [.sl 2 [] false, .sl 2 (done.map R.w ++ List.replicate d [.int .u8 0, .int .i32 0]) false, .bool false, .int .i64 (i : Int)] h = some (.ret [.row h'.length 2 0 os.length], h' ++ [.row 35 2 ((done ++ (Qx (c : Int) (os.drop i) xs).1).map R.w) true]) /\ RngAt h' s b c (Qx (c : Int) (os.drop i) xs).2 /\ RFed h h' s b := by
 intro d
 induction d with
 | zero =>
   intro i N h xs done hb h1 h2 h3
   obtain ⟨N, rfl⟩ : ∃ N', N = N' + 1 := ⟨N - 1, by omega⟩
   rw [zD]
   unfold Yb
   simp only [gv, zf, zh]
   rw [zt, za, zm, if_neg (by simp; omega), ZT (by omega)]
   refine ⟨h, ?_, hb, RFed.refl ..⟩
   simp only [lsl, Qx, Zm, QR, zx]
   rw [show done.length = os.length by omega]
 | succ d ih =>
   intro i N h xs done hb h1 h2 h3
   obtain ⟨N, rfl⟩ : ∃ N', N = N' + 1 := ⟨N - 1, by omega⟩
   have hi : i < os.length := by omega
   obtain ⟨h', e, b1, b2⟩ := zhA n hb hc os[i].k os[i].v
   obtain ⟨h'', e', d1, d2⟩ := ih (i + 1) N h' _ (done ++ [zdd (c : Int) os[i] xs]) b1 (by omega) (by simp; omega) (by omega)
   have hd : os.drop i = os[i] :: os.drop (i + 1) := zT hi
   refine ⟨h'', ?_, by rw [hd]; exact d1, b2.trans d2⟩
   rw [hd]
   simp only [Qx]
   rw [show done ++ (zdd (c : Int) os[i] xs :: (Qx (c : Int) (os.drop (i + 1)) (Zw (c : Int) os[i].k os[i].v xs).2).1) = done ++ [zdd (c : Int) os[i] xs] ++ (Qx (c : Int) (os.drop (i + 1)) (Zw (c : Int) os[i].k os[i].v xs).2).1 by simp, <- e', zD]
   have hix : ZK 2 i (.sl 2 (os.map O.w) osb) = some (.iptr 2 (O.w os[i]) 0) := by
    simp [ZK, zg hi]
   have key : ∀ next, Yb (n + 3) s (os.map O.w) osb [.sl 2 [] false, .sl 2 (done.map R.w ++ List.replicate (d + 1) [.int .u8 0, .int .i32 0]) false, .bool false, .int .i64 (i : Int)] h next = next [.sl 2 [] false, .sl 2 ((done ++ [zdd (c : Int) os[i] xs]).map R.w ++ List.replicate d [.int .u8 0, .int .i32 0]) false, .bool false, .int .i64 ((i + 1 : Nat) : Int)] h' := by
    intro next
    unfold Yb
    simp only [gv, zf, zh]
    rw [zt, za, zm, if_pos (by simp; omega), Zd, zw, hix, za]
    simp only [zu]
    rw [zo, if_pos (by decide), zN, QH, if_pos (XU _), if_pos (by rw [XU]; decide), W9, zN, QH]
    show cl (call (n + 3) _ [.ptr s 0, .agg [.int .u8 os[i].k, .int .i32 os[i].v]] h) _ _ = _
    rw [e, zM, zE, zw]
    have hlen : i < (done.map R.w ++ List.replicate (d + 1) [V.int .u8 0, V.int .i32 0]).length := by simp; omega
    have hget : (done.map R.w ++ List.replicate (d + 1) [V.int .u8 0, V.int .i32 0])[i]? = some [.int .u8 0, .int .i32 0] := by
     rw [zG (by simp; omega)]; simp [h2]
    rw [if_pos (by refine ⟨?_, hlen, by decide⟩; first | trivial | rfl), if_pos (by rfl), if_pos (by refine ⟨?_, by decide, zk 2⟩; first | trivial | rfl)]
    simp only [lsl, zhs, V.cells]
    rw [hget, za, zK, za, Xv (by omega)]
    have hset : (done.map R.w ++ List.replicate (d + 1) [V.int .u8 0, V.int .i32 0]).set i (setR [V.int .u8 0, V.int .i32 0] 0 [V.int .u8 (Zw (c : Int) os[i].k os[i].v xs).1.1, V.int .i32 (Zw (c : Int) os[i].k os[i].v xs).1.2]) = (done ++ [zdd (c : Int) os[i] xs]).map R.w ++ List.replicate d [V.int .u8 0, V.int .i32 0] := by
     rw [Zu _ _ (by simp; omega)]
     simp [h2, Xo, R.w, setR, zdd]
    rw [hset]
   rw [key]
theorem zgj (n s : Nat) {h : zd} {b c : Nat} {xs : List Int} (hb : RngAt h s b c xs) (hc : c < 100000) (os : List O) (osb : Bool) (hos : os.length < lim) (hn : os.length < n) :
    ∃ h', call (n + 4) 176 [.bf 201 [.ptr s 0], .sl 2 (os.map O.w) osb] h = some (.ret [.row h'.length 2 0 os.length], h' ++ [.row 35 2 ((Qx (c : Int) os xs).1.map R.w) true]) /\ RngAt h' s b c (Qx (c : Int) os xs).2 /\ RFed h h' s b := by
 obtain ⟨h', e, b1, b2⟩ := zgi n s osb b c hc os hos os.length 0 (n + 3) h xs [] hb (by omega) rfl (by omega)
 refine ⟨h', (zjN (n + 3) s _ osb h).trans ?_, b1, b2⟩
 unfold zk3
 rw [zx, Zd, zw, zw, if_pos ⟨zk _, by omega, rfl⟩]
 exact e
def noH (xs : List Int) : List (Int × Nat) := xs.map fun x => (x, 0)
theorem Yt (xs : List Int) : (noH xs).length = xs.length := zx ..
theorem jI (xs : List Int) : (noH xs).map Prod.fst = xs := by unfold noH; rw [List.map_map]; exact List.map_id _
def Yi (k m : Nat) (os : List O) (st : St) : St × List R :=
 if k = 1 then ((noH (Ql (m : Int) os (st.1.map Prod.fst)).2, st.2), (Ql (m : Int) os (st.1.map Prod.fst)).1)
 else if k = 2 then ((noH (Qx (m : Int) os (st.1.map Prod.fst)).2, st.2), (Qx (m : Int) os (st.1.map Prod.fst)).1)
 else WJ os (m : Int) st
def BodAt (k : Nat) (h : zd) (s : Nat) (Y : List Nat) (m : Nat) (its : List (Int × Nat)) : Prop :=
 (k = 1 /\ ∃ xs qb, its = noH xs /\ StkAt h s qb (m : Int) xs /\ Y = s :: qb.toList) ∨
 (k = 2 /\ ∃ xs b, its = noH xs /\ RngAt h s b m xs /\ Y = [s, b]) ∨
 (k = 3 /\ ∃ ts, its = itT ts /\ (∃ N, SkAt h s ts (m : Int) N) /\ Y = skB s ts)
def zoM (k s : Nat) : V := .iface (if k = 1 then 112 else if k = 2 then 116 else 120) (.agg [.ptr s 0])
structure ObAt (k : Nat) (h : zd) (o s c : Nat) (cb : Option Nat) (Y : List Nat) (m : Nat) (pl : Bool) (st : St) : Prop where
 box : h[o]? = some (.box 3 [zoM k s, .ptr c 0, .bool pl])
 bits : BitsAt h c cb st.2
 body : BodAt k h s Y m st.1
 room : st.1.length <= m
 most : m <= 1000
 oc : o ≠ c
 ocb : cb ≠ some o
 oY : o ∉ Y
 cY : c ∉ Y
 cbY : ∀ b, cb = some b -> b ∉ Y
def obB (o c : Nat) (cb : Option Nat) (Y : List Nat) : List Nat := o :: c :: (cb.toList ++ Y)
theorem BodAt.lt {k : Nat} {h : zd} {s : Nat} {Y : List Nat} {m : Nat} {its : List (Int × Nat)} (B : BodAt k h s Y m its) : ∀ y ∈ Y, y < h.length := by
 rcases B with ⟨rfl, xs, qb, rfl, S, rfl⟩ | ⟨rfl, xs, b, rfl, R, rfl⟩ | ⟨rfl, ts, rfl, ⟨N, S⟩, rfl⟩
 · intro y hy
   obtain ⟨v, sz, k1, k2⟩ := S.box
   rcases zL.1 hy with rfl | hy
   · exact zS k1
   · cases qb with
     | none => simp at hy
     | some b =>
       simp at hy; subst hy
       obtain ⟨_, l, z, _, k3, _⟩ := S
       exact zS k3
 · intro y hy
   obtain ⟨_, l, z, f, k1, k2, _⟩ := R
   simp at hy
   rcases hy with rfl | rfl
   · exact zS k1
   · exact zS k2
 · exact S.lt
theorem BitsAt.blt {h : zd} {c b : Nat} {bits : List Bool} (B : BitsAt h c (some b) bits) : b < h.length := by
 obtain ⟨_, lo, l, z, _, k, _⟩ := B
 exact zS k
theorem BitsAt.clt {h : zd} {c : Nat} {cb : Option Nat} {bits : List Bool} (B : BitsAt h c cb bits) : c < h.length := by
 cases cb with
 | none => exact zS B.2
 | some b =>
   obtain ⟨_, lo, l, z, k, _⟩ := B
   exact zS k
theorem BodAt.keep {k : Nat} {h h' : zd} {s : Nat} {Y : List Nat} {m : Nat} {its : List (Int × Nat)} (B : BodAt k h s Y m its) (hk : ∀ y ∈ Y, h'[y]? = h[y]?) : BodAt k h' s Y m its := by
 rcases B with ⟨rfl, xs, qb, rfl, S, rfl⟩ | ⟨rfl, xs, b, rfl, R, rfl⟩ | ⟨rfl, ts, rfl, ⟨N, S⟩, rfl⟩
 · exact .inl ⟨rfl, xs, qb, rfl, S.keep (hk s (by simp)) (fun b hb => hk b (by simp [hb])), rfl⟩
 · exact .inr (.inl ⟨rfl, xs, b, rfl, R.keep (hk s (by simp)) (hk b (by simp)), rfl⟩)
 · exact .inr (.inr ⟨rfl, ts, rfl, ⟨N, S.keep hk⟩, rfl⟩)
theorem ObAt.keep {k : Nat} {h h' : zd} {o s c : Nat} {cb : Option Nat} {Y : List Nat} {m : Nat} {pl : Bool} {st : St} (A : ObAt k h o s c cb Y m pl st) (hk : ∀ y ∈ obB o c cb Y, h'[y]? = h[y]?) : ObAt k h' o s c cb Y m pl st :=
 ⟨(hk o (by simp [obB])).trans A.box, A.bits.keep (hk c (by simp [obB])) (fun b hb => hk b (by simp [obB, hb])), A.body.keep (fun y hy => hk y (by simp [obB, hy])), A.room, A.most, A.oc, A.ocb, A.oY, A.cY, A.cbY⟩
theorem ObAt.lt {k : Nat} {h : zd} {o s c : Nat} {cb : Option Nat} {Y : List Nat} {m : Nat} {pl : Bool} {st : St} (A : ObAt k h o s c cb Y m pl st) : ∀ y ∈ obB o c cb Y, y < h.length := by
 intro y hy
 simp only [obB, zL, Zl] at hy
 rcases hy with rfl | rfl | hy | hy
 · exact zS A.box
 · exact A.bits.clt
 · cases cb with
   | none => simp at hy
   | some b => simp at hy; subst hy; exact A.bits.blt
 · exact A.body.lt y hy
structure XFed (h h' : zd) (X X' : List Nat) : Prop where
 len : h.length <= h'.length
 old : ∀ i, i < h.length -> i ∉ X -> h'[i]? = h[i]?
 new : ∀ x ∈ X', x ∈ X \/ h.length <= x
structure BFed (h h' : zd) (c : Nat) (Y Y' : List Nat) : Prop where
 len : h.length <= h'.length
 old : ∀ i, i < h.length -> i ∉ c :: Y -> h'[i]? = h[i]?
 new : ∀ x ∈ Y', x ∈ Y \/ h.length <= x
def zkb (k : Nat) (pl : Bool) : Nat := if k = 1 then (if pl then 173 else 171) else if k = 2 then (if pl then 198 else 196) else (if pl then 221 else 219)
theorem zoN (n : Nat) {k : Nat} {h : zd} {s c : Nat} {cb : Option Nat} {Y : List Nat} {m : Nat} {st : St} (pl : Bool) (B : BodAt k h s Y m st.1) (C : BitsAt h c cb st.2) (room : st.1.length <= m) (hm : m <= 1000) (cY : c ∉ Y) (cbY : ∀ b, cb = some b -> b ∉ Y) (os : List O) (osb : Bool) (hk : ∀ o ∈ os, 0 <= o.k /\ o.k < 256) (hos : os.length <= 1000) (hn : 2 * os.length + m + 100 <= n) :
    ∃ h' Y' T, call (n + 7) (zkb k pl) [.agg [.ptr s 0], .ptr c 0, .sl 2 (os.map O.w) osb] h = some (.ret [.row T 2 0 os.length], h') /\ RowR h' T (Yi k m os st).2 /\ BodAt k h' s Y' m (Yi k m os st).1.1 /\ BitsAt h' c cb (Yi k m os st).1.2 /\ (Yi k m os st).1.1.length <= m /\ h.length <= T /\ T ∉ Y' /\ BFed h h' c Y Y' := by
 have hlim : 1000000 < lim := by unfold lim; omega
 have hlt := B.lt
 have hcl := C.clt
 rcases B with ⟨rfl, xs, qb, hits, S, rfl⟩ | ⟨rfl, xs, b, hits, RR, rfl⟩ | ⟨rfl, ts, hits, S, rfl⟩
 · have hxs : st.1.map Prod.fst = xs := by rw [hits, jI]
   have hxl : xs.length <= m := by rw [hits, Yt] at room; exact room
   have hsc : c ≠ s := fun e => cY (by simp [e])
   have hcq : qb ≠ some c := fun e => cY (by simp [e])
   have hsb : ∀ b, cb = some b -> b ≠ s /\ qb ≠ some b := fun b hb => ⟨fun e => cbY b hb (by simp [e]), fun e => cbY b hb (by simp [e])⟩
   simp only [Yi, hxs, if_true]
   have hrl := zeX m os xs hxl
   cases pl with
   | false =>
     obtain ⟨h', qb', T, e, c1, c2, c3, c4, c5⟩ := zdf (n + 1) S os osb hxl (by omega) (by omega) (by omega) (fun b hb => hlt b (by simp [hb]))
     refine ⟨h', s :: qb'.toList, T, ?_, ⟨true, c1⟩, .inl ⟨rfl, _, qb', rfl, c4, rfl⟩, C.keep (c5.old c hcl hsc hcq) (fun b hb => c5.old b (hb ▸ C).blt (hsb b hb).1 (hsb b hb).2), by rw [Yt]; exact hrl, c2, ?_, ⟨c5.len, fun i h1 h2 => c5.old i h1 (fun e => h2 (by simp [e])) (fun e => h2 (by simp [e])), ?_⟩⟩
     · show call (n + 6 + 1) 171 _ h = _
       rw [zhO]
       unfold zhN
       rw [e, zM, zE]
     · intro hT
       have := hlt s (by simp)
       rcases zL.1 hT with rfl | hT
       · omega
       · cases qb' with
         | none => simp at hT
         | some b => simp at hT; exact c3 (by rw [hT])
     · intro x hx
       rcases zL.1 hx with rfl | hx
       · exact .inl (by simp)
       · cases qb' with
         | none => simp at hx
         | some b =>
           simp at hx; subst hx
           rcases c5.own _ rfl with e | e
           · exact .inl (by simp [e])
           · exact .inr e
   | true =>
     obtain ⟨h', qb', e, c4, c5⟩ := zfU n s S os osb hk (by omega) (by omega)
     have hk' : ∀ j, j < h'.length -> (h' ++ [HB.row 35 2 ((Ql (m : Int) os xs).1.map R.w) true])[j]? = h'[j]? := fun j hj => zl hj
     have hql : ∀ b, qb' = some b -> b < h'.length := fun b hb => by
      rw [hb] at c4
      obtain ⟨_, l, z, _, k3, _⟩ := c4
      exact zS k3
     have hsl' : s < h'.length := by have := hlt s (by simp); have := c5.len; omega
     have hlen := c5.len
     refine ⟨h' ++ [HB.row 35 2 ((Ql (m : Int) os xs).1.map R.w) true], s :: qb'.toList, h'.length, ?_, ⟨true, zJ⟩, .inl ⟨rfl, _, qb', rfl, c4.keep (hk' s hsl') (fun b hb => hk' b (hql b hb)), rfl⟩, C.keep ((hk' c (by omega)).trans (c5.old c hcl hsc hcq)) (fun b hb => (hk' b (by have := (hb ▸ C).blt; omega)).trans (c5.old b (hb ▸ C).blt (hsb b hb).1 (hsb b hb).2)), by rw [Yt]; exact hrl, hlen, ?_, ⟨by simp; omega, fun i h1 h2 => (hk' i (by omega)).trans (c5.old i h1 (fun e => h2 (by simp [e])) (fun e => h2 (by simp [e]))), ?_⟩⟩
     · show call (n + 6 + 1) 173 _ h = _
       rw [zhQ]
       unfold zhP
       rw [e, zM, zE]
     · intro hT
       rcases zL.1 hT with hT | hT
       · omega
       · cases qb' with
         | none => simp at hT
         | some b => simp at hT; have := hql b rfl; omega
     · intro x hx
       rcases zL.1 hx with rfl | hx
       · exact .inl (by simp)
       · cases qb' with
         | none => simp at hx
         | some b =>
           simp at hx; subst hx
           rcases c5.own _ rfl with e | e
           · exact .inl (by simp [e])
           · exact .inr e
 · have hxs : st.1.map Prod.fst = xs := by rw [hits, jI]
   have hxl : xs.length <= m := by rw [hits, Yt] at room; exact room
   have hsc : c ≠ s := fun e => cY (by simp [e])
   have hcq : c ≠ b := fun e => cY (by simp [e])
   have hsb : ∀ x, cb = some x -> x ≠ s /\ x ≠ b := fun x hb => ⟨fun e => cbY x hb (by simp [e]), fun e => cbY x hb (by simp [e])⟩
   have hsl := hlt s (by simp)
   have hbl := hlt b (by simp)
   simp only [Yi, hxs, if_neg (show ¬ (2 = 1) by decide), if_true]
   have hrl := zeY m os xs hxl
   cases pl with
   | false =>
     obtain ⟨h', T, e, c1, c2, c4, c5, c6⟩ := zdg (n + 1) RR os osb (by omega) (by omega) (by omega)
     refine ⟨h', [s, b], T, ?_, ⟨true, c1⟩, .inr (.inl ⟨rfl, _, b, rfl, c4, rfl⟩), C.keep (c6 c hcl hsc hcq) (fun x hb => c6 x (hb ▸ C).blt (hsb x hb).1 (hsb x hb).2), by rw [Yt]; exact hrl, c2, ?_, ⟨c5, fun i h1 h2 => c6 i h1 (fun e => h2 (by simp [e])) (fun e => h2 (by simp [e])), fun x hx => .inl hx⟩⟩
     · show call (n + 6 + 1) 196 _ h = _
       rw [zhS]
       unfold zhR
       rw [e, zM, zE]
     · simp; omega
   | true =>
     obtain ⟨h', e, c4, c5⟩ := zgj (n + 2) s RR (by omega) os osb (by omega) (by omega)
     have hlen := c5.len
     have hk' : ∀ j, j < h'.length -> (h' ++ [HB.row 35 2 ((Qx (m : Int) os xs).1.map R.w) true])[j]? = h'[j]? := fun j hj => zl hj
     refine ⟨h' ++ [HB.row 35 2 ((Qx (m : Int) os xs).1.map R.w) true], [s, b], h'.length, ?_, ⟨true, zJ⟩, .inr (.inl ⟨rfl, _, b, rfl, c4.keep (hk' s (by omega)) (hk' b (by omega)), rfl⟩), C.keep ((hk' c (by omega)).trans (c5.old c hsc hcq)) (fun x hb => (hk' x (by have := (hb ▸ C).blt; omega)).trans (c5.old x (hsb x hb).1 (hsb x hb).2)), by rw [Yt]; exact hrl, by omega, ?_, ⟨by simp; omega, fun i h1 h2 => (hk' i (by omega)).trans (c5.old i (fun e => h2 (by simp [e])) (fun e => h2 (by simp [e]))), fun x hx => .inl hx⟩⟩
     · show call (n + 6 + 1) 198 _ h = _
       rw [zhU]
       unfold zhT
       rw [e, zM, zE]
     · simp; omega
 · have hst : st = (itT ts, st.2) := by rw [<- hits]
   have htl : ts.length <= m := by rw [hits] at room; simpa [itT] using room
   simp only [Yi, if_neg (show ¬ (3 = 1) by decide), if_neg (show ¬ (3 = 2) by decide)]
   have fin : ∀ (h' : zd) (ts' : List Tw) (bits' : List Bool) (tb : Nat) (told' : List R), Did h h' s ts ts' (m : Int) c cb bits' tb told' -> WJ os (m : Int) (itT ts, st.2) = ((itT ts', bits'), told') -> RowR h' tb (WJ os (m : Int) st).2 /\ BodAt 3 h' s (skB s ts') m (WJ os (m : Int) st).1.1 /\ BitsAt h' c cb (WJ os (m : Int) st).1.2 /\ (WJ os (m : Int) st).1.1.length <= m /\ h.length <= tb /\ tb ∉ skB s ts' /\ BFed h h' c (skB s ts) (skB s ts') := by
    intro h' ts' bits' tb told' D hd
    rw [hst, hd]
    refine ⟨D.tl, .inr (.inr ⟨rfl, ts', rfl, D.sk, rfl⟩), D.bt, ?_, D.tb, ?_, ⟨D.frm.len, fun i h1 h2 => D.frm.old i h1 h2, fun x hx => ?_⟩⟩
    · have := D.room; simp [itT]; omega
    · intro hT
      obtain ⟨N, S'⟩ := D.sk
      unfold skB at hT
      rw [<- WC s (ts'.length : Int) (m : Int) ts'] at hT
      obtain ⟨x, hx, rfl⟩ := ZR.1 hT
      have h1 := S'.rep.at_ x hx
      obtain ⟨z, hz⟩ := D.tl
      unfold jf at h1
      rw [hz] at h1
      cases h1
    · rcases D.new x hx with e | e
      · exact .inl e
      · exact .inr e
   cases pl with
   | false =>
     obtain ⟨h', ts', bits', tb, told', e, D, hd⟩ := zd2 (n + 2) os osb S C cY cbY (by omega) (by omega) (by omega) (by omega)
     refine ⟨h', skB s ts', tb, ?_, fin h' ts' bits' tb told' D hd⟩
     show call (n + 6 + 1) 219 _ h = _
     rw [zhW]
     unfold zhV
     rw [e, zM, zE]
   | true =>
     obtain ⟨h', ts', bits', tb, told', e, D, hd⟩ := zj5 (n + 2) os osb S C cY cbY (by omega) (by omega) (by omega)
     refine ⟨h', skB s ts', tb, ?_, fin h' ts' bits' tb told' D hd⟩
     show call (n + 6 + 1) 221 _ h = _
     rw [zhY]
     unfold zhX
     rw [e, zM, zE]
end Go.Proofs.Tryz
namespace Go.Proofs.Tryz
open Go.L
set_option maxRecDepth 100000
noncomputable def zqw (n : Nat) (k : Int) (v : Int) (k2 : Int) (v2 : Int) (h : zd) : Option (Res × zd) :=
 (if (k == 1) then
 (if (k2 == 1) then
 some (Res.ret [(V.bool (decide (v <= v2)))], h)
 else
 (if (k == 1) then
 some (Res.ret [(V.bool true)], h)
 else
 some (Res.ret [(V.bool (k2 != 1))], h)))
 else
 (if (k == 1) then
 some (Res.ret [(V.bool true)], h)
 else
 some (Res.ret [(V.bool (k2 != 1))], h)))
theorem zoO (n : Nat) (k : Int) (v : Int) (k2 : Int) (v2 : Int) (h : zd) : call (n + 1) 95 [(V.agg [(V.int .u8 k), (V.int .i32 v)]), (V.agg [(V.int .u8 k2), (V.int .i32 v2)])] h = zqw n k v k2 v2 h := by kernel_rfl
noncomputable def YT (n : Nat) (l : V) (st1 : List V) (next3 : List V -> zd -> Option (Res × zd)) (st8 : List V) (hh9 : zd) (next10 : List V -> zd -> Option (Res × zd)) : Option (Res × zd) :=
 (bd (bop prog .gtr 3 (gv st8 2) (V.int .i64 0)) fun v11 =>
 (bv v11 fun b12 => if b12 then
 (bd (bop prog .sub 3 (gv st8 2) (V.int .i64 1)) fun v13 =>
 (bdS (nv v13) fun n14 =>
 (if (1 = 1 /\ n14 < ((lsl (gv st8 1))).length /\ (some 28 : Option Nat) ≠ some 5) then
 (bd ((lsl (gv st8 1)))[n14]? fun es15 =>
 (bd (es15)[0]? fun v16 =>
 (bdS (nv v16) fun n17 =>
 (bd (ZK 2 n17 l) fun p18 =>
 (bd3 (zu hh9 p18) fun cs20 m19 o21 => if (o21 + 2 <= m19 /\ 0 < 2) then
 (bdS (nv (gv st1 2)) fun n22 =>
 (bd (ZK 2 n22 l) fun p23 =>
 (bd3 (zu hh9 p23) fun cs25 m24 o26 => if (o26 + 2 <= m24 /\ 0 < 2) then
 (cl (call n 95 [(V.agg ((cs20).drop o21 |>.take 2)), (V.agg ((cs25).drop o26 |>.take 2))] hh9) (fun r27 h28 =>
 (ZI r27 fun v30 =>
 (bd (uop .not v30) fun v31 =>
 (bv v31 fun b32 => if b32 then
 (bd (bop prog .sub 3 (gv st8 2) (V.int .i64 1)) fun v33 =>
 (next10 [(V.sl 1 (lsl (gv st8 0)) false), (V.sl 1 (lsl (gv st8 1)) false), v33] h28))
 else
 (bd (QC (V.sl 1 (lsl (gv st8 1)) false)) fun n34 =>
 (bdS (nv (gv st8 2)) fun n35 =>
 (bd (ZP 1 0 n35 (none : Option Nat) true (V.sl 1 (lsl (gv st8 1)) false)) fun v36 =>
 (bdS (ZW h28 v36) fun p37 =>
 (if (55 = 55 /\ (p37.1 = 1 \/ (p37.2).isEmpty = true)) then
 (bd (app 3 1 (S.own 3 1 []) p37.2) fun l38 =>
 (bd (JD prog 55 1 [(0, (gv st1 2))]) fun p39 =>
 (bd (app 3 1 (S.own 3 1 l38) p39.2) fun l40 =>
 (bd (QC (V.sl 1 (lsl (gv st8 1)) false)) fun n41 =>
 (bdS (nv (gv st8 2)) fun n42 =>
 (bd (ZP 1 n42 n41 (none : Option Nat) true (V.sl 1 (lsl (gv st8 1)) false)) fun v43 =>
 (bdS (ZW h28 v43) fun p44 =>
 (if (55 = 55 /\ (p44.1 = 1 \/ (p44.2).isEmpty = true)) then
 (bd (app 3 1 (S.own 3 1 l40) p44.2) fun l45 =>
 (bd (bop prog .add 3 (gv st1 2) (V.int .i64 1)) fun v46 =>
 (next3 [(V.sl 1 (lsl (gv st8 0)) false), (V.sl 1 l45 false), v46] h28))) else none)))))))) else none))))))))) (fun z29 h28 => none)) else none))) else none))))) else none)))
 else
 (bd (QC (V.sl 1 (lsl (gv st8 1)) false)) fun n47 =>
 (bdS (nv (gv st8 2)) fun n48 =>
 (bd (ZP 1 0 n48 (none : Option Nat) true (V.sl 1 (lsl (gv st8 1)) false)) fun v49 =>
 (bdS (ZW hh9 v49) fun p50 =>
 (if (55 = 55 /\ (p50.1 = 1 \/ (p50.2).isEmpty = true)) then
 (bd (app 3 1 (S.own 3 1 []) p50.2) fun l51 =>
 (bd (JD prog 55 1 [(0, (gv st1 2))]) fun p52 =>
 (bd (app 3 1 (S.own 3 1 l51) p52.2) fun l53 =>
 (bd (QC (V.sl 1 (lsl (gv st8 1)) false)) fun n54 =>
 (bdS (nv (gv st8 2)) fun n55 =>
 (bd (ZP 1 n55 n54 (none : Option Nat) true (V.sl 1 (lsl (gv st8 1)) false)) fun v56 =>
 (bdS (ZW hh9 v56) fun p57 =>
 (if (55 = 55 /\ (p57.1 = 1 \/ (p57.2).isEmpty = true)) then
 (bd (app 3 1 (S.own 3 1 l53) p57.2) fun l58 =>
 (bd (bop prog .add 3 (gv st1 2) (V.int .i64 1)) fun v59 =>
 (next3 [(V.sl 1 (lsl (gv st8 0)) false), (V.sl 1 l58 false), v59] hh9))) else none)))))))) else none)))))))
noncomputable def W0 (n : Nat) (l : V) (st1 : List V) (hh2 : zd) (next3 : List V -> zd -> Option (Res × zd)) : Option (Res × zd) :=
 (bd (ZW hh2 l) fun p4 =>
 (bd (bop prog .lss 3 (gv st1 2) (V.int .i64 ((p4.2).length : Int))) fun v5 =>
 (bv v5 fun b6 => if b6 then
 (zV n (YT n l st1 next3) [(V.sl 1 (lsl (gv st1 0)) false), (V.sl 1 (lsl (gv st1 1)) false), (V.int .i64 (((lsl (gv st1 1))).length : Int))] hh2)
 else
 some (Res.ret [(V.sl 1 (lsl (gv st1 1)) false)], hh2))))
noncomputable def zoP (n : Nat) (l : V) : Option (Res × zd) :=
 (zV n (W0 n l) [(V.sl 1 [] false), (V.sl 1 [] false), (V.int .i64 0)] [])
theorem zmB (n : Nat) (l : V) (h : zd) : call (n + 1) 64 [(V.int .u8 3), l] h = gcw [(V.int .u8 3), l] (zoP n l) h := by kernel_rfl
noncomputable def jn (n : Nat) (s : V) (st8 : List V) (hh9 : zd) (next10 : List V -> zd -> Option (Res × zd)) : Option (Res × zd) :=
 (bd (ZW hh9 s) fun p11 =>
 (bd (bop prog .lss 3 (gv st8 3) (V.int .i64 ((p11.2).length : Int))) fun v12 =>
 (bv v12 fun b13 => if b13 then
 (bdS (nv (gv st8 3)) fun n14 =>
 (bd (ZK 1 n14 s) fun p15 =>
 (bd3 (zu hh9 p15) fun cs17 m16 o18 => if (o18 + 1 <= m16 /\ 0 < 1) then
 (bd (cs17)[o18]? fun v19 =>
 (bd ((lcs (gv st8 0)))[1]? fun v20 =>
 (bd (bop prog .leq 21 v19 v20) fun v21 =>
 (bv v21 fun b22 => if b22 then
 (bd (bop prog .add 3 (gv st8 3) (V.int .i64 1)) fun v23 =>
 (next10 [(V.agg (lcs (gv st8 0))), (V.sl 1 (lsl (gv st8 1)) false), (V.agg (lcs (gv st8 2))), v23] hh9))
 else
 (bd (QC s) fun n24 =>
 (bdS (nv (gv st8 3)) fun n25 =>
 (bd (ZP 1 0 n25 (none : Option Nat) true s) fun v26 =>
 (bdS (ZW hh9 v26) fun p27 =>
 (if (27 = 27 /\ (p27.1 = 1 \/ (p27.2).isEmpty = true)) then
 (bd (app 21 1 (S.own 21 1 []) p27.2) fun l28 =>
 (bd ((lcs (gv st8 0)))[1]? fun v29 =>
 (bd (JD prog 27 1 [(0, v29)]) fun p30 =>
 (bd (app 21 1 (S.own 21 1 l28) p30.2) fun l31 =>
 (bd (QC s) fun n32 =>
 (bdS (nv (gv st8 3)) fun n33 =>
 (bd (ZP 1 n33 n32 (none : Option Nat) true s) fun v34 =>
 (bdS (ZW hh9 v34) fun p35 =>
 (if (27 = 27 /\ (p35.1 = 1 \/ (p35.2).isEmpty = true)) then
 (bd (app 21 1 (S.own 21 1 l31) p35.2) fun l36 =>
 some (Res.ret [(V.sl 1 l36 false), (V.agg (((setR (lcs (gv st8 2)) 0 [(V.int .u8 1), (V.int .i32 0)])).drop 0 |>.take 2))], hh9)) else none))))))))) else none))))))))) else none)))
 else
 (bd (QC s) fun n37 =>
 (bdS (nv (gv st8 3)) fun n38 =>
 (bd (ZP 1 0 n38 (none : Option Nat) true s) fun v39 =>
 (bdS (ZW hh9 v39) fun p40 =>
 (if (27 = 27 /\ (p40.1 = 1 \/ (p40.2).isEmpty = true)) then
 (bd (app 21 1 (S.own 21 1 []) p40.2) fun l41 =>
 (bd ((lcs (gv st8 0)))[1]? fun v42 =>
 (bd (JD prog 27 1 [(0, v42)]) fun p43 =>
 (bd (app 21 1 (S.own 21 1 l41) p43.2) fun l44 =>
 (bd (QC s) fun n45 =>
 (bdS (nv (gv st8 3)) fun n46 =>
 (bd (ZP 1 n46 n45 (none : Option Nat) true s) fun v47 =>
 (bdS (ZW hh9 v47) fun p48 =>
 (if (27 = 27 /\ (p48.1 = 1 \/ (p48.2).isEmpty = true)) then
 (bd (app 21 1 (S.own 21 1 l44) p48.2) fun l49 =>
 some (Res.ret [(V.sl 1 l49 false), (V.agg (((setR (lcs (gv st8 2)) 0 [(V.int .u8 1), (V.int .i32 0)])).drop 0 |>.take 2))], hh9)) else none))))))))) else none))))))))
noncomputable def zmC (n : Nat) (s : V) (st72 : List V) (hh73 : zd) (next74 : List V -> zd -> Option (Res × zd)) : Option (Res × zd) :=
 (bd (ZW hh73 s) fun p75 =>
 (bd (bop prog .lss 3 (gv st72 3) (V.int .i64 ((p75.2).length : Int))) fun v76 =>
 (bv v76 fun b77 => if b77 then
 (bdS (nv (gv st72 3)) fun n78 =>
 (bd (ZK 1 n78 s) fun p79 =>
 (bd3 (zu hh73 p79) fun cs81 m80 o82 => if (o82 + 1 <= m80 /\ 0 < 1) then
 (bd (cs81)[o82]? fun v83 =>
 (bd ((lcs (gv st72 0)))[1]? fun v84 =>
 (bd (bop prog .leq 21 v83 v84) fun v85 =>
 (bv v85 fun b86 => if b86 then
 (bd (bop prog .add 3 (gv st72 3) (V.int .i64 1)) fun v87 =>
 (next74 [(V.agg (lcs (gv st72 0))), (V.sl 1 (lsl (gv st72 1)) false), (V.agg (lcs (gv st72 2))), v87] hh73))
 else
 (bd (QC s) fun n88 =>
 (bdS (nv (gv st72 3)) fun n89 =>
 (bd (ZP 1 0 n89 (none : Option Nat) true s) fun v90 =>
 (bdS (ZW hh73 v90) fun p91 =>
 (if (27 = 27 /\ (p91.1 = 1 \/ (p91.2).isEmpty = true)) then
 (bd (app 21 1 (S.own 21 1 []) p91.2) fun l92 =>
 (bd ((lcs (gv st72 0)))[1]? fun v93 =>
 (bd (JD prog 27 1 [(0, v93)]) fun p94 =>
 (bd (app 21 1 (S.own 21 1 l92) p94.2) fun l95 =>
 (bd (QC s) fun n96 =>
 (bdS (nv (gv st72 3)) fun n97 =>
 (bd (ZP 1 n97 n96 (none : Option Nat) true s) fun v98 =>
 (bdS (ZW hh73 v98) fun p99 =>
 (if (27 = 27 /\ (p99.1 = 1 \/ (p99.2).isEmpty = true)) then
 (bd (app 21 1 (S.own 21 1 l95) p99.2) fun l100 =>
 some (Res.ret [(V.sl 1 l100 false), (V.agg (((setR (lcs (gv st72 2)) 0 [(V.int .u8 1), (V.int .i32 0)])).drop 0 |>.take 2))], hh73)) else none))))))))) else none))))))))) else none)))
 else
 (bd (QC s) fun n101 =>
 (bdS (nv (gv st72 3)) fun n102 =>
 (bd (ZP 1 0 n102 (none : Option Nat) true s) fun v103 =>
 (bdS (ZW hh73 v103) fun p104 =>
 (if (27 = 27 /\ (p104.1 = 1 \/ (p104.2).isEmpty = true)) then
 (bd (app 21 1 (S.own 21 1 []) p104.2) fun l105 =>
 (bd ((lcs (gv st72 0)))[1]? fun v106 =>
 (bd (JD prog 27 1 [(0, v106)]) fun p107 =>
 (bd (app 21 1 (S.own 21 1 l105) p107.2) fun l108 =>
 (bd (QC s) fun n109 =>
 (bdS (nv (gv st72 3)) fun n110 =>
 (bd (ZP 1 n110 n109 (none : Option Nat) true s) fun v111 =>
 (bdS (ZW hh73 v111) fun p112 =>
 (if (27 = 27 /\ (p112.1 = 1 \/ (p112.2).isEmpty = true)) then
 (bd (app 21 1 (S.own 21 1 l108) p112.2) fun l113 =>
 some (Res.ret [(V.sl 1 l113 false), (V.agg (((setR (lcs (gv st72 2)) 0 [(V.int .u8 1), (V.int .i32 0)])).drop 0 |>.take 2))], hh73)) else none))))))))) else none))))))))
noncomputable def zqx (n : Nat) (m : Int) (s : V) (k : Int) (v : Int) (h : zd) : Option (Res × zd) :=
 (if (k == 1) then
 (bd (ZW h s) fun p0 =>
 (cl (call n 129 [(V.int .i64 m)] h) (fun r1 h2 =>
 (ZI r1 fun v4 =>
 (bd (bop prog .geq 3 (V.int .i64 ((p0.2).length : Int)) v4) fun v5 =>
 (bv v5 fun b6 => if b6 then
 some (Res.ret [s, (V.agg [(V.int .u8 3), (V.int .i32 0)])], h2)
 else
 (if (k == 1) then
 (zV n (jn n s) [(V.agg [(V.int .u8 k), (V.int .i32 v)]), (V.sl 1 [] false), (V.agg [(V.int .u8 0), (V.int .i32 0)]), (V.int .i64 0)] h2)
 else
 (if (k == 2) then
 (bd (ZW h2 s) fun p50 =>
 (if (((p50.2).length : Int) == 0) then
 some (Res.ret [s, (V.agg [(V.int .u8 4), (V.int .i32 0)])], h2)
 else
 (if (k == 2) then
 (bd (QC s) fun n51 =>
 (bd (ZP 1 1 n51 (none : Option Nat) true s) fun v52 =>
 (bdS (ZW h2 v52) fun p53 =>
 (if (27 = 27 /\ (p53.1 = 1 \/ (p53.2).isEmpty = true)) then
 (bd (app 21 1 (S.own 21 1 []) p53.2) fun l54 =>
 (bd (ZK 1 0 s) fun p55 =>
 (bd3 (zu h2 p55) fun cs57 m56 o58 => if (o58 + 1 <= m56 /\ 0 < 1) then
 (bd (cs57)[o58]? fun v59 =>
 (bd (Q4 prog 35 [(0, (V.int .u8 2)), (1, v59)]) fun cs60 =>
 (if (cs60).length = 2 then
 (if ((cs60).length <= 2) then
 some (Res.ret [(V.sl 1 l54 false), (V.agg (((setR [(V.int .u8 0), (V.int .i32 0)] 0 cs60)).drop 0 |>.take 2))], h2) else none) else none))) else none))) else none))))
 else
 some (Res.ret [s, (V.agg [(V.int .u8 5), (V.int .i32 0)])], h2))))
 else
 (if (k == 2) then
 (bd (QC s) fun n61 =>
 (bd (ZP 1 1 n61 (none : Option Nat) true s) fun v62 =>
 (bdS (ZW h2 v62) fun p63 =>
 (if (27 = 27 /\ (p63.1 = 1 \/ (p63.2).isEmpty = true)) then
 (bd (app 21 1 (S.own 21 1 []) p63.2) fun l64 =>
 (bd (ZK 1 0 s) fun p65 =>
 (bd3 (zu h2 p65) fun cs67 m66 o68 => if (o68 + 1 <= m66 /\ 0 < 1) then
 (bd (cs67)[o68]? fun v69 =>
 (bd (Q4 prog 35 [(0, (V.int .u8 2)), (1, v69)]) fun cs70 =>
 (if (cs70).length = 2 then
 (if ((cs70).length <= 2) then
 some (Res.ret [(V.sl 1 l64 false), (V.agg (((setR [(V.int .u8 0), (V.int .i32 0)] 0 cs70)).drop 0 |>.take 2))], h2) else none) else none))) else none))) else none))))
 else
 some (Res.ret [s, (V.agg [(V.int .u8 5), (V.int .i32 0)])], h2)))))))) (fun z3 h2 => some (Res.pan z3, h2))))
 else
 (if (k == 1) then
 (zV n (zmC n s) [(V.agg [(V.int .u8 k), (V.int .i32 v)]), (V.sl 1 [] false), (V.agg [(V.int .u8 0), (V.int .i32 0)]), (V.int .i64 0)] h)
 else
 (if (k == 2) then
 (bd (ZW h s) fun p114 =>
 (if (((p114.2).length : Int) == 0) then
 some (Res.ret [s, (V.agg [(V.int .u8 4), (V.int .i32 0)])], h)
 else
 (if (k == 2) then
 (bd (QC s) fun n115 =>
 (bd (ZP 1 1 n115 (none : Option Nat) true s) fun v116 =>
 (bdS (ZW h v116) fun p117 =>
 (if (27 = 27 /\ (p117.1 = 1 \/ (p117.2).isEmpty = true)) then
 (bd (app 21 1 (S.own 21 1 []) p117.2) fun l118 =>
 (bd (ZK 1 0 s) fun p119 =>
 (bd3 (zu h p119) fun cs121 m120 o122 => if (o122 + 1 <= m120 /\ 0 < 1) then
 (bd (cs121)[o122]? fun v123 =>
 (bd (Q4 prog 35 [(0, (V.int .u8 2)), (1, v123)]) fun cs124 =>
 (if (cs124).length = 2 then
 (if ((cs124).length <= 2) then
 some (Res.ret [(V.sl 1 l118 false), (V.agg (((setR [(V.int .u8 0), (V.int .i32 0)] 0 cs124)).drop 0 |>.take 2))], h) else none) else none))) else none))) else none))))
 else
 some (Res.ret [s, (V.agg [(V.int .u8 5), (V.int .i32 0)])], h))))
 else
 (if (k == 2) then
 (bd (QC s) fun n125 =>
 (bd (ZP 1 1 n125 (none : Option Nat) true s) fun v126 =>
 (bdS (ZW h v126) fun p127 =>
 (if (27 = 27 /\ (p127.1 = 1 \/ (p127.2).isEmpty = true)) then
 (bd (app 21 1 (S.own 21 1 []) p127.2) fun l128 =>
 (bd (ZK 1 0 s) fun p129 =>
 (bd3 (zu h p129) fun cs131 m130 o132 => if (o132 + 1 <= m130 /\ 0 < 1) then
 (bd (cs131)[o132]? fun v133 =>
 (bd (Q4 prog 35 [(0, (V.int .u8 2)), (1, v133)]) fun cs134 =>
 (if (cs134).length = 2 then
 (if ((cs134).length <= 2) then
 some (Res.ret [(V.sl 1 l128 false), (V.agg (((setR [(V.int .u8 0), (V.int .i32 0)] 0 cs134)).drop 0 |>.take 2))], h) else none) else none))) else none))) else none))))
 else
 some (Res.ret [s, (V.agg [(V.int .u8 5), (V.int .i32 0)])], h)))))
theorem zoQ (n : Nat) (m : Int) (s : V) (k : Int) (v : Int) (h : zd) : call (n + 1) 94 [(V.int .i64 m), s, (V.agg [(V.int .u8 k), (V.int .i32 v)])] h = zqx n m s k v h := by kernel_rfl
noncomputable def zkc (n : Nat) (m : Int) (s : V) (k : Int) (v : Int) : Option (Res × zd) :=
 (cl (call n 94 [(V.int .i64 m), s, (V.agg [(V.int .u8 k), (V.int .i32 v)])] []) (fun r0 h1 =>
 (bd (r0)[0]? fun v3 =>
 (bd (r0)[1]? fun v4 =>
 (if ((V.cells v4)).length = 2 then
 (if (((V.cells v4)).length <= 2) then
 (if ((((setR [(V.int .u8 5), (V.int .i32 0)] 0 (V.cells v4))).drop 0 |>.take 2)).length = 2 then
 (if (((((setR [(V.int .u8 5), (V.int .i32 0)] 0 (V.cells v4))).drop 0 |>.take 2)).length <= 2) then
 some (Res.ret [v3, (V.agg (((setR [(V.int .u8 0), (V.int .i32 0)] 0 (((setR [(V.int .u8 5), (V.int .i32 0)] 0 (V.cells v4))).drop 0 |>.take 2))).drop 0 |>.take 2))], h1) else none) else none) else none) else none)))) (fun z2 h1 => some (Res.pan z2, h1)))
theorem zmD (n : Nat) (m : Int) (s : V) (k : Int) (v : Int) (h : zd) : call (n + 1) 63 [(V.int .u8 3), (V.int .i64 m), s, (V.agg [(V.int .u8 k), (V.int .i32 v)])] h = gcw [(V.int .u8 3), (V.int .i64 m), s, (V.agg [(V.int .u8 k), (V.int .i32 v)])] (zkc n m s k v) h := by kernel_rfl
noncomputable def YU (n : Nat) (m : Int) (l : V) (v6 : V) (st8 : List V) (hh9 : zd) (next10 : List V -> zd -> Option (Res × zd)) : Option (Res × zd) :=
 (bd (ZW hh9 v6) fun p11 =>
 (bd (bop prog .lss 3 (gv st8 4) (V.int .i64 ((p11.2).length : Int))) fun v12 =>
 (bv v12 fun b13 => if b13 then
 (bdS (nv (gv st8 4)) fun n14 =>
 (bd (ZK 1 n14 v6) fun p15 =>
 (bd3 (zu hh9 p15) fun cs17 m16 o18 => if (o18 + 1 <= m16 /\ 0 < 1) then
 (bd (cs17)[o18]? fun v19 =>
 (bdS (nv v19) fun n20 =>
 (bd (ZK 2 n20 l) fun p21 =>
 (bd3 (zu hh9 p21) fun cs23 m22 o24 => if (o24 + 2 <= m22 /\ 0 < 2) then
 (cl (call n 63 [(V.int .u8 3), (V.int .i64 m), (gv st8 0), (V.agg ((cs23).drop o24 |>.take 2))] hh9) (fun r25 h26 =>
 (bd (r25)[0]? fun v28 =>
 (bd (r25)[1]? fun v29 =>
 (if ((V.cells v29)).length = 2 then
 (if (((V.cells v29)).length <= 2) then
 (bdS (nv (gv st8 4)) fun n30 =>
 (bd (ZK 1 n30 v6) fun p31 =>
 (bd3 (zu h26 p31) fun cs33 m32 o34 => if (o34 + 1 <= m32 /\ 0 < 1) then
 (bd (cs33)[o34]? fun v35 =>
 (bdS (nv v35) fun n36 =>
 (if (2 = 2 /\ n36 < ((lsl (gv st8 3))).length /\ (some 48 : Option Nat) ≠ some 10) then
 (if ((((setR [(V.int .u8 0), (V.int .i32 0)] 0 (V.cells v29))).drop 0 |>.take 2)).length = 2 then
 (if (2 = 2 /\ 0 < 2 /\ 0 + ((((setR [(V.int .u8 0), (V.int .i32 0)] 0 (V.cells v29))).drop 0 |>.take 2)).length <= 2) then
 (bd ((lsl (gv st8 3)))[n36]? fun es37 =>
 (bd (bop prog .add 3 (gv st8 4) (V.int .i64 1)) fun v38 =>
 (next10 [v28, (V.sl 1 (lsl (gv st8 1)) false), (V.sl 2 (lsl (gv st8 2)) false), (V.sl 2 (((lsl (gv st8 3))).set n36 (setR es37 0 (((setR [(V.int .u8 0), (V.int .i32 0)] 0 (V.cells v29))).drop 0 |>.take 2))) false), v38, (V.bool false)] h26))) else none) else none) else none))) else none))) else none) else none)))) (fun z27 h26 => some (Res.pan z27, h26))) else none)))) else none)))
 else
 some (Res.ret [(gv st8 0), (V.sl 2 (lsl (gv st8 3)) false)], hh9))))
noncomputable def zkd (n : Nat) (m : Int) (s : V) (l : V) : Option (Res × zd) :=
 (bd (ZW [] l) fun p0 =>
 (bdS (nv (V.int .i64 ((p0.2).length : Int))) fun n1 =>
 (bdS (nv (V.int .i64 ((p0.2).length : Int))) fun n2 =>
 (if (n1 <= n2 /\ n2 < lim /\ 2 = 2) then
 (cl (call n 64 [(V.int .u8 3), l] []) (fun r3 h4 =>
 (ZI r3 fun v6 =>
 (zV n (YU n m l v6) [s, (V.sl 1 [] false), (V.sl 2 [] false), (V.sl 2 (List.replicate n1 [(V.int .u8 0), (V.int .i32 0)]) false), (V.int .i64 0), (V.bool false)] h4))) (fun z5 h4 => some (Res.pan z5, h4))) else none))))
theorem zmE (n : Nat) (m : Int) (s : V) (l : V) (h : zd) : call (n + 1) 22 [(V.int .u8 3), (V.int .i64 m), s, l] h = gcw [(V.int .u8 3), (V.int .i64 m), s, l] (zkd n m s l) h := by kernel_rfl
end Go.Proofs.Tryz
namespace Go.Proofs.Tryz
open Go.L Go.Rp Go.Sk
set_option maxRecDepth 100000
def zll (a b : O) : Bool := if a.k = 1 /\ b.k = 1 then decide (a.v <= b.v) else decide (a.k = 1 \/ b.k ≠ 1)
def Yf (os : List O) (x : Int) : Int := if (oAt os x).k = 1 then (oAt os x).v else 2147483648
def zbu (os : List O) : Prop := ∀ x ∈ os, -2147483648 <= x.v /\ x.v < 2147483648
theorem zke (n : Nat) (a b : O) (h : zd) : call (n + 1) 95 [.agg [.int .u8 a.k, .int .i32 a.v], .agg [.int .u8 b.k, .int .i32 b.v]] h = some (.ret [.bool (zll a b)], h) := by
 rw [zoO]
 unfold zqw zll
 by_cases h1 : a.k = 1 <;> by_cases h2 : b.k = 1 <;> simp [h1, h2]
theorem zoR {os : List O} {i j : Nat} {x y : O} (hs : zbu os) (hx : os[i]? = some x) (hy : os[j]? = some y) : (!zll y x) = decide (Yf os (i : Int) < Yf os (j : Int)) := by
 have hxs := hs x (zH hx)
 have hys := hs y (zH hy)
 unfold Yf zll
 rw [Jd hx, Jd hy]
 by_cases h1 : x.k = 1 <;> by_cases h2 : y.k = 1
 · simp only [h1, h2, and_self, if_true]; by_cases h3 : y.v <= x.v <;> simp [h3] <;> omega
 · simp [h1, h2]; omega
 · simp [h1, h2]; omega
 · simp [h1, h2]
theorem ziL (a b : List Int) (h : a.length + b.length < lim) : app 3 1 (.own 3 1 (iL a)) (iL b) = some (iL (a ++ b)) := by
 simp [app, h, iL]
theorem zmF (b : List Int) (h : b.length < lim) : app 3 1 (.own 3 1 []) (iL b) = some (iL b) := by
 simp [app, h, iL]
theorem zoS (x : Int) : JD prog 55 1 [(0, .int .i64 x)] = some (1, iL [x]) := by kernel_rfl
theorem zrA {a b : Nat} {l : List (List V)} {sb : Bool} (h1 : a <= b) (h2 : b <= l.length) : ZP 1 a b (none : Option Nat) true (.sl 1 l sb) = some (.sl 1 ((l.take b).drop a) false) := by
 simp [ZP, h1, h2]
theorem zpZ (l : List Int) (n : Nat) : (iL l).take n = iL (l.take n) := by simp [iL, List.map_take]
theorem zp0 (l : List Int) (n : Nat) : (iL l).drop n = iL (l.drop n) := by simp [iL, List.map_drop]
theorem zdu {H : zd} {l : List Int} {a k : Nat} {N : List (List V) -> V -> Option (Res × zd)} {c1 c2 : Nat × List (List V) -> Prop} {d1 : ∀ p, Decidable (c1 p)} {d2 : ∀ p, Decidable (c2 p)} (h1 : ∀ p, p.1 = 1 -> c1 p) (h2 : ∀ p, p.1 = 1 -> c2 p) (ha : a <= l.length) (hl : l.length + 2 < lim) (hk : k + 1 < lim) :
    (bd (QC (V.sl 1 (iL l) false)) fun n47 =>
     (bd (ZP 1 0 a (none : Option Nat) true (V.sl 1 (iL l) false)) fun v49 =>
     (bdS (ZW H v49) fun p50 =>
     (if c1 p50 then
     (bd (app 3 1 (S.own 3 1 []) p50.2) fun l51 =>
     (bd (JD prog 55 1 [(0, (V.int .i64 (k : Int)))]) fun p52 =>
     (bd (app 3 1 (S.own 3 1 l51) p52.2) fun l53 =>
     (bd (QC (V.sl 1 (iL l) false)) fun n54 =>
     (bd (ZP 1 a n54 (none : Option Nat) true (V.sl 1 (iL l) false)) fun v56 =>
     (bdS (ZW H v56) fun p57 =>
     (if c2 p57 then
     (bd (app 3 1 (S.own 3 1 l53) p57.2) fun l58 =>
     (bd (bop prog .add 3 (V.int .i64 (k : Int)) (V.int .i64 1)) fun v59 => N l58 v59)) else none))))))) else none)))) = N (iL (l.take a ++ (k : Int) :: l.drop a)) (.int .i64 ((k + 1 : Nat) : Int)) := by
 have e1 : IntKind.i64.wrap ((k : Int) + 1) = ((k + 1 : Nat) : Int) := Xv (by omega)
 have t1 : (l.take a).length <= l.length := by rw [Ze]; omega
 rw [Kj, za, zrA (Zg _) (by rw [XG]; exact ha), za, Xb, zw, if_pos (h1 _ rfl)]
 simp only [zN]
 rw [zpZ, zmF _ (by omega), za, zoS, za]
 simp only
 rw [ziL _ _ (by simp; omega), za, za, zrA (by rw [XG]; exact ha) (zk _), za, Xb, zw, if_pos (h2 _ rfl)]
 simp only [Qq]
 rw [zp0, ziL _ _ (by simp; omega), za, zK, za, e1]
 simp
theorem zqX {a b : List Int} {x : Int} : (a ++ x :: b)[a.length]? = some x := by
 rw [zG (zk _), QL]; rfl
theorem zdv (N : Nat) (os : List O) (b : Bool) (hs : zbu os) (H : zd) (k : Nat) (x : O) (hx : os[k]? = some x) (v0 v1 : V) (next3 : List V -> zd -> Option (Res × zd)) (hl : os.length + 2 < lim) : ∀ (r b' : List Int) (M : Nat), r.length + b'.length <= os.length -> (∀ y ∈ r, 0 <= y /\ y < (os.length : Int)) -> r.length < M →
    zV M (YT (N + 1) (.sl 2 (os.map O.w) b) [v0, v1, .int .i64 (k : Int)] next3) [.sl 1 [] false, .sl 1 (iL (r.reverse ++ b')) false, .int .i64 (r.length : Int)] H = next3 [.sl 1 [] false, .sl 1 (iL (jN (Yf os) r (k : Int) b')) false, .int .i64 ((k + 1 : Nat) : Int)] H
 | _, _, 0, _, _, h => by omega
 | [], b', M + 1, hrl, hr, hM => by
   have hkl : k < os.length := (zi.1 hx).1
   rw [zD]
   unfold YT
   simp only [gv, zh, zf, Xy, za, zm, lsl, Zd, zw]
   rw [if_neg (by simp)]
   simp only [List.reverse_nil, zX]
   refine (zdu (H := H) (l := b') (a := ([] : List Int).length) (k := k) (N := fun l v => next3 [.sl 1 [] false, .sl 1 l false, v] H) (fun p h => by simp [h]) (fun p h => by simp [h]) (by simp) (by simp at hrl; omega) (by omega)).trans ?_
   simp [jN]
 | y :: r, b', M + 1, hrl, hr, hM => by
   have hkl : k < os.length := (zi.1 hx).1
   obtain ⟨hy0, hy1⟩ := hr y (by simp)
   obtain ⟨j, rfl⟩ := Int.eq_ofNat_of_zero_le hy0
   obtain ⟨v, hv⟩ : ∃ v, os[j]? = some v := ⟨_, zg (by omega)⟩
   simp only [zA] at hrl hM
   have e1 : IntKind.i64.wrap (((((j : Nat) : Int) :: r).length : Nat) - 1 : Int) = ((r.length : Nat) : Int) := wN (by simp) (by omega)
   have hL : ((j : Int) :: r).reverse ++ b' = r.reverse ++ ((j : Int) :: b') := by simp
   have s1 : (r.reverse ++ (j : Int) :: b')[r.length]? = some (j : Int) := by
    have := zqX (a := r.reverse) (b := b') (x := (j : Int))
    rwa [Jw] at this
   have s2 : (iL (r.reverse ++ (j : Int) :: b'))[r.length]? = some [.int .i64 (j : Int)] := by unfold iL; rw [zI, s1]; rfl
   have l1 := (zi.1 s1).1
   have hxv : (os.map O.w)[k]? = some (O.w x) := by rw [Yx, hx]; rfl
   have hvv : (os.map O.w)[j]? = some (O.w v) := by rw [Yx, hv]; rfl
   have ih := zdv N os b hs H k x hx v0 v1 next3 hl r ((j : Int) :: b') M (by simp; omega) (fun u hu => hr u (zp _ hu)) (by omega)
   rw [hL]
   have hou : ∀ u : O, V.agg (List.take 2 (List.drop 0 (O.w u))) = .agg [.int .u8 u.k, .int .i32 u.v] := fun _ => rfl
   have key : ∀ next, YT (N + 1) (.sl 2 (os.map O.w) b) [v0, v1, .int .i64 (k : Int)] next3 [.sl 1 [] false, .sl 1 (iL (r.reverse ++ (j : Int) :: b')) false, .int .i64 (((j : Int) :: r).length : Int)] H next = if Yf os (k : Int) < Yf os (j : Int) then next [.sl 1 [] false, .sl 1 (iL (r.reverse ++ (j : Int) :: b')) false, .int .i64 (r.length : Int)] H else next3 [.sl 1 [] false, .sl 1 (iL (r.reverse ++ (j : Int) :: (k : Int) :: b')) false, .int .i64 ((k + 1 : Nat) : Int)] H := by
    intro next
    unfold YT
    simp only [gv, zh, zf, Xy, za, zm, lsl, ZN, e1, Zd, zw, XG]
    rw [if_pos (by simp), if_pos (by first | exact ⟨rfl, l1, by decide⟩ | exact ⟨trivial, l1, by decide⟩), s2, za]
    simp only [zb, za, Zd, zw, Xl hvv, Xl hxv, ZC, zo, zr, zk, Nat.reduceLT, and_self, if_true, hou]
    rw [zke, zM, zE, Ki, za, zm, zoR hs hx hv]
    by_cases h : Yf os (k : Int) < Yf os (j : Int)
    · rw [if_pos (decide_eq_true h), if_pos h]
    · rw [if_neg (by simpa using h), if_neg h]
      refine (zdu (H := H) (l := r.reverse ++ (j : Int) :: b') (a := ((j : Int) :: r).length) (k := k) (N := fun l v => next3 [.sl 1 [] false, .sl 1 l false, v] H) (fun p h => by simp [h]) (fun p h => by simp [h]) (by simp) (by simp; omega) (by omega)).trans ?_
      rw [<- hL, List.take_left' (by simp), List.drop_left' (by simp)]
      simp
   rw [zD, key]
   by_cases h : Yf os (k : Int) < Yf os (j : Int)
   · rw [if_pos h, jN, if_pos h]
     exact ih
   · rw [if_neg h, jN, if_neg h]
theorem zeZ (N : Nat) (os : List O) (b : Bool) (hs : zbu os) (H : zd) (hl : os.length + 2 < lim) (hN : os.length + 2 <= N) : ∀ (d k M : Nat), k + d = os.length -> d < M →
    zV M (W0 (N + 1) (.sl 2 (os.map O.w) b)) [.sl 1 [] false, .sl 1 (iL (jO (Yf os) k)) false, .int .i64 (k : Int)] H = some (.ret [.sl 1 (iL (jO (Yf os) os.length)) false], H)
 | d, k, 0, _, h => by omega
 | 0, k, M + 1, hk, _ => by
   obtain rfl : k = os.length := by omega
   rw [zD]
   unfold W0
   simp only [gv, zh, zf, Xb, zx, zt, za, zm]
   rw [if_neg (by simp)]
   rfl
 | d + 1, k, M + 1, hk, hM => by
   have hlt : decide ((k : Int) < (os.length : Int)) = true := by simp; omega
   obtain ⟨x, hx⟩ : ∃ x, os[k]? = some x := ⟨_, zg (by omega)⟩
   have ih := zeZ N os b hs H hl hN d (k + 1) M (by omega) (by omega)
   have inner := fun next3 => zdv N os b hs H k x hx (.sl 1 [] false) (.sl 1 (iL (jO (Yf os) k)) false) next3 hl (jO (Yf os) k).reverse [] (N + 1) (by simp [zin]; omega) (fun y hy => by
       have := zaf.1 (List.mem_reverse.1 hy); omega) (by simp [zin]; omega)
   have key : ∀ next, W0 (N + 1) (.sl 2 (os.map O.w) b) [.sl 1 [] false, .sl 1 (iL (jO (Yf os) k)) false, .int .i64 (k : Int)] H next = next [.sl 1 [] false, .sl 1 (iL (jO (Yf os) (k + 1))) false, .int .i64 ((k + 1 : Nat) : Int)] H := by
    intro next
    have i := inner next
    rw [QM, Zm, Jw] at i
    refine Eq.trans ?_ i
    unfold W0
    simp only [gv, zh, zf, Xb, zx, zt, za, zm, hlt, if_true, lsl, XG]
   rw [zD, key]
   exact ih
theorem zoT (os : List O) (hs : zbu os) : jO (Yf os) os.length = Z1 os ++ Xg os := by
 have hsd : Sd (Yf os) (Z1 os ++ Xg os) := by
  refine Zz.2 ⟨?_, ?_, fun a ha b hb => .inl ?_⟩
  · refine (List.Pairwise.and_mem.1 (ziy os)).imp fun ⟨ha, hb, h⟩ => ?_
    have h1 := (XS os _ ha).2.2
    have h2 := (XS os _ hb).2.2
    unfold Ah YA at h
    unfold Ah Yf
    rw [if_pos h1, if_pos h2]
    exact h
  · have hp : ∀ n : Nat, (Qy os n).Pairwise (· < ·) := fun n => by
      induction n with
      | zero => exact .nil
      | succ n ih =>
        simp only [Qy]
        split
        · exact ih
        · refine Zz.2 ⟨ih, JU .., fun a ha b hb => ?_⟩
          rw [Zy.1 hb]
          exact (Qi os _ a ha).2.1
    refine (List.Pairwise.and_mem.1 (hp os.length)).imp fun ⟨ha, hb, h⟩ => .inr ⟨?_, h⟩
    unfold Yf
    rw [if_neg (Qi os _ _ ha).2.2, if_neg (Qi os _ _ hb).2.2]
  · have h1 := XS os a ha
    have h2 := Qi os _ b hb
    unfold Yf
    rw [if_pos h1.2.2, if_neg h2.2.2]
    obtain ⟨k, rfl⟩ : ∃ k : Nat, a = (k : Int) := ⟨a.toNat, (ZD h1.1).symm⟩
    obtain ⟨o, ho⟩ : ∃ o, os[k]? = some o := ⟨_, zg (by omega)⟩
    rw [Jd ho]
    exact (hs o (zH ho)).2
 refine zaS (K := Yf os) ?_ (zf9 _) hsd
 have nd : (Z1 os ++ Xg os).Nodup := hsd.imp fun h => by rintro rfl; exact h.asymm h
 refine (List.perm_ext_iff_of_nodup (zjY _) nd).2 fun x => ⟨fun hx => ?_, fun hx => ?_⟩
 · obtain ⟨h1, h2⟩ := zaf.1 hx
   have := zmA os x.toNat (by omega)
   rwa [ZD h1] at this
 · exact zaf.2 (zeW os x hx)
theorem ziM (n : Nat) (os : List O) (b : Bool) (h : zd) (hs : zbu os) (hl : os.length + 2 < lim) (hn : os.length + 4 <= n) :
    call n 64 [.int .u8 3, .sl 2 (os.map O.w) b] h = some (.ret [.sl 1 (iL (Z1 os ++ Xg os)) false], h) := by
 obtain ⟨N, rfl⟩ : ∃ N, n = (N + 1) + 1 := ⟨n - 2, by omega⟩
 refine (zmB (N + 1) _ h).trans ?_
 unfold zoP
 have e := zeZ N os b hs [] hl (by omega) os.length 0 (N + 1) (by omega) (by omega)
 rw [zoT os hs] at e
 rw [show jO (Yf os) 0 = [] from rfl] at e
 have e' : zV (N + 1) (W0 (N + 1) (.sl 2 (os.map O.w) b)) [.sl 1 [] false, .sl 1 [] false, .int .i64 0] [] = some (.ret [.sl 1 (iL (Z1 os ++ Xg os)) false], []) := e
 rw [e']
 generalize Z1 os ++ Xg os = L
 exact WS (by simp [Ws O.w (fun _ => rfl)]) (by simp [Xf])
end Go.Proofs.Tryz
namespace Go.Proofs.Tryz
open Go.L Go.Rp Go.Sk
set_option maxRecDepth 100000
abbrev vL (l : List Int) : List (List V) := l.map (Xf .i32)
def zgk (s : List Int) (v : Int) : List Int := s.takeWhile (· <= v) ++ v :: s.dropWhile (· <= v)
theorem KC (l : List Int) : (vL l).length = l.length := zx ..
theorem zgl (l : List Int) (n : Nat) : (vL l).take n = vL (l.take n) := by simp [vL, List.map_take]
theorem zgm (l : List Int) (n : Nat) : (vL l).drop n = vL (l.drop n) := by simp [vL, List.map_drop]
theorem zdw (a b : List Int) (h : a.length + b.length < lim) : app 21 1 (.own 21 1 (vL a)) (vL b) = some (vL (a ++ b)) := by
 simp [app, h, vL]
theorem Yu (b : List Int) (h : b.length < lim) : app 21 1 (.own 21 1 []) (vL b) = some (vL b) := by
 simp [app, h, vL]
theorem zqY (x : Int) : JD prog 27 1 [(0, .int .i32 x)] = some (1, vL [x]) := by kernel_rfl
theorem zkf {sz z a b : Nat} {l : List (List V)} {sb : Bool} (hz : z = sz \/ l.isEmpty = true) (h1 : a <= b) (h2 : b <= l.length) : ZP sz a b (none : Option Nat) true (.sl z l sb) = some (.sl sz ((l.take b).drop a) false) := by
 have hc : a <= b /\ b <= l.length /\ (z = sz \/ l.isEmpty = true) /\ ((none : Option Nat) = none \/ (none : Option Nat) = some b) /\ true = true := ⟨h1, h2, hz, .inl rfl, rfl⟩
 show (if _ then _ else _) = _
 rw [if_pos hc]
 rfl
theorem ziN {H : zd} {l : List Int} {z : Nat} {sb : Bool} {a : Nat} {v : Int} {N : List (List V) -> Option (Res × zd)} {c1 c2 : Nat × List (List V) -> Prop} {d1 : ∀ p, Decidable (c1 p)} {d2 : ∀ p, Decidable (c2 p)} (hz : z = 1 \/ l = []) (h1 : ∀ p, p.1 = 1 -> c1 p) (h2 : ∀ p, p.1 = 1 -> c2 p) (ha : a <= l.length) (hl : l.length + 2 < lim) :
    (bd (QC (V.sl z (vL l) sb)) fun n47 =>
     (bd (ZP 1 0 a (none : Option Nat) true (V.sl z (vL l) sb)) fun v49 =>
     (bdS (ZW H v49) fun p50 =>
     (if c1 p50 then
     (bd (app 21 1 (S.own 21 1 []) p50.2) fun l51 =>
     (bd (JD prog 27 1 [(0, (V.int .i32 v))]) fun p52 =>
     (bd (app 21 1 (S.own 21 1 l51) p52.2) fun l53 =>
     (bd (QC (V.sl z (vL l) sb)) fun n54 =>
     (bd (ZP 1 a n54 (none : Option Nat) true (V.sl z (vL l) sb)) fun v56 =>
     (bdS (ZW H v56) fun p57 =>
     (if c2 p57 then
     (bd (app 21 1 (S.own 21 1 l53) p57.2) fun l58 => N l58) else none))))))) else none)))) = N (vL (l.take a ++ v :: l.drop a)) := by
 have t1 : (l.take a).length <= l.length := by rw [Ze]; omega
 have hz' : z = 1 \/ (vL l).isEmpty = true := hz.imp id fun e => by rw [e]; rfl
 rw [Kj, za, zkf hz' (Zg _) (by rw [KC]; exact ha), za, Xb, zw, if_pos (h1 _ rfl)]
 simp only [zN]
 rw [zgl, Yu _ (by omega), za, zqY, za]
 simp only
 rw [zdw _ _ (by simp; omega), za, za, zkf hz' (by rw [KC]; exact ha) (zk _), za, Xb, zw, if_pos (h2 _ rfl)]
 simp only [Qq]
 rw [zgm, zdw _ _ (by simp; omega), za]
 simp
theorem zlm {s : List Int} {v : Int} {a : Nat} (h1 : ∀ y ∈ s.take a, y <= v) (h2 : ∀ y, s[a]? = some y -> ¬ y <= v) : s.take a ++ v :: s.drop a = zgk s v := by
 unfold zgk
 have e : s = s.take a ++ s.drop a := (Zv a s).symm
 have hd : (s.drop a).takeWhile (· <= v) = [] /\ (s.drop a).dropWhile (· <= v) = s.drop a := by
  cases hda : s.drop a with
  | nil => exact ⟨rfl, rfl⟩
  | cons y r =>
    have : s[a]? = some y := by
     have := congrArg (fun l => l[0]?) hda
     simpa [Zi] using this
    have hy := h2 y this
    exact ⟨List.takeWhile_cons_of_neg (by simpa using hy), List.dropWhile_cons_of_neg (by simpa using hy)⟩
 have h3 : s.takeWhile (· <= v) = s.take a := by
  conv => lhs; rw [e]
  rw [List.takeWhile_append_of_pos (fun y hy => by simpa using h1 y hy), hd.1, Zm]
 have h4 : s.dropWhile (· <= v) = s.drop a := by
  conv => lhs; rw [e]
  rw [List.dropWhile_append_of_pos (fun y hy => by simpa using h1 y hy), hd.2]
 rw [h3, h4]
theorem zmG (n : Nat) (s : List Int) (z : Nat) (sb : Bool) (hz : z = 1 \/ s = []) (k v : Int) (H : zd) (hl : s.length + 2 < lim) : ∀ (d a M : Nat), a + d = s.length -> d < M -> (∀ y ∈ s.take a, y <= v) →
    zV M (jn n (.sl z (vL s) sb)) [.agg [.int .u8 k, .int .i32 v], .sl 1 [] false, .agg [.int .u8 0, .int .i32 0], .int .i64 (a : Int)] H = some (.ret [.sl 1 (vL (zgk s v)) false, .agg [.int .u8 1, .int .i32 0]], H) := by
 have hl7 : lcs (V.agg [.int .u8 k, .int .i32 v]) = [.int .u8 k, .int .i32 v] := rfl
 intro d
 induction d with
 | zero =>
   intro a M h1 h2 h3
   obtain ⟨M, rfl⟩ : ∃ M', M = M' + 1 := ⟨M - 1, by omega⟩
   obtain rfl : a = s.length := by omega
   rw [zD]
   unfold jn
   simp only [gv, zh, zf, Xb, KC, zt, za, zm, hl7, zj, zb, Zd, zw]
   rw [if_neg (by simp)]
   refine (ziN (H := H) (l := s) (a := s.length) (v := v) (N := fun l => some (Res.ret [.sl 1 l false, .agg [.int .u8 1, .int .i32 0]], H)) hz (fun p h => by simp [h]) (fun p h => by simp [h]) (zk _) hl).trans ?_
   rw [zlm h3 (fun y hy => by simp at hy)]
 | succ d ih =>
   intro a M h1 h2 h3
   obtain ⟨M, rfl⟩ : ∃ M', M = M' + 1 := ⟨M - 1, by omega⟩
   obtain ⟨x, hx⟩ : ∃ x, s[a]? = some x := ⟨_, zg (by omega)⟩
   have hxv : (vL s)[a]? = some [.int .i32 x] := by unfold vL; rw [zI, hx]; rfl
   obtain rfl : z = 1 := hz.resolve_right (by rintro rfl; simp at hx)
   have hlt : decide ((a : Int) < (s.length : Int)) = true := by simp; omega
   have key : ∀ next, jn n (.sl 1 (vL s) sb) [.agg [.int .u8 k, .int .i32 v], .sl 1 [] false, .agg [.int .u8 0, .int .i32 0], .int .i64 (a : Int)] H next = if x <= v then next [.agg [.int .u8 k, .int .i32 v], .sl 1 [] false, .agg [.int .u8 0, .int .i32 0], .int .i64 ((a + 1 : Nat) : Int)] H else some (.ret [.sl 1 (vL (s.take a ++ v :: s.drop a)) false, .agg [.int .u8 1, .int .i32 0]], H) := by
    intro next
    unfold jn
    simp only [gv, zh, zf, Xb, KC, zt, za, zm, hl7, zj, zb, Zd, zw, hlt, if_true, Xl hxv, ZC, zo, zr, zk, Nat.reduceLT, and_self, K7]
    by_cases h : x <= v
    · rw [if_pos (by simpa using h), if_pos h, zK, za, Xv (by omega)]
      rfl
    · rw [if_neg (by simpa using h), if_neg h]
      exact ziN (H := H) (l := s) (a := a) (v := v) (N := fun l => some (Res.ret [.sl 1 l false, .agg [.int .u8 1, .int .i32 0]], H)) (.inl rfl) (fun p h => by simp [h]) (fun p h => by simp [h]) (by omega) hl
   rw [zD, key]
   by_cases h : x <= v
   · rw [if_pos h]
     refine ih (a + 1) M (by omega) (by omega) fun y hy => ?_
     rw [List.take_add_one, hx] at hy
     rcases Zl.1 hy with hy | hy
     · exact h3 y hy
     · simp at hy; omega
   · rw [if_neg h, zlm h3 fun y hy => by rw [hx] at hy; cases hy; exact h]
def Wx (most : Int) (s : List Int) (o : O) : List Int × R :=
 if o.k = 1 then (if most <= (s.length : Int) then (s, ⟨3, 0⟩) else (zgk s o.v, ⟨1, 0⟩))
 else if o.k = 2 then (match s with | [] => (s, ⟨4, 0⟩) | x :: r => (r, ⟨2, x⟩))
 else (s, ⟨5, 0⟩)
theorem ziO (x : Int) : (if 0 < (if 1000 < x then 1000 else x) then (if 1000 < x then 1000 else x) else (0 : Int)) = max 0 (min x 1000) := by
 split <;> split at * <;> omega
theorem zmH (n : Nat) (m : Int) (s : List Int) (z : Nat) (sb : Bool) (hz : z = 1 \/ s = []) (k v : Int) (H : zd) (hl : s.length + 2 < lim) (hn : s.length + 2 <= n) :
    ∃ z' sb', call (n + 1) 94 [.int .i64 m, .sl z (vL s) sb, .agg [.int .u8 k, .int .i32 v]] H = some (.ret [.sl z' (vL (Wx (max 0 (min m 1000)) s ⟨k, v⟩).1) sb', .agg (R.w (Wx (max 0 (min m 1000)) s ⟨k, v⟩).2)], H) /\ (z' = 1 \/ (Wx (max 0 (min m 1000)) s ⟨k, v⟩).1 = []) := by
 rw [zoQ]
 obtain ⟨n, rfl⟩ : ∃ n', n = n' + 1 := ⟨n - 1, by omega⟩
 have hmost : call (n + 1) 129 [.int .i64 m] H = some (.ret [.int .i64 (max 0 (min m 1000))], H) := by
  rw [ziI]; unfold zoJ; rw [ziO]
 obtain ⟨mo, hmo⟩ : ∃ mo, mo = max 0 (min m 1000) := ⟨_, rfl⟩
 rw [<- hmo] at hmost ⊢
 unfold zqx
 by_cases h1 : k = 1
 · subst h1
   rw [if_pos (by rfl), Xb, za, hmost, zM, zE]
   simp only [KC, Xa, za, zm]
   by_cases h2 : mo <= (s.length : Int)
   · have hst : Wx mo s ⟨1, v⟩ = (s, ⟨3, 0⟩) := by unfold Wx; rw [if_pos rfl, if_pos h2]
     rw [if_pos (by exact decide_eq_true h2), hst]
     exact ⟨z, sb, rfl, hz⟩
   · have hst : Wx mo s ⟨1, v⟩ = (zgk s v, ⟨1, 0⟩) := by unfold Wx; rw [if_pos rfl, if_neg h2]
     rw [if_neg (by intro e; exact h2 (of_decide_eq_true e)), if_pos (by rfl), hst]
     exact ⟨1, false, zmG (n + 1) s z sb hz 1 v H hl s.length 0 (n + 1) (by omega) (by omega) (by simp), .inl rfl⟩
 · rw [if_neg (by simpa using h1), if_neg (by simpa using h1)]
   by_cases h2 : k = 2
   · subst h2
     rw [if_pos (by rfl), Xb, za]
     simp only [KC]
     cases s with
     | nil =>
       rw [if_pos (by rfl)]
       exact ⟨z, sb, rfl, .inr rfl⟩
     | cons x r =>
       obtain rfl : z = 1 := hz.resolve_right (by simp)
       have hxv : (vL (x :: r))[0]? = some [.int .i32 x] := rfl
       rw [if_neg (by simp; omega), if_pos (by rfl), Kj, za, zkf (.inl rfl) (by simp) (zk _), za, Xb, zw, if_pos (by first | exact ⟨rfl, .inl rfl⟩ | exact ⟨trivial, .inl rfl⟩)]
       simp only [Qq]
       rw [zgm, Yu _ (by simp at hl ⊢; omega), za, Xl hxv, za, ZC, zo, if_pos (by decide)]
       simp only [zb, za, zak]
       exact ⟨1, false, rfl, .inl rfl⟩
   · have hst : Wx mo s ⟨k, v⟩ = (s, ⟨5, 0⟩) := by unfold Wx; rw [if_neg h1, if_neg h2]
     rw [if_neg (by simpa using h2), if_neg (by simpa using h2), hst]
     exact ⟨z, sb, rfl, hz⟩
theorem ziP (n : Nat) (m : Int) (s : List Int) (z : Nat) (sb : Bool) (hz : z = 1 \/ s = []) (o : O) (H : zd) (hl : s.length + 2 < lim) (hn : s.length + 2 <= n) :
    ∃ z' sb', call (n + 2) 63 [.int .u8 3, .int .i64 m, .sl z (vL s) sb, .agg [.int .u8 o.k, .int .i32 o.v]] H = some (.ret [.sl z' (vL (Wx (max 0 (min m 1000)) s o).1) sb', .agg (R.w (Wx (max 0 (min m 1000)) s o).2)], H) /\ (z' = 1 \/ (Wx (max 0 (min m 1000)) s o).1 = []) := by
 obtain ⟨z', sb', e, hz'⟩ := zmH n m s z sb hz o.k o.v [] hl hn
 refine ⟨z', sb', ?_, hz'⟩
 refine (zmD (n + 1) m (.sl z (vL s) sb) o.k o.v H).trans ?_
 have key : zkc (n + 1) m (.sl z (vL s) sb) o.k o.v = some (.ret [.sl z' (vL (Wx (max 0 (min m 1000)) s o).1) sb', .agg (R.w (Wx (max 0 (min m 1000)) s o).2)], []) := by
  unfold zkc
  rw [e, zM]
  rfl
 rw [key]
 generalize Wx (max 0 (min m 1000)) s o = q
 exact WS (by simp [Xf]) (by simp [Xf, R.w])
def zd3 (os : List O) (most : Int) : List Int -> List Int -> List R -> List Int × List R
 | [], s, told => (s, told)
 | k :: l, s, told => zd3 os most l (Wx most s (oAt os k)).1 (told.set k.toNat (Wx most s (oAt os k)).2)
theorem zoU (s : List Int) (v : Int) : (zgk s v).length = s.length + 1 := by
 unfold zgk
 rw [zB, zA]
 have := congrArg List.length (List.takeWhile_append_dropWhile (p := fun y : Int => decide (y <= v)) (l := s))
 rw [zB] at this
 omega
theorem zoV (most : Int) (s : List Int) (o : O) : (Wx most s o).1.length <= s.length + 1 := by
 unfold Wx
 split
 · split
   · simp
   · simp [zoU]
 · split
   · cases s <;> simp <;> omega
   · simp
theorem ziQ (n : Nat) (m : Int) (os : List O) (b : Bool) (L : List Int) (hL : ∀ x ∈ L, 0 <= x /\ x < (os.length : Int)) (H : zd) (hlim : L.length < lim) : ∀ (d i M : Nat) (s : List Int) (z : Nat) (sb : Bool) (told : List R) (v1 v2 v5 : V), i + d = L.length -> d < M -> (z = 1 \/ s = []) -> s.length + d + 2 < lim -> s.length + d + 2 <= n -> told.length = os.length →
    ∃ z' sb', zV M (YU (n + 2) m (.sl 2 (os.map O.w) b) (.sl 1 (iL L) false)) [.sl z (vL s) sb, v1, v2, .sl 2 (told.map R.w) false, .int .i64 (i : Int), v5] H = some (.ret [.sl z' (vL (zd3 os (max 0 (min m 1000)) (L.drop i) s told).1) sb', .sl 2 ((zd3 os (max 0 (min m 1000)) (L.drop i) s told).2.map R.w) false], H) /\ (z' = 1 \/ (zd3 os (max 0 (min m 1000)) (L.drop i) s told).1 = []) := by
 intro d
 induction d with
 | zero =>
   intro i M s z sb told v1 v2 v5 h1 h2 hz hl hn ht
   obtain ⟨M, rfl⟩ : ∃ M', M = M' + 1 := ⟨M - 1, by omega⟩
   obtain rfl : i = L.length := by omega
   rw [List.drop_length]
   refine ⟨z, sb, ?_, hz⟩
   rw [zD]
   unfold YU
   simp only [gv, zh, zf, Xb, XG, zt, za, zm]
   rw [if_neg (by simp)]
   rfl
 | succ d ih =>
   intro i M s z sb told v1 v2 v5 h1 h2 hz hl hn ht
   obtain ⟨M, rfl⟩ : ∃ M', M = M' + 1 := ⟨M - 1, by omega⟩
   obtain ⟨x, hx⟩ : ∃ x, L[i]? = some x := ⟨_, zg (by omega)⟩
   have hdr : L.drop i = x :: L.drop (i + 1) := by
    rw [zT (by omega)]
    rw [zg (by omega)] at hx
    rw [Option.some.inj hx]
   obtain ⟨x0, x1⟩ := hL x (zH hx)
   obtain ⟨k, rfl⟩ : ∃ k : Nat, x = (k : Int) := ⟨x.toNat, (ZD x0).symm⟩
   have hk : k < os.length := by omega
   obtain ⟨o, ho⟩ : ∃ o, os[k]? = some o := ⟨_, zg hk⟩
   have hov : (os.map O.w)[k]? = some (O.w o) := by rw [Yx, ho]; rfl
   have hoo := Jd ho
   have hxv : (iL L)[i]? = some [.int .i64 (k : Int)] := by unfold iL; rw [zI, hx]; rfl
   have hlt : decide ((i : Int) < (L.length : Int)) = true := by simp; omega
   obtain ⟨a, ha⟩ : ∃ a, told[k]? = some a := ⟨_, zg (by omega)⟩
   have hav : (told.map R.w)[k]? = some (R.w a) := by rw [Kn, ha]; rfl
   obtain ⟨z1, sb1, e1, hz1⟩ := ziP n m s z sb hz o H (by omega) (by omega)
   obtain ⟨q, hq⟩ : ∃ q, q = Wx (max 0 (min m 1000)) s o := ⟨_, rfl⟩
   have hql : q.1.length <= s.length + 1 := hq ▸ zoV _ s o
   rw [<- hq] at e1 hz1
   have hou : V.agg (List.take 2 (List.drop 0 (O.w o))) = .agg [.int .u8 o.k, .int .i32 o.v] := rfl
   have key : ∀ next, YU (n + 2) m (.sl 2 (os.map O.w) b) (.sl 1 (iL L) false) [.sl z (vL s) sb, v1, v2, .sl 2 (told.map R.w) false, .int .i64 (i : Int), v5] H next = next [.sl z1 (vL q.1) sb1, .sl 1 (lsl v1) false, .sl 2 (lsl v2) false, .sl 2 ((told.set k q.2).map R.w) false, .int .i64 ((i + 1 : Nat) : Int), .bool false] H := by
    intro next
    unfold YU
    simp only [gv, zh, zf, Xb, XG, zt, za, zm, hlt, if_true, Zd, zw, Xl hxv, Xl hov, ZC, zo, zr, zk, Nat.reduceLT, and_self, zb, hou]
    rw [e1, zM]
    simp only [zb, zj, za]
    rw [show V.cells (V.agg (R.w q.2)) = R.w q.2 from rfl]
    have hset : (told.map R.w).set k (setR (R.w a) 0 (List.take 2 (List.drop 0 (setR [V.int .u8 0, V.int .i32 0] 0 (R.w q.2))))) = (told.set k q.2).map R.w := by rw [Jb]; rfl
    rw [if_pos (by rfl), if_pos (by exact zk 2)]
    rw [if_pos (by refine ⟨?_, ?_, by decide⟩ <;> first | rfl | trivial | (show k < (told.map R.w).length; rw [zx]; omega)), if_pos (by rfl), if_pos (by refine ⟨?_, ?_, ?_⟩ <;> first | rfl | trivial | decide | exact zk 2)]
    rw [show lsl (V.sl 2 (told.map R.w) false) = told.map R.w from rfl, hav, za, zK, za, Xv (by omega), hset]
   have hrun : zd3 os (max 0 (min m 1000)) (L.drop i) s told = zd3 os (max 0 (min m 1000)) (L.drop (i + 1)) q.1 (told.set k q.2) := by
    rw [hdr, hq]
    show zd3 os _ _ (Wx _ s (oAt os (k : Int))).1 (told.set (k : Int).toNat (Wx _ s (oAt os (k : Int))).2) = _
    rw [hoo, XI]
   obtain ⟨z2, sb2, e2, hz2⟩ := ih (i + 1) M q.1 z1 sb1 (told.set k q.2) (.sl 1 (lsl v1) false) (.sl 2 (lsl v2) false) (.bool false) (by omega) (by omega) hz1 (by omega) (by omega) (by rw [zq]; exact ht)
   rw [hrun]
   exact ⟨z2, sb2, by rw [zD, key]; exact e2, hz2⟩
def zgn (os : List O) (most : Int) (s : List Int) : List Int × List R := zd3 os most (Z1 os ++ Xg os) s (List.replicate os.length ⟨0, 0⟩)
theorem zmI (os : List O) : (Z1 os ++ Xg os).length = os.length := by
 have h : ∀ n : Nat, (QO os n).length + (Qy os n).length = n := fun n => by
  induction n with
  | zero => rfl
  | succ n ih =>
    simp only [QO, Qy]
    split <;> simp <;> omega
 rw [zB, jG]
 exact h os.length
theorem ziR (n : Nat) (m : Int) (s : List Int) (z : Nat) (sb : Bool) (os : List O) (b : Bool) (H : zd) (hz : z = 1 \/ s = []) (hs : zbu os) (hl : s.length + os.length + 4 < lim) (hn : s.length + os.length + 4 <= n) :
    ∃ z' sb', call (n + 3) 22 [.int .u8 3, .int .i64 m, .sl z (vL s) sb, .sl 2 (os.map O.w) b] H = some (.ret [.sl z' (vL (zgn os (max 0 (min m 1000)) s).1) sb', .sl 2 ((zgn os (max 0 (min m 1000)) s).2.map R.w) false], H) /\ (z' = 1 \/ (zgn os (max 0 (min m 1000)) s).1 = []) := by
 have hol := zmI os
 obtain ⟨z', sb', e, hz'⟩ := ziQ n m os b (Z1 os ++ Xg os) (zeW os) [] (by omega) os.length 0 (n + 2) s z sb (List.replicate os.length ⟨0, 0⟩) (.sl 1 [] false) (.sl 2 [] false) (.bool false) (by omega) (by omega) hz (by omega) (by omega) (by simp)
 rw [zN] at e hz'
 refine ⟨z', sb', ?_, hz'⟩
 refine (zmE (n + 2) m (.sl z (vL s) sb) (.sl 2 (os.map O.w) b) H).trans ?_
 have key : zkd (n + 2) m (.sl z (vL s) sb) (.sl 2 (os.map O.w) b) = some (.ret [.sl z' (vL (zgn os (max 0 (min m 1000)) s).1) sb', .sl 2 ((zgn os (max 0 (min m 1000)) s).2.map R.w) false], []) := by
  unfold zkd
  have fN : nv (V.int .i64 (os.length : Int)) = some os.length := Zd _ _
  rw [Xb, za]
  simp only [zx]
  rw [fN, zw, zw, if_pos (by first | exact ⟨zk _, by omega, rfl⟩ | exact ⟨zk _, by omega, trivial⟩ | exact ⟨trivial, by omega, trivial⟩), ziM (n + 2) os b [] hs (by omega) (by omega), zM, zE, zj4]
  exact e
 rw [key]
 generalize zgn os (max 0 (min m 1000)) s = q
 exact WS (by simp [Xf, Ws O.w (fun _ => rfl)]) (by simp [Xf, Ws R.w (fun _ => rfl)])
end Go.Proofs.Tryz
namespace Go.Proofs.Tryz
open Go.L Go.Rp Go.Sk
set_option maxRecDepth 100000
def ze0 (h : zd) (r : V) (l : List R) : Prop := (∃ sz, ZW h r = some (sz, l.map R.w)) /\ ∀ (i : Nat) (x : R), l[i]? = some x -> ∃ p, ZK 2 i r = some p /\ zu h p = some (R.w x, 2, 0)
theorem RowR.sees {h : zd} {b : Nat} {l : List R} (r : RowR h b l) : ze0 h (.row b 2 0 l.length) l := ⟨⟨2, r.slc⟩, fun i x hx => ⟨_, r.get hx 0⟩⟩
theorem zoW (h : zd) (l : List R) (sb : Bool) : ze0 h (.sl 2 (l.map R.w) sb) l := ⟨⟨2, Xb ..⟩, fun i x hx => ⟨_, Xl (es := R.w x) (by rw [Kn, hx]; rfl) sb, ZC ..⟩⟩
theorem zp1 (h : zd) {z : Nat} {l : List Int} {sb : Bool} (hz : z = 1 \/ l = []) : zgh h (.sl z (vL l) sb) l := ⟨⟨z, Xb ..⟩, fun i x hx => by
 obtain rfl : z = 1 := hz.resolve_right (by rintro rfl; simp at hx)
 exact ⟨_, Xl (es := Xf .i32 x) (by rw [zI, hx]; rfl) sb, ZC ..⟩⟩
theorem zp2 (a b c d : Int) : bop prog .neq 35 (.agg [.int .u8 a, .int .i32 b]) (.agg [.int .u8 c, .int .i32 d]) = some (.bool !(a == c && (b == d && true))) := by kernel_rfl
theorem zkg (n : Nat) {h : zd} {a b : V} {l : List R} (ha : ze0 h a l) (hb : ze0 h b l) (hl : l.length < lim) : ∀ (d i M : Nat) (v0 : V), i + d = l.length -> d < M -> zV M (jm n a b) [v0, .int .i64 (i : Int)] h = some (.ret [.bool true], h) := by
 obtain ⟨⟨sa, hsa⟩, ga⟩ := ha
 intro d
 induction d with
 | zero =>
   intro i M v0 h1 h2
   obtain ⟨M, rfl⟩ : ∃ M', M = M' + 1 := ⟨M - 1, by omega⟩
   obtain rfl : i = l.length := by omega
   rw [zD]
   unfold jm
   rw [hsa, za]
   simp only [gv, zf, zh, zx, zt, za, zm]
   rw [if_neg (by simp)]
 | succ d ih =>
   intro i M v0 h1 h2
   obtain ⟨M, rfl⟩ : ∃ M', M = M' + 1 := ⟨M - 1, by omega⟩
   obtain ⟨x, hx⟩ : ∃ x, l[i]? = some x := ⟨_, zg (by omega)⟩
   obtain ⟨p, p1, p2⟩ := ga i x hx
   obtain ⟨q, q1, q2⟩ := hb.2 i x hx
   have hlt : decide ((i : Int) < (l.length : Int)) = true := by simp; omega
   have hc : V.agg (List.take 2 (List.drop 0 (R.w x))) = .agg [.int .u8 x.c, .int .i32 x.v] := rfl
   have key : ∀ next, jm n a b [v0, .int .i64 (i : Int)] h next = next [v0, .int .i64 ((i + 1 : Nat) : Int)] h := by
    intro next
    unfold jm
    rw [hsa, za]
    simp only [gv, zf, zh, zx, zt, za, zm, hlt, if_true, Zd, zw, p1, p2, q1, q2, zo, zr, zk, Nat.reduceLT, and_self, hc, zp2, zK, Xv (show i < lim by omega)]
    rw [if_neg (by simp)]
   rw [zD, key]
   exact ih (i + 1) M v0 (by omega) (by omega)
theorem zkh (n : Nat) {h : zd} {a b : V} {l : List R} (ha : ze0 h a l) (hb : ze0 h b l) (hl : l.length < lim) (hn : l.length < n) : call (n + 1) 24 [a, b] h = some (.ret [.bool true], h) := by
 refine (zoI n a b h).trans ?_
 unfold zqv
 obtain ⟨sa, hsa⟩ := ha.1
 obtain ⟨sb, hsb⟩ := hb.1
 rw [hsa, za, hsb, za, if_neg (by simp)]
 exact zkg n ha hb hl l.length 0 n (.bool false) (by omega) hn
theorem zoX (I : List (Int × Nat)) (v : Int) (T : Nat) : (zbN I v T).map (·.1) = zgk (I.map (·.1)) v := by
 unfold zbN zgk
 rw [ZG, zU, List.takeWhile_map, List.dropWhile_map]
 rfl
theorem zoY (most : Int) (st : St) (o : O) : ((stp most st o).1.1.map (·.1), (stp most st o).2) = Wx most (st.1.map (·.1)) o := by
 unfold stp Wx
 rw [zx]
 by_cases h1 : o.k = 1
 · rw [if_pos h1, if_pos h1]
   by_cases h2 : most <= (st.1.length : Int)
   · rw [if_pos h2, if_pos h2]
   · rw [if_neg h2, if_neg h2]
     simp only [zoX]
 · rw [if_neg h1, if_neg h1]
   by_cases h2 : o.k = 2
   · rw [if_pos h2, if_pos h2]
     obtain ⟨I, B⟩ := st
     cases I <;> rfl
   · rw [if_neg h2, if_neg h2]
theorem ziS (os : List O) (most : Int) : ∀ (l : List Int) (st : St) (told : List R), ((J5 os most l st told).1.1.map (·.1), (J5 os most l st told).2) = zd3 os most l (st.1.map (·.1)) told
 | [], st, told => rfl
 | k :: l, st, told => by
   show ((J5 os most l _ _).1.1.map (·.1), (J5 os most l _ _).2) = zd3 os most l (Wx most (st.1.map (·.1)) (oAt os k)).1 (told.set k.toNat (Wx most (st.1.map (·.1)) (oAt os k)).2)
   rw [<- zoY, ziS os most l]
theorem zmJ (os : List O) (most : Int) (st : St) : ((WJ os most st).1.1.map (·.1), (WJ os most st).2) = zgn os most (st.1.map (·.1)) := ziS os most _ st _
end Go.Proofs.Tryz
namespace Go.Proofs.Tryz
open Go.L Go.Rp Go.Sk
set_option maxRecDepth 100000
theorem zbv (n : Nat) (m : Int) (H : zd) : call (n + 1) 129 [.int .i64 m] H = some (.ret [.int .i64 (max 0 (min m 1000))], H) := by
 rw [ziI]; unfold zoJ; rw [ziO]
theorem zln {s : List Int} {x : Int} : (vL (s ++ [x]))[s.length]? = some [.int .i32 x] := by simp [vL, Xf]
theorem ziT {s : List Int} {x : Int} (hl : s.length + 2 < lim) : IntKind.i64.wrap (((vL (s ++ [x])).length : Int) - 1) = (s.length : Int) := by
 unfold lim at hl
 rw [KC, zB, ZA, w64 (by omega) (by omega)]; omega
theorem zmK (n : Nat) (m : Int) (s : List Int) (sb : Bool) (o : O) (H : zd) (hl : s.length + 2 < lim) :
    ∃ sb', call (n + 2) 92 [.int .i64 m, .sl 1 (vL s) sb, .agg [.int .u8 o.k, .int .i32 o.v]] H = some (.ret [.sl 1 (vL (Z4 (max 0 (min m 1000)) o.k o.v s).2) sb', .agg (R.w (zdb (max 0 (min m 1000)) o s))], H) := by
 rw [show n + 2 = (n + 1) + 1 from rfl, zlY]
 unfold znz zdb
 by_cases k1 : o.k = 1
 · rw [if_pos (by simp [k1]), zbv, zM, zE, Xa, za, zm, KC]
   by_cases h2 : max 0 (min m 1000) <= (s.length : Int)
   · have ht : Z4 (max 0 (min m 1000)) o.k o.v s = ((3, 0), s) := by unfold Z4; rw [if_pos k1, if_neg (by omega)]
     rw [if_pos (decide_eq_true h2), ht]
     exact ⟨sb, rfl⟩
   · have ht : Z4 (max 0 (min m 1000)) o.k o.v s = ((1, 0), s ++ [o.v]) := by unfold Z4; rw [if_pos k1, if_pos (by omega)]
     rw [if_neg (by intro e; exact h2 (of_decide_eq_true e)), if_pos (by simp [k1]), Yu _ (by omega), za]
     rw [show [[V.int IntKind.i32 o.v]] = vL [o.v] from rfl, zdw _ _ (by simp; omega), za, ht]
     exact ⟨false, rfl⟩
 rw [if_neg (by simp [k1]), if_neg (by simp [k1])]
 by_cases k2 : o.k = 2
 · rw [if_pos (by simp [k2])]
   rcases Zt s with rfl | ⟨s0, x, rfl⟩
   · have ht : Z4 (max 0 (min m 1000)) o.k o.v [] = ((4, 0), []) := by unfold Z4; rw [if_neg k1, if_pos k2]; rfl
     rw [if_neg (by simp [vL]), if_pos (by simp [k2]), ht]
     exact ⟨sb, rfl⟩
   · rw [Xt] at hl ⊢
     have ht : Z4 (max 0 (min m 1000)) o.k o.v (s0 ++ [x]) = ((2, x), s0) := by unfold Z4; rw [if_neg k1, if_pos k2]; simp
     have hl0 : s0.length + 2 < lim := by simp at hl; omega
     rw [if_pos (by simp [vL]), Kj, za, ziT hl0, Zd, zw, zkf (.inl rfl) (Zg _) (by simp [vL]), za, Xb, zw, if_pos (by first | exact ⟨rfl, .inl rfl⟩ | exact ⟨trivial, .inl rfl⟩)]
     simp only [zN]
     rw [zgl, List.take_left' rfl, Yu _ (by omega), za, zw, Xl zln, za, ZC, zo, if_pos (by decide)]
     simp only [zb, za, zak]
     rw [ht]
     exact ⟨false, rfl⟩
 · have ht : Z4 (max 0 (min m 1000)) o.k o.v s = ((5, 0), s) := by unfold Z4; rw [if_neg k1, if_neg k2]
   rw [if_neg (by simp [k2]), if_neg (by simp [k2]), ht]
   exact ⟨sb, rfl⟩
theorem zmL (n : Nat) (m : Int) (s : List Int) (sb : Bool) (o : O) (H : zd) (hl : s.length + 2 < lim) :
    ∃ sb', call (n + 2) 93 [.int .i64 m, .sl 1 (vL s) sb, .agg [.int .u8 o.k, .int .i32 o.v]] H = some (.ret [.sl 1 (vL (Zw (max 0 (min m 1000)) o.k o.v s).2) sb', .agg (R.w (zdd (max 0 (min m 1000)) o s))], H) := by
 rw [show n + 2 = (n + 1) + 1 from rfl, zlZ]
 unfold znA zdd
 rw [zbv, zM, zE, Xa, za]
 generalize hmo : max 0 (min m 1000) = mo
 by_cases hlo : o.k < 1
 · have ht : Zw mo o.k o.v s = ((5, 0), s) := by unfold Zw; rw [if_neg (by omega), if_neg (by omega), if_neg (by omega), if_neg (by omega)]
   rw [if_pos (decide_eq_true hlo), ht]
   exact ⟨sb, rfl⟩
 rw [if_neg (by simpa using hlo)]
 by_cases hhi : o.k > 4
 · have ht : Zw mo o.k o.v s = ((5, 0), s) := by unfold Zw; rw [if_neg (by omega), if_neg (by omega), if_neg (by omega), if_neg (by omega)]
   rw [if_pos (decide_eq_true hhi), ht]
   exact ⟨sb, rfl⟩
 rw [if_neg (by simpa using hhi)]
 by_cases h2 : o.k <= 2
 · rw [if_pos (decide_eq_true h2), zm, KC]
   by_cases hf : mo <= (s.length : Int)
   · have ht : Zw mo o.k o.v s = ((3, 0), s) := by
       unfold Zw
       by_cases k1 : o.k = 1
       · rw [if_pos k1, if_neg (by omega)]
       · rw [if_neg k1, if_pos (by omega), if_neg (by omega)]
     rw [if_pos (decide_eq_true hf), ht]
     exact ⟨sb, rfl⟩
   · rw [if_neg (by intro e; exact hf (of_decide_eq_true e)), if_neg (by simp; omega)]
     by_cases k1 : o.k = 1
     · have ht : Zw mo o.k o.v s = ((1, 0), o.v :: s) := by unfold Zw; rw [if_pos k1, if_pos (by omega)]
       rw [if_pos (by simp [k1]), show [[V.int IntKind.i32 o.v]] = vL [o.v] from rfl, Yu _ (by simp; omega), za, zdw _ _ (by simp; omega), za, ht]
       exact ⟨false, rfl⟩
     · have k2 : o.k = 2 := by omega
       have ht : Zw mo o.k o.v s = ((1, 0), s ++ [o.v]) := by unfold Zw; rw [if_neg k1, if_pos k2, if_pos (by omega)]
       rw [if_neg (by simp [k1]), if_pos (by simp [k2]), Yu _ (by omega), za, show [[V.int IntKind.i32 o.v]] = vL [o.v] from rfl, zdw _ _ (by simp; omega), za, ht]
       exact ⟨false, rfl⟩
 rw [if_neg (by simpa using h2), if_pos (by simp; omega)]
 by_cases k3 : o.k = 3
 · cases s with
   | nil =>
     have ht : Zw mo o.k o.v [] = ((4, 0), []) := by unfold Zw; rw [if_neg (by omega), if_neg (by omega), if_pos k3]
     rw [if_pos (by rfl), ht]
     exact ⟨sb, rfl⟩
   | cons x r =>
     have ht : Zw mo o.k o.v (x :: r) = ((2, x), r) := by unfold Zw; rw [if_neg (by omega), if_neg (by omega), if_pos k3]
     have hxv : (vL (x :: r))[0]? = some [.int .i32 x] := rfl
     rw [if_neg (by simp [vL]; omega), if_neg (by simp [k3]), if_neg (by simp [k3]), if_pos (by simp [k3]), Kj, za, zkf (.inl rfl) (by simp [vL]) (zk _), za, Xb, zw, if_pos (by first | exact ⟨rfl, .inl rfl⟩ | exact ⟨trivial, .inl rfl⟩)]
     simp only [Qq]
     rw [zgm, Yu _ (by simp at hl ⊢; omega), za, Xl hxv, za, ZC, zo, if_pos (by decide)]
     simp only [zb, za, zak]
     rw [ht]
     exact ⟨false, rfl⟩
 · have k4 : o.k = 4 := by omega
   rcases Zt s with rfl | ⟨s0, x, rfl⟩
   · have ht : Zw mo o.k o.v [] = ((4, 0), []) := by unfold Zw; rw [if_neg (by omega), if_neg (by omega), if_neg k3, if_pos k4]; rfl
     rw [if_pos (by rfl), ht]
     exact ⟨sb, rfl⟩
   · rw [Xt] at hl ⊢
     have ht : Zw mo o.k o.v (s0 ++ [x]) = ((2, x), s0) := by unfold Zw; rw [if_neg (by omega), if_neg (by omega), if_neg k3, if_pos k4]; simp
     have hl0 : s0.length + 2 < lim := by simp at hl; omega
     rw [if_neg (by simp [vL]; omega), if_neg (by simp [k4]), if_neg (by simp [k4]), if_neg (by simp [k4]), Kj, za, ziT hl0, Zd, zw, zkf (.inl rfl) (Zg _) (by simp [vL]), za, Xb, zw, if_pos (by first | exact ⟨rfl, .inl rfl⟩ | exact ⟨trivial, .inl rfl⟩)]
     simp only [zN]
     rw [zgl, List.take_left' rfl, Yu _ (by omega), za, zw, Xl zln, za, ZC, zo, if_pos (by decide)]
     simp only [zb, za, zak]
     rw [ht]
     exact ⟨false, rfl⟩
def YV (k : Nat) (m : Int) (o : O) (s : List Int) : List Int × R := if k = 1 then ((Z4 m o.k o.v s).2, zdb m o s) else ((Zw m o.k o.v s).2, zdd m o s)
theorem zgo (n : Nat) {k : Nat} (hk : k = 1 \/ k = 2) (m : Int) (s : List Int) (sb : Bool) (o : O) (H : zd) (hl : s.length + 2 < lim) :
    ∃ sb', call (n + 3) 63 [.int .u8 (k : Int), .int .i64 m, .sl 1 (vL s) sb, .agg [.int .u8 o.k, .int .i32 o.v]] H = some (.ret [.sl 1 (vL (YV k (max 0 (min m 1000)) o s).1) sb', .agg (R.w (YV k (max 0 (min m 1000)) o s).2)], H) := by
 have key : ∃ sb', zaH (n + 2) (k : Int) m (vL s) sb o.k o.v = some (.ret [.sl 1 (vL (YV k (max 0 (min m 1000)) o s).1) sb', .agg (R.w (YV k (max 0 (min m 1000)) o s).2)], []) := by
  unfold zaH
  rcases hk with rfl | rfl
  · obtain ⟨sb', e⟩ := zmK n m s sb o [] hl
    refine ⟨sb', ?_⟩
    rw [if_pos (by rfl), e, zM]
    rfl
  · obtain ⟨sb', e⟩ := zmL n m s sb o [] hl
    refine ⟨sb', ?_⟩
    rw [if_neg (by decide), if_pos (by rfl), e, zM]
    rfl
 obtain ⟨sb', key⟩ := key
 refine ⟨sb', (zfy (n + 2) _ m (vL s) sb o.k o.v H).trans ?_⟩
 rw [key]
 generalize YV k (max 0 (min m 1000)) o s = q
 exact WS (by simp [Xf]) (by simp [Xf, R.w])
def upK (n : Nat) : List Int := (List.range n).map fun i : Nat => (i : Int)
theorem KD (n : Nat) : (upK n).length = n := by simp [upK]
theorem zoZ (n : Nat) : upK (n + 1) = upK n ++ [(n : Int)] := by simp [upK, List.range_succ]
theorem zlp {n i : Nat} (h : i < n) : (iL (upK n))[i]? = some [.int .i64 (i : Int)] := by simp [iL, upK, h, Xf]
theorem zo0 (n : Nat) (os : List (List V)) (H : zd) (hl : os.length + 2 < lim) : ∀ (d k M : Nat), k + d = os.length -> d < M →
    zV M (qQ (n + 1) os) [.sl 1 [] false, .sl 1 (iL (upK k)) false, .int .i64 (k : Int)] H = some (.ret [.sl 1 (iL (upK os.length)) false], H) := by
 intro d
 induction d with
 | zero =>
   intro k M hk hM
   obtain ⟨M, rfl⟩ : ∃ M', M = M' + 1 := ⟨M - 1, by omega⟩
   obtain rfl : k = os.length := by omega
   rw [zD]
   unfold qQ
   simp only [gv, zh, zf, zt, za, zm]
   rw [if_neg (by simp)]
   rfl
 | succ d ih =>
   intro k M hk hM
   obtain ⟨M, rfl⟩ : ∃ M', M = M' + 1 := ⟨M - 1, by omega⟩
   rw [zD, <- ih (k + 1) M (by omega) (by omega)]
   have key : ∀ next, qQ (n + 1) os [.sl 1 [] false, .sl 1 (iL (upK k)) false, .int .i64 (k : Int)] H next = next [.sl 1 [] false, .sl 1 (iL (upK (k + 1))) false, .int .i64 ((k + 1 : Nat) : Int)] H := by
    intro next
    unfold qQ
    simp only [gv, zh, zf, lsl]
    rw [zt, za, zm, if_pos (by simp; omega), zD]
    unfold zkL
    simp only [gv, zh, zf, lsl]
    rw [XG, KD, Zd]
    simp only [zw]
    refine (zdu (H := H) (l := upK k) (a := k) (k := k) (N := fun l v => next [.sl 1 [] false, .sl 1 l false, v] H) (fun p h => by simp [h]) (fun p h => by simp [h]) (by rw [KD]; exact zk _) (by rw [KD]; omega) (by omega)).trans ?_
    rw [zO (by rw [KD]; exact zk _), ZT (by rw [KD]; exact zk _), zoZ]
   rw [key]
theorem zo1 (n : Nat) {k : Nat} (hk : k = 1 \/ k = 2) (os : List O) (osb : Bool) (h : zd) (hl : os.length + 2 < lim) (hn : os.length < n) : call (n + 2) 64 [.int .u8 (k : Int), .sl 2 (os.map O.w) osb] h = some (.ret [.sl 1 (iL (upK os.length)) false], h) := by
 have e : zpv (n + 1) (os.map O.w) osb = some (.ret [.sl 1 (iL (upK os.length)) false], []) := by
  unfold zpv
  have := zo0 n (os.map O.w) [] (by simpa using hl) os.length 0 (n + 1) (by simp) (by omega)
  rw [zx] at this
  exact this
 have fr : V.free.freeL [V.int IntKind.u8 (k : Int), .sl 2 (os.map O.w) osb] = true := by simp [Ws O.w (fun _ => rfl)]
 rcases hk with rfl | rfl
 · refine (zpw (n + 1) _ osb h).trans ?_
   rw [e]
   exact WS fr (by simp [iL])
 · refine (zpx (n + 1) _ osb h).trans ?_
   rw [e]
   exact WS fr (by simp [iL])
def KE (k : Nat) (m : Int) : List O -> List Int -> List R × List Int
 | [], s => ([], s)
 | o :: l, s => ((YV k m o s).2 :: (KE k m l (YV k m o s).1).1, (KE k m l (YV k m o s).1).2)
theorem zo2 (k : Nat) (m : Int) : ∀ (l : List O) (s : List Int), (KE k m l s).1.length = l.length
 | [], _ => rfl
 | o :: l, s => by simp [KE, zo2 k m l]
theorem zqy (m : Int) : ∀ (l : List O) (s : List Int), KE 1 m l s = Ql m l s
 | [], _ => rfl
 | o :: l, s => by simp only [KE, Ql, YV, if_true, zqy m l]
theorem zqz (m : Int) : ∀ (l : List O) (s : List Int), KE 2 m l s = Qx m l s
 | [], _ => rfl
 | o :: l, s => by simp only [KE, Qx, YV, if_neg (show ¬ (2 = 1) by decide), zqz m l]
theorem zmM (k : Nat) (m : Int) (o : O) (s : List Int) : (YV k m o s).1.length <= s.length + 1 := by
 unfold YV
 split
 · exact zbp ..
 · show (Zw m o.k o.v s).2.length <= _
   unfold Zw
   split
   · split <;> simp
   split
   · split <;> simp
   split
   · split <;> simp; omega
   split
   · split <;> simp; omega
   · simp
theorem zo3 (n : Nat) {k : Nat} (hk : k = 1 \/ k = 2) (m : Int) (os : List O) (b : Bool) (H : zd) (hlim : os.length < lim) : ∀ (d M : Nat) (s : List Int) (sb : Bool) (done : List R) (v1 v2 v5 : V), done.length + d = os.length -> d < M -> s.length + d + 2 < lim →
    ∃ sb', zV M (J1 (n + 3) (k : Int) m (os.map O.w) b (.sl 1 (iL (upK os.length)) false)) [.sl 1 (vL s) sb, v1, v2, .sl 2 (done.map R.w ++ List.replicate d [.int .u8 0, .int .i32 0]) false, .int .i64 (done.length : Int), v5] H = some (.ret [.sl 1 (vL (KE k (max 0 (min m 1000)) (os.drop done.length) s).2) sb', .sl 2 ((done ++ (KE k (max 0 (min m 1000)) (os.drop done.length) s).1).map R.w) false], H) := by
 intro d
 induction d with
 | zero =>
   intro M s sb done v1 v2 v5 h1 h2 hl
   obtain ⟨M, rfl⟩ : ∃ M', M = M' + 1 := ⟨M - 1, by omega⟩
   rw [ZT (by omega)]
   refine ⟨sb, ?_⟩
   rw [zD]
   unfold J1
   simp only [gv, zh, zf]
   rw [Xb, za, XG, KD, zt, za, zm, if_neg (by simp; omega)]
   simp [lsl, KE]
 | succ d ih =>
   intro M s sb done v1 v2 v5 h1 h2 hl
   obtain ⟨M, rfl⟩ : ∃ M', M = M' + 1 := ⟨M - 1, by omega⟩
   have hlt : done.length < os.length := by omega
   have hdr : os.drop done.length = os[done.length] :: os.drop (done.length + 1) := zT hlt
   obtain ⟨sb1, e1⟩ := zgo n hk m s sb os[done.length] H (by omega)
   generalize hq : YV k (max 0 (min m 1000)) os[done.length] s = q at e1
   have hql : q.1.length <= s.length + 1 := hq ▸ zmM k _ _ s
   have hov : (os.map O.w)[done.length]? = some (O.w os[done.length]) := by rw [Yx, zg hlt]; rfl
   have hou : V.agg (List.take 2 (List.drop 0 (O.w os[done.length]))) = .agg [.int .u8 os[done.length].k, .int .i32 os[done.length].v] := rfl
   have htl : done.length < (done.map R.w ++ List.replicate (d + 1) [V.int .u8 0, V.int .i32 0]).length := by simp
   have hget : (done.map R.w ++ List.replicate (d + 1) [V.int .u8 0, V.int .i32 0])[done.length]? = some [.int .u8 0, .int .i32 0] := by
    rw [zG (by simp)]; simp
   have hset : (done.map R.w ++ List.replicate (d + 1) [V.int .u8 0, V.int .i32 0]).set done.length (setR [V.int .u8 0, V.int .i32 0] 0 (List.take 2 (List.drop 0 (setR [V.int .u8 0, V.int .i32 0] 0 (R.w q.2))))) = (done ++ [q.2]).map R.w ++ List.replicate d [V.int .u8 0, V.int .i32 0] := by
    rw [Zu _ _ (by simp)]
    simp [Xo, R.w, setR]
   obtain ⟨sb2, e2⟩ := ih M q.1 sb1 (done ++ [q.2]) (.sl 1 (lsl v1) false) (.sl 2 (lsl v2) false) (.bool false) (by simp; omega) (by omega) (by omega)
   refine ⟨sb2, ?_⟩
   have key : ∀ next, J1 (n + 3) (k : Int) m (os.map O.w) b (.sl 1 (iL (upK os.length)) false) [.sl 1 (vL s) sb, v1, v2, .sl 2 (done.map R.w ++ List.replicate (d + 1) [.int .u8 0, .int .i32 0]) false, .int .i64 (done.length : Int), v5] H next = next [.sl 1 (vL q.1) sb1, .sl 1 (lsl v1) false, .sl 2 (lsl v2) false, .sl 2 ((done ++ [q.2]).map R.w ++ List.replicate d [.int .u8 0, .int .i32 0]) false, .int .i64 ((done.length + 1 : Nat) : Int), .bool false] H := by
    intro next
    unfold J1
    simp only [gv, zh, zf, lsl]
    rw [Xb, za, XG, KD, zt, za, zm, if_pos (by simp; omega), Zd, zw, Xl (zlp hlt), za, ZC, zo, if_pos (by decide)]
    simp only [zb, za]
    rw [Zd, zw, Xl hov, za, ZC, zo, if_pos (by decide), hou, e1, zM]
    simp only [zb, zj, za]
    rw [show V.cells (V.agg (R.w q.2)) = R.w q.2 from rfl, if_pos (by rfl), if_pos (by exact zk 2), zw, Xl (zlp hlt), za, ZC, zo, if_pos (by decide)]
    simp only [zb, za]
    rw [Zd, zw, if_pos (by refine ⟨?_, htl, by decide⟩; first | trivial | rfl), if_pos (by rfl), if_pos (by refine ⟨?_, ?_, ?_⟩ <;> first | rfl | trivial | decide | exact zk 2), hget, za, zK, za, Xv (by omega), hset]
   rw [zD, key, hdr]
   simp only [KE, hq]
   rw [zB, ZA] at e2
   rw [e2]
   simp
theorem zan (n : Nat) {k : Nat} (hk : k = 1 \/ k = 2) (m : Int) (s : List Int) (sb : Bool) (os : List O) (b : Bool) (H : zd) (hl : s.length + os.length + 4 < lim) (hn : os.length < n) :
    ∃ sb', call (n + 4) 22 [.int .u8 (k : Int), .int .i64 m, .sl 1 (vL s) sb, .sl 2 (os.map O.w) b] H = some (.ret [.sl 1 (vL (KE k (max 0 (min m 1000)) os s).2) sb', .sl 2 ((KE k (max 0 (min m 1000)) os s).1.map R.w) false], H) := by
 obtain ⟨sb', e⟩ := zo3 n hk m os b [] (by omega) os.length (n + 3) s sb [] (.sl 1 [] false) (.sl 2 [] false) (.bool false) (by simp) (by omega) (by omega)
 refine ⟨sb', (zfz (n + 3) _ m (vL s) sb _ b H).trans ?_⟩
 have key : zaI (n + 3) (k : Int) m (vL s) sb (os.map O.w) b = some (.ret [.sl 1 (vL (KE k (max 0 (min m 1000)) os s).2) sb', .sl 2 ((KE k (max 0 (min m 1000)) os s).1.map R.w) false], []) := by
  unfold zaI
  rw [zx, Zd, zw, zw, if_pos ⟨zk _, by omega, by first | trivial | rfl⟩, zo1 (n + 1) hk os b [] (by omega) (by omega), zM, zE]
  simpa using e
 rw [key]
 generalize KE k (max 0 (min m 1000)) os s = q
 exact WS (by simp [Xf, Ws O.w (fun _ => rfl)]) (by simp [Xf, Ws R.w (fun _ => rfl)])
theorem ze1 {k : Nat} (hk : k = 1 \/ k = 2) (m : Nat) (os : List O) (st : St) : ((Yi k m os st).1.1.map Prod.fst, (Yi k m os st).2) = ((KE k (m : Int) os (st.1.map Prod.fst)).2, (KE k (m : Int) os (st.1.map Prod.fst)).1) := by
 unfold Yi
 rcases hk with rfl | rfl
 · rw [if_pos rfl, zqy]; simp only [jI]
 · rw [if_neg (by decide), if_pos rfl, zqz]; simp only [jI]
end Go.Proofs.Tryz
namespace Go.Proofs.Tryz
open Go.L Go.Rp Go.Sk
set_option maxRecDepth 100000
theorem jo (h : zd) (c : Nat) : Qo prog h .eql 25 (V.ptr c 0) (V.val (.pointer none)) = some (.bool false) := by kernel_rfl
theorem zao (h : zd) (c : Nat) : Qo prog h .neq 25 (V.ptr c 0) (V.val (.pointer none)) = some (.bool true) := by kernel_rfl
theorem BodAt.kind {k : Nat} {h : zd} {s : Nat} {Y : List Nat} {m : Nat} {its : List (Int × Nat)} (B : BodAt k h s Y m its) : k = 1 \/ k = 2 \/ k = 3 := by
 rcases B with ⟨h, _⟩ | ⟨h, _⟩ | ⟨h, _⟩ <;> omega
def zmN (k : Nat) : Nat := if k = 1 then 112 else if k = 2 then 116 else 120
theorem zki {k : Nat} (hk : k = 1 \/ k = 2 \/ k = 3) (s : Nat) : Jc prog (zmN k) (.agg [.ptr s 0]) "reaper/object.plain" = some (zkb k true, .agg [.ptr s 0]) := by
 rcases hk with rfl | rfl | rfl
 · show Jc prog 112 (.agg [.ptr s 0]) "reaper/object.plain" = some (173, .agg [.ptr s 0]); kernel_rfl
 · show Jc prog 116 (.agg [.ptr s 0]) "reaper/object.plain" = some (198, .agg [.ptr s 0]); kernel_rfl
 · show Jc prog 120 (.agg [.ptr s 0]) "reaper/object.plain" = some (221, .agg [.ptr s 0]); kernel_rfl
theorem zkj {k : Nat} (hk : k = 1 \/ k = 2 \/ k = 3) (s : Nat) : Jc prog (zmN k) (.agg [.ptr s 0]) "reaper/object.batch" = some (zkb k false, .agg [.ptr s 0]) := by
 rcases hk with rfl | rfl | rfl
 · show Jc prog 112 (.agg [.ptr s 0]) "reaper/object.batch" = some (171, .agg [.ptr s 0]); kernel_rfl
 · show Jc prog 116 (.agg [.ptr s 0]) "reaper/object.batch" = some (196, .agg [.ptr s 0]); kernel_rfl
 · show Jc prog 120 (.agg [.ptr s 0]) "reaper/object.batch" = some (219, .agg [.ptr s 0]); kernel_rfl
theorem zlq {k : Nat} (hk : k = 1 \/ k = 2 \/ k = 3) (pl : Bool) : QD (zkb k pl) = true /\ okV prog 28 (zkb k pl) = true := by
 rcases hk with rfl | rfl | rfl <;> cases pl
 · show QD 171 = true /\ okV prog 28 171 = true; exact ⟨by kernel_rfl, by kernel_rfl⟩
 · show QD 173 = true /\ okV prog 28 173 = true; exact ⟨by kernel_rfl, by kernel_rfl⟩
 · show QD 196 = true /\ okV prog 28 196 = true; exact ⟨by kernel_rfl, by kernel_rfl⟩
 · show QD 198 = true /\ okV prog 28 198 = true; exact ⟨by kernel_rfl, by kernel_rfl⟩
 · show QD 219 = true /\ okV prog 28 219 = true; exact ⟨by kernel_rfl, by kernel_rfl⟩
 · show QD 221 = true /\ okV prog 28 221 = true; exact ⟨by kernel_rfl, by kernel_rfl⟩
theorem zkk (n : Nat) {k : Nat} {h : zd} {o s c : Nat} {cb : Option Nat} {Y : List Nat} {m : Nat} {pl : Bool} {st : St} (A : ObAt k h o s c cb Y m pl st) (os : List O) (osb : Bool) (hk : ∀ o ∈ os, 0 <= o.k /\ o.k < 256) (hos : os.length <= 1000) (hn : 2 * os.length + m + 100 <= n) :
    ∃ h' Y' T, call (n + 8) 17 [.ptr o 0, .sl 2 (os.map O.w) osb] h = some (.ret [.row T 2 0 os.length], h') /\ RowR h' T (Yi k m os st).2 /\ ObAt k h' o s c cb Y' m pl (Yi k m os st).1 /\ h.length <= T /\ T ∉ obB o c cb Y' /\ XFed h h' (obB o c cb Y) (obB o c cb Y') := by
 have hkk := A.body.kind
 obtain ⟨h', Y', T, e, b1, b2, b3, b4, b5, b6, b7⟩ := zoN n pl A.body A.bits A.room A.most A.cY A.cbY os osb hk hos hn
 have hol := zS A.box
 have hA := A.lt
 have oX : o ∉ c :: Y := by
  intro ho
  rcases zL.1 ho with e | e
  · exact A.oc e
  · exact A.oY e
 have hcl := A.bits.clt
 refine ⟨h', Y', T, ?_, b1, ⟨(b7.old o hol oX).trans A.box, b3, b2, b4, A.most, A.oc, A.ocb, ?_, ?_, ?_⟩, b5, ?_, ⟨b7.len, fun i h1 h2 => b7.old i h1 (fun hm => h2 ?_), fun x hx => ?_⟩⟩
 · rw [show n + 8 = (n + 7) + 1 from rfl, zn2]
   unfold zqo
   rw [jo, za, zm, if_neg (by decide), zF A.box, zo, if_pos (by decide)]
   simp only [zb, zj, za]
   rw [zm]
   cases pl with
   | true =>
     rw [if_pos rfl, zF A.box, zo, if_pos (by decide)]
     simp only [zb, zj, za]
     rw [zF A.box, zo, if_pos (by decide)]
     simp only [zb, zj, za]
     rw [if_pos (by rfl)]
     show bd2 (Jc prog (zmN k) (.agg [.ptr s 0]) "reaper/object.plain") _ = _
     rw [zki hkk, Zj, if_pos (zlq hkk true)]
     show clH (call (n + 7) (zkb k true) [.agg [.ptr s 0], .ptr c 0, .sl 2 (os.map O.w) osb] h) _ = _
     rw [e]
     rfl
   | false =>
     rw [if_neg (by decide), zF A.box, zo, if_pos (by decide)]
     simp only [zb, zj, za]
     rw [zF A.box, zo, if_pos (by decide)]
     simp only [zb, zj, za]
     rw [if_pos (by rfl)]
     show bd2 (Jc prog (zmN k) (.agg [.ptr s 0]) "reaper/object.batch") _ = _
     rw [zkj hkk, Zj, if_pos (zlq hkk false)]
     show clH (call (n + 7) (zkb k false) [.agg [.ptr s 0], .ptr c 0, .sl 2 (os.map O.w) osb] h) _ = _
     rw [e]
     rfl
 · intro hy
   rcases b7.new o hy with e1 | e1
   · exact A.oY e1
   · omega
 · intro hy
   rcases b7.new c hy with e1 | e1
   · exact A.cY e1
   · omega
 · intro b hb hy
   rcases b7.new b hy with e1 | e1
   · exact A.cbY b hb e1
   · have := (hb ▸ A.bits).blt; omega
 · intro hT
   simp only [obB, zL, Zl] at hT
   rcases hT with e1 | e1 | e1 | e1
   · omega
   · omega
   · cases cb with
     | none => simp at e1
     | some b => simp at e1; have := A.bits.blt; omega
   · exact b6 e1
 · rcases zL.1 hm with e1 | e1
   · simp [obB, e1]
   · simp [obB, e1]
 · simp only [obB, zL, Zl] at hx ⊢
   rcases hx with e1 | e1 | e1 | e1
   · exact .inl (.inl e1)
   · exact .inl (.inr (.inl e1))
   · exact .inl (.inr (.inr (.inl e1)))
   · rcases b7.new x e1 with e2 | e2
     · exact .inl (.inr (.inr (.inr e2)))
     · exact .inr e2
def SlJ (h : zd) (lo : Nat) (r : V) (l : List Int) : Prop := SlI h lo r l \/ r = .sl 1 (l.map (Xf .i32)) false
theorem SlJ.sees {h : zd} {lo : Nat} {r : V} {l : List Int} (s : SlJ h lo r l) : zgh h r l := by
 rcases s with s | rfl
 · exact s.sees
 · exact ⟨⟨1, Xb ..⟩, fun i x hx => ⟨_, Xl (es := Xf .i32 x) (by rw [zI, hx]; rfl) false, ZC ..⟩⟩
theorem zrB {ts : List Tw} (hh : ∀ t ∈ ts, 1 <= t.ht) : lvV 0 ts = (itT ts).map Prod.fst := by
 unfold lvV itT
 rw [List.map_map, Xm.2 (fun t ht => by have := hh t ht; simp; omega)]
 rfl
theorem zkl {k : Nat} (hk : k = 1 \/ k = 2 \/ k = 3) (s : Nat) : Jc prog (zmN k) (.agg [.ptr s 0]) "Items" = some (if k = 1 then 168 else if k = 2 then 191 else 217, .ptr s 0) := by
 rcases hk with rfl | rfl | rfl
 · show Jc prog 112 (.agg [.ptr s 0]) "Items" = some (168, .ptr s 0); kernel_rfl
 · show Jc prog 116 (.agg [.ptr s 0]) "Items" = some (191, .ptr s 0); kernel_rfl
 · show Jc prog 120 (.agg [.ptr s 0]) "Items" = some (217, .ptr s 0); kernel_rfl
theorem zo4 {k : Nat} (hk : k = 1 \/ k = 2 \/ k = 3) : QD (if k = 1 then 168 else if k = 2 then 191 else 217) = true /\ okV prog 27 (if k = 1 then 168 else if k = 2 then 191 else 217) = true := by
 rcases hk with rfl | rfl | rfl
 · show QD 168 = true /\ okV prog 27 168 = true; exact ⟨by kernel_rfl, by kernel_rfl⟩
 · show QD 191 = true /\ okV prog 27 191 = true; exact ⟨by kernel_rfl, by kernel_rfl⟩
 · show QD 217 = true /\ okV prog 27 217 = true; exact ⟨by kernel_rfl, by kernel_rfl⟩
theorem zdx (n : Nat) {k : Nat} {h : zd} {s : Nat} {Y : List Nat} {m : Nat} {its : List (Int × Nat)} (B : BodAt k h s Y m its) (room : its.length <= m) (hm : m <= 1000) (hn : m + 10 < n) :
    ∃ h' r, call (n + 3) (if k = 1 then 168 else if k = 2 then 191 else 217) [.ptr s 0] h = some (.ret [r], h') /\ SlJ h' h.length r (its.map Prod.fst) /\ h.length <= h'.length /\ ∀ i, i < h.length -> h'[i]? = h[i]? := by
 have hlim : 1000000 < lim := by unfold lim; omega
 rcases B with ⟨rfl, xs, qb, rfl, S, rfl⟩ | ⟨rfl, xs, b, rfl, RR, rfl⟩ | ⟨rfl, ts, rfl, ⟨N, S⟩, rfl⟩
 · rw [Yt] at room
   rw [jI]
   exact ⟨h, _, zcW (n + 2) S (by omega), .inr rfl, zk _, fun _ _ => rfl⟩
 · rw [Yt] at room
   rw [jI]
   obtain ⟨h', r, z, e, b1, b2, b3, b4⟩ := zdm n RR (by omega) (by omega)
   exact ⟨h', _, e, .inl (.inr ⟨r, z, b2, rfl, b1⟩), b3, b4⟩
 · rw [Jq] at room
   obtain ⟨h', r, e, b1, b2, b3⟩ := zjW n S (by omega) (by omega)
   rw [zrB (fun t ht => (S.ht t ht).1)] at b1
   exact ⟨h', r, e, .inl b1, b2, b3⟩
theorem zd4 (n : Nat) {k : Nat} {h : zd} {o s c : Nat} {cb : Option Nat} {Y : List Nat} {m : Nat} {pl : Bool} {st : St} (A : ObAt k h o s c cb Y m pl st) (hn : m + 10 < n) :
    ∃ h' r, call (n + 4) 20 [.ptr o 0] h = some (.ret [r], h') /\ SlJ h' h.length r (st.1.map Prod.fst) /\ h.length <= h'.length /\ ∀ i, i < h.length -> h'[i]? = h[i]? := by
 have hkk := A.body.kind
 obtain ⟨h', r, e, b1, b2, b3⟩ := zdx n A.body A.room A.most hn
 refine ⟨h', r, ?_, b1, b2, b3⟩
 rw [show n + 4 = (n + 3) + 1 from rfl, zhM]
 unfold zhL
 rw [jo, za, zm, if_neg (by decide), zF A.box, zo, if_pos (by decide)]
 simp only [zb, zj, za]
 show bd2 (Jc prog (zmN k) (.agg [.ptr s 0]) "Items") _ = _
 rw [zkl hkk, Zj, if_pos (zo4 hkk)]
 show cl (call (n + 3) _ [.ptr s 0] h) _ _ = _
 rw [e, zM, zE]
theorem zgp (n : Nat) {k : Nat} {h : zd} {o s c : Nat} {cb : Option Nat} {Y : List Nat} {m : Nat} {pl : Bool} {st : St} (A : ObAt k h o s c cb Y m pl st) (bs : List Int) (bb : Bool) (hs : Jg bs = true) (hl : st.2.length + 8 * bs.length <= 20000) (hn : bs.length + 8 < n) :
    ∃ h' cb', call (n + 2) 23 [.ptr o 0, .sl 1 (bs.map (Xf .u8)) bb] h = some (.ret [], h') /\ ObAt k h' o s c cb' Y m pl (st.1, st.2 ++ bs.flatMap zaL) /\ XFed h h' (obB o c cb Y) (obB o c cb' Y) := by
 obtain ⟨h', cb', e, b1, b2⟩ := zma n A.bits bs bb hs hl hn
 have hol := zS A.box
 have hYl := A.body.lt
 have hnew : ∀ b, cb' = some b -> cb = some b \/ h.length <= b := b2.own
 have hY : ∀ y ∈ Y, h'[y]? = h[y]? := fun y hy => b2.old y (hYl y hy) (fun e => A.cY (e ▸ hy)) (fun e => A.cbY y e hy)
 refine ⟨h', cb', ?_, ⟨(b2.old o hol A.oc A.ocb).trans A.box, b1, A.body.keep hY, A.room, A.most, A.oc, fun e => ?_, A.oY, A.cY, fun b hb hy => ?_⟩, ⟨b2.len, fun i h1 h2 => b2.old i h1 (fun e => h2 (by simp [obB, e])) (fun e => h2 (by simp [obB, e])), fun x hx => ?_⟩⟩
 · rw [show n + 2 = (n + 1) + 1 from rfl, zjL]
   unfold zk1
   rw [zao, za, zm, if_pos rfl, zF A.box, zo, if_pos (by decide)]
   simp only [zb, zj, za]
   rw [e, zM]
 · rcases hnew o e with k1 | k1
   · exact A.ocb k1
   · omega
 · rcases hnew b hb with k1 | k1
   · exact A.cbY b k1 hy
   · have := hYl b hy; omega
 · simp only [obB, zL, Zl] at hx ⊢
   rcases hx with e1 | e1 | e1 | e1
   · exact .inl (.inl e1)
   · exact .inl (.inr (.inl e1))
   · cases cb' with
     | none => simp at e1
     | some b =>
       simp at e1; subst e1
       rcases hnew _ rfl with k1 | k1
       · exact .inl (.inr (.inr (.inl (by simp [k1]))))
       · exact .inr k1
   · exact .inl (.inr (.inr (.inr e1)))
def zp3 : List (V × V) := [(.int .u8 1, .fn 56 []), (.int .u8 2, .fn 58 []), (.int .u8 3, .fn 60 [])]
noncomputable def zap (n F : Nat) (m : Int) (p : Bool) (h : zd) : Option (Res × zd) :=
 (cl (call n F [(V.int .i64 m)] h) (fun r16 h17 =>
 (ZI r16 fun v19 =>
 (cl (call n 62 [] h17) (fun r20 h21 =>
 (ZI r20 fun v23 =>
 (bd (Q4 prog 125 [(0, v19), (1, v23), (2, (V.bool p))]) fun cs24 =>
 (if (cs24).length = 3 then
 some (Res.ret [(V.ptr (h21).length 0)], (h21 ++ [(HB.box 3 cs24)])) else none)))) (fun z22 h21 => some (Res.pan z22, h21))))) (fun z18 h17 => some (Res.pan z18, h17)))
theorem zo5 (n : Nat) (m : Int) (p : Bool) : call (n + 1) 15 [.int .u8 1, .int .i64 m, .bool p] [] = zap n 56 m p [.map zp3] := by kernel_rfl
theorem zo6 (n : Nat) (m : Int) (p : Bool) : call (n + 1) 15 [.int .u8 2, .int .i64 m, .bool p] [] = zap n 58 m p [.map zp3] := by kernel_rfl
theorem zo7 (n : Nat) (m : Int) (p : Bool) : call (n + 1) 15 [.int .u8 3, .int .i64 m, .bool p] [] = zap n 60 m p [.map zp3] := by kernel_rfl
def jp (m : Int) : Nat := (if 0 < (if 1000 < m then 1000 else m) then (if 1000 < m then 1000 else m) else 0).toNat
theorem zlr (m : Int) : (if 0 < (if 1000 < m then 1000 else m) then (if 1000 < m then 1000 else m) else 0) = ((jp m : Nat) : Int) := by
 unfold jp
 (repeat' split) <;> omega
theorem zls (m : Int) : jp m <= 1000 := by
 unfold jp
 (repeat' split) <;> omega
theorem zo8 (m : Int) : max 0 (min m 1000) = ((jp m : Nat) : Int) := by
 unfold jp
 (repeat' split) <;> omega
theorem zgq (n : Nat) (h : zd) (m : Int) : call (n + 1) 57 [.int .i64 m] h = some (.ret [.ptr h.length 0], h ++ [.box 2 [.sl 0 [] true, .int .i64 (jp m : Int)]]) := by
 rw [zl0, <- zlr]
 rfl
theorem zgr (n : Nat) (h : zd) (m : Int) : call (n + 1) 59 [.int .i64 m] h = some (.ret [.ptr (h.length + 1) 0], h ++ [.row 21 1 (List.replicate (jp m) [.int .i32 0]) true, .box 3 [.row h.length 1 0 (jp m), .int .i64 0, .int .i64 0]]) := by
 have hc := zls m
 rw [zmc]
 unfold znQ
 rw [zlr, Zd, zw, zw, if_pos ⟨zk _, by unfold lim; omega, by first | trivial | rfl⟩]
 simp
def zrC (k : Nat) : Nat := if k = 1 then 56 else if k = 2 then 58 else 60
theorem zqZ (v : V) (s : Nat) : Q4 prog 112 [(0, .ptr s 0)] = some [.ptr s 0] := by kernel_rfl
theorem zq0 (s : Nat) : Q4 prog 116 [(0, .ptr s 0)] = some [.ptr s 0] := by kernel_rfl
theorem zq1 (s : Nat) : Q4 prog 120 [(0, .ptr s 0)] = some [.ptr s 0] := by kernel_rfl
theorem zq2 (t : Nat) (v : V) (c : Nat) (p : Bool) : Q4 prog 125 [(0, .iface t v), (1, .ptr c 0), (2, .bool p)] = some [.iface t v, .ptr c 0, .bool p] := by kernel_rfl
theorem zp4 (n : Nat) {k : Nat} (hk : k = 1 \/ k = 2 \/ k = 3) (m : Int) (g : zd) : ∃ g' s Y, call (n + 2) (zrC k) [.int .i64 m] g = some (.ret [zoM k s], g') /\ BodAt k g' s Y (jp m) [] /\ g.length <= g'.length /\ (∀ i, i < g.length -> g'[i]? = g[i]?) /\ ∀ y ∈ Y, g.length <= y := by
 rcases hk with rfl | rfl | rfl
 · refine ⟨_, _, [g.length], ?_, .inl ⟨rfl, [], none, rfl, ⟨rfl, zJ⟩, rfl⟩, by simp, fun i hi => zl hi, by simp⟩
   show call (n + 1 + 1) 56 [.int .i64 m] g = _
   rw [zjI]
   unfold zkY
   rw [zgq, zM, zE, zqZ (.bool true), za]
   rfl
 · refine ⟨g ++ [.row 21 1 (List.replicate (jp m) [.int .i32 0]) true, .box 3 [.row g.length 1 0 (jp m), .int .i64 0, .int .i64 0]], g.length + 1, [g.length + 1, g.length], ?_, .inr (.inl ⟨rfl, [], g.length, rfl, ⟨by omega, List.replicate (jp m) [.int .i32 0], true, 0, ?_, ?_, by simp, ?_, by simp, by simp, ?_⟩, rfl⟩), by simp, fun i hi => zl hi, by simp⟩
   · show call (n + 1 + 1) 58 [.int .i64 m] g = _
     rw [zjJ]
     unfold zkZ
     rw [zgr, zM, zE, zq0, za]
     rfl
   · rw [zG (by omega), Xw]; rfl
   · rw [zG (by omega), QL]; rfl
   · omega
   · intro es hes; rw [(List.mem_replicate.1 hes).2]; rfl
 · obtain ⟨N, e, S⟩ := zop n g m
   rw [zo8] at e S
   refine ⟨_, g.length, [g.length], ?_, .inr (.inr ⟨rfl, [], rfl, ⟨N, S⟩, rfl⟩), by simp, fun i hi => zl hi, by simp⟩
   show call (n + 1 + 1) 60 [.int .i64 m] g = _
   rw [zjK]
   unfold zk0
   rw [e, zM, zE, zq1, za]
   rfl
theorem zp5 (n : Nat) {k : Nat} (hk : k = 1 \/ k = 2 \/ k = 3) (m : Int) (pl : Bool) (g : zd) : ∃ h' o s c Y, zap (n + 2) (zrC k) m pl g = some (.ret [.ptr o 0], h') /\ ObAt k h' o s c none Y (jp m) pl ([], []) /\ g.length <= h'.length /\ (∀ i, i < g.length -> h'[i]? = g[i]?) /\ ∀ x ∈ obB o c none Y, g.length <= x := by
 obtain ⟨g', s, Y, e, B, b1, b2, b3⟩ := zp4 n hk m g
 have hY := B.lt
 have k1 : ∀ i, i < g'.length -> ((g' ++ [HB.box 1 [V.sl 0 [] true]]) ++ [HB.box 3 [zoM k s, .ptr g'.length 0, .bool pl]])[i]? = g'[i]? := fun i hi => by
  rw [zl (by simp; omega), zl hi]
 refine ⟨(g' ++ [HB.box 1 [V.sl 0 [] true]]) ++ [HB.box 3 [zoM k s, .ptr g'.length 0, .bool pl]], g'.length + 1, s, g'.length, Y, ?_, ⟨?_, ⟨rfl, ?_⟩, B.keep (fun y hy => k1 y (hY y hy)), Zg _, zls m, by omega, by simp, fun hy => by have := hY _ hy; omega, fun hy => by have := hY _ hy; omega, by simp⟩, by simp; omega, fun i hi => (k1 i (by omega)).trans (b2 i hi), ?_⟩
 · unfold zap
   rw [e, zM, zE, zdM, zM, zE]
   unfold zoM
   rw [zq2, za, if_pos (by rfl)]
   simp
 · rw [zG (by simp)]; simp
 · rw [zl (by simp), zJ]
 · intro x hx
   simp only [obB, zL, Zl, Option.toList_none, List.not_mem_nil, false_or] at hx
   rcases hx with e1 | e1 | e1
   · omega
   · omega
   · exact b3 x e1
theorem ziU (n : Nat) {k : Nat} (hk : k = 1 \/ k = 2 \/ k = 3) (m : Int) (pl : Bool) : ∃ h' o s c Y, call (n + 3) 15 [.int .u8 (k : Int), .int .i64 m, .bool pl] [] = some (.ret [.ptr o 0], h') /\ ObAt k h' o s c none Y (jp m) pl ([], []) := by
 obtain ⟨h', o, s, c, Y, e, A, _⟩ := zp5 n hk m pl [.map zp3]
 refine ⟨h', o, s, c, Y, ?_, A⟩
 rw [<- e]
 rcases hk with rfl | rfl | rfl
 · exact zo5 (n + 2) m pl
 · exact zo6 (n + 2) m pl
 · exact zo7 (n + 2) m pl
end Go.Proofs.Tryz
namespace Go.Sk
open Go.L Go.Rp
end Go.Sk
namespace Go.Proofs.Tryz
open Go.L Go.Rp Go.Sk
set_option maxRecDepth 100000
theorem zo9 (k m : Nat) (os : List O) (st : St) : (Yi k m os st).2.length = os.length := by
 unfold Yi
 split
 · exact zdc ..
 split
 · exact zde ..
 · unfold WJ; rw [ziB]; simp
theorem zq3 {c : List Int} {kinds : Int} (hc : Jg c = true) (hk : 1 <= kinds) (hk2 : kinds <= 100) : ∀ o ∈ ops c kinds, 0 <= o.k /\ o.k < 256 := by
 intro o ho
 unfold ops at ho
 obtain ⟨x, hx, rfl⟩ := ZR.1 ho
 have h1 := Int.emod_nonneg x (show kinds ≠ 0 by omega)
 have h2 := Int.emod_lt_of_pos x (show 0 < kinds by omega)
 unfold Go.Rp.opOf
 simp only
 omega
theorem zkm {m : Nat} (h : m <= 1000) : jp (m : Int) = m := by
 unfold jp
 (repeat' split) <;> omega
end Go.Proofs.Tryz
namespace Go.Rp
structure De where
 c : Int
 bits : List Int
 ops : List O
end Go.Rp
namespace Go.Proofs.Tryz
open Go.L Go.Rp Go.Sk
set_option maxRecDepth 100000
def _root_.Go.Rp.De.w (d : De) : List V := [.int .u8 d.c, .sl 1 (d.bits.map (Xf .u8)) false, .sl 2 (d.ops.map O.w) false]
def zdy (c : List Int) (k : Nat) (x : Int) : De := ⟨x, [x], ops ((c.take (if (k : Int) + 1 + x % 9 < (c.length : Int) then k + 1 + (x % 9).toNat else c.length)).drop k) 5⟩
def zpa (d : De) : Prop := Jg d.bits = true /\ d.bits.length <= 1 /\ d.ops.length <= 80 /\ zbu d.ops /\ ∀ o ∈ d.ops, 0 <= o.k /\ o.k < 256
theorem zaZ {c l : List Int} (hc : Jg c = true) (hl : ∀ x ∈ l, x ∈ c) : Jg l = true := by
 unfold Jg at hc ⊢
 exact Zo.2 fun x hx => Zo.1 hc x (hl x hx)
theorem zp6 {c : List Int} (hc : Jg c = true) {k : Nat} {x : Int} (hx : x ∈ c) : zpa (zdy c k x) := by
 have h2 : Jg ((c.take (if (k : Int) + 1 + x % 9 < (c.length : Int) then k + 1 + (x % 9).toNat else c.length)).drop k) = true := zaZ hc (fun y hy => Zp (Zf hy))
 exact ⟨zaZ hc (fun y hy => by rw [Zy.1 hy]; exact hx), zk _, zpY .., zrz h2, zq3 h2 (by decide) (by decide)⟩
theorem zkn (a : Int) : cvt prog 5 3 (.int .u8 a) = some (.int .i64 (IntKind.i64.wrap a)) := by kernel_rfl
theorem zpb (a : Int) (l : List (List V)) (b : Bool) : Q4 prog 43 [(0, .int .u8 a), (2, .sl 2 l b)] = some [.int .u8 a, .sl 0 [] true, .sl 2 l b] := by kernel_rfl
theorem zq4 (a : Int) : JD prog 22 1 [(0, .int .u8 a)] = some (1, [[.int .u8 a]]) := by kernel_rfl
theorem zpc (a : Int) (l : List (List V)) (b : Bool) (l' : List (List V)) (b' : Bool) : JD prog 40 1 [(0, .agg [.int .u8 a, .sl 1 l b, .sl 2 l' b'])] = some (3, [[.int .u8 a, .sl 1 l b, .sl 2 l' b']]) := by kernel_rfl
theorem zq5 (e : Nat) (a : List De) (x : De) (h : a.length + 1 < lim) : app e 3 (.own e 3 (a.map De.w)) [De.w x] = some ((a ++ [x]).map De.w) := by
 simp [app, h]
theorem zko (n : Nat) (c : List Int) (cb : Bool) (hc : Jg c = true) (hcl : c.length <= 1000) (hn : 90 <= n) (H : zd) : ∀ (d k M : Nat) (acc : List De) (v0 : V), 20 - acc.length = d -> d < M -> k <= 3 * acc.length -> acc.length <= 20 -> (∀ x ∈ acc, zpa x) →
    ∃ l : List De, l.length <= 20 /\ (∀ x ∈ l, zpa x) /\ zV M (JL n (c.map (Xf .u8)) cb) [.sl 3 [] false, .sl 3 (acc.map De.w) false, .int .i64 (k : Int)] H = some (.ret [.sl 3 (l.map De.w) false], H) := by
 intro d
 induction d with
 | zero =>
   intro k M acc v0 h1 h2 hk h3 h4
   obtain ⟨M, rfl⟩ : ∃ M', M = M' + 1 := ⟨M - 1, by omega⟩
   refine ⟨acc, h3, h4, ?_⟩
   rw [zD]
   unfold JL
   simp only [gv, zf, zh, lsl]
   rw [zt, za, zm]
   by_cases hlt : (k : Int) < ((c.map (Xf .u8)).length : Int)
   · rw [if_pos (decide_eq_true hlt), if_neg (by simp; omega)]
   · rw [if_neg (by simpa using hlt)]
 | succ d ih =>
   intro k M acc v0 h1 h2 hk h3 h4
   obtain ⟨M, rfl⟩ : ∃ M', M = M' + 1 := ⟨M - 1, by omega⟩
   by_cases hlt : k < c.length
   · have hx : c[k]? = some c[k] := zg hlt
     have hmem := Z9 hlt
     generalize c[k] = x at hx hmem
     have hxs : 0 <= x /\ x <= 255 := by
      unfold Jg at hc
      have := Zo.1 hc x hmem
      simp at this; omega
     have hok := zp6 hc (k := k) hmem
     have hdl : (zdy c k x).ops = ops ((c.take (if (k : Int) + 1 + x % 9 < (c.length : Int) then k + 1 + (x % 9).toNat else c.length)).drop k) 5 := rfl
     obtain ⟨l, l1, l2, l3⟩ := ih (k + 3) M (acc ++ [zdy c k x]) v0 (by simp; omega) (by omega) (by simp; omega) (by simp; omega) (fun y hy => by
      rcases Zl.1 hy with h | h
      · exact h4 y h
      · rw [Zy.1 h]; exact hok)
     refine ⟨l, l1, l2, ?_⟩
     rw [zD, <- l3]
     have hxv : (c.map (Xf .u8))[k]? = some [.int .u8 x] := by rw [zI, hx]; rfl
     have e1 : Int.tmod x 9 = x % 9 := QA hxs.1
     have w1 : IntKind.i64.wrap (x % 9) = x % 9 := by rw [w64] <;> omega
     have w2 : IntKind.i64.wrap ((k : Int) + 1) = (k : Int) + 1 := by rw [w64] <;> omega
     have w3 : IntKind.i64.wrap ((k : Int) + 1 + x % 9) = (k : Int) + 1 + x % 9 := by rw [w64] <;> omega
     obtain ⟨b, hb⟩ : ∃ b : Nat, b = (if (k : Int) + 1 + x % 9 < (c.length : Int) then k + 1 + (x % 9).toNat else c.length) := ⟨_, rfl⟩
     have hbi : (if (k : Int) + 1 + x % 9 < (((c.map (Xf .u8)).length : Nat) : Int) then (k : Int) + 1 + x % 9 else (((c.map (Xf .u8)).length : Nat) : Int)) = (b : Int) := by
      rw [zx, hb]; split <;> omega
     have hkb : k <= b := by rw [hb]; split <;> omega
     have hbl : b <= c.length := by rw [hb]; split <;> omega
     have hsub : ((c.map (Xf .u8)).take b).drop k = ((c.take b).drop k).map (Xf .u8) := by rw [List.map_drop, List.map_take]
     have hops := zoK n ((c.take b).drop k) 1 false 5 H (.inl rfl) (zaZ hc (fun y hy => Zp (Zf hy))) (by decide) (by decide) hn
     have hde : (⟨x, [x], ops ((c.take b).drop k) 5⟩ : De) = zdy c k x := by rw [hb]; rfl
     have key : ∀ next, JL n (c.map (Xf .u8)) cb [.sl 3 [] false, .sl 3 (acc.map De.w) false, .int .i64 (k : Int)] H next = next [.sl 3 [] false, .sl 3 ((acc ++ [zdy c k x]).map De.w) false, .int .i64 ((k + 3 : Nat) : Int)] H := by
      intro next
      unfold JL
      simp only [gv, zf, zh, lsl]
      rw [zt, za, zm, if_pos (by simpa using hlt), if_pos (by simp; omega), Zd, zw, Xl hxv, za]
      simp only [esP, zb, za]
      rw [zK, za, zw, Xl hxv, za]
      simp only [esP, zb, za]
      rw [zdt (by decide), za, e1, zkn, za, w1, zK, za, w2, w3]
      show bd (some [V.int .i64 _, V.int .i64 _]) _ = _
      rw [za]
      show bd (some (V.int .i64 (if (k : Int) + 1 + x % 9 < (((c.map (Xf .u8)).length : Nat) : Int) then (k : Int) + 1 + x % 9 else (((c.map (Xf .u8)).length : Nat) : Int)))) _ = _
      rw [hbi, za, Kj, za, zw, Zd, zw, zkf (.inl rfl) hkb (by rw [zx]; exact hbl), za, hsub, hops]
      simp only [clH]
      rw [zE, zpb, za, if_pos (by rfl), if_pos (by exact zk 3)]
      show bd (some (V.sl 0 [] true)) _ = _
      rw [za, zw, Xl hxv, za]
      simp only [esP, zb, za]
      rw [zq4, za]
      show bd (some [[V.int .u8 x]]) _ = _
      rw [za]
      show bd (JD prog 40 1 [(0, .agg [.int .u8 x, .sl 1 [[V.int .u8 x]] false, .sl 2 ((ops ((c.take b).drop k) 5).map O.w) false])]) _ = _
      rw [zpc, za]
      show bd (app _ 3 _ [De.w ⟨x, [x], ops ((c.take b).drop k) 5⟩]) _ = _
      rw [hde, zq5 _ _ _ (by unfold lim; omega), za, zK, za, show IntKind.i64.wrap ((k : Int) + 3) = ((k + 3 : Nat) : Int) by rw [w64] <;> omega]
     rw [key]
   · refine ⟨acc, h3, h4, ?_⟩
     rw [zD]
     unfold JL
     simp only [gv, zf, zh, lsl]
     rw [zt, za, zm, if_neg (by simpa using hlt)]
theorem zkp (n : Nat) (c : List Int) (cb : Bool) (hc : Jg c = true) (hcl : c.length <= 1000) (hn : 90 <= n) (H : zd) : ∃ l : List De, l.length <= 20 /\ (∀ x ∈ l, zpa x) /\ call (n + 1) 21 [.sl 1 (c.map (Xf .u8)) cb] H = some (.ret [.sl 3 (l.map De.w) false], H) := by
 obtain ⟨l, l1, l2, l3⟩ := zko n c cb hc hcl hn H 20 0 n [] (.bool false) rfl (by omega) (zk _) (by decide) (by simp)
 exact ⟨l, l1, l2, (zhc n _ cb H).trans l3⟩
end Go.Proofs.Tryz
