/- So1 Kp Kq Kr Kv Krf Kx Lops Sops Kyw Ko Tj Tk Vv Vw Pd Pl Ra Ro Rp Rq Ue Tl Uf Vp Vq: what the law needs of these -/
import Derived.Test.YtclhmdhdpejhhaaGreatRpl14
set_option linter.unusedVariables false
set_option linter.unusedSimpArgs false
namespace Go.Proofs.Tryz
open Go.L Go.Rp
set_option maxRecDepth 100000
abbrev iL (l : List Int) : List (List V) := l.map (Xh .i64)
theorem wN {e : Int} {n : Nat} (h : e = (n : Int)) (hn : n < lim) : IntKind.i64.wrap e = (n : Int) := by unfold lim at hn; subst h; rw [w64] <;> omega
theorem zf3 (l : List Int) (i : Nat) (x : Int) : (iL l).set i [V.int .i64 x] = iL (l.set i x) := by
 unfold iL; rw [Jt]; rfl
theorem Qi (l : List Int) : (iL l).length = l.length := by simp
theorem QS {l : List Int} {i : Nat} {x : Int} (h : l[i]? = some x) : (iL l)[i]? = some [V.int .i64 x] := by
 unfold iL; rw [zF, h]; rfl
theorem zbR (a b : V) : setR [a] 0 [b] = [b] := rfl
theorem Kj {n m k : Nat} : (1 = 1 /\ n < m /\ (some k : Option Nat) ≠ some 0) ↔ (n < m /\ (k == 0) = false) := by simp
theorem zbS : (1 = 1 /\ 0 < 1 /\ 0 + 1 <= 1) ↔ True := by decide
theorem WS {α : Type} (P : List α) (x : α) (R : List α) {i : Nat} (h : i = P.length) : (P ++ x :: R)[i]? = some x := by subst h; simp
theorem js {α : Type} (P : List α) (x y : α) (R : List α) {i : Nat} (h : i = P.length) : (P ++ x :: R).set i y = P ++ y :: R := by subst h; simp
theorem zqL (P A M B S : List Int) (x y : Int) {i j : Nat} (hi : i = P.length) (hj : j = P.length + 1 + A.length + M.length) :
    (P ++ (x :: A ++ (M ++ (y :: B ++ S))))[i]? = some x /\ (P ++ (x :: A ++ (M ++ (y :: B ++ S))))[j]? = some y /\ (P ++ (y :: A ++ (M ++ (y :: B ++ S))))[j]? = some y ∧
    (P ++ (x :: A ++ (M ++ (y :: B ++ S)))).set i y = P ++ (y :: A ++ (M ++ (y :: B ++ S))) /\ (P ++ (y :: A ++ (M ++ (y :: B ++ S)))).set j x = (P ++ [y]) ++ (A ++ ((M ++ [x]) ++ (B ++ S))) := by
 have e : ∀ u : Int, P ++ (u :: A ++ (M ++ (y :: B ++ S))) = (P ++ u :: (A ++ M)) ++ y :: (B ++ S) := fun u => by simp
 have hl : ∀ u : Int, j = (P ++ u :: (A ++ M)).length := fun u => by simp; omega
 refine ⟨WS P x _ hi, ?_, ?_, js P x y _ hi, ?_⟩
 · rw [e]; exact WS _ _ _ (hl x)
 · rw [e]; exact WS _ _ _ (hl y)
 · rw [e, js _ _ _ _ (hl y)]; simp
theorem zeO (n : Nat) (H : zd) (a b k : Nat) (S : List Int) : ∀ (A B P M : List Int) (i Mx : Nat), B.length = A.length -> i + A.length = k -> a + i = P.length -> b + i = P.length + A.length + M.length -> P.length + A.length + M.length + B.length < lim -> A.length < Mx →
    zV Mx (qX n a b k) [.sl 1 (iL (P ++ (A ++ (M ++ (B ++ S))))) false, .int .i64 (i : Int)] H = some (.ret [.sl 1 (iL (P ++ (B ++ (M ++ (A ++ S))))) false], H)
 | _, _, _, _, i, 0, _, _, _, _, _, h => by omega
 | [], B, P, M, i, Mx + 1, hB, hk, ha, hb, hl, hm => by
   obtain rfl : B = [] := by cases B <;> simp_all
   have hik : ¬ (i : Int) < (k : Int) := by simp at hk; omega
   rw [zG]
   simp only [qX, gv, zi, zg, zu, za, zm, hik, decide_false, zn, if_false, lsl, zU]
 | x :: A, [], P, M, i, Mx + 1, hB, hk, ha, hb, hl, hm => by simp at hB
 | x :: A, y :: B, P, M, i, Mx + 1, hB, hk, ha, hb, hl, hm => by
   simp only [zB] at hB hk hb hl hm
   have hik : (i : Int) < (k : Int) := by omega
   have e1 : IntKind.i64.wrap ((a : Int) + (i : Int)) = ((a + i : Nat) : Int) := wN (by omega) (by omega)
   have e2 : IntKind.i64.wrap ((b : Int) + (i : Int)) = ((b + i : Nat) : Int) := wN (by omega) (by omega)
   have e3 : IntKind.i64.wrap ((i : Int) + 1) = ((i + 1 : Nat) : Int) := wN (by omega) (by omega)
   obtain ⟨s1, s2, s3, s4, s5⟩ := zqL P A M B S x y ha (show b + i = P.length + 1 + A.length + M.length by omega)
   have l1 : a + i < (P ++ (x :: A ++ (M ++ (y :: B ++ S)))).length := (zh.1 s1).1
   have l2 : b + i < (P ++ (x :: A ++ (M ++ (y :: B ++ S)))).length := (zh.1 s2).1
   have l3 : b + i < (P ++ (y :: A ++ (M ++ (y :: B ++ S)))).length := (zh.1 s3).1
   have ih := zeO n H a b k S A B (P ++ [y]) (M ++ [x]) (i + 1) Mx (by omega) (by omega) (by simp; omega) (by simp; omega) (by simp; omega) (by omega)
   rw [zG]
   simp only [qX, gv, zi, zg, zu, za, zm, hik, decide_true, if_true, zK, e1, e2, e3, Zj, zD, lsl, Qi, Kj, Nat.reduceBEq, and_true, if_true, l1, l2, l3, QS s1, QS s2, zb, V.cells, zB, zO, zr, zbS, zbR, zf3, s4,
    QS s3, s5, ih]
   simp
theorem zaI (n : Nat) (H : zd) (c : V) (a b k : Nat) (P A M B S : List Int) (hB : B.length = A.length) (hk : A.length = k) (ha : a = P.length) (hb : b = P.length + A.length + M.length) (hl : P.length + A.length + M.length + B.length < lim) (hn : k + 2 <= n) :
    call n 251 [.sl 1 (iL (P ++ (A ++ (M ++ (B ++ S))))) false, .int .i64 (a : Int), .int .i64 (b : Int), .int .i64 (k : Int), c] H = some (.ret [.sl 1 (iL (P ++ (B ++ (M ++ (A ++ S))))) false], H) := by
 obtain ⟨N, rfl⟩ : ∃ N, n = N + 1 := ⟨n - 1, by omega⟩
 rw [znO]
 unfold zpJ
 exact zeO N H a b k S A B P M 0 N hB (by omega) (by omega) (by omega) hl (by omega)
theorem zdk (n : Nat) (H : zd) (c : V) (m : Nat) : ∀ (Mx : Nat) (A B P S : List Int), A ≠ [] -> B ≠ [] -> m = P.length + A.length -> P.length + A.length + B.length < lim -> A.length + B.length <= Mx -> A.length + B.length + 2 <= n →
    zV Mx (qY n m c) [.sl 1 (iL (P ++ (A ++ (B ++ S)))) false, .int .i64 (A.length : Int), .int .i64 (B.length : Int)] H = some (.ret [.sl 1 (iL (P ++ (B ++ (A ++ S)))) false], H)
 | 0, A, B, P, S, hA, hB, _, _, h, _ => by
   cases A with
   | nil => exact absurd rfl hA
   | cons => simp at h
 | Mx + 1, A, B, P, S, hA, hB, hm, hl, hx, hn => by
   have a0 : 0 < A.length := ZF.2 hA
   have b0 : 0 < B.length := ZF.2 hB
   have e1 : IntKind.i64.wrap ((m : Int) - (A.length : Int)) = ((P.length : Nat) : Int) := wN (by omega) (by omega)
   rw [zG]
   by_cases h1 : A.length = B.length
   · have hne : ((A.length : Int) != (B.length : Int)) = false := by simp [h1]
     have hs := zaI n H c P.length m A.length P A [] B S h1.symm rfl rfl (by simpa using hm) (by simp; omega) (by omega)
     simp only [zU] at hs
     simp only [qY, gv, zi, zg, KW, za, zm, hne, zn, if_false, ZO, e1, lsl]
     rw [hs, J0]
   · have hne : ((A.length : Int) != (B.length : Int)) = true := by simp; omega
     by_cases h2 : B.length < A.length
     ·
      have hgt : (A.length : Int) > (B.length : Int) := by omega
      obtain ⟨A1, A2, rfl, hA1⟩ : ∃ A1 A2, A = A1 ++ A2 /\ A1.length = B.length := ⟨A.take B.length, A.drop B.length, (Zt _ _).symm, by rw [Zh]; omega⟩
      rw [zC] at *
      have hs := zaI n H c P.length m B.length P A1 A2 B S hA1.symm hA1 rfl (by omega) (by omega) (by omega)
      have e2 : IntKind.i64.wrap (((A1.length + A2.length : Nat) : Int) - (B.length : Int)) = ((A2.length : Nat) : Int) := wN (by omega) (by omega)
      have ih := zdk n H c m Mx A2 A1 (P ++ B) S (by rintro rfl; simp at h2; omega) (by rintro rfl; simp at hA1; omega) (by simp; omega) (by simp; omega) (by omega) (by omega)
      simp only [List.append_assoc] at hs ih ⊢
      rw [hA1] at ih
      simp only [qY, gv, zi, zg, KW, za, zm, hne, if_true, Xy, hgt, decide_true, ZO, e1, lsl]
      rw [hs, J0, e2, ih]
     · have hgt : ¬ (A.length : Int) > (B.length : Int) := by omega
       obtain ⟨B1, B2, rfl, hB2⟩ : ∃ B1 B2, B = B1 ++ B2 /\ B2.length = A.length := ⟨B.take (B.length - A.length), B.drop (B.length - A.length), (Zt _ _).symm, by rw [Xf]; omega⟩
       rw [zC] at *
       have hs := zaI n H c P.length (P.length + A.length + B1.length) A.length P A B1 B2 S hB2 rfl rfl rfl (by omega) (by omega)
       have e2 : IntKind.i64.wrap ((m : Int) + ((B1.length + B2.length : Nat) : Int)) = ((m + (B1.length + B2.length) : Nat) : Int) := wN (by omega) (by omega)
       have e3 : IntKind.i64.wrap (((m + (B1.length + B2.length) : Nat) : Int) - (A.length : Int)) = ((P.length + A.length + B1.length : Nat) : Int) := wN (by omega) (by omega)
       have e4 : IntKind.i64.wrap (((B1.length + B2.length : Nat) : Int) - (A.length : Int)) = ((B1.length : Nat) : Int) := wN (by omega) (by omega)
       have ih := zdk n H c m Mx B2 B1 P (A ++ S) (by rintro rfl; simp at hB2; omega) (by rintro rfl; simp at h1; omega) (by omega) (by omega) (by omega) (by omega)
       simp only [List.append_assoc] at hs ih ⊢
       rw [hB2] at ih
       simp only [qY, gv, zi, zg, KW, za, zm, hne, if_true, Xy, hgt, decide_false, zn, if_false, ZO, zK, e1, e2, e3, lsl]
       rw [hs, J0, e4, ih]
theorem znR (n : Nat) (H : zd) (c : V) (a m b : Nat) (P A B S : List Int) (hA : A ≠ []) (hB : B ≠ []) (ha : a = P.length) (hm : m = P.length + A.length) (hb : b = P.length + A.length + B.length) (hl : P.length + A.length + B.length < lim) (hn : A.length + B.length + 3 <= n) :
    call n 250 [.sl 1 (iL (P ++ (A ++ (B ++ S)))) false, .int .i64 (a : Int), .int .i64 (m : Int), .int .i64 (b : Int), c] H = some (.ret [.sl 1 (iL (P ++ (B ++ (A ++ S)))) false], H) := by
 obtain ⟨N, rfl⟩ : ∃ N, n = N + 1 := ⟨n - 1, by omega⟩
 have e1 : IntKind.i64.wrap ((m : Int) - (a : Int)) = ((A.length : Nat) : Int) := wN (by omega) (by omega)
 have e2 : IntKind.i64.wrap ((b : Int) - (m : Int)) = ((B.length : Nat) : Int) := wN (by omega) (by omega)
 rw [zoZ]
 unfold zqG
 rw [e1, e2]
 exact zdk N H c m N A B P S hA hB hm hl (by omega) (by omega)
end Go.Proofs.Tryz
namespace Go.Proofs.Tryz
open Go.L Go.Rp
set_option maxRecDepth 100000
structure CmpOk (n0 : Nat) (c : V) (H : zd) (K : Int -> Int) (D : Int -> Prop) : Prop where
 ex : ∃ f caps, c = .fn f caps /\ okV prog 3 f = true /\ Qw f = true /\ ∀ n, n0 <= n -> ∀ x y, D x -> D y -> ∃ q, call n f ([.int .i64 x, .int .i64 y] ++ caps) H = some (.ret [.int .i64 q], H) /\ (q < 0 ↔ K x < K y)
theorem adj (Q T : List Int) (y x : Int) {i j : Nat} (hi : i = Q.length) (hj : j = Q.length + 1) :
    (Q ++ y :: x :: T)[i]? = some y /\ (Q ++ y :: x :: T)[j]? = some x /\ (Q ++ y :: x :: T).set j y = Q ++ y :: y :: T /\ (Q ++ y :: x :: T).set i x = Q ++ x :: x :: T ∧
    (Q ++ y :: y :: T)[i]? = some y /\ (Q ++ x :: x :: T)[j]? = some x /\ (Q ++ y :: y :: T).set i x = Q ++ x :: y :: T /\ (Q ++ x :: x :: T).set j y = Q ++ x :: y :: T := by
 have e : ∀ u v : Int, Q ++ u :: v :: T = (Q ++ [u]) ++ v :: T := fun u v => by simp
 have hl : ∀ u : Int, j = (Q ++ [u]).length := fun u => by simp; omega
 refine ⟨WS _ _ _ hi, ?_, ?_, js _ _ _ _ hi, WS _ _ _ hi, ?_, js _ _ _ _ hi, ?_⟩
 · rw [e]; exact WS _ _ _ (hl y)
 · rw [e, js _ _ _ _ (hl y)]; simp
 · rw [e]; exact WS _ _ _ (hl x)
 · rw [e, js _ _ _ _ (hl x)]; simp
section
variable {K : Int -> Int} {D : Int -> Prop} {H : zd} {c : V} {n0 : Nat} {p : Nat -> Int}
theorem zeP (hc : CmpOk n0 c H K D) (n a i : Nat) (st1 : List V) (next3 : List V -> zd -> Option (Res × zd)) (hst : gv st1 1 = .int .i64 (i : Int)) (hi : i + 1 < lim) (hn : n0 <= n) (R : List Int) : ∀ (r : List Int) (x : Int) (b P : List Int) (j Mx : Nat),
    a = P.length -> j = P.length + r.length -> j + b.length + R.length + 1 < lim -> (∀ y ∈ r, D y) -> D x -> r.length < Mx →
    zV Mx (zbP n a c st1 next3) [.sl 1 (iL (P ++ (r.reverse ++ (x :: (b ++ R))))) false, .int .i64 (j : Int)] H = next3 [.sl 1 (iL (P ++ (zdi K r x b ++ R))) false, .int .i64 ((i + 1 : Nat) : Int)] H
 | _, _, _, _, _, 0, _, _, _, _, _, h => by omega
 | [], x, b, P, j, Mx + 1, ha, hj, hl, hr, hx, hM => by
   have hja : ¬ (j : Int) > (a : Int) := by simp at hj; omega
   have e1 : IntKind.i64.wrap ((i : Int) + 1) = ((i + 1 : Nat) : Int) := wN (by omega) hi
   rw [zG]
   simp only [zbP, gv, zi, zg, Xy, za, zm, hja, decide_false, zn, if_false, lsl]
   simp only [gv] at hst
   simp only [hst, zK, za, e1, zdi, List.reverse_nil, zU, ZX]
 | y :: r, x, b, P, j, Mx + 1, ha, hj, hl, hr, hx, hM => by
   obtain ⟨f, caps, hcf, hok, hk, hcmp⟩ := hc.ex
   have hfn : ∀ k : Nat -> List V -> Option (Res × zd), fnK c k = k f caps := fun k => by rw [hcf]; rfl
   simp only [zB] at hj hM
   have hja : (j : Int) > (a : Int) := by omega
   have hL : P ++ ((y :: r).reverse ++ (x :: (b ++ R))) = (P ++ r.reverse) ++ y :: x :: (b ++ R) := by simp
   have e1 : IntKind.i64.wrap ((i : Int) + 1) = ((i + 1 : Nat) : Int) := wN (by omega) hi
   have e2 : IntKind.i64.wrap ((j : Int) - 1) = ((j - 1 : Nat) : Int) := wN (by omega) (by omega)
   obtain ⟨s1, s2, s3, s4, s5, s6, s7, s8⟩ := adj (P ++ r.reverse) (b ++ R) y x (i := j - 1) (j := j) (by simp; omega) (by simp; omega)
   have l1 := (zh.1 s1).1
   have l2 := (zh.1 s2).1
   have l5 := (zh.1 s5).1
   obtain ⟨q, hq, hqk⟩ := hcmp n hn x y hx (hr y (by simp))
   have ih := zeP hc n a i st1 next3 hst hi hn R r x (y :: b) P (j - 1) Mx ha (by omega) (by simp; omega) (fun z hz => hr z (zp _ hz)) hx (by omega)
   rw [zG, hL]
   simp only [zbP, gv, zi, zg, Xy, za, zm, hja, decide_true, if_true, Zj, zD, lsl, Qi, Kj, Nat.reduceBEq, and_true, l1, l2, QS s1, QS s2, zb, ZO, e2, hfn, hok, hk]
   rw [hq, zM]
   simp only [zx, zu, za, zm]
   by_cases hxy : K x < K y
   · have hq0 : q < 0 := hqk.2 hxy
     simp only [hq0, decide_true, if_true, Zj, zD, za, QS s1, QS s2, zb, V.cells, zB, zO, zr, zbS, zbR, zf3, s3, Qi, l1, l2, l5, QS s5, s7, if_true]
     rw [zdi, if_pos hxy]
     have hL2 : (P ++ r.reverse) ++ x :: y :: (b ++ R) = P ++ (r.reverse ++ (x :: (y :: b ++ R))) := by simp
     rw [hL2]
     exact ih
   · have hq0 : ¬ q < 0 := fun h => hxy (hqk.1 h)
     simp only [gv] at hst
     simp only [hq0, decide_false, zn, if_false, hst, zK, za, e1]
     rw [zdi, if_neg hxy]
     simp
theorem zih (hc : CmpOk n0 c H K D) (n lo len : Nat) (hn : n0 <= n) (hn2 : len <= n) (hlim : lo + len + 1 < lim) (P S : List Int) (hP : lo = P.length) (hD : ∀ x ∈ rng p lo len, D x) (hS : lo + len + S.length < lim) : ∀ (d k Mx : Nat), 1 <= k -> (k + d = len \/ (len = 0 /\ k = 1 /\ d = 0)) -> d < Mx →
    zV Mx (q6 n lo ((lo + len : Nat) : Int) c) [.sl 1 (iL (P ++ (sR K p lo (min k len) ++ (rng p (lo + k) (len - k) ++ S)))) false, .int .i64 ((lo + k : Nat) : Int)] H = some (.ret [.sl 1 (iL (P ++ (sR K p lo len ++ S))) false], H)
 | d, k, 0, _, _, h => by omega
 | 0, k, Mx + 1, h1, hk, _ => by
   have hik : ¬ ((lo + k : Nat) : Int) < ((lo + len : Nat) : Int) := by omega
   have hmin : min k len = len := by omega
   have hz : len - k = 0 := by omega
   rw [zG]
   simp only [q6, gv, zi, zg, zu, za, zm, hik, decide_false, zn, if_false, lsl, hmin, hz]
   rfl
 | d + 1, k, Mx + 1, h1, hk, hM => by
   have hkl : k + (d + 1) = len := by omega
   have hik : ((lo + k : Nat) : Int) < ((lo + len : Nat) : Int) := by omega
   have hmin : min k len = k := by omega
   have hr : rng p (lo + k) (len - k) = p (lo + k) :: rng p (lo + (k + 1)) (len - (k + 1)) := by
    rw [show len - k = (len - (k + 1)) + 1 by omega, zie, ZM]
   have ih := zih hc n lo len hn hn2 hlim P S hP hD hS d (k + 1) Mx (by omega) (by omega) (by omega)
   have hm2 : min (k + 1) len = k + 1 := by omega
   rw [hm2] at ih
   have hDk : ∀ y ∈ (sR K p lo k).reverse, D y := fun y hy => hD y (by
    obtain ⟨i, h1, h2, h3⟩ := zaH.1 (List.mem_reverse.1 hy)
    exact Kh.2 ⟨i, h1, by omega, h3⟩)
   have inner := zeP hc n lo (lo + k) [.sl 1 (iL (P ++ (sR K p lo k ++ (rng p (lo + k) (len - k) ++ S)))) false, .int .i64 ((lo + k : Nat) : Int)] (zV Mx (q6 n lo ((lo + len : Nat) : Int) c)) rfl (by omega) hn (rng p (lo + (k + 1)) (len - (k + 1)) ++ S)
    (sR K p lo k).reverse (p (lo + k)) [] P (lo + k) n hP (by rw [List.length_reverse, Yu]; omega) (by rw [zC, zbQ]; simp; omega) hDk (hD _ (Kh.2 ⟨_, by omega, by omega, rfl⟩)) (by rw [List.length_reverse, Yu]; omega)
   rw [List.reverse_reverse, zU] at inner
   rw [zG, hmin]
   simp only [q6, gv, zi, zg, zu, za, zm, hik, decide_true, if_true, lsl]
   have hL : P ++ (sR K p lo k ++ (rng p (lo + k) (len - k) ++ S)) = P ++ (sR K p lo k ++ (p (lo + k) :: (rng p (lo + (k + 1)) (len - (k + 1)) ++ S))) := by rw [hr]; rfl
   simp only [hL] at inner ⊢
   rw [inner]
   exact ih
theorem zii (hc : CmpOk n0 c H K D) (n lo len : Nat) (P S : List Int) (hP : lo = P.length) (hD : ∀ x ∈ rng p lo len, D x) (hS : lo + len + S.length + 1 < lim) (hn : n0 + 1 <= n) (hn2 : len + 2 <= n) :
    call n 248 [.sl 1 (iL (P ++ (rng p lo len ++ S))) false, .int .i64 (lo : Int), .int .i64 ((lo + len : Nat) : Int), c] H = some (.ret [.sl 1 (iL (P ++ (sR K p lo len ++ S))) false], H) := by
 obtain ⟨N, rfl⟩ : ∃ N, n = N + 1 := ⟨n - 1, by omega⟩
 have e1 : IntKind.i64.wrap ((lo : Int) + 1) = ((lo + 1 : Nat) : Int) := wN (by omega) (by omega)
 rw [zo1]
 unfold zqI
 rw [e1]
 have h1 : rng p lo len = sR K p lo (min 1 len) ++ rng p (lo + 1) (len - 1) := by
  cases len with
  | zero => simp [rng, sR]
  | succ l =>
    have : min 1 (l + 1) = 1 := by omega
    rw [this, zie]; simp [sR, zdi]
 rw [h1, List.append_assoc]
 exact zih hc N lo len (by omega) (by omega) (by omega) P S hP hD (by omega) (len - 1) 1 N (by omega) (by omega) (by omega)
theorem zdl {l : V} {body : List V -> zd -> (List V -> zd -> Option (Res × zd)) -> Option (Res × zd)} {fin : Nat -> Option (Res × zd)} {Q : Nat -> Prop} (lo hi : Nat)
    (step : ∀ i j : Nat, lo <= i -> i < j -> j <= hi -> ∀ next, (Q ((i + j) / 2) /\ body [l, .int .i64 (i : Int), .int .i64 (j : Int)] H next = next [l, .int .i64 (((i + j) / 2 + 1 : Nat) : Int), .int .i64 (j : Int)] H) \/ (¬ Q ((i + j) / 2) /\ body [l, .int .i64 (i : Int), .int .i64 (j : Int)] H next = next [l, .int .i64 (i : Int), .int .i64 (((i + j) / 2 : Nat) : Int)] H))
    (stop : ∀ i : Nat, lo <= i -> i <= hi -> ∀ next, body [l, .int .i64 (i : Int), .int .i64 (i : Int)] H next = fin i) : ∀ (M i j : Nat), j - i < M -> lo <= i -> i <= j -> j <= hi -> (i = lo \/ Q (i - 1)) -> (j = hi \/ ¬ Q j) →
    ∃ r, lo <= r /\ r <= hi /\ (r = lo \/ Q (r - 1)) /\ (r = hi \/ ¬ Q r) /\ zV M body [l, .int .i64 (i : Int), .int .i64 (j : Int)] H = fin r
 | 0, i, j, h, _, _, _, _, _ => by omega
 | M + 1, i, j, h, h1, h2, h3, h4, h5 => by
   by_cases hij : i = j
   · subst hij
     exact ⟨i, h1, h3, h4, h5, by rw [zG]; exact stop i h1 h3 _⟩
   · rcases step i j h1 (by omega) h3 (zV M body) with ⟨q, e⟩ | ⟨q, e⟩
     · obtain ⟨r, r1, r2, r3, r4, r5⟩ := zdl lo hi step stop M ((i + j) / 2 + 1) j (by omega) (by omega) (by omega) h3 (.inr (by simpa using q)) h5
       exact ⟨r, r1, r2, r3, r4, by rw [zG, e]; exact r5⟩
     · obtain ⟨r, r1, r2, r3, r4, r5⟩ := zdl lo hi step stop M i ((i + j) / 2) (by omega) h1 (by omega) (by omega) h4 (.inr q)
       exact ⟨r, r1, r2, r3, r4, by rw [zG, e]; exact r5⟩
end
theorem zjF (a : Int) : cvt prog 3 204 (.int .i64 a) = some (.int .u64 (IntKind.u64.wrap a)) := by kernel_rfl
theorem zf4 (a : Int) : cvt prog 204 3 (.int .u64 a) = some (.int .i64 (IntKind.i64.wrap a)) := by kernel_rfl
theorem zkJ (a : Int) : bop prog .shr 204 (.int .u64 a) (.int .u64 1) = some (.int .u64 (a.fdiv (2 ^ (min (1 : Int).toNat 64)))) := by kernel_rfl
theorem zbT {i j : Nat} (h : i + j < lim) : IntKind.i64.wrap ((IntKind.u64.wrap (((i + j : Nat) : Int))).fdiv (2 ^ (min (1 : Int).toNat 64))) = (((i + j) / 2 : Nat) : Int) := by
 have e : IntKind.u64.wrap (((i + j : Nat) : Int)) = ((i + j : Nat) : Int) := by rw [IntKind.wrap_u64]; unfold lim at h; omega
 rw [e]
 have e2 : (2 : Int) ^ (min (1 : Int).toNat 64) = 2 := by decide
 rw [e2, Int.fdiv_eq_ediv_of_nonneg _ (by decide)]
 exact wN (by omega) (by omega)
end Go.Proofs.Tryz
namespace Go.Proofs.Tryz
open Go.L Go.Rp
set_option maxRecDepth 100000
noncomputable def zjG (n : Nat) (b : Int) (c : V) (v100 v138 : V) (l : List (List V)) (h : zd) : Option (Res × zd) :=
 bd (bop prog .lss 3 v100 v138) fun v153 =>
 bv v153 fun b154 => if b154 then
  bd (bop prog .lss 3 v138 (V.int .i64 b)) fun v155 =>
  bv v155 fun b156 => if b156 then
   clm (call n 249 (V.sl 1 l false :: [v100, v138, (V.int .i64 b), c]) h) 1 fun l157 r158 h159 => some (Res.ret (V.sl 1 l157 false :: []), h159)
  else some (Res.ret (V.sl 1 l false :: []), h)
 else some (Res.ret (V.sl 1 l false :: []), h)
noncomputable def zlW (n : Nat) (a b : Int) (c : V) (v100 v138 v1 : V) (l : List (List V)) (h : zd) : Option (Res × zd) :=
 bd (bop prog .lss 3 (V.int .i64 a) v1) fun v146 =>
 bv v146 fun b147 => if b147 then
  bd (bop prog .lss 3 v1 v100) fun v148 =>
  bv v148 fun b149 => if b149 then
   clm (call n 249 (V.sl 1 l false :: [(V.int .i64 a), v1, v100, c]) h) 1 fun l150 r151 h152 => zjG n b c v100 v138 l150 h152
  else zjG n b c v100 v138 l h
 else zjG n b c v100 v138 l h
noncomputable def znS (n : Nat) (a m b : Int) (c : V) (v100 v101 v1 : V) (l : List (List V)) (hh : zd) : Option (Res × zd) :=
 bd (bop prog .sub 3 v101 v1) fun v138 =>
 bd (bop prog .lss 3 v1 (V.int .i64 m)) fun v139 =>
 bv v139 fun b140 => if b140 then
  bd (bop prog .lss 3 (V.int .i64 m) v138) fun v141 =>
  bv v141 fun b142 => if b142 then
   clm (call n 250 (V.sl 1 l false :: [v1, (V.int .i64 m), v138, c]) hh) 1 fun l143 r144 h145 => zlW n a b c v100 v138 v1 l143 h145
  else zlW n a b c v100 v138 v1 l hh
 else zlW n a b c v100 v138 v1 l hh
def zkK (c : V) (H : zd) (K : Int -> Int) (D : Int -> Prop) (n sz : Nat) : Prop := ∀ (A B P S : List Int) (a m b : Nat), A ≠ [] -> B ≠ [] -> A.length + B.length <= sz -> a = P.length -> m = P.length + A.length -> b = P.length + A.length + B.length -> 2 * b + 1 < lim →
 Sd K A -> Sd K B -> (∀ x ∈ A, ∀ y ∈ B, x < y) -> (∀ x ∈ A, D x) -> (∀ y ∈ B, D y) -> ∃ C, C.Perm (A ++ B) /\ Sd K C ∧
  call n 249 [.sl 1 (iL (P ++ (A ++ (B ++ S)))) false, .int .i64 (a : Int), .int .i64 (m : Int), .int .i64 (b : Int), c] H = some (.ret [.sl 1 (iL (P ++ (C ++ S))) false], H)
section
variable {K : Int -> Int} {D : Int -> Prop} {H : zd} {c : V}
theorem zo3 {n sz : Nat} (ih : zkK c H K D n sz) (A B P S : List Int) (mid e b : Nat) (hsz : A.length + B.length <= sz) (hm : mid = P.length) (he : e = P.length + A.length) (hb : b = P.length + A.length + B.length) (hl : 2 * b + 1 < lim)
    (hA : Sd K A) (hB : Sd K B) (hlt : ∀ x ∈ A, ∀ y ∈ B, x < y) (dA : ∀ x ∈ A, D x) (dB : ∀ y ∈ B, D y) : ∃ C, C.Perm (A ++ B) /\ Sd K C ∧
    zjG n b c (.int .i64 (mid : Int)) (.int .i64 (e : Int)) (iL (P ++ (A ++ (B ++ S)))) H = some (.ret [.sl 1 (iL (P ++ (C ++ S))) false], H) := by
 unfold zjG
 by_cases h1 : A = []
 · subst h1
   have hc : ¬ (mid : Int) < (e : Int) := by simp at he; omega
   exact ⟨B, .refl _, hB, by simp only [zu, za, zm, hc, decide_false, zn, if_false, zU]⟩
 · have hA0 : 0 < A.length := ZF.2 h1
   have hc : (mid : Int) < (e : Int) := by omega
   by_cases h2 : B = []
   · subst h2
     have hc2 : ¬ (e : Int) < (b : Int) := by simp at hb; omega
     exact ⟨A, by simp, hA, by simp only [zu, za, zm, hc, hc2, decide_true, decide_false, zn, if_false, if_true, zU]⟩
   · have hB0 : 0 < B.length := ZF.2 h2
     have hc2 : (e : Int) < (b : Int) := by omega
     obtain ⟨C, p, s, e1⟩ := ih A B P S mid e b h1 h2 hsz hm he hb hl hA hB hlt dA dB
     refine ⟨C, p, s, ?_⟩
     simp only [zu, za, zm, hc, hc2, decide_true, if_true]
     rw [e1, J0]
theorem zo4 {n sz : Nat} (ih : zkK c H K D n sz) (A1 A2 B1 B2 P S : List Int) (a r mid e b : Nat) (h1z : A1.length + B1.length <= sz) (h2z : A2.length + B2.length <= sz) (ha : a = P.length) (hr : r = P.length + A1.length) (hm : mid = P.length + A1.length + B1.length) (he : e = mid + A2.length) (hb : b = e + B2.length) (hl : 2 * b + 1 < lim)
    (s1 : Sd K A1) (t1 : Sd K B1) (s2 : Sd K A2) (t2 : Sd K B2) (hlt : ∀ x ∈ A1 ++ A2, ∀ y ∈ B1 ++ B2, x < y) (dA : ∀ x ∈ A1 ++ A2, D x) (dB : ∀ y ∈ B1 ++ B2, D y) : ∃ C1 C2, C1.Perm (A1 ++ B1) /\ Sd K C1 /\ C2.Perm (A2 ++ B2) /\ Sd K C2 ∧
    zlW n a b c (.int .i64 (mid : Int)) (.int .i64 (e : Int)) (.int .i64 (r : Int)) (iL (P ++ (A1 ++ (B1 ++ (A2 ++ (B2 ++ S)))))) H = some (.ret [.sl 1 (iL (P ++ (C1 ++ (C2 ++ S)))) false], H) := by
 have hU : ∀ C1 : List Int, C1.length = A1.length + B1.length -> ∃ C2, C2.Perm (A2 ++ B2) /\ Sd K C2 /\ zjG n b c (.int .i64 (mid : Int)) (.int .i64 (e : Int)) (iL (P ++ (C1 ++ (A2 ++ (B2 ++ S))))) H = some (.ret [.sl 1 (iL (P ++ (C1 ++ (C2 ++ S)))) false], H) := fun C1 hC => by
  obtain ⟨C2, p, s, e1⟩ := zo3 ih A2 B2 (P ++ C1) S mid e b h2z (by simp; omega) (by simp; omega) (by simp; omega) hl s2 t2 (fun x hx y hy => hlt x (ZZ _ hx) y (ZZ _ hy)) (fun x hx => dA x (ZZ _ hx)) (fun y hy => dB y (ZZ _ hy))
  exact ⟨C2, p, s, by simpa only [List.append_assoc] using e1⟩
 unfold zlW
 by_cases h1 : A1 = []
 · subst h1
   have hc : ¬ (a : Int) < (r : Int) := by simp at hr; omega
   obtain ⟨C2, p, s, e1⟩ := hU B1 (by simp)
   exact ⟨B1, C2, .refl _, t1, p, s, by simp only [zu, za, zm, hc, decide_false, zn, if_false, zU]; exact e1⟩
 · have hA0 : 0 < A1.length := ZF.2 h1
   have hc : (a : Int) < (r : Int) := by omega
   by_cases h2 : B1 = []
   · subst h2
     have hc2 : ¬ (r : Int) < (mid : Int) := by simp at hm; omega
     obtain ⟨C2, p, s, e1⟩ := hU A1 (by simp)
     exact ⟨A1, C2, by simp, s1, p, s, by simp only [zu, za, zm, hc, hc2, decide_true, decide_false, zn, if_false, if_true, zU]; exact e1⟩
   · have hB0 : 0 < B1.length := ZF.2 h2
     have hc2 : (r : Int) < (mid : Int) := by omega
     obtain ⟨C1, p1, q1, e1⟩ := ih A1 B1 P (A2 ++ (B2 ++ S)) a r mid h1 h2 h1z ha hr hm (by omega) s1 t1 (fun x hx y hy => hlt x (Zc _ hx) y (Zc _ hy)) (fun x hx => dA x (Zc _ hx)) (fun y hy => dB y (Zc _ hy))
     obtain ⟨C2, p2, q2, e2⟩ := hU C1 (by rw [p1.length_eq]; simp)
     refine ⟨C1, C2, p1, q1, p2, q2, ?_⟩
     simp only [zu, za, zm, hc, hc2, decide_true, if_true]
     rw [e1, J0, e2]
theorem zo5 {n sz : Nat} (ih : zkK c H K D n sz) (A1 A2 B1 B2 P S : List Int) (a r m mid nn b : Nat) (h1z : A1.length + B1.length <= sz) (h2z : A2.length + B2.length <= sz) (ha : a = P.length) (hr : r = P.length + A1.length) (hmm : m = r + A2.length) (hm : mid = P.length + A1.length + B1.length) (hnn : nn = mid + m) (hb : b = m + B1.length + B2.length) (hl : 2 * b + 1 < lim) (hn : A2.length + B1.length + 3 <= n)
    (s1 : Sd K A1) (t1 : Sd K B1) (s2 : Sd K A2) (t2 : Sd K B2) (hlt : ∀ x ∈ A1 ++ A2, ∀ y ∈ B1 ++ B2, x < y) (dA : ∀ x ∈ A1 ++ A2, D x) (dB : ∀ y ∈ B1 ++ B2, D y) : ∃ C1 C2, C1.Perm (A1 ++ B1) /\ Sd K C1 /\ C2.Perm (A2 ++ B2) /\ Sd K C2 ∧
    znS n a m b c (.int .i64 (mid : Int)) (.int .i64 (nn : Int)) (.int .i64 (r : Int)) (iL (P ++ ((A1 ++ A2) ++ ((B1 ++ B2) ++ S)))) H = some (.ret [.sl 1 (iL (P ++ (C1 ++ (C2 ++ S)))) false], H) := by
 obtain ⟨C1, C2, p1, q1, p2, q2, e1⟩ := zo4 ih A1 A2 B1 B2 P S a r mid (m + B1.length) b h1z h2z ha hr hm (by omega) (by omega) hl s1 t1 s2 t2 hlt dA dB
 refine ⟨C1, C2, p1, q1, p2, q2, ?_⟩
 have e2 : IntKind.i64.wrap ((nn : Int) - (r : Int)) = ((m + B1.length : Nat) : Int) := wN (by omega) (by omega)
 unfold znS
 simp only [ZO, za, e2, zu, zm]
 by_cases h1 : A2 = []
 · subst h1
   have hc : ¬ (r : Int) < (m : Int) := by simp at hmm; omega
   simp only [hc, decide_false, zn, if_false]
   simpa only [Zr, zU, List.append_assoc] using e1
 · have hA0 : 0 < A2.length := ZF.2 h1
   have hc : (r : Int) < (m : Int) := by omega
   by_cases h2 : B1 = []
   · subst h2
     have hc2 : ¬ (m : Int) < ((m + ([] : List Int).length : Nat) : Int) := by simp
     simp only [hc, hc2, decide_true, decide_false, zn, if_false, if_true]
     simpa only [Zr, zU, List.append_assoc] using e1
   · have hB0 : 0 < B1.length := ZF.2 h2
     have hc2 : (m : Int) < ((m + B1.length : Nat) : Int) := by omega
     have hrot := znR n H c r m (m + B1.length) (P ++ A1) A2 B1 (B2 ++ S) h1 h2 (by simp; omega) (by simp; omega) (by simp; omega) (by simp; omega) hn
     simp only [hc, hc2, decide_true, if_true]
     simp only [List.append_assoc] at hrot e1 ⊢
     rw [hrot, J0, e1]
end
end Go.Proofs.Tryz
namespace Go.Proofs.Tryz
open Go.L Go.Rp
set_option maxRecDepth 100000
theorem zaa {k : Nat} : ((some k : Option Nat) ≠ some 0) = ((k == 0) = false) := by simp
theorem zlo : (0 : Nat) < 1 := by decide
theorem ole : (1 : Nat) <= 1 := by decide
theorem zbU (P A S : List Int) {h : Nat} (h1 : P.length <= h) (h2 : h < P.length + A.length) : (P ++ (A ++ S))[h]? = some (A.getD (h - P.length) 0) := by
 rw [zI h1, zl (by omega), zQ, zf (by omega)]; rfl
theorem zab {A : List Int} {k : Nat} (h : k < A.length) : A.getD k 0 ∈ A := by
 rw [zQ, zf h]; exact ZY h
section
variable {K : Int -> Int} {D : Int -> Prop} {H : zd} {c : V} {n0 : Nat} {p : Nat -> Int}
theorem zij (n i : Nat) (st1 : List V) (hst : st1.getD 1 (.bool false) = .int .i64 (i : Int)) (hi : i + 1 < lim) (x : Int) (R : List Int) : ∀ (B P : List Int) (k Mx : Nat), k = P.length -> i = k + 1 + B.length -> B.length < Mx →
    zV Mx (K6 n st1) [.sl 1 (iL (P ++ (x :: (B ++ R)))) false, .int .i64 (k : Int)] H = some (.ret [.sl 1 (iL (P ++ (B ++ (x :: R)))) false], H)
 | _, _, _, 0, _, _, h => by omega
 | [], P, k, Mx + 1, hk, hi', hM => by
   have e1 : IntKind.i64.wrap ((i : Int) - 1) = ((i - 1 : Nat) : Int) := wN (by omega) (by omega)
   have hc : ¬ (k : Int) < ((i - 1 : Nat) : Int) := by simp at hi'; omega
   rw [zG]
   simp only [K6, gv, zi, zg, hst, ZO, za, e1, zu, zm, hc, decide_false, zn, if_false, lsl, zU]
 | y :: B, P, k, Mx + 1, hk, hi', hM => by
   simp only [zB] at hi' hM
   have e1 : IntKind.i64.wrap ((i : Int) - 1) = ((i - 1 : Nat) : Int) := wN (by omega) (by omega)
   have e2 : IntKind.i64.wrap ((k : Int) + 1) = ((k + 1 : Nat) : Int) := wN (by omega) (by omega)
   have hc : (k : Int) < ((i - 1 : Nat) : Int) := by omega
   obtain ⟨s1, s2, s3, s4, s5, s6, s7, s8⟩ := adj P (B ++ R) x y hk (show k + 1 = P.length + 1 by omega)
   have l1 := (zh.1 s1).1
   have l2 := (zh.1 s2).1
   have l6 := (zh.1 s6).1
   have ih := zij n i st1 hst hi x R B (P ++ [y]) (k + 1) Mx (by simp; omega) (by omega) (by omega)
   rw [zG, ZX]
   simp only [K6, gv, zi, zg, hst, ZO, zK, za, e1, e2, zu, zm, hc, decide_true, if_true, Zj, zD, lsl, Qi, Kj, zaa, true_and, zlo, ole, Nat.reduceBEq, and_true, l1, l2, l6, QS s1, QS s2, zb, V.cells, zB, zO, zr, zbS, zbR, zf3, s4, QS s6, s8]
   simpa only [List.append_assoc, ZX, zU] using ih
theorem zik (n i : Nat) (st50 : List V) (hst : st50.getD 1 (.bool false) = .int .i64 (i : Int)) (x : Int) : ∀ (r R P : List Int) (k Mx : Nat), i = P.length -> k = P.length + r.length -> k + 1 < lim -> r.length < Mx →
    zV Mx (K7 n st50) [.sl 1 (iL (P ++ (r.reverse ++ (x :: R)))) false, .int .i64 (k : Int)] H = some (.ret [.sl 1 (iL (P ++ (x :: (r.reverse ++ R)))) false], H)
 | _, _, _, _, 0, _, _, _, h => by omega
 | [], R, P, k, Mx + 1, hi, hk, hl, hM => by
   have hc : ¬ (k : Int) > (i : Int) := by simp at hk; omega
   rw [zG]
   simp only [K7, gv, zi, zg, hst, Xy, za, zm, hc, decide_false, zn, if_false, lsl, zU, List.reverse_nil]
 | y :: r, R, P, k, Mx + 1, hi, hk, hl, hM => by
   simp only [zB] at hk hM
   have e1 : IntKind.i64.wrap ((k : Int) - 1) = ((k - 1 : Nat) : Int) := wN (by omega) (by omega)
   have hc : (k : Int) > (i : Int) := by omega
   have hL : P ++ ((y :: r).reverse ++ (x :: R)) = (P ++ r.reverse) ++ y :: x :: R := by simp
   obtain ⟨s1, s2, s3, s4, s5, s6, s7, s8⟩ := adj (P ++ r.reverse) R y x (i := k - 1) (j := k) (by simp; omega) (by simp; omega)
   have l1 := (zh.1 s1).1
   have l2 := (zh.1 s2).1
   have l5 := (zh.1 s5).1
   have ih := zik n i st50 hst x r (y :: R) P (k - 1) Mx hi (by omega) (by omega) (by omega)
   rw [zG, hL]
   simp only [K7, gv, zi, zg, hst, ZO, za, e1, Xy, zm, hc, decide_true, if_true, Zj, zD, lsl, Qi, Kj, zaa, true_and, zlo, ole, Nat.reduceBEq, and_true, l1, l2, l5, QS s1, QS s2, zb, V.cells, zB, zO, zr, zbS, zbR, zf3, s3, QS s5, s7]
   simpa only [List.append_assoc, J7, ZX, zU] using ih
theorem zo6 (hc : CmpOk n0 c H K D) (n : Nat) (x : Int) (B P S : List Int) (a m b : Nat) (ha : a = P.length) (hm : m = P.length + 1) (hb : b = P.length + 1 + B.length) (hl : 2 * b + 1 < lim) (hB : Sd K B) (hlt : ∀ y ∈ B, x < y) (dx : D x) (dB : ∀ y ∈ B, D y) (hn : n0 <= n) (hn2 : B.length + 2 <= n) :
    ∃ C, C.Perm (x :: B) /\ Sd K C /\ zV n (qZ n a c) [.sl 1 (iL (P ++ (x :: (B ++ S)))) false, .int .i64 (m : Int), .int .i64 (b : Int)] H = some (.ret [.sl 1 (iL (P ++ (C ++ S))) false], H) := by
 obtain ⟨f, caps, hcf, hok, hk, hcmp⟩ := hc.ex
 have hfn : ∀ k : Nat -> List V -> Option (Res × zd), fnK c k = k f caps := fun k => by rw [hcf]; rfl
 have gx : (P ++ (x :: (B ++ S)))[a]? = some x := WS _ _ _ ha
 have gB : ∀ h, m <= h -> h < b -> (P ++ (x :: (B ++ S)))[h]? = some (B.getD (h - m) 0) := fun h h1 h2 => by
  have := zbU (P ++ [x]) B S (h := h) (by simp; omega) (by simp; omega)
  simp only [List.append_assoc, ZX, zU, zC, ZI] at this
  rw [this, hm]
 obtain ⟨r, r1, r2, r3, r4, r5⟩ := zdl (H := H) (l := .sl 1 (iL (P ++ (x :: (B ++ S)))) false) (body := qZ n a c) (fin := fun i => zV n (K6 n [.sl 1 (iL (P ++ (x :: (B ++ S)))) false, .int .i64 (i : Int), .int .i64 (i : Int)]) [.sl 1 (iL (P ++ (x :: (B ++ S)))) false, .int .i64 (a : Int)] H) (Q := fun h => K (B.getD (h - m) 0) < K x) m b
  (fun i j h1 h2 h3 next => by
   have hij : (i : Int) < (j : Int) := by omega
   have e1 : IntKind.i64.wrap ((i : Int) + (j : Int)) = ((i + j : Nat) : Int) := wN (by omega) (by omega)
   have g1 := gB ((i + j) / 2) (by omega) (by omega)
   have l1 := (zh.1 g1).1
   have l2 := (zh.1 gx).1
   have e2 : IntKind.i64.wrap ((((i + j) / 2 : Nat) : Int) + 1) = (((i + j) / 2 + 1 : Nat) : Int) := wN (by omega) (by omega)
   obtain ⟨q, hq, hqk⟩ := hcmp n hn (B.getD ((i + j) / 2 - m) 0) x (dB _ (zab (by omega))) dx
   simp only [qZ, gv, zi, zg, zu, za, zm, hij, decide_true, if_true, zK, e1, zjF, zkJ, zf4, zbT (show i + j < lim by omega), Zj, zD, lsl, Qi, Kj, zaa, true_and, zlo, ole, Nat.reduceBEq, and_true, l1, l2, QS g1, QS gx, zb, hfn, hok, hk]
   rw [hq, zM]
   simp only [zx, zu, za, zm, zK, e2]
   by_cases h : K (B.getD ((i + j) / 2 - m) 0) < K x
   · exact .inl ⟨h, by simp only [hqk.2 h, decide_true, if_true]⟩
   · exact .inr ⟨h, by simp only [show ¬ q < 0 from fun h' => h (hqk.1 h'), decide_false, zn, if_false]⟩)
  (fun i h1 h2 next => by
   have hii : ¬ (i : Int) < (i : Int) := by omega
   simp only [qZ, gv, zi, zg, zu, za, zm, hii, decide_false, zn, if_false, lsl])
  n m b (by omega) (zk _) (by omega) (zk _) (.inl rfl) (.inl rfl)
 rw [r5]
 have hB2 : B = B.take (r - m) ++ B.drop (r - m) := (Zt _ _).symm
 refine ⟨B.take (r - m) ++ x :: B.drop (r - m), ?_, zlT hB (by omega) hlt ?_ ?_, ?_⟩
 · refine List.perm_middle.trans ?_
   rw [<- hB2]
 · rcases r3 with h | h
   · exact .inl (by omega)
   · exact .inr (by rw [show r - m - 1 = r - 1 - m by omega]; exact h)
 · rcases r4 with h | h
   · exact .inl (by omega)
   · exact .inr h
 · have := zij (H := H) n r [.sl 1 (iL (P ++ (x :: (B ++ S)))) false, .int .i64 (r : Int), .int .i64 (r : Int)] rfl (by omega) x (B.drop (r - m) ++ S) (B.take (r - m)) P a n ha (by rw [Zh]; omega) (by rw [Zh]; omega)
   have e : B ++ S = B.take (r - m) ++ (B.drop (r - m) ++ S) := by rw [<- List.append_assoc, <- hB2]
   rw [e]
   rw [e] at this
   rw [this]
   simp
theorem znT (hc : CmpOk n0 c H K D) (n : Nat) (x : Int) (A P S : List Int) (a m : Nat) (ha : a = P.length) (hm : m = P.length + A.length) (hl : 2 * (m + 1) + 1 < lim) (hA : Sd K A) (hlt : ∀ y ∈ A, y < x) (dx : D x) (dA : ∀ y ∈ A, D y) (hn : n0 <= n) (hn2 : A.length + 2 <= n) :
    ∃ C, C.Perm (A ++ [x]) /\ Sd K C /\ zV n (K8 n m c) [.sl 1 (iL (P ++ (A ++ (x :: S)))) false, .int .i64 (a : Int), .int .i64 (m : Int)] H = some (.ret [.sl 1 (iL (P ++ (C ++ S))) false], H) := by
 obtain ⟨f, caps, hcf, hok, hk, hcmp⟩ := hc.ex
 have hfn : ∀ k : Nat -> List V -> Option (Res × zd), fnK c k = k f caps := fun k => by rw [hcf]; rfl
 have gx : (P ++ (A ++ (x :: S)))[m]? = some x := by rw [<- List.append_assoc]; exact WS _ _ _ (by simp; omega)
 have gA : ∀ h, a <= h -> h < m -> (P ++ (A ++ (x :: S)))[h]? = some (A.getD (h - a) 0) := fun h h1 h2 => by
  rw [zbU P A (x :: S) (h := h) (by omega) (by omega), ha]
 obtain ⟨r, r1, r2, r3, r4, r5⟩ := zdl (H := H) (l := .sl 1 (iL (P ++ (A ++ (x :: S)))) false) (body := K8 n m c) (fin := fun i => zV n (K7 n [.sl 1 (iL (P ++ (A ++ (x :: S)))) false, .int .i64 (i : Int), .int .i64 (i : Int)]) [.sl 1 (iL (P ++ (A ++ (x :: S)))) false, .int .i64 (m : Int)] H) (Q := fun h => ¬ K x < K (A.getD (h - a) 0)) a m
  (fun i j h1 h2 h3 next => by
   have hij : (i : Int) < (j : Int) := by omega
   have e1 : IntKind.i64.wrap ((i : Int) + (j : Int)) = ((i + j : Nat) : Int) := wN (by omega) (by omega)
   have g1 := gA ((i + j) / 2) (by omega) (by omega)
   have l1 := (zh.1 g1).1
   have l2 := (zh.1 gx).1
   have e2 : IntKind.i64.wrap ((((i + j) / 2 : Nat) : Int) + 1) = (((i + j) / 2 + 1 : Nat) : Int) := wN (by omega) (by omega)
   obtain ⟨q, hq, hqk⟩ := hcmp n hn x (A.getD ((i + j) / 2 - a) 0) dx (dA _ (zab (by omega)))
   simp only [K8, gv, zi, zg, zu, za, zm, hij, decide_true, if_true, zK, e1, zjF, zkJ, zf4, zbT (show i + j < lim by omega), Zj, zD, lsl, Qi, Kj, zaa, true_and, zlo, ole, Nat.reduceBEq, and_true, l1, l2, QS g1, QS gx, zb, hfn, hok, hk]
   rw [hq, zM]
   simp only [zx, zu, za, Y9, zm, zK, e2]
   by_cases h : K x < K (A.getD ((i + j) / 2 - a) 0)
   · exact .inr ⟨fun h' => h' h, by simp only [hqk.2 h, decide_true, QJ, zn, if_false]⟩
   · exact .inl ⟨h, by simp only [show ¬ q < 0 from fun h' => h (hqk.1 h'), decide_false, Bool.not_false, if_true]⟩)
  (fun i h1 h2 next => by
   have hii : ¬ (i : Int) < (i : Int) := by omega
   simp only [K8, gv, zi, zg, zu, za, zm, hii, decide_false, zn, if_false, lsl])
  n a m (by omega) (zk _) (by omega) (zk _) (.inl rfl) (.inl rfl)
 rw [r5]
 have hA2 : A = A.take (r - a) ++ A.drop (r - a) := (Zt _ _).symm
 refine ⟨A.take (r - a) ++ x :: A.drop (r - a), ?_, zjE hA (by omega) hlt ?_ ?_, ?_⟩
 · refine List.perm_middle.trans ?_
   rw [<- hA2]
   exact (List.perm_append_singleton x A).symm
 · rcases r3 with h | h
   · exact .inl (by omega)
   · exact .inr (by rw [show r - a - 1 = r - 1 - a by omega]; exact h)
 · rcases r4 with h | h
   · exact .inl (by omega)
   · exact .inr (by simpa using h)
 · have := zik (H := H) n r [.sl 1 (iL (P ++ (A ++ (x :: S)))) false, .int .i64 (r : Int), .int .i64 (r : Int)] rfl x (A.drop (r - a)).reverse S (P ++ A.take (r - a)) m n (by simp; omega) (by simp; omega) (by omega) (by simp; omega)
   rw [List.reverse_reverse] at this
   have e : P ++ (A ++ (x :: S)) = (P ++ A.take (r - a)) ++ (A.drop (r - a) ++ (x :: S)) := by
    conv => lhs; rw [hA2]
    simp only [List.append_assoc]
   rw [e]
   rw [e] at this
   rw [this]
   simp
end
end Go.Proofs.Tryz
namespace Go.Proofs.Tryz
open Go.L Go.Rp
set_option maxRecDepth 100000
section
variable {K : Int -> Int} {D : Int -> Prop} {H : zd} {c : V} {n0 : Nat} {p : Nat -> Int}
theorem zjH (hc : CmpOk n0 c H K D) (n : Nat) (A B P S : List Int) (a m b mid nn lo hi : Nat) (body : List V -> zd -> (List V -> zd -> Option (Res × zd)) -> Option (Res × zd))
    (hbody : ∀ st hh next, body st hh next = YK n a m b c (.int .i64 (mid : Int)) (.int .i64 (nn : Int)) (.int .i64 ((nn - 1 : Nat) : Int)) st hh next)
    (ha : a = P.length) (hm : m = P.length + A.length) (hb : b = P.length + A.length + B.length) (hmid : mid = (a + b) / 2) (hnn : nn = mid + m) (hl : 2 * b + 1 < lim)
    (hlo : (m > mid /\ lo = nn - b /\ hi = mid) \/ (m <= mid /\ lo = a /\ hi = m)) (hA0 : 0 < A.length) (hB0 : 0 < B.length)
    (dA : ∀ x ∈ A, D x) (dB : ∀ y ∈ B, D y) (hn : n0 <= n) (hn2 : hi < n + lo) :
    ∃ r, a <= r /\ r <= m /\ r <= mid /\ mid <= r + B.length /\ (r - a = 0 \/ B.length <= mid - r \/ ¬ K (B.getD (mid - r) 0) < K (A.getD (r - a - 1) 0)) /\ (mid - r = 0 \/ A.length <= r - a \/ K (B.getD (mid - r - 1) 0) < K (A.getD (r - a) 0)) ∧
     zV n body [.sl 1 (iL (P ++ (A ++ (B ++ S)))) false, .int .i64 (lo : Int), .int .i64 (hi : Int)] H = znS n a m b c (.int .i64 (mid : Int)) (.int .i64 (nn : Int)) (.int .i64 (r : Int)) (iL (P ++ (A ++ (B ++ S)))) H := by
 obtain ⟨f, caps, hcf, hok, hk, hcmp⟩ := hc.ex
 have hfn : ∀ k : Nat -> List V -> Option (Res × zd), fnK c k = k f caps := fun k => by rw [hcf]; rfl
 have gA : ∀ h, a <= h -> h < m -> (P ++ (A ++ (B ++ S)))[h]? = some (A.getD (h - a) 0) := fun h h1 h2 => by
  rw [zbU P A (B ++ S) (h := h) (by omega) (by omega), ha]
 have gB : ∀ h, m <= h -> h < b -> (P ++ (A ++ (B ++ S)))[h]? = some (B.getD (h - m) 0) := fun h h1 h2 => by
  have := zbU (P ++ A) B S (h := h) (by simp; omega) (by simp; omega)
  simp only [List.append_assoc, zC] at this
  rw [this, hm]
 have hlom : a <= lo /\ lo <= hi /\ hi <= m /\ hi <= mid /\ mid <= lo + B.length := by
  rcases hlo with ⟨h1, h2, h3⟩ | ⟨h1, h2, h3⟩ <;> omega
 obtain ⟨r, r1, r2, r3, r4, r5⟩ := zdl (H := H) (l := .sl 1 (iL (P ++ (A ++ (B ++ S)))) false) (body := body) (fin := fun i => znS n a m b c (.int .i64 (mid : Int)) (.int .i64 (nn : Int)) (.int .i64 (i : Int)) (iL (P ++ (A ++ (B ++ S)))) H) (Q := fun h => ¬ K (B.getD (mid - 1 - h) 0) < K (A.getD (h - a) 0)) lo hi
  (fun i j h1 h2 h3 next => by
   rw [hbody]
   have hij : (i : Int) < (j : Int) := by omega
   have e1 : IntKind.i64.wrap ((i : Int) + (j : Int)) = ((i + j : Nat) : Int) := wN (by omega) (by omega)
   have g1 := gA ((i + j) / 2) (by omega) (by omega)
   have g2 := gB (nn - 1 - (i + j) / 2) (by omega) (by omega)
   have l1 := (zh.1 g1).1
   have l2 := (zh.1 g2).1
   have e2 : IntKind.i64.wrap ((((i + j) / 2 : Nat) : Int) + 1) = (((i + j) / 2 + 1 : Nat) : Int) := wN (by omega) (by omega)
   have e3 : IntKind.i64.wrap (((nn - 1 : Nat) : Int) - (((i + j) / 2 : Nat) : Int)) = ((nn - 1 - (i + j) / 2 : Nat) : Int) := wN (by omega) (by omega)
   have e4 : nn - 1 - (i + j) / 2 - m = mid - 1 - (i + j) / 2 := by omega
   rw [e4] at g2
   obtain ⟨q, hq, hqk⟩ := hcmp n hn (B.getD (mid - 1 - (i + j) / 2) 0) (A.getD ((i + j) / 2 - a) 0) (dB _ (zab (by omega))) (dA _ (zab (by omega)))
   simp only [YK, gv, zi, zg, zu, za, zm, hij, decide_true, if_true, zK, e1, zjF, zkJ, zf4, zbT (show i + j < lim by omega), ZO, e3, Zj, zD, lsl, Qi, Kj, zaa, true_and, zlo, ole, Nat.reduceBEq, and_true, l1, l2, QS g1, QS g2, zb, hfn, hok, hk]
   rw [hq, zM]
   simp only [zx, zu, za, Y9, zm, zK, e2]
   by_cases h : K (B.getD (mid - 1 - (i + j) / 2) 0) < K (A.getD ((i + j) / 2 - a) 0)
   · exact .inr ⟨fun h' => h' h, by simp only [hqk.2 h, decide_true, QJ, zn, if_false]⟩
   · exact .inl ⟨h, by simp only [show ¬ q < 0 from fun h' => h (hqk.1 h'), decide_false, Bool.not_false, if_true]⟩)
  (fun i h1 h2 next => by
   have hii : ¬ (i : Int) < (i : Int) := by omega
   rw [hbody]
   simp only [YK, gv, zi, zg, zu, za, zm, hii, decide_false, zn, if_false, lsl, znS, zlW, zjG])
  n lo hi (by omega) (zk _) hlom.2.1 (zk _) (.inl rfl) (.inl rfl)
 refine ⟨r, by omega, by omega, by omega, by omega, ?_, ?_, r5⟩
 · rcases r3 with h | h
   · rcases hlo with ⟨h1, h2, h3⟩ | ⟨h1, h2, h3⟩
     · exact .inr (.inl (by omega))
     · exact .inl (by omega)
   · by_cases h0 : r - a = 0
     · exact .inl h0
     · refine .inr (.inr ?_)
       rw [show mid - r = mid - 1 - (r - 1) by omega, show r - a - 1 = r - 1 - a by omega]
       exact h
 · rcases r4 with h | h
   · rcases hlo with ⟨h1, h2, h3⟩ | ⟨h1, h2, h3⟩
     · exact .inl (by omega)
     · exact .inr (.inl (by omega))
   · refine .inr (.inr ?_)
     rw [show mid - r - 1 = mid - 1 - r by omega]
     simpa using h
theorem zeQ (hc : CmpOk n0 c H K D) : ∀ (sz n : Nat), n0 + 2 * sz + 8 <= n -> zkK c H K D n sz
 | 0, n, _ => fun A B P S a m b hA hB hsz => by
   have := ZF.2 hA; omega
 | sz + 1, n, hn => fun A B P S a m b hA hB hsz ha hm hb hl sA sB hlt dA dB => by
   obtain ⟨N, rfl⟩ : ∃ N, n = N + 1 := ⟨n - 1, by omega⟩
   have ih := zeQ hc sz N (by omega)
   have hA0 := ZF.2 hA
   have hB0 := ZF.2 hB
   have e1 : IntKind.i64.wrap ((m : Int) - (a : Int)) = ((A.length : Nat) : Int) := wN (by omega) (by omega)
   have e2 : IntKind.i64.wrap ((b : Int) - (m : Int)) = ((B.length : Nat) : Int) := wN (by omega) (by omega)
   have e3 : IntKind.i64.wrap ((a : Int) + (b : Int)) = ((a + b : Nat) : Int) := wN (by omega) (by omega)
   rw [zo0]
   unfold zqH
   rw [e1, e2, e3]
   by_cases h1 : A.length = 1
   · obtain ⟨x, rfl⟩ := ZN.1 h1
     have hc1 : ((([x] : List Int).length : Int) == 1) = true := by simp
     rw [if_pos hc1]
     obtain ⟨C, p, s, e⟩ := zo6 hc N x B P S a m b ha (by simpa using hm) (by simpa using hb) hl sB (fun y hy => hlt x (by simp) y hy) (dA x (by simp)) dB (by omega) (by omega)
     exact ⟨C, by simpa using p, s, by simpa using e⟩
   · have hc1 : ¬ (((A.length : Nat) : Int) == 1) = true := by simp; omega
     rw [if_neg hc1]
     by_cases h2 : B.length = 1
     · obtain ⟨x, rfl⟩ := ZN.1 h2
       have hc2 : ((([x] : List Int).length : Int) == 1) = true := by simp
       rw [if_pos hc2]
       obtain ⟨C, p, s, e⟩ := znT hc N x A P S a m ha hm (by simp at hb; omega) sA (fun y hy => hlt y hy x (by simp)) (dB x (by simp)) dA (by omega) (by simp at hsz; omega)
       exact ⟨C, p, s, by simpa using e⟩
     · have hc2 : ¬ (((B.length : Nat) : Int) == 1) = true := by simp; omega
       rw [if_neg hc2]
       obtain ⟨mid, hmid⟩ : ∃ mid, mid = (a + b) / 2 := ⟨_, rfl⟩
       obtain ⟨nn, hnn⟩ : ∃ nn, nn = mid + m := ⟨_, rfl⟩
       have e4 : IntKind.i64.wrap ((mid : Int) + (m : Int)) = ((nn : Nat) : Int) := wN (by omega) (by omega)
       have e5 : IntKind.i64.wrap ((nn : Int) - 1) = ((nn - 1 : Nat) : Int) := wN (by omega) (by omega)
       have e6 := zbT (show a + b < lim by omega)
       rw [<- hmid] at e6
       simp only [zkJ, za, zf4, e6, zK, e4, Xy, zm]
       have key : ∀ (lo hi : Nat) (body : List V -> zd -> (List V -> zd -> Option (Res × zd)) -> Option (Res × zd)), (∀ st hh next, body st hh next = YK N a m b c (.int .i64 (mid : Int)) (.int .i64 (nn : Int)) (.int .i64 ((nn - 1 : Nat) : Int)) st hh next) →
           ((m > mid /\ lo = nn - b /\ hi = mid) \/ (m <= mid /\ lo = a /\ hi = m)) -> ∃ C, C.Perm (A ++ B) /\ Sd K C /\ zV N body [.sl 1 (iL (P ++ (A ++ (B ++ S)))) false, .int .i64 (lo : Int), .int .i64 (hi : Int)] H = some (.ret [.sl 1 (iL (P ++ (C ++ S))) false], H) := fun lo hi body hbody hlo => by
        obtain ⟨r, r1, r2, r3, r4, r5, r6, r7⟩ := zjH hc N A B P S a m b mid nn lo hi body hbody ha hm hb hmid hnn hl hlo hA0 hB0 dA dB (by omega) (by omega)
        have hAt : A = A.take (r - a) ++ A.drop (r - a) := (Zt _ _).symm
        have hBt : B = B.take (mid - r) ++ B.drop (mid - r) := (Zt _ _).symm
        have hcr := zqJ sA sB (by omega) (by omega) hlt r5 r6
        have tA : (A.take (r - a)).length = r - a := by rw [Zh]; omega
        have tB : (B.take (mid - r)).length = mid - r := by rw [Zh]; omega
        have dA' : (A.drop (r - a)).length = A.length - (r - a) := Xf
        have dB' : (B.drop (mid - r)).length = B.length - (mid - r) := Xf
        obtain ⟨C1, C2, p1, q1, p2, q2, e⟩ := zo5 ih (A.take (r - a)) (A.drop (r - a)) (B.take (mid - r)) (B.drop (mid - r)) P S a r m mid nn b (by omega) (by omega) ha (by omega) (by omega) (by omega) hnn (by omega) hl (by omega)
         (sA.sublist (J6 _ _)) (sB.sublist (J6 _ _)) (sA.sublist (Qe _ _)) (sB.sublist (Qe _ _)) (by rw [<- hAt, <- hBt]; exact hlt) (by rw [<- hAt]; exact dA) (by rw [<- hBt]; exact dB)
        rw [<- hAt, <- hBt] at e
        refine ⟨C1 ++ C2, ?_, ZG.2 ⟨q1, q2, fun u hu v hv => hcr u (p1.mem_iff.1 hu) v (p2.mem_iff.1 hv)⟩, ?_⟩
        · refine (p1.append p2).trans ?_
          conv => rhs; rw [hAt, hBt]
          simp only [List.append_assoc]
          refine List.Perm.append_left _ ?_
          rw [<- List.append_assoc, <- List.append_assoc]
          exact List.Perm.append_right _ List.perm_append_comm
        · rw [r7, e]; simp only [List.append_assoc]
       by_cases hg : (m : Int) > (mid : Int)
       · have e7 : IntKind.i64.wrap ((nn : Int) - (b : Int)) = ((nn - b : Nat) : Int) := wN (by omega) (by omega)
         simp only [hg, decide_true, if_true, ZO, za, e7, e5]
         exact key (nn - b) mid _ (fun _ _ _ => rfl) (.inl ⟨by omega, rfl, rfl⟩)
       · simp only [hg, decide_false, zn, if_false, ZO, za, e5]
         exact key a m _ (fun _ _ _ => rfl) (.inr ⟨by omega, rfl, rfl⟩)
theorem znU (hp : zf0 p) (hc : CmpOk n0 c H K D) (n lo i j : Nat) (P S : List Int) (hP : lo = P.length) (hi : 0 < i) (hj : 0 < j) (hl : 2 * (lo + i + j) + 1 < lim) (hD : ∀ x ∈ rng p lo (i + j), D x) (hn : n0 + 2 * (i + j) + 8 <= n) :
    call n 249 [.sl 1 (iL (P ++ (sR K p lo i ++ (sR K p (lo + i) j ++ S)))) false, .int .i64 (lo : Int), .int .i64 ((lo + i : Nat) : Int), .int .i64 ((lo + i + j : Nat) : Int), c] H = some (.ret [.sl 1 (iL (P ++ (sR K p lo (i + j) ++ S))) false], H) := by
 have hne : ∀ l k, 0 < k -> sR K p l k ≠ [] := fun l k hk h => by have := Yu (K := K) (p := p) l k; rw [h] at this; simp at this; omega
 obtain ⟨C, q, s, e⟩ := zeQ hc (i + j) n hn (sR K p lo i) (sR K p (lo + i) j) P S lo (lo + i) (lo + i + j) (hne _ _ hi) (hne _ _ hj) (by rw [Yu, Yu]; omega) hP (by rw [Yu]; omega) (by rw [Yu, Yu]; omega) hl (zif hp _ _) (zif hp _ _)
  (fun x hx y hy => zqK hp hx hy) (fun x hx => hD x (jr (zk _) (by omega) (Kh.2 (zaH.1 hx)))) (fun x hx => hD x (jr (Nat.le_add_right _ _) (by omega) (Kh.2 (zaH.1 hx))))
 rw [e, zo2 hp q s]
end
end Go.Proofs.Tryz
namespace Go.Proofs.Tryz
open Go.L Go.Rp
set_option maxRecDepth 100000
@[simp] theorem Yo (a b : Int) : bop prog .mul 3 (.int .i64 a) (.int .i64 b) = some (.int .i64 (IntKind.i64.wrap (a * b))) := by kernel_rfl
section
variable {K : Int -> Int} {D : Int -> Prop} {H : zd} {c : V} {n0 : Nat} {p : Nat -> Int}
theorem YL {bs : Nat} (hb : 0 < bs) (f lo len : Nat) (h : bs <= len) (hf : len <= f) : Q5 K p bs f lo len = sR K p lo bs ++ Q5 K p bs f (lo + bs) (len - bs) := by
 rcases ZV bs len with h1 | h1
 · exact zlV hb f lo len h1 hf
 · obtain rfl : len = bs := by omega
   rw [JR f lo len (zk _) (by omega), Q7, JR f _ 0 (by omega) (by omega)]
   simp [sR]
theorem zdm (hc : CmpOk n0 c H K D) (n k f : Nat) (hD : ∀ x ∈ rng p 0 k, D x) (hl : 2 * k + 100 < lim) (hn : n0 + k + 25 <= n) (hf : k <= f) (hf0 : 0 < f) : ∀ (M len a : Nat) (P : List Int), a = P.length -> a + len = k -> len < M -> ∃ u v : Nat,
    zV M (q7 n k c) [.sl 1 (iL (P ++ rng p a len)) false, .int .i64 (a : Int), .int .i64 ((a + 20 : Nat) : Int)] H = zV n (WZ n k c) [.sl 1 (iL (P ++ Q5 K p 20 f a len)) false, .int .i64 20, .int .i64 (u : Int), .int .i64 (v : Int)] H
 | 0, _, _, _, _, _, h => by omega
 | M + 1, len, a, P, ha, hk, hM => by
   rw [zG]
   by_cases h : 20 <= len
   · have h1 : ((a + 20 : Nat) : Int) <= (k : Int) := by omega
     have e1 : IntKind.i64.wrap (((a + 20 : Nat) : Int) + 20) = ((a + 20 + 20 : Nat) : Int) := wN (by omega) (by omega)
     have hr : rng p a len = rng p a 20 ++ rng p (a + 20) (len - 20) := by rw [<- zf1]; congr 1; omega
     have hi := zii hc n a 20 P (rng p (a + 20) (len - 20)) ha (fun x hx => hD x (jr (by omega) (by omega) hx)) (by rw [zbQ]; omega) (by omega) (by omega)
     obtain ⟨u, v, e⟩ := zdm hc n k f hD hl hn hf hf0 M (len - 20) (a + 20) (P ++ sR K p a 20) (by rw [zC, Yu]; omega) (by omega) (by omega)
     refine ⟨u, v, ?_⟩
     simp only [q7, gv, zi, zg, QB, za, zm, h1, decide_true, if_true, lsl]
     rw [hr, hi, J0]
     simp only [zK, za, e1]
     rw [YL (by omega) f a len h (by omega), <- List.append_assoc, <- List.append_assoc]
     exact e
   · have h1 : ¬ ((a + 20 : Nat) : Int) <= (k : Int) := by omega
     have hi := zii hc n a len P [] ha (fun x hx => hD x (jr (by omega) (by omega) hx)) (by simp; omega) (by omega) (by omega)
     rw [Zr, Zr, hk] at hi
     refine ⟨a, a + 20, ?_⟩
     simp only [q7, gv, zi, zg, QB, za, zm, h1, decide_false, zn, if_false, lsl]
     rw [hi, J0, JR f a len (by omega) hf0]
theorem zdn (hp : zf0 p) (hc : CmpOk n0 c H K D) (n k f bs : Nat) (st14 : List V) (next16 : List V -> zd -> Option (Res × zd)) (hst : st14.getD 1 (.bool false) = .int .i64 (bs : Int)) (hb : 0 < bs) (hbk : bs < k) (hD : ∀ x ∈ rng p 0 k, D x) (hl : 4 * k + 100 < lim) (hn : n0 + 2 * k + 8 <= n) (hf : k <= f) : ∀ (M len a : Nat) (P : List Int), a = P.length -> a + len = k -> len < M -> ∃ u v : Nat,
    zV M (jq n k c st14 next16) [.sl 1 (iL (P ++ Q5 K p bs f a len)) false, .int .i64 (a : Int), .int .i64 ((a + 2 * bs : Nat) : Int)] H = next16 [.sl 1 (iL (P ++ Q5 K p (2 * bs) f a len)) false, .int .i64 ((2 * bs : Nat) : Int), .int .i64 (u : Int), .int .i64 (v : Int)] H
 | 0, _, _, _, _, _, h => by omega
 | M + 1, len, a, P, ha, hk, hM => by
   rw [zG]
   have e1 : IntKind.i64.wrap ((a : Int) + (bs : Int)) = ((a + bs : Nat) : Int) := wN (by omega) (by omega)
   have e2 : IntKind.i64.wrap (2 * (bs : Int)) = ((2 * bs : Nat) : Int) := wN (by omega) (by omega)
   have e3 : IntKind.i64.wrap ((bs : Int) * 2) = ((2 * bs : Nat) : Int) := wN (by omega) (by omega)
   by_cases h : 2 * bs <= len
   · have h1 : ((a + 2 * bs : Nat) : Int) <= (k : Int) := by omega
     have e4 : IntKind.i64.wrap (((a + 2 * bs : Nat) : Int) + ((2 * bs : Nat) : Int)) = ((a + 2 * bs + 2 * bs : Nat) : Int) := wN (by omega) (by omega)
     have hs := znU hp hc n a bs bs P (Q5 K p bs f (a + bs + bs) (len - bs - bs)) ha hb hb (by omega) (fun x hx => hD x (jr (by omega) (by omega) hx)) (by omega)
     obtain ⟨u, v, e⟩ := zdn hp hc n k f bs st14 next16 hst hb hbk hD hl hn hf M (len - 2 * bs) (a + 2 * bs) (P ++ sR K p a (2 * bs)) (by rw [zC, Yu]; omega) (by omega) (by omega)
     refine ⟨u, v, ?_⟩
     rw [YL hb f a len (by omega) (by omega), YL hb f (a + bs) (len - bs) (by omega) (by omega), YL (bs := 2 * bs) (by omega) f a len h (by omega)]
     simp only [jq, gv, zi, zg, hst, QB, za, zm, h1, decide_true, if_true, zK, e1, lsl]
     rw [show ((a + bs + bs : Nat) : Int) = ((a + 2 * bs : Nat) : Int) by omega] at hs
     rw [hs, J0]
     simp only [Yo, zK, za, e2, e4]
     rw [show bs + bs = 2 * bs by omega, show a + bs + bs = a + 2 * bs by omega, show len - bs - bs = len - 2 * bs by omega, <- List.append_assoc, <- List.append_assoc]
     exact e
   · have h1 : ¬ ((a + 2 * bs : Nat) : Int) <= (k : Int) := by omega
     refine ⟨a, a + 2 * bs, ?_⟩
     simp only [jq, gv, zi, zg, hst, QB, za, zm, h1, decide_false, zn, if_false, zK, e1, zu, lsl]
     by_cases h2 : bs < len
     · have h3 : ((a + bs : Nat) : Int) < (k : Int) := by omega
       have hs := znU hp hc n a bs (len - bs) P [] ha hb (by omega) (by omega) (fun x hx => hD x (jr (by omega) (by omega) hx)) (by omega)
       rw [Zr, Zr, show a + bs + (len - bs) = k by omega, show bs + (len - bs) = len by omega] at hs
       simp only [h3, decide_true, if_true]
       rw [YL hb f a len (by omega) (by omega), JR f (a + bs) (len - bs) (by omega) (by omega), JR (bs := 2 * bs) f a len (by omega) (by omega), hs, J0]
       simp only [Yo, za, e3]
     · have h3 : ¬ ((a + bs : Nat) : Int) < (k : Int) := by omega
       simp only [h3, decide_false, zn, if_false, Yo, za, e3]
       rw [JR f a len (by omega) (by omega), JR (bs := 2 * bs) f a len (by omega) (by omega)]
theorem zil (hp : zf0 p) (hc : CmpOk n0 c H K D) (n k f : Nat) (hD : ∀ x ∈ rng p 0 k, D x) (hl : 4 * k + 100 < lim) (hn : n0 + 2 * k + 8 <= n) (hf : k <= f) (hf0 : 0 < f) : ∀ (M bs u v : Nat), 0 < bs -> k < M + bs -> 0 < M →
    zV M (WZ n k c) [.sl 1 (iL (Q5 K p bs f 0 k)) false, .int .i64 (bs : Int), .int .i64 (u : Int), .int .i64 (v : Int)] H = some (.ret [.sl 1 (iL (sR K p 0 k)) false], H)
 | 0, _, _, _, _, _, h => by omega
 | M + 1, bs, u, v, hb, hM, _ => by
   rw [zG]
   by_cases h : bs < k
   · have h1 : (bs : Int) < (k : Int) := by omega
     have e2 : IntKind.i64.wrap (2 * (bs : Int)) = ((2 * bs : Nat) : Int) := wN (by omega) (by omega)
     obtain ⟨u', v', e⟩ := zdn hp hc n k f bs [.sl 1 (iL (Q5 K p bs f 0 k)) false, .int .i64 (bs : Int), .int .i64 (u : Int), .int .i64 (v : Int)] (zV M (WZ n k c)) rfl hb h hD hl hn hf n k 0 [] rfl (by omega) (by omega)
     have ih := zil hp hc n k f hD hl hn hf hf0 M (2 * bs) u' v' (by omega) (by omega) (by omega)
     simp only [zU, zr] at e
     simp only [WZ, gv, zi, zg, zu, za, zm, h1, decide_true, if_true, Yo, e2, lsl]
     exact e.trans ih
   · have h1 : ¬ (bs : Int) < (k : Int) := by omega
     simp only [WZ, gv, zi, zg, zu, za, zm, h1, decide_false, zn, if_false, lsl]
     rw [JR f 0 k (by omega) hf0]
theorem zlX (hp : zf0 p) (hc : CmpOk n0 c H K D) (n k : Nat) (hD : ∀ x ∈ rng p 0 k, D x) (hl : 4 * k + 100 < lim) (hn : n0 + 2 * k + 40 <= n) :
    call n 240 [.sl 1 (iL (rng p 0 k)) false, c] H = some (.ret [.sl 1 (iL (sR K p 0 k)) false], H) := by
 obtain ⟨N, rfl⟩ : ∃ N, n = N + 2 := ⟨n - 2, by omega⟩
 obtain ⟨u, v, e⟩ := zdm hc N k (k + 1) hD (by omega) (by omega) (by omega) (by omega) N k 0 [] rfl (by omega) (by omega)
 have e2 := zil hp hc N k (k + 1) hD hl (by omega) (by omega) (by omega) N 20 u v (by omega) (by omega) (by omega)
 rw [znQ]
 unfold zpL
 rw [znP]
 unfold zpK
 simp only [zU] at e
 rw [show ((20 : Nat) : Int) = (20 : Int) from rfl] at e2
 have e3 : (((iL (rng p 0 k)).length : Nat) : Int) = (k : Int) := by rw [Qi, zbQ]
 rw [e3]
 have e4 := e.trans e2
 rw [show (((0 : Nat) + 20 : Nat) : Int) = (20 : Int) from rfl, show (((0 : Nat)) : Int) = (0 : Int) from rfl] at e4
 rw [e4, J0]
end
end Go.Proofs.Tryz
namespace Go.Proofs.Tryz
open Go.L Go.Rp Go.Sk
set_option maxRecDepth 100000
def oAt (os : List O) (x : Int) : O := os.getD x.toNat ⟨0, 0⟩
theorem Wv {os : List O} {k : Nat} {x : O} (h : os[k]? = some x) : oAt os (k : Int) = x := by
 unfold oAt; rw [XP, zQ, h]; rfl
def YM (os : List O) (x : Int) : Int := (oAt os x).v
theorem zim (n : Nat) (o : O) (h : zd) : call (n + 1) 235 [.agg (O.w o)] h = some (.ret [.int .i32 o.v], h) := by
 refine (zlQ n o.k o.v h).trans ?_
 exact zfr (by simp) (by simp)
theorem zdo (x : O) : List.take 2 (List.drop 0 (O.w x)) = O.w x := rfl
theorem zqa (os : List O) (lb : Bool) (H : zd) : CmpOk 4 (.fn 241 [.iptr 1 [.fn 235 []] 0, .iptr 1 [.sl 2 (os.map O.w) lb] 0]) H (YM os) (fun x => 0 <= x /\ x < (os.length : Int)) where
 ex := by
  refine ⟨_, _, rfl, by kernel_rfl, by kernel_rfl, fun n hn x y hx hy => ?_⟩
  obtain ⟨m, rfl⟩ : ∃ m, n = (m + 3) + 1 := ⟨n - 4, by omega⟩
  obtain ⟨i, rfl⟩ : ∃ i : Nat, x = (i : Int) := ⟨x.toNat, (ZU hx.1).symm⟩
  obtain ⟨j, rfl⟩ : ∃ j : Nat, y = (j : Int) := ⟨y.toNat, (ZU hy.1).symm⟩
  obtain ⟨a, ha⟩ : ∃ a, os[i]? = some a := ⟨_, zf (by omega)⟩
  obtain ⟨b, hb⟩ : ∃ b, os[j]? = some b := ⟨_, zf (by omega)⟩
  have hav : (os.map O.w)[i]? = some (O.w a) := by rw [zaz, ha]; rfl
  have hbv : (os.map O.w)[j]? = some (O.w b) := by rw [zaz, hb]; rfl
  refine ⟨znG (YM os (i : Int)) (YM os (j : Int)), ?_, ?_⟩
  · refine (znL (m + 3) (i : Int) (j : Int) (os.map O.w) lb H).trans ?_
    unfold zpH
    have e1 : ∀ (u : O) (h : zd), call (m + 3) 235 [.agg (O.w u)] h = some (.ret [.int .i32 u.v], h) := fun u h => zim (m + 2) u h
    have e2 : ∀ (u v : Int) (h : zd), call (m + 3) 242 [.int .i32 u, .int .i32 v] h = some (.ret [.int .i64 (znG u v)], h) := fun u v h => zfY (m + 1) u v h
    have fi : nv (V.int .i64 (i : Int)) = some i := Zj _ _
    have fj : nv (V.int .i64 (j : Int)) = some j := Zj _ _
    rw [fi, zD, Qd hav, za]
    first
     | rw [Xg, zo, if_pos (by decide), zdo, e1, zbH, zx, fj, zD, Qd hbv, za, Xg, zo, if_pos (by decide), zdo, e1, zbH, zx, e2, zbI, zx]
       rw [show YM os (i : Int) = a.v from by unfold YM; rw [Wv ha], show YM os (j : Int) = b.v from by unfold YM; rw [Wv hb]]
     | (simp only [esP, zdo]
        rw [e1, zbH, zx, fj, zD, Qd hbv, za]
        simp only [esP, zdo]
        rw [e1, zbH, zx, e2, zbI, zx]
        rw [show YM os (i : Int) = a.v from by unfold YM; rw [Wv ha], show YM os (j : Int) = b.v from by unfold YM; rw [Wv hb]])
  · unfold znG
    split
    · rename_i h; exact ⟨fun _ => h, fun _ => by omega⟩
    · rename_i h; split <;> exact ⟨fun e => by omega, fun e => absurd e h⟩
def Jd (os : List O) : Nat -> List Int
 | 0 => []
 | k + 1 => if (oAt os (k : Int)).k = 1 then Jd os k ++ [(k : Int)] else Jd os k
def Je (os : List O) : Nat -> List Int
 | 0 => []
 | k + 1 => if (oAt os (k : Int)).k = 1 then Je os k else Je os k ++ [(k : Int)]
theorem Jf (os : List O) : ∀ (n : Nat) (x : Int), x ∈ Jd os n -> 0 <= x /\ x < (n : Int) /\ (oAt os x).k = 1
 | 0, x, h => by cases h
 | n + 1, x, h => by
   simp only [Jd] at h
   split at h
   · rename_i hk
     rcases Zl.1 h with h | h
     · have := Jf os n x h; omega
     · rw [ZK] at h; subst h; exact ⟨by omega, by omega, hk⟩
   · have := Jf os n x h; omega
theorem JH (os : List O) : ∀ (n : Nat) (x : Int), x ∈ Je os n -> 0 <= x /\ x < (n : Int) /\ (oAt os x).k ≠ 1
 | 0, x, h => by cases h
 | n + 1, x, h => by
   simp only [Je] at h
   split at h
   · have := JH os n x h; omega
   · rename_i hk
     rcases Zl.1 h with h | h
     · have := JH os n x h; omega
     · rw [ZK] at h; subst h; exact ⟨by omega, by omega, hk⟩
theorem YN (os : List O) : ∀ n : Nat, (Jd os n).Pairwise (· < ·)
 | 0 => .nil
 | n + 1 => by
   simp only [Jd]
   split
   · refine ZG.2 ⟨YN os n, List.pairwise_singleton .., fun a ha b hb => ?_⟩
     rw [ZK] at hb; subst hb
     exact (Jf os n a ha).2.1
   · exact YN os n
theorem YO (os : List O) : ∀ n : Nat, (Jd os n).length + (Je os n).length = n
 | 0 => rfl
 | n + 1 => by
   have := YO os n
   simp only [Jd, Je]
   split
   · rw [zC, zB, zO]; omega
   · rw [zC, zB, zO]; omega
def WC (os : List O) : List Int := Jd os os.length
def XF (os : List O) : List Int := Je os os.length
def Xc (os : List O) : List Int := sR (YM os) (atP (WC os) (os.length : Int)) 0 (WC os).length
theorem Kk (os : List O) : (Xc os).Perm (WC os) := by
 have := Ki (K := YM os) (p := atP (WC os) (os.length : Int)) 0 (WC os).length
 rwa [zf2] at this
theorem zaJ (os : List O) : (Xc os).length = (WC os).length := (Kk os).length_eq
theorem znV (os : List O) : Sd (YM os) (Xc os) := zif (zig (YN os _) fun x hx => (Jf os _ x hx).2.1) 0 _
theorem zo7 (n : Nat) {h : zd} {b : Nat} (os : List O) (lb : Bool) (hb : h[b]? = some (.row 3 1 (iL (WC os)) true)) (hl : 4 * os.length + 100 < lim) (hn : 2 * os.length + 50 <= n) :
    call (n + 1) 234 [.sl 2 (os.map O.w) lb, .row b 1 0 (WC os).length, .fn 235 []] h = some (.ret [.row b 1 0 (WC os).length], (h.set b .dead).set b (.row 3 1 (iL (Xc os)) true)) := by
 have hlen := YO os os.length
 have hpl : (WC os).length <= os.length := by unfold WC; omega
 have hs := zlX (p := atP (WC os) (os.length : Int)) (H := h.set b .dead) (zig (YN os _) fun x hx => (Jf os _ x hx).2.1) (zqa os lb (h.set b .dead)) n (WC os).length (fun x hx => by
  rw [zf2] at hx
  have := Jf os _ x hx
  exact ⟨this.1, this.2.1⟩) (by omega) (by omega)
 rw [zf2] at hs
 refine (znM n (os.map O.w) lb b (WC os).length h).trans ?_
 unfold zpI
 rw [hb]
 simp only [rwT]
 rw [if_pos (by rw [Qi]; refine ⟨⟨?_, ?_, ?_⟩, ?_, ?_⟩ <;> first | trivial | rfl), hs]
 simp only [clr]
 rw [if_pos (And.intro (by first | trivial | rfl) (by rw [Qi, Qi]; exact zaJ os))]
 rfl
theorem zkL (x : Int) : Yx prog 55 1 [(0, .int .i64 x)] = some (1, [[.int .i64 x]]) := by kernel_rfl
theorem zf5 (l : List Int) (x : Int) (h : l.length + 1 < lim) : app 3 1 (S.own 3 1 (iL l)) [[.int .i64 x]] = some (iL (l ++ [x])) := by
 simp only [app]
 rw [if_pos (by refine ⟨?_, ?_, by simpa using h⟩ <;> first | trivial | rfl)]
 simp [iL, Xh]
theorem zq8 (x : O) : (setR [V.int .u8 0, V.int .i32 0] 0 (O.w x))[0]? = some (.int .u8 x.k) := rfl
theorem zin (a b : Int) : bop prog .eql 5 (.int .u8 a) (.int .u8 b) = some (.bool (a == b)) := by kernel_rfl
def JS (h : zd) (os : List O) : zd := h ++ [.row 3 1 (iL (Xc os)) true, .row 3 1 (iL (XF os)) true]
theorem zio (n : Nat) (h : zd) (os : List O) (lb : Bool) (hl : 4 * os.length + 100 < lim) (hn : 2 * os.length + 50 <= n) : ∀ (d k M : Nat), k + d = os.length -> d < M →
    zV M (YJ (n + 1) (os.map O.w) lb) [.sl 1 (iL (Jd os k)) false, .sl 1 (iL (Je os k)) false, .int .i64 (k : Int)] h = some (.ret [.row h.length 1 0 (WC os).length, .row (h.length + 1) 1 0 (XF os).length], JS h os) := by
 intro d
 induction d with
 | zero =>
   intro k M h1 h2
   obtain ⟨M, rfl⟩ : ∃ M', M = M' + 1 := ⟨M - 1, by omega⟩
   obtain rfl : k = os.length := by omega
   have hb := zo7 n (h := h ++ [.row 3 1 (iL (WC os)) true]) (b := h.length) os lb zH hl hn
   have hset : ((h ++ [HB.row 3 1 (iL (WC os)) true]).set h.length .dead).set h.length (.row 3 1 (iL (Xc os)) true) = h ++ [.row 3 1 (iL (Xc os)) true] := by
    rw [List.set_set, Zx _ _ (zk _), Q7]; rfl
   rw [hset] at hb
   rw [zG]
   unfold YJ
   simp only [gv, zg, zi, zt, zu, za, zm]
   rw [if_neg (by simp)]
   rw [show lsl (V.sl 1 (iL (Jd os os.length)) false) = iL (WC os) from rfl, show lsl (V.sl 1 (iL (Je os os.length)) false) = iL (XF os) from rfl, Qi, Qi, hb, zM, zx]
   simp [JS]
 | succ d ih =>
   intro k M h1 h2
   obtain ⟨M, rfl⟩ : ∃ M', M = M' + 1 := ⟨M - 1, by omega⟩
   obtain ⟨x, hx⟩ : ∃ x, os[k]? = some x := ⟨_, zf (by omega)⟩
   have hxv : (os.map O.w)[k]? = some (O.w x) := by rw [zaz, hx]; rfl
   have hlt : decide ((k : Int) < (os.length : Int)) = true := by simp; omega
   have hpl := YO os k
   have hox := Wv hx
   have IH := ih (k + 1) M (by omega) (by omega)
   rw [zG]
   have key : ∀ next, YJ (n + 1) (os.map O.w) lb [.sl 1 (iL (Jd os k)) false, .sl 1 (iL (Je os k)) false, .int .i64 (k : Int)] h next = next [.sl 1 (iL (Jd os (k + 1))) false, .sl 1 (iL (Je os (k + 1))) false, .int .i64 ((k + 1 : Nat) : Int)] h := by
    intro next
    unfold YJ
    simp only [gv, zg, zi, zt, zu, za, zm, hlt, if_true, Zj, zD, Qd hxv, Xg, zo, zr, zk, Nat.reduceLT, and_self, zdo, show (O.w x).length = 2 from rfl, zq8, zin, zkL, zK, Xu (show k < lim by omega)]
    rw [show lsl (V.sl 1 (iL (Jd os k)) false) = iL (Jd os k) from rfl, show lsl (V.sl 1 (iL (Je os k)) false) = iL (Je os k) from rfl]
    by_cases hk : x.k = 1
    · rw [if_pos (by simp [hk]), zf5 _ _ (by omega), za]
      simp only [Jd, Je, hox, hk, if_true]
    · rw [if_neg (by simp [hk]), zf5 _ _ (by omega), za]
      simp only [Jd, Je, hox, hk, if_false]
   rw [key]
   exact IH
theorem zbg (n : Nat) (h : zd) (os : List O) (lb : Bool) (hl : 4 * os.length + 100 < lim) (hn : 2 * os.length + 50 <= n) :
    call (n + 2) 225 [.sl 2 (os.map O.w) lb] h = some (.ret [.row h.length 1 0 (WC os).length, .row (h.length + 1) 1 0 (XF os).length], JS h os) := by
 refine (zlR (n + 1) (os.map O.w) lb h).trans ?_
 unfold znN
 exact zio n h os lb hl hn os.length 0 (n + 1) (by omega) (by omega)
end Go.Proofs.Tryz
namespace Go.Proofs.Tryz
open Go.L Go.Rp Go.Sk
set_option maxRecDepth 100000
abbrev St := List (Int × Nat) × List Bool
def stp (most : Int) (st : St) (o : O) : St × R :=
 if o.k = 1 then (if most <= (st.1.length : Int) then (st, ⟨3, 0⟩) else ((zdW st.1 o.v (hgt 1 st.2).1, (hgt 1 st.2).2), ⟨1, 0⟩))
 else if o.k = 2 then (match st.1 with | [] => (st, ⟨4, 0⟩) | p :: r => ((r, st.2), ⟨2, p.1⟩))
 else (st, ⟨5, 0⟩)
def WD (os : List O) (most : Int) : List Int -> St -> List R -> St × List R
 | [], st, told => (st, told)
 | k :: r, st, told => WD os most r (stp most st (oAt os k)).1 (told.set k.toNat (stp most st (oAt os k)).2)
theorem Yp (os : List O) (most : Int) : ∀ (l m : List Int) (st : St) (told : List R), WD os most (l ++ m) st told = WD os most m (WD os most l st told).1 (WD os most l st told).2
 | [], m, st, told => rfl
 | k :: l, m, st, told => Yp os most l m _ _
theorem ziq (os : List O) (most : Int) : ∀ (l : List Int) (st : St) (told : List R), (WD os most l st told).2.length = told.length
 | [], _, _ => rfl
 | k :: l, st, told => by
   show (WD os most l _ _).2.length = _
   rw [ziq os most l, zq]
structure Frm (h h' : zd) (X : List Nat) : Prop where
 len : h.length <= h'.length
 old : ∀ i, i < h.length -> i ∉ X -> h'[i]? = h[i]?
theorem Frm.refl (h : zd) (X : List Nat) : Frm h h X := ⟨zk _, fun _ _ _ => rfl⟩
theorem Frm.trans {h h1 h2 : zd} {X Y : List Nat} (a : Frm h h1 X) (b : Frm h1 h2 Y) (hY : ∀ y ∈ Y, y ∈ X \/ h.length <= y) : Frm h h2 X :=
 ⟨Z5 a.len b.len, fun i h1' h2' => (b.old i (by have := a.len; omega) fun hm => by rcases hY i hm with h | h; exact h2' h; omega).trans (a.old i h1' h2')⟩
theorem Grew.frm {h h' : zd} {s : Nat} {ts ts' : List Tw} {most : Int} (g : Grew h h' s ts ts' most) : Frm h h' (skB s ts) := ⟨g.len, g.old⟩
theorem Frm.push (h : zd) (l : List HB) (X : List Nat) : Frm h (h ++ l) X := ⟨by simp, fun i hi _ => zl hi⟩
def RowR (h : zd) (b : Nat) (l : List R) : Prop := ∃ z, h[b]? = some (.row 35 2 (l.map R.w) z)
theorem RowR.keep {h h' : zd} {b : Nat} {l : List R} (r : RowR h b l) (hk : h'[b]? = h[b]?) : RowR h' b l := by obtain ⟨z, hz⟩ := r; exact ⟨z, hk.trans hz⟩
theorem RowR.code {h : zd} {b : Nat} {l : List R} (r : RowR h b l) {i : Nat} {x : R} (hx : l[i]? = some x) (c : Int) :
    ∃ B, Zs h [.int .u8 c] (.rptr b 2 i 0) = some (b, B) /\ RowR (h.set b B) b (l.set i ⟨c, x.v⟩) := by
 obtain ⟨z, hz⟩ := r
 refine ⟨_, JP hz (by decide) (by simp) (by rw [j9, hx]; rfl), z, ?_⟩
 rw [Xi (zS hz), Jt]
 rfl
theorem RowR.all {h : zd} {b : Nat} {l : List R} (r : RowR h b l) {i : Nat} {x : R} (hx : l[i]? = some x) (c v : Int) :
    ∃ B, Zs h [.int .u8 c, .int .i32 v] (.rptr b 2 i 0) = some (b, B) /\ RowR (h.set b B) b (l.set i ⟨c, v⟩) := by
 obtain ⟨z, hz⟩ := r
 refine ⟨_, JP hz (by decide) (by simp) (by rw [j9, hx]; rfl), z, ?_⟩
 rw [Xi (zS hz), Jt]
 rfl
theorem zir {b n i : Nat} (h : i < n) : ZW 2 i (.row b 2 0 n) = some (.rptr b 2 i 0) := by simpa using XE (b := b) (sz := 2) (lo := 0) (hi := n) (show i < n - 0 by omega)
theorem zo8 (v : Int) : Ww prog 35 [(0, .int .u8 2), (1, .int .i32 v)] = some [.int .u8 2, .int .i32 v] := by kernel_rfl
theorem zo9 (x : O) : (O.w x)[0]? = some (.int .u8 x.k) := rfl
theorem zkM (x : O) : (O.w x)[1]? = some (.int .i32 x.v) := rfl
theorem zeR (k n : Nat) (cs : List V) (o : Nat) : ZL k (.iptr n cs o) = some (.iptr n cs (o + k)) := rfl
theorem zis (a b : Int) : bop prog .neq 5 (.int .u8 a) (.int .u8 b) = some (.bool (a != b)) := by kernel_rfl
theorem zlY (n : Nat) {s : Nat} {most : Int} (os : List O) (lb : Bool) (L : List Int) (hL : ∀ x ∈ L, 0 <= x /\ x < (os.length : Int) /\ (oAt os x).k ≠ 1) (hnd : L.Nodup) (tb pb : Nat) (hlim : L.length < lim) (hn : 8 < n) (bits : List Bool) : ∀ (d i M : Nat) (h : zd) (ts : List Tw) (told : List R) (v0 : V), i + d = L.length -> d < M →
    (∃ N, SkAt h s ts most N) -> ts.length < lim -> RowR h tb told -> RowI h pb .i64 3 L -> told.length = os.length -> tb ∉ skB s ts -> pb ∉ skB s ts -> pb ≠ tb -> (∀ x ∈ L.drop i, told[x.toNat]? = some ⟨0, 0⟩) →
    ∃ h' ts' told', zV M (Ye (n + 2) s (os.map O.w) lb (.row pb 1 0 L.length) (.row tb 2 0 os.length) (1, iL L)) [v0, .int .i64 (i : Int)] h = some (.ret [.row tb 2 0 os.length], h') ∧
     (∃ N, SkAt h' s ts' most N) /\ (∀ b ∈ skB s ts', b ∈ skB s ts) /\ Frm h h' (tb :: skB s ts) /\ h'.length = h.length /\ RowR h' tb told' /\ WD os most (L.drop i) (itT ts, bits) told = ((itT ts', bits), told') := by
 intro d
 induction d with
 | zero =>
   intro i M h ts told v0 h1 h2 S hts rt rp hlt nt np hpt h0
   obtain ⟨M, rfl⟩ : ∃ M', M = M' + 1 := ⟨M - 1, by omega⟩
   obtain rfl : i = L.length := by omega
   refine ⟨h, ts, told, ?_, S, fun b hb => hb, .refl _ _, rfl, rt, by rw [List.drop_length]; rfl⟩
   rw [zG]
   unfold Ye
   simp only [gv, zg, zi, Qi, zu, za, zm]
   rw [if_neg (by simp)]
 | succ d ih =>
   intro i M h ts told v0 h1 h2 S hts rt rp hlt nt np hpt h0
   obtain ⟨M, rfl⟩ : ∃ M', M = M' + 1 := ⟨M - 1, by omega⟩
   obtain ⟨x, hx⟩ : ∃ x, L[i]? = some x := ⟨_, zf (by omega)⟩
   have hdr : L.drop i = x :: L.drop (i + 1) := by
    rw [zX (by omega)]
    rw [zf (by omega)] at hx
    rw [Option.some.inj hx]
   obtain ⟨x0, x1, xk⟩ := hL x (zL hx)
   obtain ⟨k, rfl⟩ : ∃ k : Nat, x = (k : Int) := ⟨x.toNat, (ZU x0).symm⟩
   have hk : k < os.length := by omega
   obtain ⟨o, ho⟩ : ∃ o, os[k]? = some o := ⟨_, zf hk⟩
   have hov : (os.map O.w)[k]? = some (O.w o) := by rw [zaz, ho]; rfl
   have hoo := Wv ho
   have ht0 : told[k]? = some ⟨0, 0⟩ := by
    have := h0 (k : Int) (by rw [hdr]; exact zy ..)
    simpa using this
   obtain ⟨B1, w1, r1⟩ := rt.code ht0 5
   have hl1 : decide ((i : Int) < (L.length : Int)) = true := by simp; omega
   obtain ⟨g1, g2⟩ := rp.get hx
   have htk : k < told.length := by omega
   have hkeep1 : ∀ b, b ≠ tb -> (h.set tb B1)[b]? = h[b]? := fun b hb => ze (Ne.symm hb)
   have hrest : ∀ (told2 : List R) (r : R), told2 = told.set k r -> ∀ y ∈ L.drop (i + 1), told2[y.toNat]? = some ⟨0, 0⟩ := fun told2 r e y hy => by
    rw [e, ze]
    · exact h0 y (by rw [hdr]; exact zp _ hy)
    · intro e2
      have hy0 := hL y (Zd hy)
      have hyk : y = (k : Int) := by omega
      have hnd2 : (L.drop i).Nodup := hnd.sublist (Qe _ _)
      rw [hdr] at hnd2
      exact (ZB.1 hnd2).1 (hyk ▸ hy)
   rw [hoo] at xk
   have hw1 : Zs h [.int .u8 5] (.rptr tb 2 k 0) = some (tb, B1) := w1
   have S1 : ∃ N, SkAt (h.set tb B1) s ts most N := by obtain ⟨N, S⟩ := S; exact ⟨N, S.keep fun b hb => hkeep1 b fun e => nt (e ▸ hb)⟩
   have fk : nv (V.int .i64 (k : Int)) = some k := Zj _ _
   have rp1 : RowI (h.set tb B1) pb .i64 3 L := rp.keep (hkeep1 pb hpt)
   have base : ∀ next, Ye (n + 2) s (os.map O.w) lb (.row pb 1 0 L.length) (.row tb 2 0 os.length) (1, iL L) [v0, .int .i64 (i : Int)] h next =
       (if (o.k != 2) = true then next [.sl 2 (lsl v0) false, .int .i64 ((i + 1 : Nat) : Int)] (h.set tb B1) else
        (bd2 (Zs (h.set tb B1) [.int .u8 4] (.rptr tb 2 k 0)) fun b31 x32 =>
        (cl (call (n + 2) 239 [.ptr s 0] (((h.set tb B1)).set b31 x32)) (fun r33 h34 =>
        (bd (r33)[0]? fun v36 =>
        (bd (r33)[1]? fun v37 =>
        (bv v37 fun b38 => if b38 then
        (bd (Ww prog 35 [(0, (V.int .u8 2)), (1, v36)]) fun cs39 =>
        (if (cs39).length = 2 then
        (bd2 (Zs h34 cs39 (.rptr tb 2 k 0)) fun b42 x43 =>
        (next [(V.sl 2 (lsl v0) false), .int .i64 ((i + 1 : Nat) : Int)] ((h34).set b42 x43))) else none))
        else
        (next [(V.sl 2 (lsl v0) false), .int .i64 ((i + 1 : Nat) : Int)] h34))))) (fun z35 h34 => some (Res.pan z35, h34))))) := by
    intro next
    unfold Ye
    simp only [gv, zg, zi, Qi, zu, za, zm, hl1, if_true, Zj, zD, g1, g2, zo, zr, zk, Nat.reduceLT, and_self, zb, zir hk, zly, Za, hw1, Zg, Qd hov, zeR, Xg, Nat.reduceAdd, Nat.reduceLeDiff, zo9, zis, zK, Xu (show i < lim by omega)]
   obtain ⟨N, hS⟩ := S
   rw [zG, base]
   have hst5 : stp most (itT ts, bits) o = if o.k = 2 then (match itT ts with | [] => ((itT ts, bits), ⟨4, 0⟩) | p :: r => ((r, bits), ⟨2, p.1⟩)) else ((itT ts, bits), ⟨5, 0⟩) := by
    unfold stp; rw [if_neg xk]
   have hrun : WD os most (L.drop i) (itT ts, bits) told = WD os most (L.drop (i + 1)) (stp most (itT ts, bits) o).1 (told.set k (stp most (itT ts, bits) o).2) := by
    rw [hdr]; show WD os most _ (stp most (itT ts, bits) (oAt os (k : Int))).1 (told.set (k : Int).toNat (stp most (itT ts, bits) (oAt os (k : Int))).2) = _
    rw [hoo, XP]
   by_cases hk2 : o.k = 2
   · rw [if_neg (by simp [hk2])]
     have ht5 : (told.set k ⟨5, 0⟩)[k]? = some ⟨5, 0⟩ := Zp htk
     obtain ⟨B2, w2, r2⟩ := r1.code ht5 4
     have e2 : (told.set k ⟨5, 0⟩).set k ⟨4, 0⟩ = told.set k ⟨4, 0⟩ := List.set_set ..
     replace r2 : RowR ((h.set tb B1).set tb B2) tb (told.set k ⟨4, 0⟩) := by rw [<- e2]; exact r2
     rw [w2, Zg]
     have hkeep2 : ∀ b, b ≠ tb -> ((h.set tb B1).set tb B2)[b]? = h[b]? := fun b hb => by rw [ze (Ne.symm hb)]; exact hkeep1 b hb
     have S2 : SkAt ((h.set tb B1).set tb B2) s ts most N := hS.keep fun b hb => hkeep2 b fun e => nt (e ▸ hb)
     cases ts with
     | nil =>
       rw [znF n S2, zM]
       simp only [zb, zj, za, zm]
       rw [if_neg (by decide)]
       obtain ⟨h', ts', told', e, b1, b2, b3, b4, b5, b6⟩ := ih (i + 1) M ((h.set tb B1).set tb B2) [] (told.set k ⟨4, 0⟩) (.sl 2 (lsl v0) false) (by omega) (by omega) ⟨N, S2⟩ hts r2 (rp.keep (hkeep2 pb hpt)) (by rw [zq]; exact hlt) nt np hpt (hrest _ ⟨4, 0⟩ rfl)
       refine ⟨h', ts', told', e, b1, b2, ?_, by rw [b4, zq, zq], b5, ?_⟩
       · exact Frm.trans ⟨by simp, fun j _ hj => hkeep2 j fun e => hj (e ▸ zy ..)⟩ b3 fun y hy => .inl hy
       · rw [hrun, hst5, if_pos hk2]
         exact b6
     | cons t ts =>
       obtain ⟨h3, e3, T⟩ := znE n S2 hn (by simp at hts; omega)
       rw [e3, zM]
       simp only [zb, zj, za, zm]
       rw [if_pos (by first | trivial | rfl), zo8, za, if_pos (by first | trivial | rfl)]
       have hts3 : tb ≠ s := fun e => nt (e ▸ zy ..)
       have hps3 : pb ≠ s := fun e => np (e ▸ zy ..)
       have r3 : RowR h3 tb (told.set k ⟨4, 0⟩) := r2.keep (T.old tb hts3)
       obtain ⟨B3, w3, r4⟩ := r3.all (show (told.set k ⟨4, 0⟩)[k]? = some ⟨4, 0⟩ from Zp htk) 2 t.v
       have e4 : (told.set k ⟨4, 0⟩).set k ⟨2, t.v⟩ = told.set k ⟨2, t.v⟩ := List.set_set ..
       replace r4 : RowR (h3.set tb B3) tb (told.set k ⟨2, t.v⟩) := by rw [<- e4]; exact r4
       rw [w3, Zg]
       have hkeep4 : ∀ b, b ≠ tb -> (h3.set tb B3)[b]? = h3[b]? := fun b hb => ze (Ne.symm hb)
       have nt' : tb ∉ skB s ts := fun hm => nt (by
        rcases zJ.1 hm with e | hm
        · exact e ▸ zy ..
        · exact zp _ (zp _ hm))
       have hsub : ∀ b ∈ skB s ts, b ∈ skB s (t :: ts) := fun b hb => by
        rcases zJ.1 hb with e | hm
        · exact e ▸ zy ..
        · exact zp _ (zp _ hm)
       have S4 : ∃ N, SkAt (h3.set tb B3) s ts most N := by obtain ⟨N', S'⟩ := T.sk; exact ⟨N', S'.keep fun b hb => hkeep4 b fun e => nt' (e ▸ hb)⟩
       obtain ⟨h', ts', told', e, b1, b2, b3, b4, b5, b6⟩ := ih (i + 1) M (h3.set tb B3) ts (told.set k ⟨2, t.v⟩) (.sl 2 (lsl v0) false) (by omega) (by omega) S4 (by simp at hts; omega) r4 (rp.keep (by rw [hkeep4 pb hpt, T.old pb hps3, hkeep2 pb hpt])) (by rw [zq]; exact hlt) nt' (fun hm => np (hsub pb hm)) hpt (hrest _ ⟨2, t.v⟩ rfl)
       refine ⟨h', ts', told', e, b1, fun b hb => hsub b (b2 b hb), ?_, by rw [b4, zq, T.len, zq, zq], b5, ?_⟩
       · refine Frm.trans (h1 := h3.set tb B3) ⟨by rw [zq, T.len, zq, zq]; exact zk _, fun j _ hj => ?_⟩ b3 fun y hy => .inl ?_
         · have hj1 : j ≠ tb := fun e => hj (e ▸ zy ..)
           have hj2 : j ≠ s := fun e => hj (e ▸ zp _ (zy ..))
           rw [hkeep4 j hj1, T.old j hj2, hkeep2 j hj1]
         · rcases zJ.1 hy with e | hy
           · exact e ▸ zy ..
           · exact zp _ (hsub y hy)
       · rw [hrun, hst5, if_pos hk2]
         exact b6
   · rw [if_pos (by simp [hk2])]
     obtain ⟨h', ts', told', e, b1, b2, b3, b4, b5, b6⟩ := ih (i + 1) M (h.set tb B1) ts (told.set k ⟨5, 0⟩) (.sl 2 (lsl v0) false) (by omega) (by omega) S1 hts r1 rp1 (by rw [zq]; exact hlt) nt np hpt (hrest _ ⟨5, 0⟩ rfl)
     refine ⟨h', ts', told', e, b1, b2, ?_, by rw [b4, zq], b5, ?_⟩
     · exact Frm.trans ⟨by simp, fun j _ hj => hkeep1 j fun e => hj (e ▸ zy ..)⟩ b3 fun y hy => .inl hy
     · rw [hrun, hst5, if_neg hk2]
       exact b6
theorem zlZ (n : Nat) {h : zd} {s : Nat} {ts : List Tw} {most : Int} (os : List O) (lb : Bool) (told : List R) (tb pb : Nat) (bits : List Bool) (S : ∃ N, SkAt h s ts most N) (hts : ts.length < lim) (rt : RowR h tb told) (rp : RowI h pb .i64 3 (XF os)) (hlt : told.length = os.length) (nt : tb ∉ skB s ts) (np : pb ∉ skB s ts) (hpt : pb ≠ tb) (h0 : ∀ x ∈ XF os, told[x.toNat]? = some ⟨0, 0⟩) (hlim : os.length < lim) (hn : os.length + 8 < n) :
    ∃ h' ts' told', call (n + 3) 229 [.ptr s 0, .sl 2 (os.map O.w) lb, .row pb 1 0 (XF os).length, .row tb 2 0 os.length] h = some (.ret [.row tb 2 0 os.length], h') ∧
     (∃ N, SkAt h' s ts' most N) /\ (∀ b ∈ skB s ts', b ∈ skB s ts) /\ Frm h h' (tb :: skB s ts) /\ h'.length = h.length /\ RowR h' tb told' /\ WD os most (XF os) (itT ts, bits) told = ((itT ts', bits), told') := by
 have hl := YO os os.length
 have hol : (XF os).length <= os.length := by unfold XF; omega
 have hnd : (XF os).Nodup := by
  have : ∀ n : Nat, (Je os n).Pairwise (· < ·) := fun n => by
   induction n with
   | zero => exact .nil
   | succ n ih =>
     simp only [Je]
     split
     · exact ih
     · refine ZG.2 ⟨ih, List.pairwise_singleton .., fun a ha b hb => ?_⟩
       rw [ZK] at hb; subst hb
       exact (JH os n a ha).2.1
  exact (this os.length).imp fun h => by omega
 obtain ⟨h', ts', told', e, r⟩ := zlY n os lb (XF os) (JH os os.length) hnd tb pb (by omega) (by omega) bits (XF os).length 0 (n + 2) h ts told (.sl 2 [] false) (by omega) (by omega) S hts rt rp hlt nt np hpt (by rw [zP]; exact h0)
 refine ⟨h', ts', told', ?_, by rw [zP] at r; exact r⟩
 refine (zjD (n + 2) s (os.map O.w) lb _ _ h).trans ?_
 unfold zkH
 rw [rp.slc, za]
 exact e
end Go.Proofs.Tryz
namespace Go.Proofs.Tryz
open Go.L Go.Rp Go.Sk
set_option maxRecDepth 100000
structure Env (h : zd) (s : Nat) (ts : List Tw) (most : Int) (c : Nat) (cb : Option Nat) (bits : List Bool) (p1 : Nat) (P : List Int) (p2 : Nat) (Q : List Int) : Prop where
 sk : ∃ N, SkAt h s ts most N
 bt : BitsAt h c cb bits
 r1 : RowI h p1 .i64 3 P
 r2 : RowI h p2 .i64 3 Q
 nc : c ∉ skB s ts
 ncb : ∀ b, cb = some b -> b ∉ skB s ts
 n1 : p1 ∉ skB s ts /\ p1 ≠ c
 n2 : p2 ∉ skB s ts /\ p2 ≠ c
theorem BitsAt.lt {h : zd} {c : Nat} {cb : Option Nat} {bits : List Bool} (hb : BitsAt h c cb bits) : c < h.length /\ ∀ b, cb = some b -> b < h.length := by
 cases cb with
 | none => exact ⟨zS hb.2, fun b e => by cases e⟩
 | some b =>
   obtain ⟨_, lo, l, z, h2, h3, _⟩ := hb
   exact ⟨zS h2, fun b' e => by cases e; exact zS h3⟩
theorem Env.coin {h h' : zd} {s : Nat} {ts : List Tw} {most : Int} {c : Nat} {cb : Option Nat} {bits bits' : List Bool} {p1 p2 : Nat} {P Q : List Int} (E : Env h s ts most c cb bits p1 P p2 Q) (hb : BitsAt h' c cb bits') (hk : ∀ i, i ≠ c -> h'[i]? = h[i]?) : Env h' s ts most c cb bits' p1 P p2 Q :=
 ⟨by obtain ⟨N, S⟩ := E.sk; exact ⟨N, S.keep fun b hb => hk b fun e => E.nc (e ▸ hb)⟩, hb, E.r1.keep (hk _ E.n1.2), E.r2.keep (hk _ E.n2.2), E.nc, E.ncb, E.n1, E.n2⟩
theorem RowI.lt {h : zd} {b : Nat} {k : IntKind} {e : Nat} {l : List Int} (r : RowI h b k e l) : b < h.length := by obtain ⟨z, hz⟩ := r; exact zS hz
theorem Env.grew {h h' : zd} {s : Nat} {ts ts' : List Tw} {most : Int} {c : Nat} {cb : Option Nat} {bits : List Bool} {p1 p2 : Nat} {P Q : List Int} (E : Env h s ts most c cb bits p1 P p2 Q) (G : Grew h h' s ts ts' most) : Env h' s ts' most c cb bits p1 P p2 Q := by
 have l := E.bt.lt
 have hn : ∀ b, b < h.length -> b ∉ skB s ts -> b ∉ skB s ts' := fun b h1 h2 hm => by rcases G.new b hm with h | h; exact h2 h; omega
 exact ⟨G.sk, E.bt.keep (G.old c l.1 E.nc) fun b hb => G.old b (l.2 b hb) (E.ncb b hb), E.r1.keep (G.old _ E.r1.lt E.n1.1), E.r2.keep (G.old _ E.r2.lt E.n2.1), hn c l.1 E.nc, fun b hb => hn b (l.2 b hb) (E.ncb b hb), ⟨hn _ E.r1.lt E.n1.1, E.n1.2⟩, ⟨hn _ E.r2.lt E.n2.1, E.n2.2⟩⟩
theorem Env.push {h : zd} {s : Nat} {ts : List Tw} {most : Int} {c : Nat} {cb : Option Nat} {bits : List Bool} {p1 p2 : Nat} {P Q : List Int} (E : Env h s ts most c cb bits p1 P p2 Q) (l : List HB) : Env (h ++ l) s ts most c cb bits p1 P p2 Q := by
 have hk : ∀ b, b < h.length -> (h ++ l)[b]? = h[b]? := fun b hb => zl hb
 have lt := E.bt.lt
 obtain ⟨N, S⟩ := E.sk
 exact ⟨⟨N, S.keep fun b hb => hk b (S.lt b hb)⟩, E.bt.keep (hk c lt.1) fun b hb => hk b (lt.2 b hb), E.r1.keep (hk _ E.r1.lt), E.r2.keep (hk _ E.r2.lt), E.nc, E.ncb, E.n1, E.n2⟩
structure Did (h h' : zd) (s : Nat) (ts ts' : List Tw) (most : Int) (c : Nat) (cb : Option Nat) (bits' : List Bool) (tb : Nat) (told : List R) : Prop where
 sk : ∃ N, SkAt h' s ts' most N
 bt : BitsAt h' c cb bits'
 tl : RowR h' tb told
 tb : h.length <= tb
 frm : Frm h h' (c :: skB s ts)
 new : ∀ b ∈ skB s ts', b ∈ skB s ts \/ h.length <= b
 room : (ts'.length : Int) <= most
theorem zkN (bits : List Bool) : hOf ((hgt 1 bits).1 : Int) = (hgt 1 bits).1 := by
 have := zkr bits 1 (zk _) (by omega)
 unfold hOf
 omega
theorem zac (l : List (Int × Nat)) (v : Int) (T : Nat) : (zdW l v T).length = l.length + 1 := by
 unfold zdW
 rw [zC, zB]
 have := congrArg List.length (List.takeWhile_append_dropWhile (p := fun p : Int × Nat => decide (p.1 <= v)) (l := l))
 rw [zC] at this
 omega
theorem Ja (ts : List Tw) : (itT ts).length = ts.length := by simp [itT]
theorem znW {most : Int} {st : St} {o : O} (h : (st.1.length : Int) <= most) : ((stp most st o).1.1.length : Int) <= most := by
 unfold stp
 split
 · split
   · exact h
   · simp only [zac]; omega
 · split
   · split
     · exact h
     · rename_i p r e; rw [e] at h; simp at h; simp only; omega
   · exact h
theorem zaK {os : List O} {most : Int} : ∀ (l : List Int) {st : St} {told : List R}, (st.1.length : Int) <= most -> ((WD os most l st told).1.1.length : Int) <= most
 | [], st, told, h => h
 | k :: l, st, told, h => zaK l (znW h)
theorem zaL (l : List R) : lsl (V.sl 2 (l.map R.w) false) = l.map R.w := rfl
theorem zf6 (x : R) (c : Int) : setR (R.w x) 0 [.int .u8 c] = R.w ⟨c, x.v⟩ := rfl
theorem zjI (n : Nat) {s c : Nat} {cb : Option Nat} {most : Int} (os : List O) (lb : Bool) (P : List Int) (hP : ∀ x ∈ P, 0 <= x /\ x < (os.length : Int) /\ (oAt os x).k = 1) (hnd : P.Nodup) (p1 p2 : Nat) (Q0 : List Int) (v6 : V) (hlim : P.length < lim) : ∀ (d i M : Nat) (h : zd) (ts : List Tw) (bits : List Bool) (told : List R) (v0 v2 : V), i + d = P.length -> d < M →
    Env h s ts most c cb bits p1 P p2 Q0 -> ts.length + d < lim -> ts.length + d + 10 < n -> told.length = os.length -> (∀ x ∈ P.drop i, told[x.toNat]? = some ⟨0, 0⟩) →
    ∃ h' ts' bits' told' v0' v2' M', zV M (QE (n + 3) s c (os.map O.w) lb (.row p1 1 0 P.length) v6 (1, iL P)) [v0, .sl 2 (told.map R.w) false, v2, .int .i64 (i : Int)] h = QE (n + 3) s c (os.map O.w) lb (.row p1 1 0 P.length) v6 (1, iL P) [v0', .sl 2 (told'.map R.w) false, v2', .int .i64 (P.length : Int)] h' (zV M' (QE (n + 3) s c (os.map O.w) lb (.row p1 1 0 P.length) v6 (1, iL P))) ∧
     Env h' s ts' most c cb bits' p1 P p2 Q0 /\ Frm h h' (c :: skB s ts) /\ (∀ b ∈ skB s ts', b ∈ skB s ts \/ h.length <= b) /\ told'.length = os.length /\ ts'.length <= ts.length + d /\ WD os most (P.drop i) (itT ts, bits) told = ((itT ts', bits'), told') /\ (∀ y : Nat, (∀ x ∈ P.drop i, x ≠ (y : Int)) -> told'[y]? = told[y]?) := by
 intro d
 induction d with
 | zero =>
   intro i M h ts bits told v0 v2 h1 h2 E hts hn hlt h0
   obtain ⟨M, rfl⟩ : ∃ M', M = M' + 1 := ⟨M - 1, by omega⟩
   obtain rfl : i = P.length := by omega
   exact ⟨h, ts, bits, told, v0, v2, M, zG .., E, .refl _ _, fun b hb => .inl hb, hlt, zk _, by rw [List.drop_length]; rfl, fun _ _ => rfl⟩
 | succ d ih =>
   intro i M h ts bits told v0 v2 h1 h2 E hts hn hlt h0
   obtain ⟨M, rfl⟩ : ∃ M', M = M' + 1 := ⟨M - 1, by omega⟩
   obtain ⟨x, hx⟩ : ∃ x, P[i]? = some x := ⟨_, zf (by omega)⟩
   have hdr : P.drop i = x :: P.drop (i + 1) := by
    rw [zX (by omega)]
    rw [zf (by omega)] at hx
    rw [Option.some.inj hx]
   obtain ⟨x0, x1, xk⟩ := hP x (zL hx)
   obtain ⟨k, rfl⟩ : ∃ k : Nat, x = (k : Int) := ⟨x.toNat, (ZU x0).symm⟩
   have hk : k < os.length := by omega
   obtain ⟨o, ho⟩ : ∃ o, os[k]? = some o := ⟨_, zf hk⟩
   have hov : (os.map O.w)[k]? = some (O.w o) := by rw [zaz, ho]; rfl
   have hoo := Wv ho
   rw [hoo] at xk
   have ht0 : told[k]? = some ⟨0, 0⟩ := by
    have := h0 (k : Int) (by rw [hdr]; exact zy ..)
    simpa using this
   have htk : k < told.length := by omega
   have htv : (told.map R.w)[k]? = some (R.w ⟨0, 0⟩) := by rw [j9, ht0]; rfl
   have hl1 : decide ((i : Int) < (P.length : Int)) = true := by simp; omega
   obtain ⟨g1, g2⟩ := E.r1.get hx
   have hnd2 : (P.drop i).Nodup := hnd.sublist (Qe _ _)
   rw [hdr] at hnd2
   have hrest : ∀ (told2 : List R) (r : R), told2 = told.set k r -> ∀ y ∈ P.drop (i + 1), told2[y.toNat]? = some ⟨0, 0⟩ := fun told2 r e y hy => by
    rw [e, ze]
    · exact h0 y (by rw [hdr]; exact zp _ hy)
    · intro e2
      have hy0 := hP y (Zd hy)
      have hyk : y = (k : Int) := by omega
      exact (ZB.1 hnd2).1 (hyk ▸ hy)
   have hrun : WD os most (P.drop i) (itT ts, bits) told = WD os most (P.drop (i + 1)) (stp most (itT ts, bits) o).1 (told.set k (stp most (itT ts, bits) o).2) := by
    rw [hdr]; show WD os most _ (stp most (itT ts, bits) (oAt os (k : Int))).1 (told.set (k : Int).toNat (stp most (itT ts, bits) (oAt os (k : Int))).2) = _
    rw [hoo, XP]
   have hoth : ∀ (r : R) (told' : List R), (∀ y : Nat, (∀ x ∈ P.drop (i + 1), x ≠ (y : Int)) -> told'[y]? = (told.set k r)[y]?) -> ∀ y : Nat, (∀ x ∈ P.drop i, x ≠ (y : Int)) -> told'[y]? = told[y]? := fun r told' hh y hy => by
    rw [hdr] at hy
    rw [hh y fun x hx => hy x (zp _ hx), ze]
    intro e
    exact hy (k : Int) (zy ..) (by omega)
   obtain ⟨N, hS⟩ := E.sk
   have hlenC := qW (n + 2) hS
   have hmostC := zeL (n + 2) hS
   have hset3 : (told.map R.w).set k (setR (R.w ⟨0, 0⟩) 0 [.int .u8 3]) = (told.set k ⟨3, 0⟩).map R.w := by rw [zf6, Jt]
   have c1 : (2 = 2 /\ k < (told.map R.w).length /\ (some 28 : Option Nat) ≠ some 7) := ⟨rfl, by rw [zt]; exact htk, by decide⟩
   by_cases hfull : (ts.length : Int) < most
   ·
    obtain ⟨h2', e2, B2, l2, f2⟩ := za8 n E.bt (by omega)
    have E2 := E.coin B2 f2
    obtain ⟨N2, hS2⟩ := E2.sk
    obtain ⟨h3, ts3, e3, P3⟩ := zh4 n hS2 o.v ((hgt 1 bits).1 : Int) (by omega) (by omega) hfull
    have E3 := E2.grew P3.grew
    have hset1 : ((told.set k ⟨3, 0⟩).map R.w).set k (setR (R.w ⟨3, 0⟩) 0 [.int .u8 1]) = (told.set k ⟨1, 0⟩).map R.w := by rw [zf6, <- Jt, List.set_set]
    have htv3 : ((told.set k ⟨3, 0⟩).map R.w)[k]? = some (R.w ⟨3, 0⟩) := by rw [j9, Zp htk]; rfl
    have key : ∀ next, QE (n + 3) s c (os.map O.w) lb (.row p1 1 0 P.length) v6 (1, iL P) [v0, .sl 2 (told.map R.w) false, v2, .int .i64 (i : Int)] h next = next [.sl 2 (lsl v0) false, .sl 2 ((told.set k ⟨1, 0⟩).map R.w) false, .bool false, .int .i64 ((i + 1 : Nat) : Int)] h3 := by
     intro next
     unfold QE
     simp only [gv, zg, zi, Qi, zu, za, zm, hl1, if_true, Zj, zD, g1, g2, zo, zr, zk, Nat.reduceLT, and_self, zb, zaL]
     rw [if_pos (by exact ⟨trivial, c1.2.1, by decide⟩), htv, za, hlenC, zM, zx, hmostC, zM, zx, zu, za, zm, if_pos (by exact decide_eq_true hfull)]
     rw [Qd hov, za]
     simp only [esP, zkM, za]
     rw [e2, zbI, zx, e3, zbI, zx, hset3]
     rw [if_pos (by exact ⟨trivial, by rw [zt, zq]; exact htk, by decide⟩), htv3, za, zK, za, hset1, Xu (show i < lim by omega)]
    have hlen3 : ts3.length = ts.length + 1 := by
     have := congrArg List.length P3.items
     rwa [Ja, zac, Ja] at this
    obtain ⟨h', ts', bits', told', v0', v2', M', e, b1, b2, b3, b4, b5, b6, b7⟩ := ih (i + 1) M h3 ts3 (hgt 1 bits).2 (told.set k ⟨1, 0⟩) (.sl 2 (lsl v0) false) (.bool false) (by omega) (by omega) E3 (by omega) (by omega) (by rw [zq]; exact hlt) (hrest _ ⟨1, 0⟩ rfl)
    refine ⟨h', ts', bits', told', v0', v2', M', by rw [zG, key]; exact e, b1, ?_, fun b hb => ?_, b4, by omega, ?_, hoth ⟨1, 0⟩ told' b7⟩
    · have f3 : Frm h h3 (c :: skB s ts) := Frm.trans (h1 := h2') ⟨Nat.le_of_eq l2.symm, fun j _ hj => f2 j fun e => hj (e ▸ zy ..)⟩ P3.grew.frm fun y hy => .inl (zp _ hy)
      refine f3.trans b2 fun y hy => ?_
      rcases zJ.1 hy with e | hy
      · exact .inl (e ▸ zy ..)
      · rcases P3.grew.new y hy with h | h
        · exact .inl (zp _ h)
        · exact .inr (by omega)
    · have hl3 := P3.len
      rcases b3 b hb with h | h
      · rcases P3.grew.new b h with h | h
        · exact .inl h
        · exact .inr (by omega)
      · exact .inr (by omega)
    · rw [hrun]
      have hst : stp most (itT ts, bits) o = ((zdW (itT ts) o.v (hgt 1 bits).1, (hgt 1 bits).2), ⟨1, 0⟩) := by
       unfold stp
       rw [if_pos xk, if_neg (by simp only [Ja]; omega)]
      rw [hst, <- zkN bits, <- P3.items]
      exact b6
   · have key : ∀ next, QE (n + 3) s c (os.map O.w) lb (.row p1 1 0 P.length) v6 (1, iL P) [v0, .sl 2 (told.map R.w) false, v2, .int .i64 (i : Int)] h next = next [.sl 2 (lsl v0) false, .sl 2 ((told.set k ⟨3, 0⟩).map R.w) false, .bool false, .int .i64 ((i + 1 : Nat) : Int)] h := by
       intro next
       unfold QE
       simp only [gv, zg, zi, Qi, zu, za, zm, hl1, if_true, Zj, zD, g1, g2, zo, zr, zk, Nat.reduceLT, and_self, zb, zaL]
       rw [if_pos (by exact ⟨trivial, c1.2.1, by decide⟩), htv, za, hlenC, zM, zx, hmostC, zM, zx, zu, za, zm, if_neg (by intro e; exact hfull (of_decide_eq_true e)), zK, za, hset3, Xu (show i < lim by omega)]
     obtain ⟨h', ts', bits', told', v0', v2', M', e, b1, b2, b3, b4, b5, b6, b7⟩ := ih (i + 1) M h ts bits (told.set k ⟨3, 0⟩) (.sl 2 (lsl v0) false) (.bool false) (by omega) (by omega) E (by omega) (by omega) (by rw [zq]; exact hlt) (hrest _ ⟨3, 0⟩ rfl)
     refine ⟨h', ts', bits', told', v0', v2', M', by rw [zG, key]; exact e, b1, b2, b3, b4, by omega, ?_, hoth ⟨3, 0⟩ told' b7⟩
     rw [hrun]
     have hst : stp most (itT ts, bits) o = ((itT ts, bits), ⟨3, 0⟩) := by
      unfold stp
      rw [if_pos xk, if_pos (by simp only [Ja]; omega)]
     rw [hst]
     exact b6
theorem znX (n : Nat) : List.replicate n [V.int .u8 0, V.int .i32 0] = (List.replicate n (⟨0, 0⟩ : R)).map R.w := by rw [List.map_replicate]; rfl
def K9 (os : List O) (most : Int) (st : St) : St × List R := WD os most (Xc os ++ XF os) st (List.replicate os.length ⟨0, 0⟩)
theorem zbh (os : List O) : ∀ x ∈ XF os, ∀ y ∈ Xc os, y ≠ x := fun x hx y hy e => by
 have h1 := JH os _ x hx
 have h2 := Jf os _ y ((Kk os).mem_iff.1 hy)
 rw [e] at h2
 exact h1.2.2 h2.2.2
theorem ja (os : List O) : (Xc os).Nodup := (Kk os).nodup_iff.2 ((YN os os.length).imp fun h => by omega)
theorem Qz (os : List O) : ∀ x ∈ Xc os, 0 <= x /\ x < (os.length : Int) /\ (oAt os x).k = 1 := fun x hx => Jf os _ x ((Kk os).mem_iff.1 hx)
theorem zit {h : zd} {s : Nat} {ts : List Tw} {most : Int} {c : Nat} {cb : Option Nat} {bits : List Bool} (os : List O) (S : ∃ N, SkAt h s ts most N) (B : BitsAt h c cb bits) (nc : c ∉ skB s ts) (ncb : ∀ b, cb = some b -> b ∉ skB s ts) :
    Env (JS h os) s ts most c cb bits h.length (Xc os) (h.length + 1) (XF os) := by
 obtain ⟨N, S⟩ := S
 have l := B.lt
 have hk : ∀ b, b < h.length -> (JS h os)[b]? = h[b]? := fun b hb => zl hb
 have h0 : (JS h os)[h.length]? = some (.row 3 1 (iL (Xc os)) true) := by unfold JS; rw [zI (zk _), Q7]; rfl
 have h1 : (JS h os)[h.length + 1]? = some (.row 3 1 (iL (XF os)) true) := by unfold JS; rw [zI (by omega), Xo]; rfl
 exact ⟨⟨N, S.keep fun b hb => hk b (S.lt b hb)⟩, B.keep (hk c l.1) fun b hb => hk b (l.2 b hb), ⟨_, h0⟩, ⟨_, h1⟩, nc, ncb, ⟨fun hm => by have := S.lt _ hm; omega, by omega⟩, ⟨fun hm => by have := S.lt _ hm; omega, by omega⟩⟩
theorem ziu (n : Nat) {h hh : zd} {s : Nat} {ts ts1 : List Tw} {most : Int} {c : Nat} {cb : Option Nat} {bits : List Bool} {p1 p2 : Nat} (os : List O) (lb : Bool) (told : List R) (E : Env hh s ts1 most c cb bits p1 (Xc os) p2 (XF os)) (hp2 : h.length <= p2) (hlt : told.length = os.length) (h0 : ∀ x ∈ XF os, told[x.toNat]? = some ⟨0, 0⟩) (hts : ts1.length < lim) (hlim : os.length < lim) (hn : os.length + 8 < n) (hF : Frm h hh (c :: skB s ts)) (hN : ∀ b ∈ skB s ts1, b ∈ skB s ts \/ h.length <= b) (hroom : (ts1.length : Int) <= most) :
    ∃ h' ts' told', call (n + 3) 229 [.ptr s 0, .sl 2 (os.map O.w) lb, .row p2 1 0 (XF os).length, .row hh.length 2 0 os.length] (hh ++ [.row 35 2 (told.map R.w) true]) = some (.ret [.row hh.length 2 0 os.length], h') ∧
     Did h h' s ts ts' most c cb bits hh.length told' /\ WD os most (XF os) (itT ts1, bits) told = ((itT ts', bits), told') := by
 have E1 := E.push [.row 35 2 (told.map R.w) true]
 have rt : RowR (hh ++ [.row 35 2 (told.map R.w) true]) hh.length told := ⟨true, zH⟩
 obtain ⟨N, S⟩ := E.sk
 have nt : hh.length ∉ skB s ts1 := fun hm => by have := S.lt _ hm; omega
 have hpl := E.r2.lt
 obtain ⟨h', ts', told', e, a1, a2, a3, a4, a5, a6⟩ := zlZ n os lb told hh.length p2 bits E1.sk hts rt E1.r2 hlt nt E.n2.1 (by omega) h0 hlim hn
 have hl := E.bt.lt
 refine ⟨h', ts', told', e, ⟨a1, ?_, a5, hF.len, ?_, fun b hb => ?_, ?_⟩, a6⟩
 · have hk : ∀ i, i < hh.length -> i ∉ skB s ts1 -> h'[i]? = hh[i]? := fun i h1 h2 => by
     rw [a3.old i (by rw [zC]; omega) (fun hm => by rcases zJ.1 hm with e | hm; omega; exact h2 hm), zl h1]
   exact E.bt.keep (hk c hl.1 E.nc) fun b hb => hk b (hl.2 b hb) (E.ncb b hb)
 · refine (hF.trans (Frm.push hh _ []) (fun y hy => by cases hy)).trans a3 fun y hy => ?_
   rcases zJ.1 hy with e | hy
   · exact .inr (by have := hF.len; omega)
   · rcases hN y hy with h | h
     · exact .inl (zp _ h)
     · exact .inr h
 · exact hN b (a2 b hb)
 · have h1 := congrArg (fun p => (p.1.1.length : Int)) a6
   simp only [Ja] at h1
   rw [<- h1]
   exact zaK _ (by simp only [Ja]; exact hroom)
theorem zjJ (n : Nat) {h : zd} {s : Nat} {ts : List Tw} {most : Int} {c : Nat} {cb : Option Nat} {bits : List Bool} (os : List O) (lb : Bool) (S : ∃ N, SkAt h s ts most N) (B : BitsAt h c cb bits) (nc : c ∉ skB s ts) (ncb : ∀ b, cb = some b -> b ∉ skB s ts) (hroom : (ts.length : Int) <= most) (hl : ts.length + 4 * os.length + 100 < lim) (hn : ts.length + 2 * os.length + 50 <= n) :
    ∃ h' ts' bits' tb told', call (n + 4) 224 [.ptr s 0, .ptr c 0, .sl 2 (os.map O.w) lb] h = some (.ret [.row tb 2 0 os.length], h') /\ Did h h' s ts ts' most c cb bits' tb told' /\ K9 os most (itT ts, bits) = ((itT ts', bits'), told') := by
 have hpl := YO os os.length
 have hsl := zaJ os
 have hpo : (WC os).length <= os.length := by unfold WC; omega
 have E0 := zit os S B nc ncb
 have hlf : (JS h os).length = h.length + 2 := by simp [JS]
 obtain ⟨h1, ts1, bits1, told1, v0', v2', M', e, b1, b2, b3, b4, b5, b6, b7⟩ := zjI n os lb (Xc os) (Qz os) (ja os) h.length (h.length + 1) (XF os) (.row (h.length + 1) 1 0 (XF os).length) (by omega) (Xc os).length 0 (n + 3) (JS h os) ts bits (List.replicate os.length ⟨0, 0⟩) (.sl 2 [] false) (.bool false) (by omega) (by omega) E0 (by omega) (by omega) (by simp) (fun x hx => by
  have := Qz os x (Zd hx)
  rw [ZR, if_pos (by omega)])
 rw [zP] at b6 b7
 have hF : Frm h h1 (c :: skB s ts) := Frm.trans (Frm.push h _ (c :: skB s ts)) b2 fun y hy => .inl hy
 have hN : ∀ b ∈ skB s ts1, b ∈ skB s ts \/ h.length <= b := fun b hb => (b3 b hb).imp id fun h => by omega
 have hr1 : (ts1.length : Int) <= most := by
  have h1 := congrArg (fun p => (p.1.1.length : Int)) b6
  simp only [Ja] at h1
  rw [<- h1]
  exact zaK _ (by simp only [Ja]; exact hroom)
 obtain ⟨h', ts', told', e2, D, r⟩ := ziu (ts := ts) n os lb told1 b1 (by omega) b4 (fun x hx => by
  have hm := JH os _ x hx
  rw [b7 x.toNat fun y hy => fun e => zbh os x hx y hy (by omega), ZR, if_pos (by omega)]) (by omega) (by omega) (by omega) hF hN hr1
 refine ⟨h', ts', bits1, h1.length, told', ?_, D, ?_⟩
 · refine (zid (n + 3) s c (os.map O.w) lb h).trans ?_
   unfold zic
   have fN : nv (V.int .i64 (os.length : Int)) = some os.length := Zj _ _
   have hpc : call (n + 3) 225 [.sl 2 (os.map O.w) lb] h = some (.ret [.row h.length 1 0 (WC os).length, .row (h.length + 1) 1 0 (XF os).length], JS h os) := zbg (n + 1) h os lb (by omega) (by omega)
   simp only [zt]
   rw [fN, zD, zD, if_pos (by first | exact ⟨zk _, by omega, rfl⟩ | exact ⟨trivial, by omega, trivial⟩ | exact ⟨zk _, by omega, trivial⟩), hpc, zM]
   simp only [zb, zj, za]
   rw [<- hsl, E0.r1.slc, za, znX]
   refine e.trans ?_
   unfold QE
   simp only [gv, zg, zi, Qi, zu, za, zm]
   rw [if_neg (by simp), zaL, zt, b4, e2, zM, zx]
 · unfold K9
   rw [Yp, b6]
   exact r
end Go.Proofs.Tryz
namespace Go.Proofs.Tryz
open Go.L Go.Rp Go.Sk
set_option maxRecDepth 100000
def qh : Nat -> List Bool -> List Int × List Bool
 | 0, bits => ([], bits)
 | k + 1, bits => (((hgt 1 bits).1 : Int) :: (qh k (hgt 1 bits).2).1, (qh k (hgt 1 bits).2).2)
theorem ziv : ∀ (k : Nat) (bits : List Bool), (qh k bits).1.length = k
 | 0, _ => rfl
 | k + 1, bits => by simp [qh, ziv k]
def Q6 (r : R) : List Int -> List R -> List R
 | [], told => told
 | k :: l, told => Q6 r l (told.set k.toNat r)
theorem qi (r : R) : ∀ (l : List Int) (told : List R), (Q6 r l told).length = told.length
 | [], _ => rfl
 | k :: l, told => by show (Q6 r l _).length = _; rw [qi r l, zq]
theorem jt (r : R) : ∀ (l : List Int) (told : List R) (y : Nat), (∀ x ∈ l, x.toNat ≠ y) -> (Q6 r l told)[y]? = told[y]?
 | [], _, _, _ => rfl
 | k :: l, told, y, h => by
   show (Q6 r l _)[y]? = _
   rw [jt r l _ y fun x hx => h x (zp _ hx), ze (h k (zy ..))]
theorem zkO (os : List O) (most : Int) : ∀ (P : List Int) (st : St) (told : List R), (∀ x ∈ P, (oAt os x).k = 1) -> (st.1.length : Int) + P.length <= most →
    WD os most P st told = ((qg st.1 ((P.map (YM os)).zip (qh P.length st.2).1), (qh P.length st.2).2), Q6 ⟨1, 0⟩ P told)
 | [], st, told, _, _ => rfl
 | k :: P, st, told, hk, hm => by
   have hst : stp most st (oAt os k) = ((zdW st.1 (oAt os k).v (hgt 1 st.2).1, (hgt 1 st.2).2), ⟨1, 0⟩) := by
    unfold stp
    rw [if_pos (hk k (zy ..)), if_neg (by simp at hm; omega)]
   show WD os most P (stp most st (oAt os k)).1 (told.set k.toNat (stp most st (oAt os k)).2) = _
   rw [hst, zkO os most P _ _ (fun x hx => hk x (zp _ hx)) (by rw [zac]; simp at hm ⊢; omega)]
   simp only [zT, zB, qh, XJ, qg, Q6, zkN]
   rfl
theorem ziw (os : List O) (most : Int) : ∀ (P : List Int) (st : St) (told : List R), (∀ x ∈ P, (oAt os x).k = 1) -> most <= (st.1.length : Int) -> WD os most P st told = (st, Q6 ⟨3, 0⟩ P told)
 | [], st, told, _, _ => rfl
 | k :: P, st, told, hk, hm => by
   have hst : stp most st (oAt os k) = (st, ⟨3, 0⟩) := by
    unfold stp
    rw [if_pos (hk k (zy ..)), if_pos hm]
   show WD os most P (stp most st (oAt os k)).1 (told.set k.toNat (stp most st (oAt os k)).2) = _
   rw [hst]
   exact ziw os most P st _ (fun x hx => hk x (zp _ hx)) hm
theorem RowI.getP {h : zd} {b : Nat} {k : IntKind} {e : Nat} {l : List Int} (r : RowI h b k e l) {lo hi i : Nat} {x : Int} (hi' : lo + i < hi) (hx : l[lo + i]? = some x) : ZW 1 i (.row b 1 lo hi) = some (.rptr b 1 (lo + i) 0) /\ zw h (.rptr b 1 (lo + i) 0) = some ([.int k x], 1, 0) := by
 obtain ⟨z, hz⟩ := r
 refine ⟨XE (by omega), Xq hz (by decide) ?_⟩
 rw [zF, hx]
 rfl
theorem RowI.slcP {h : zd} {b : Nat} {k : IntKind} {e : Nat} {l : List Int} (r : RowI h b k e l) {lo hi : Nat} (h1 : lo <= hi) (h2 : hi <= l.length) : XB h (.row b 1 lo hi) = some (1, ((l.take hi).drop lo).map (Xh k)) := by
 obtain ⟨z, hz⟩ := r
 rw [Qt hz h1 (by rw [zt]; exact h2), List.map_drop, List.map_take]
theorem zpa (l : List Int) (x : Int) (h : l.length + 1 < lim) : app 21 1 (S.own 21 1 (l.map (Xh .i32))) [[.int .i32 x]] = some ((l ++ [x]).map (Xh .i32)) := by
 simp only [app]
 rw [if_pos (by refine ⟨?_, ?_, by simpa using h⟩ <;> first | trivial | rfl)]
 simp [Xh]
theorem zkP (l : List Int) : lsl (V.sl 1 (l.map (Xh .i32)) false) = l.map (Xh .i32) := rfl
theorem znY (l : List Int) : lsl (V.sl 1 (iL l) false) = iL l := rfl
theorem zl0 (n : Nat) {s c : Nat} {cb : Option Nat} {most : Int} {ts : List Tw} (os : List O) (lb : Bool) (P0 : List Int) (hP : ∀ x ∈ P0, 0 <= x /\ x < (os.length : Int)) (hnd : P0.Nodup) (p1 p2 : Nat) (Q0 : List Int) (v5 v6 v18 : V) (r : Nat) (hr : r <= P0.length) (hlim : P0.length < lim) (hn : 8 <= n) : ∀ (d i M : Nat) (h : zd) (bits : List Bool) (told : List R) (vs hs : List Int) (v0 v4 : V), i + d = r -> d < M →
    Env h s ts most c cb bits p1 P0 p2 Q0 -> told.length = os.length -> vs.length = i -> hs.length = i -> (∀ x ∈ P0.drop i, told[x.toNat]? = some ⟨0, 0⟩) →
    ∃ h' v0' v4' M', zV M (Q4 (n + 3) s c (os.map O.w) lb v5 v6 v18 (.row p1 1 0 r) (1, iL (P0.take r))) [v0, .sl 2 (told.map R.w) false, .sl 1 (vs.map (Xh .i32)) false, .sl 1 (iL hs) false, v4, .int .i64 (i : Int)] h =
     Q4 (n + 3) s c (os.map O.w) lb v5 v6 v18 (.row p1 1 0 r) (1, iL (P0.take r)) [v0', .sl 2 ((Q6 ⟨1, 0⟩ ((P0.take r).drop i) told).map R.w) false, .sl 1 ((vs ++ ((P0.take r).drop i).map (YM os)).map (Xh .i32)) false, .sl 1 (iL (hs ++ (qh d bits).1)) false, v4', .int .i64 (r : Int)] h' (zV M' (Q4 (n + 3) s c (os.map O.w) lb v5 v6 v18 (.row p1 1 0 r) (1, iL (P0.take r)))) ∧
     Env h' s ts most c cb (qh d bits).2 p1 P0 p2 Q0 /\ h'.length = h.length /\ ∀ i, i ≠ c -> h'[i]? = h[i]? := by
 intro d
 induction d with
 | zero =>
   intro i M h bits told vs hs v0 v4 h1 h2 E hlt hvl hhl h0
   obtain ⟨M, rfl⟩ : ∃ M', M = M' + 1 := ⟨M - 1, by omega⟩
   obtain rfl : i = r := by omega
   have hd : (P0.take i).drop i = [] := Zu (by rw [Zh]; omega)
   refine ⟨h, v0, v4, M, ?_, E, rfl, fun _ _ => rfl⟩
   rw [hd]
   simp only [Q6, Js, Zr, qh]
   exact zG ..
 | succ d ih =>
   intro i M h bits told vs hs v0 v4 h1 h2 E hlt hvl hhl h0
   obtain ⟨M, rfl⟩ : ∃ M', M = M' + 1 := ⟨M - 1, by omega⟩
   have hiP : i < P0.length := by omega
   obtain ⟨x, hx⟩ : ∃ x, P0[i]? = some x := ⟨_, zf hiP⟩
   have hdr : P0.drop i = x :: P0.drop (i + 1) := by
    rw [zX hiP]
    rw [zf hiP] at hx
    rw [Option.some.inj hx]
   have hdt : (P0.take r).drop i = x :: (P0.take r).drop (i + 1) := by
    have hil : i < (P0.take r).length := by rw [Zh]; omega
    rw [zX hil]
    rw [zf hiP] at hx
    rw [<- Option.some.inj hx, List.getElem_take]
   obtain ⟨x0, x1⟩ := hP x (zL hx)
   obtain ⟨k, rfl⟩ : ∃ k : Nat, x = (k : Int) := ⟨x.toNat, (ZU x0).symm⟩
   have hk : k < os.length := by omega
   obtain ⟨o, ho⟩ : ∃ o, os[k]? = some o := ⟨_, zf hk⟩
   have hov : (os.map O.w)[k]? = some (O.w o) := by rw [zaz, ho]; rfl
   have hoo := Wv ho
   have hkv : YM os (k : Int) = o.v := by unfold YM; rw [hoo]
   have ht0 : told[k]? = some ⟨0, 0⟩ := by
    have := h0 (k : Int) (by rw [hdr]; exact zy ..)
    simpa using this
   have htk : k < told.length := by omega
   have htv : (told.map R.w)[k]? = some (R.w ⟨0, 0⟩) := by rw [j9, ht0]; rfl
   have hl1 : decide ((i : Int) < ((P0.take r).length : Int)) = true := by rw [Zh]; simp; omega
   obtain ⟨g1, g2⟩ := E.r1.getP (lo := 0) (hi := r) (i := i) (by omega) (by rw [zr]; exact hx)
   rw [zr] at g1 g2
   have hnd2 : (P0.drop i).Nodup := hnd.sublist (Qe _ _)
   rw [hdr] at hnd2
   obtain ⟨h2', e2, B2, l2, f2⟩ := za8 n E.bt hn
   have E2 := E.coin B2 f2
   have hset1 : (told.map R.w).set k (setR (R.w ⟨0, 0⟩) 0 [.int .u8 1]) = (told.set k ⟨1, 0⟩).map R.w := by rw [zf6, Jt]
   have key : ∀ next, Q4 (n + 3) s c (os.map O.w) lb v5 v6 v18 (.row p1 1 0 r) (1, iL (P0.take r)) [v0, .sl 2 (told.map R.w) false, .sl 1 (vs.map (Xh .i32)) false, .sl 1 (iL hs) false, v4, .int .i64 (i : Int)] h next = next [.sl 2 (lsl v0) false, .sl 2 ((told.set k ⟨1, 0⟩).map R.w) false, .sl 1 ((vs ++ [o.v]).map (Xh .i32)) false, .sl 1 (iL (hs ++ [((hgt 1 bits).1 : Int)])) false, .bool false, .int .i64 ((i + 1 : Nat) : Int)] h2' := by
    intro next
    unfold Q4
    simp only [gv, zg, zi, Qi, zu, za, zm, hl1, if_true, Zj, zD, g1, g2, zo, zr, zk, Nat.reduceLT, and_self, zb, Qd hov, zeR, Xg, Nat.reduceAdd, Nat.reduceLeDiff, zkM, zbO, zkP, znY, zaL]
    rw [zpa _ _ (by omega), za, e2, zM, zx, zkL, za, zf5 _ _ (by omega), za]
    rw [if_pos (by exact ⟨trivial, by rw [zt]; exact htk, by decide⟩), htv, za, zK, za, hset1, Xu (show i < lim by omega)]
   obtain ⟨h', v0', v4', M', e, b1, b2, b3⟩ := ih (i + 1) M h2' (hgt 1 bits).2 (told.set k ⟨1, 0⟩) (vs ++ [o.v]) (hs ++ [((hgt 1 bits).1 : Int)]) (.sl 2 (lsl v0) false) (.bool false) (by omega) (by omega) E2 (by rw [zq]; exact hlt) (by simp; omega) (by simp; omega) (fun y hy => by
    rw [ze]
    · exact h0 y (by rw [hdr]; exact zp _ hy)
    · intro e2
      have hy0 := hP y (Zd hy)
      have hyk : y = (k : Int) := by omega
      exact (ZB.1 hnd2).1 (hyk ▸ hy))
   refine ⟨h', v0', v4', M', ?_, b1, by rw [b2, l2], fun j hj => by rw [b3 j hj, f2 j hj]⟩
   rw [zG, key, e, hdt]
   simp only [Q6, XP, zT, hkv, qh, List.append_assoc, ZX, zU]
theorem zl1 (n : Nat) {s c : Nat} {cb : Option Nat} {most : Int} {ts : List Tw} {bits : List Bool} {h : zd} (os : List O) (lb : Bool) (P0 : List Int) (hP : ∀ x ∈ P0, 0 <= x /\ x < (os.length : Int)) (hnd : P0.Nodup) (p1 p2 : Nat) (Q0 : List Int) (v6 : V) (r : Nat) (hr : r <= P0.length) (hlim : P0.length < lim) (E : Env h s ts most c cb bits p1 P0 p2 Q0) : ∀ (d i M : Nat) (told : List R) (v0 v2 : V), r + i + d = P0.length -> d < M →
    told.length = os.length -> (∀ x ∈ P0.drop (r + i), told[x.toNat]? = some ⟨0, 0⟩) →
    ∃ v0' v2' M', zV M (Q3 (n + 3) s (os.map O.w) lb v6 (.row p1 1 r P0.length) (1, iL (P0.drop r))) [v0, .sl 2 (told.map R.w) false, v2, .int .i64 (i : Int)] h =
     Q3 (n + 3) s (os.map O.w) lb v6 (.row p1 1 r P0.length) (1, iL (P0.drop r)) [v0', .sl 2 ((Q6 ⟨3, 0⟩ (P0.drop (r + i)) told).map R.w) false, v2', .int .i64 ((P0.drop r).length : Int)] h (zV M' (Q3 (n + 3) s (os.map O.w) lb v6 (.row p1 1 r P0.length) (1, iL (P0.drop r)))) := by
 intro d
 induction d with
 | zero =>
   intro i M told v0 v2 h1 h2 hlt h0
   obtain ⟨M, rfl⟩ : ∃ M', M = M' + 1 := ⟨M - 1, by omega⟩
   have hi : i = (P0.drop r).length := by rw [Xf]; omega
   refine ⟨v0, v2, M, ?_⟩
   rw [Zu (i := r + i) (by omega), <- hi]
   exact zG ..
 | succ d ih =>
   intro i M told v0 v2 h1 h2 hlt h0
   obtain ⟨M, rfl⟩ : ∃ M', M = M' + 1 := ⟨M - 1, by omega⟩
   obtain ⟨x, hx⟩ : ∃ x, P0[r + i]? = some x := ⟨_, zf (by omega)⟩
   have hdr : P0.drop (r + i) = x :: P0.drop (r + (i + 1)) := by
    rw [zX (show r + i < P0.length by omega)]
    rw [zf (by omega)] at hx
    rw [Option.some.inj hx, ZM]
   obtain ⟨x0, x1⟩ := hP x (zL hx)
   obtain ⟨k, rfl⟩ : ∃ k : Nat, x = (k : Int) := ⟨x.toNat, (ZU x0).symm⟩
   have ht0 : told[k]? = some ⟨0, 0⟩ := by
    have := h0 (k : Int) (by rw [hdr]; exact zy ..)
    simpa using this
   have htk : k < told.length := by omega
   have htv : (told.map R.w)[k]? = some (R.w ⟨0, 0⟩) := by rw [j9, ht0]; rfl
   have hl1 : decide ((i : Int) < ((P0.drop r).length : Int)) = true := by rw [Xf]; simp; omega
   obtain ⟨g1, g2⟩ := E.r1.getP (lo := r) (hi := P0.length) (i := i) (by omega) hx
   have hnd2 : (P0.drop (r + i)).Nodup := hnd.sublist (Qe _ _)
   rw [hdr] at hnd2
   have hset1 : (told.map R.w).set k (setR (R.w ⟨0, 0⟩) 0 [.int .u8 3]) = (told.set k ⟨3, 0⟩).map R.w := by rw [zf6, Jt]
   have key : ∀ next, Q3 (n + 3) s (os.map O.w) lb v6 (.row p1 1 r P0.length) (1, iL (P0.drop r)) [v0, .sl 2 (told.map R.w) false, v2, .int .i64 (i : Int)] h next = next [.sl 2 (lsl v0) false, .sl 2 ((told.set k ⟨3, 0⟩).map R.w) false, .bool false, .int .i64 ((i + 1 : Nat) : Int)] h := by
    intro next
    unfold Q3
    simp only [gv, zg, zi, Qi, zu, za, zm, hl1, if_true, Zj, zD, g1, g2, zo, zr, zk, Nat.reduceLT, and_self, zb, zaL]
    rw [if_pos (by exact ⟨trivial, by rw [zt]; exact htk, by decide⟩), htv, za, zK, za, hset1, Xu (show i < lim by omega)]
   obtain ⟨v0', v2', M', e⟩ := ih (i + 1) M (told.set k ⟨3, 0⟩) (.sl 2 (lsl v0) false) (.bool false) (by omega) (by omega) (by rw [zq]; exact hlt) (fun y hy => by
    rw [ze]
    · exact h0 y (by rw [hdr]; exact zp _ hy)
    · intro e2
      have hy0 := hP y (Zd hy)
      have hyk : y = (k : Int) := by omega
      exact (ZB.1 hnd2).1 (hyk ▸ hy))
   refine ⟨v0', v2', M', ?_⟩
   rw [zG, key, e, hdr]
   simp only [Q6, XP]
theorem zqb (a b : Int) : mm false [.int .i64 a, .int .i64 b] = some (.int .i64 (if b < a then b else a)) := rfl
theorem zjK (os : List O) (r : Nat) : (((Xc os).take r).map (YM os)).Pairwise (· <= ·) := by
 rw [List.pairwise_map]
 exact ((znV os).sublist (J6 _ _)).imp fun h => h.of
theorem zdY (n : Nat) {h : zd} {s : Nat} {ts : List Tw} {most : Int} {c : Nat} {cb : Option Nat} {bits : List Bool} (os : List O) (lb : Bool) (S : ∃ N, SkAt h s ts most N) (B : BitsAt h c cb bits) (nc : c ∉ skB s ts) (ncb : ∀ b, cb = some b -> b ∉ skB s ts) (hroom : (ts.length : Int) <= most) (hmost : most <= 1000) (hl : ts.length + 4 * os.length + 100 < lim) (hn : ts.length + 2 * os.length + 50 <= n) :
    ∃ h' ts' bits' tb told', call (n + 4) 222 [.ptr s 0, .ptr c 0, .sl 2 (os.map O.w) lb] h = some (.ret [.row tb 2 0 os.length], h') /\ Did h h' s ts ts' most c cb bits' tb told' /\ K9 os most (itT ts, bits) = ((itT ts', bits'), told') := by
 have hpl := YO os os.length
 have hsl := zaJ os
 have hpo : (WC os).length <= os.length := by unfold WC; omega
 have E0 := zit os S B nc ncb
 have hlf : (JS h os).length = h.length + 2 := by simp [JS]
 have hkp := fun x hx => (Qz os x hx).2.2
 obtain ⟨r, hr⟩ : ∃ r : Nat, (r : Int) = if most - (ts.length : Int) < ((Xc os).length : Int) then most - (ts.length : Int) else ((Xc os).length : Int) := ⟨(if most - (ts.length : Int) < ((Xc os).length : Int) then most - (ts.length : Int) else ((Xc os).length : Int)).toNat, ZU (by split <;> omega)⟩
 have hr1 : r <= (Xc os).length := by split at hr <;> omega
 have hr2 : (ts.length : Int) + r <= most := by split at hr <;> omega
 have hr3 : r = (Xc os).length \/ most <= (ts.length : Int) + r := by split at hr <;> omega
 have hlt1 : ((Xc os).take r).length = r := by rw [Zh]; omega
 obtain ⟨h1, v0', v4', M', e1, E1, l1, f1⟩ := zl0 n os lb (Xc os) (fun x hx => ⟨(Qz os x hx).1, (Qz os x hx).2.1⟩) (ja os) h.length (h.length + 1) (XF os) (.row h.length 1 0 (Xc os).length) (.row (h.length + 1) 1 0 (XF os).length) (.int .i64 (r : Int)) r hr1 (by omega) (by omega) r 0 (n + 3) (JS h os) bits (List.replicate os.length ⟨0, 0⟩) [] [] (.sl 2 [] false) (.bool false) (by omega) (by omega) E0 (by simp) rfl rfl (fun x hx => by
  have := Qz os x (Zd hx)
  rw [ZR, if_pos (by omega)])
 rw [zP, zU, zU] at e1
 obtain ⟨vs, hvs⟩ : ∃ vs, vs = ((Xc os).take r).map (YM os) := ⟨_, rfl⟩
 obtain ⟨hs, hhs⟩ : ∃ hs, hs = (qh r bits).1 := ⟨_, rfl⟩
 have hvl : vs.length = r := by rw [hvs, zt, hlt1]
 have hhl : hs.length = r := by rw [hhs, ziv]
 rw [<- hvs, <- hhs] at e1
 have E2 := E1.push [.row 21 1 (vs.map (Xh .i32)) true, .row 3 1 (iL hs) true]
 have hrow1 : RowI (h1 ++ [HB.row 21 1 (vs.map (Xh .i32)) true, HB.row 3 1 (iL hs) true]) h1.length .i32 21 vs := ⟨true, by rw [zI (zk _), Q7]; rfl⟩
 have hrow2 : RowI (h1 ++ [HB.row 21 1 (vs.map (Xh .i32)) true, HB.row 3 1 (iL hs) true]) (h1.length + 1) .i64 3 hs := ⟨true, by rw [zI (by omega), Xo]; rfl⟩
 obtain ⟨N1, S1⟩ := E1.sk
 obtain ⟨h2, ts2, tb2, e2, G2, I2⟩ := zjB n E2.sk h1.length (h1.length + 1) vs hs (by omega) (hvs ▸ zjK os r) hrow1 hrow2 (fun hm => by have := S1.lt _ hm; omega) (fun hm => by have := S1.lt _ hm; omega) (by rw [hvl]; exact hr2) (by rw [hvl]; omega) (by rw [hvl]; omega)
 have E3 := E2.grew G2
 have told1 := qi ⟨1, 0⟩ ((Xc os).take r) (List.replicate os.length (⟨0, 0⟩ : R))
 rw [Qv] at told1
 have hnd := ja os
 have hdis : ∀ x ∈ (Xc os).drop r, ∀ y ∈ (Xc os).take r, y.toNat ≠ x.toNat := fun x hx y hy e => by
  have a := Qz os x (Zd hx)
  have b := Qz os y (Zn hy)
  have hxy : x = y := by omega
  have hnd' : ((Xc os).take r ++ (Xc os).drop r).Nodup := by rw [Zt]; exact hnd
  exact (QF.1 hnd').2.2 y hy x hx hxy.symm
 obtain ⟨v0'', v2'', M'', e3⟩ := zl1 n os lb (Xc os) (fun x hx => ⟨(Qz os x hx).1, (Qz os x hx).2.1⟩) hnd h.length (h.length + 1) (XF os) (.row (h.length + 1) 1 0 (XF os).length) r hr1 (by omega) E3 ((Xc os).length - r) 0 (n + 3) (Q6 ⟨1, 0⟩ ((Xc os).take r) (List.replicate os.length ⟨0, 0⟩)) (.sl 2 (lsl v0') false) (.bool false) (by omega) (by omega) told1 (fun x hx => by
  rw [Za] at hx
  rw [jt _ _ _ _ (hdis x hx)]
  have := Qz os x (Zd hx)
  rw [ZR, if_pos (by omega)])
 simp only [Za] at e3
 obtain ⟨told2, htold2⟩ : ∃ told2, told2 = Q6 (⟨3, 0⟩ : R) ((Xc os).drop r) (Q6 ⟨1, 0⟩ ((Xc os).take r) (List.replicate os.length ⟨0, 0⟩)) := ⟨_, rfl⟩
 rw [<- htold2] at e3
 have told2l : told2.length = os.length := by rw [htold2, qi, told1]
 have hlen2 : ts2.length = ts.length + r := by
  have hz : ∀ (q : List (Int × Int)) (l : List (Int × Nat)), (qg l q).length = l.length + q.length := fun q => by
   induction q with
   | nil => intro l; rfl
   | cons p q ih => intro l; show (qg (zdW l p.1 (hOf p.2)) q).length = _; rw [ih, zac, zB]; omega
  have := congrArg List.length I2
  rw [hz, Ja, Ja, List.length_zip, hvl, hhl, Nat.min_self] at this
  exact this
 have hF : Frm h h2 (c :: skB s ts) := by
  have a : Frm h (JS h os) (c :: skB s ts) := Frm.push h _ _
  have b : Frm (JS h os) h1 [c] := ⟨Nat.le_of_eq l1.symm, fun j _ hj => f1 j fun e => hj (e ▸ zy ..)⟩
  have c' : Frm h1 (h1 ++ [HB.row 21 1 (vs.map (Xh .i32)) true, HB.row 3 1 (iL hs) true]) [] := Frm.push h1 _ _
  exact (((a.trans b fun y hy => .inl (by rw [ZK] at hy; exact hy ▸ zy ..)).trans c' fun y hy => by cases hy).trans G2.frm fun y hy => .inl (zp _ hy))
 have hN : ∀ b ∈ skB s ts2, b ∈ skB s ts \/ h.length <= b := fun b hb => (G2.new b hb).imp id fun hh => by rw [zC, l1, hlf] at hh; omega
 have h0 : ∀ x ∈ XF os, told2[x.toNat]? = some ⟨0, 0⟩ := fun x hx => by
  have hm := JH os _ x hx
  have hne : ∀ y ∈ Xc os, y.toNat ≠ x.toNat := fun y hy e => zbh os x hx y hy (by have := Qz os y hy; omega)
  rw [htold2, jt _ _ _ _ fun y hy => hne y (Zd hy), jt _ _ _ _ fun y hy => hne y (Zn hy), ZR, if_pos (by omega)]
 obtain ⟨h', ts', told', e4, D, rr⟩ := ziu (ts := ts) n os lb told2 E3 (by omega) told2l h0 (by omega) (by omega) (by omega) hF hN (by omega)
 refine ⟨h', ts', (qh r bits).2, h2.length, told', ?_, D, ?_⟩
 · refine (zib (n + 3) s c (os.map O.w) lb h).trans ?_
   unfold zia
   have fN : nv (V.int .i64 (os.length : Int)) = some os.length := Zj _ _
   have fr : nv (V.int .i64 (r : Int)) = some r := Zj _ _
   have hpc : call (n + 3) 225 [.sl 2 (os.map O.w) lb] h = some (.ret [.row h.length 1 0 (WC os).length, .row (h.length + 1) 1 0 (XF os).length], JS h os) := zbg (n + 1) h os lb (by omega) (by omega)
   obtain ⟨N0, S0⟩ := E0.sk
   have hm1 := zeL (n + 2) S0
   have hl1 := qW (n + 2) S0
   have hsub : IntKind.i64.wrap (most - (ts.length : Int)) = most - (ts.length : Int) := by rw [w64] <;> omega
   have hs1 : QO 1 0 r none true (.row h.length 1 0 (Xc os).length) = some (.row h.length 1 0 r) := by simpa using JG (r := h.length) (sz := 1) (u := 0) (v := (Xc os).length) (Zf r) (by omega) true
   have hs2 : QO 1 r (Xc os).length none true (.row h.length 1 0 (Xc os).length) = some (.row h.length 1 r (Xc os).length) := by simpa using JG (r := h.length) (sz := 1) (u := 0) (v := (Xc os).length) hr1 (by omega) true
   have hc1 : XB (JS h os) (.row h.length 1 0 r) = some (1, iL ((Xc os).take r)) := by have := E0.r1.slcP (lo := 0) (hi := r) (Zf _) hr1; rwa [zP] at this
   have hc2 : XB h2 (.row h.length 1 r (Xc os).length) = some (1, iL ((Xc os).drop r)) := by have := E3.r1.slcP (lo := r) (hi := (Xc os).length) hr1 (zk _); rwa [QV] at this
   simp only [zt]
   rw [fN, zD, zD, if_pos (by first | exact ⟨zk _, by omega, rfl⟩ | exact ⟨trivial, by omega, trivial⟩ | exact ⟨zk _, by omega, trivial⟩), hpc, zM]
   simp only [zb, zj, za]
   rw [<- hsl, E0.r1.slc, za, hm1, zM, zx, hl1, zM, zx, ZO, za, hsub]
   simp only [zt, Yw, jG, za]
   rw [zqb, za, <- hr, W8, za, fr, zD, hs1, za, hc1, za, znX]
   refine e1.trans ?_
   unfold Q4
   simp only [gv, zg, zi, Qi, hlt1, zu, za, zm]
   rw [if_neg (by simp), zkP, znY, Qi, zt, List.append_assoc]
   rw [show (h1 ++ [HB.row 21 1 (vs.map (Xh .i32)) true]).length = h1.length + 1 by simp]
   rw [show ([HB.row 21 1 (vs.map (Xh .i32)) true] ++ [HB.row 3 1 (iL hs) true]) = [HB.row 21 1 (vs.map (Xh .i32)) true, HB.row 3 1 (iL hs) true] from rfl, e2, zM, zx, W8, za, fr, zD, Nat.sub_zero, hs2, za, hc2, za]
   rw [show lsl (V.sl 2 ((Q6 (⟨1, 0⟩ : R) ((Xc os).take r) (List.replicate os.length ⟨0, 0⟩)).map R.w) false) = (Q6 (⟨1, 0⟩ : R) ((Xc os).take r) (List.replicate os.length ⟨0, 0⟩)).map R.w from rfl]
   refine e3.trans ?_
   unfold Q3
   simp only [gv, zg, zi, Qi, zu, za, zm]
   rw [if_neg (by simp), zaL, zt, told2l, e4, zM, zx]
 · unfold K9
   have hp := zkO os most ((Xc os).take r) (itT ts, bits) (List.replicate os.length ⟨0, 0⟩) (fun x hx => hkp x (Zn hx)) (by simp only [Ja, hlt1]; exact hr2)
   simp only [hlt1, <- hvs, <- hhs, <- I2] at hp
   have hsplit : Xc os ++ XF os = (Xc os).take r ++ ((Xc os).drop r ++ XF os) := by rw [<- List.append_assoc, Zt]
   rw [hsplit, Yp, hp, Yp]
   have hfull : WD os most ((Xc os).drop r) (itT ts2, (qh r bits).2) (Q6 ⟨1, 0⟩ ((Xc os).take r) (List.replicate os.length ⟨0, 0⟩)) = ((itT ts2, (qh r bits).2), told2) := by
    rcases hr3 with h3 | h3
    · rw [htold2, h3, List.drop_length]; rfl
    · rw [ziw os most _ _ _ (fun x hx => hkp x (Zd hx)) (by simp only [Ja, hlen2]; omega), htold2]
   rw [hfull]
   exact rr
end Go.Proofs.Tryz
namespace Go.Proofs.Tryz
open Go.L
set_option maxRecDepth 100000
noncomputable def jb (n : Nat) (a : V) (b : V) (st3 : List V) (hh4 : zd) (next5 : List V -> zd -> Option (Res × zd)) : Option (Res × zd) :=
 (bd (XB hh4 a) fun p6 =>
 (bd (bop prog .lss 3 (gv st3 1) (V.int .i64 ((p6.2).length : Int))) fun v7 =>
 (bv v7 fun b8 => if b8 then
 (bdS (nv (gv st3 1)) fun n9 =>
 (bd (ZW 1 n9 a) fun p10 =>
 (bd3 (zw hh4 p10) fun cs12 m11 o13 => if (o13 + 1 <= m11 /\ 0 < 1) then
 (bd (cs12)[o13]? fun v14 =>
 (bdS (nv (gv st3 1)) fun n15 =>
 (bd (ZW 1 n15 b) fun p16 =>
 (bd3 (zw hh4 p16) fun cs18 m17 o19 => if (o19 + 1 <= m17 /\ 0 < 1) then
 (bd (cs18)[o19]? fun v20 =>
 (bd (bop prog .neq 21 v14 v20) fun v21 =>
 (bv v21 fun b22 => if b22 then
 some (Res.ret [(V.bool false)], hh4)
 else
 (bd (bop prog .add 3 (gv st3 1) (V.int .i64 1)) fun v23 =>
 (next5 [(gv st3 0), v23] hh4))))) else none)))) else none)))
 else
 some (Res.ret [(V.bool true)], hh4))))
noncomputable def zpM (n : Nat) (a : V) (b : V) (h : zd) : Option (Res × zd) :=
 (bd (XB h a) fun p0 =>
 (bd (XB h b) fun p1 =>
 (if (((p0.2).length : Int) != ((p1.2).length : Int)) then
 some (Res.ret [(V.bool false)], h)
 else
 (zV n (jb n a b) [(V.bool false), (V.int .i64 0)] h))))
theorem znZ (n : Nat) (a : V) (b : V) (h : zd) : call (n + 1) 19 [a, b] h = zpM n a b h := by kernel_rfl
noncomputable def jc (n : Nat) (a : V) (b : V) (st3 : List V) (hh4 : zd) (next5 : List V -> zd -> Option (Res × zd)) : Option (Res × zd) :=
 (bd (XB hh4 a) fun p6 =>
 (bd (bop prog .lss 3 (gv st3 1) (V.int .i64 ((p6.2).length : Int))) fun v7 =>
 (bv v7 fun b8 => if b8 then
 (bdS (nv (gv st3 1)) fun n9 =>
 (bd (ZW 2 n9 a) fun p10 =>
 (bd3 (zw hh4 p10) fun cs12 m11 o13 => if (o13 + 2 <= m11 /\ 0 < 2) then
 (bdS (nv (gv st3 1)) fun n14 =>
 (bd (ZW 2 n14 b) fun p15 =>
 (bd3 (zw hh4 p15) fun cs17 m16 o18 => if (o18 + 2 <= m16 /\ 0 < 2) then
 (bd (bop prog .neq 35 (V.agg ((cs12).drop o13 |>.take 2)) (V.agg ((cs17).drop o18 |>.take 2))) fun v19 =>
 (bv v19 fun b20 => if b20 then
 some (Res.ret [(V.bool false)], hh4)
 else
 (bd (bop prog .add 3 (gv st3 1) (V.int .i64 1)) fun v21 =>
 (next5 [(gv st3 0), v21] hh4)))) else none))) else none)))
 else
 some (Res.ret [(V.bool true)], hh4))))
noncomputable def zpN (n : Nat) (a : V) (b : V) (h : zd) : Option (Res × zd) :=
 (bd (XB h a) fun p0 =>
 (bd (XB h b) fun p1 =>
 (if (((p0.2).length : Int) != ((p1.2).length : Int)) then
 some (Res.ret [(V.bool false)], h)
 else
 (zV n (jc n a b) [(V.bool false), (V.int .i64 0)] h))))
theorem zn0 (n : Nat) (a : V) (b : V) (h : zd) : call (n + 1) 24 [a, b] h = zpN n a b h := by kernel_rfl
end Go.Proofs.Tryz
namespace Go.Proofs.Tryz
open Go.L Go.Rp Go.Sk
set_option maxRecDepth 100000
end Go.Proofs.Tryz
namespace Go.Proofs.Tryz
open Go.L
set_option maxRecDepth 100000
noncomputable def zad (n : Nat) (c : V) (kinds : Int) (st1 : List V) (hh2 : zd) (next3 : List V -> zd -> Option (Res × zd)) : Option (Res × zd) :=
 (bd (XB hh2 c) fun p4 =>
 (bd (bop prog .lss 3 (gv st1 2) (V.int .i64 ((p4.2).length : Int))) fun v5 =>
 (bv v5 fun b6 => if b6 then
 (bd (bop prog .lss 3 (gv st1 2) (V.int .i64 80)) fun v7 =>
 (bv v7 fun b8 => if b8 then
 (bdS (nv (gv st1 2)) fun n9 =>
 (bd (ZW 1 n9 c) fun p10 =>
 (bd3 (zw hh2 p10) fun cs12 m11 o13 => if (o13 + 1 <= m11 /\ 0 < 1) then
 (bd (cs12)[o13]? fun v14 =>
 (bd (bop prog .rem 5 v14 (V.int .u8 kinds)) fun v15 =>
 (bd (bop prog .add 5 (V.int .u8 1) v15) fun v16 =>
 (bdS (nv (gv st1 2)) fun n17 =>
 (bd (ZW 1 n17 c) fun p18 =>
 (bd3 (zw hh2 p18) fun cs20 m19 o21 => if (o21 + 1 <= m19 /\ 0 < 1) then
 (bd (cs20)[o21]? fun v22 =>
 (bd (bop prog .quo 5 v22 (V.int .u8 8)) fun v23 =>
 (bd (cvt prog 5 21 v23) fun v24 =>
 (bd (bop prog .sub 21 v24 (V.int .i32 9)) fun v25 =>
 (bd (Ww prog 33 [(0, v16), (1, v25)]) fun cs26 =>
 (bd (Yx prog 23 1 [(0, (V.agg cs26))]) fun p27 =>
 (bd (app 33 2 (S.own 33 2 (lsl (gv st1 1))) p27.2) fun l28 =>
 (bd (bop prog .add 3 (gv st1 2) (V.int .i64 1)) fun v29 =>
 (next3 [(V.sl 2 (lsl (gv st1 0)) false), (V.sl 2 l28 false), v29] hh2))))))))) else none)))))) else none)))
 else
 some (Res.ret [(V.sl 2 (lsl (gv st1 1)) false)], hh2)))
 else
 some (Res.ret [(V.sl 2 (lsl (gv st1 1)) false)], hh2))))
noncomputable def zqM (n : Nat) (c : V) (kinds : Int) (h : zd) : Option (Res × zd) :=
 (zV n (zad n c kinds) [(V.sl 2 [] false), (V.sl 2 [] false), (V.int .i64 0)] h)
theorem zpb (n : Nat) (c : V) (kinds : Int) (h : zd) : call (n + 1) 14 [c, (V.int .u8 kinds)] h = zqM n c kinds h := by kernel_rfl
end Go.Proofs.Tryz
namespace Go.Proofs.Tryz
open Go.L Go.Rp
set_option maxRecDepth 100000
theorem zdp {a b : Int} (h : b ≠ 0) : bop prog .rem 5 (.int .u8 a) (.int .u8 b) = some (.int .u8 (a.tmod b)) := by
 have : bop prog .rem 5 (.int .u8 a) (.int .u8 b) = if b = 0 then none else some (.int .u8 (a.tmod b)) := by kernel_rfl
 rw [this, if_neg h]
theorem zix (a : Int) : bop prog .quo 5 (.int .u8 a) (.int .u8 8) = some (.int .u8 (IntKind.u8.wrap (a.tdiv 8))) := by kernel_rfl
theorem zpc (a : Int) : cvt prog 5 21 (.int .u8 a) = some (.int .i32 (IntKind.i32.wrap a)) := by kernel_rfl
theorem zqN (k v : Int) : Ww prog 33 [(0, .int .u8 k), (1, .int .i32 v)] = some (O.w ⟨k, v⟩) := by kernel_rfl
theorem w32 {n : Int} (h1 : -2147483648 <= n) (h2 : n < 2147483648) : IntKind.i32.wrap n = n := by rw [IntKind.wrap_i32]; omega
theorem ziy (c : List Int) (z : Nat) (b : Bool) (kinds : Int) (H : zd) (N : Nat) (hz : z = 1 \/ c = []) (hc : QZ c = true) (hk1 : 1 <= kinds) (hk2 : kinds <= 100) : ∀ (d k M : Nat), k + d = min c.length 80 -> d < M →
    zV M (zad N (.sl z (c.map (Xh .u8)) b) kinds) [.sl 2 [] false, .sl 2 (((c.take k).map (opOf kinds)).map O.w) false, .int .i64 (k : Int)] H = some (.ret [.sl 2 ((ops c kinds).map O.w) false], H)
 | d, k, 0, _, h => by omega
 | 0, k, M + 1, hk, _ => by
   have he : (c.take k).map (opOf kinds) = ops c kinds := by
    unfold ops
    rcases ZV 80 c.length with h | h
    · rw [show k = 80 by omega]
    · rw [zN (by omega), zN (by omega)]
   rw [zG, he]
   by_cases hl : (k : Int) < (c.length : Int)
   · have h80 : ¬ (k : Int) < 80 := by omega
     simp only [zad, gv, zi, zg, Q9, za, zt, zu, zm, hl, decide_true, if_true, h80, decide_false, zn, if_false, lsl]
   · simp only [zad, gv, zi, zg, Q9, za, zt, zu, zm, hl, decide_false, zn, if_false, lsl]
 | d + 1, k, M + 1, hk, hM => by
   have hl : (k : Int) < (c.length : Int) := by omega
   have h80 : (k : Int) < 80 := by omega
   obtain ⟨x, hx⟩ : ∃ x, c[k]? = some x := ⟨_, zf (by omega)⟩
   obtain rfl : z = 1 := hz.resolve_right (by rintro rfl; simp at hx)
   have hxv : (c.map (Xh .u8))[k]? = some [.int .u8 x] := by rw [zcE, hx]; rfl
   have hxs := zlp hc x (zL hx)
   have hk0 : kinds ≠ 0 := by omega
   have e1 : Int.tmod x kinds = x % kinds := Jj hxs.1
   have h1 := Int.emod_nonneg x hk0
   have h2 := Int.emod_lt_of_pos x (show 0 < kinds by omega)
   have e2 : Int.tdiv x 8 = x / 8 := Int.tdiv_eq_ediv_of_nonneg hxs.1
   have w1 : IntKind.u8.wrap (1 + x % kinds) = 1 + x % kinds := w8 (by omega) (by omega)
   have w2 : IntKind.u8.wrap (x / 8) = x / 8 := w8 (by omega) (by omega)
   have w3 : IntKind.i32.wrap (x / 8) = x / 8 := w32 (by omega) (by omega)
   have w4 : IntKind.i32.wrap (x / 8 - 9) = x / 8 - 9 := w32 (by omega) (by omega)
   have hop : (⟨1 + x % kinds, x / 8 - 9⟩ : O) = opOf kinds x := rfl
   have J9 := zp4 33 ((c.take k).map (opOf kinds)) (opOf kinds x) (by rw [zt, Zh]; unfold lim; omega)
   have htk : (c.take k).map (opOf kinds) ++ [opOf kinds x] = (c.take (k + 1)).map (opOf kinds) := by
    rw [List.take_add_one, hx, ZD]; rfl
   rw [htk] at J9
   rw [zG]
   simp only [zad, gv, zi, zg, Q9, Qd hxv, Xg, zo, zr, zk, Nat.reduceLT, and_self, za, zt, zu, zm, hl, h80, decide_true, if_true, Zj, zD, zcE, hx, ZT, Xh, zb, zdp hk0, e1, zi7, w1, zix, e2, w2, zpc, w3, zgW, w4, zqN, hop, zqA, lsl, J9, zK, Xu (show k < lim by unfold lim; omega)]
   exact ziy c 1 b kinds H N (.inl rfl) hc hk1 hk2 d (k + 1) M (by omega) (by omega)
theorem zn1 (n : Nat) (c : List Int) (z : Nat) (b : Bool) (kinds : Int) (H : zd) (hz : z = 1 \/ c = []) (hc : QZ c = true) (hk1 : 1 <= kinds) (hk2 : kinds <= 100) (hn : 90 <= n) :
    call n 14 [.sl z (c.map (Xh .u8)) b, .int .u8 kinds] H = some (.ret [.sl 2 ((ops c kinds).map O.w) false], H) := by
 obtain ⟨N, rfl⟩ : ∃ N, n = N + 1 := ⟨n - 1, by omega⟩
 rw [zpb]
 unfold zqM
 exact ziy c z b kinds H N hz hc hk1 hk2 (min c.length 80) 0 N (by omega) (by omega)
theorem zpd (c : List Int) (kinds : Int) : (ops c kinds).length <= 80 := by unfold ops; simp; omega
end Go.Proofs.Tryz
namespace Go.Proofs.Tryz
open Go.L Go.Rp Go.Sk
set_option maxRecDepth 100000
theorem RowR.get {h : zd} {b : Nat} {l : List R} (r : RowR h b l) {i : Nat} {x : R} (hx : l[i]? = some x) (o : Nat) : ZW 2 i (.row b 2 0 l.length) = some (.rptr b 2 i 0) /\ zw h (.rptr b 2 i o) = some (R.w x, 2, o) := by
 obtain ⟨z, hz⟩ := r
 have hi := (zh.1 hx).1
 exact ⟨zir hi, Xq hz (by decide) (by rw [j9, hx]; rfl)⟩
theorem RowR.slc {h : zd} {b : Nat} {l : List R} (r : RowR h b l) : XB h (.row b 2 0 l.length) = some (2, l.map R.w) := by
 obtain ⟨z, hz⟩ := r
 have := qK hz
 rwa [zt] at this
theorem zqO {c : List Int} {kinds : Int} (hc : QZ c = true) : ∀ o ∈ ops c kinds, -2147483648 <= o.v /\ o.v < 2147483648 := by
 intro o ho
 unfold ops at ho
 obtain ⟨x, hx, rfl⟩ := Zz.1 ho
 unfold QZ at hc
 have := Zm.1 hc x (Zn hx)
 simp at this
 unfold Go.Rp.opOf
 simp only
 omega
end Go.Proofs.Tryz
namespace Go.Proofs.Tryz
open Go.L Go.Rp Go.Sk
set_option maxRecDepth 100000
def zbz (h : zd) (r : V) (l : List Int) : Prop := (∃ sz, XB h r = some (sz, l.map (Xh .i32))) /\ ∀ (i : Nat) (x : Int), l[i]? = some x -> ∃ p, ZW 1 i r = some p /\ zw h p = some ([.int .i32 x], 1, 0)
theorem RowI.sees {h : zd} {b : Nat} {L : List Int} (r : RowI h b .i32 21 L) {lo hi : Nat} (h1 : lo <= hi) (h2 : hi <= L.length) : zbz h (.row b 1 lo hi) ((L.take hi).drop lo) := by
 refine ⟨⟨1, r.slcP h1 h2⟩, fun i x hx => ?_⟩
 rw [Zi] at hx
 have hi' : lo + i < hi := by
  have := (zh.1 hx).1
  rw [Zh] at this
  omega
 rw [List.getElem?_take_of_lt hi'] at hx
 obtain ⟨a, c⟩ := r.getP hi' hx
 exact ⟨_, a, c⟩
theorem zn2 (h : zd) : zbz h (.sl 0 [] true) [] := ⟨⟨0, rfl⟩, fun i x hx => by simp at hx⟩
theorem SlI.sees {h : zd} {lo : Nat} {r : V} {l : List Int} (s : SlI h lo r l) : zbz h r l := by
 rcases s with ⟨rfl, rfl⟩ | ⟨b, z, _, rfl, hz⟩
 · exact zn2 h
 · have := RowI.sees (L := l) ⟨z, hz⟩ (Zf l.length) (zk _)
   rwa [QV, zP] at this
theorem zjL (n : Nat) {h : zd} {a b : V} {l : List Int} (ha : zbz h a l) (hb : zbz h b l) (hl : l.length < lim) : ∀ (d i M : Nat) (v0 : V), i + d = l.length -> d < M -> zV M (jb n a b) [v0, .int .i64 (i : Int)] h = some (.ret [.bool true], h) := by
 obtain ⟨⟨sa, hsa⟩, ga⟩ := ha
 intro d
 induction d with
 | zero =>
   intro i M v0 h1 h2
   obtain ⟨M, rfl⟩ : ∃ M', M = M' + 1 := ⟨M - 1, by omega⟩
   obtain rfl : i = l.length := by omega
   rw [zG]
   unfold jb
   rw [hsa, za]
   simp only [gv, zg, zi, zt, zu, za, zm]
   rw [if_neg (by simp)]
 | succ d ih =>
   intro i M v0 h1 h2
   obtain ⟨M, rfl⟩ : ∃ M', M = M' + 1 := ⟨M - 1, by omega⟩
   obtain ⟨x, hx⟩ : ∃ x, l[i]? = some x := ⟨_, zf (by omega)⟩
   obtain ⟨p, p1, p2⟩ := ga i x hx
   obtain ⟨q, q1, q2⟩ := hb.2 i x hx
   have hlt : decide ((i : Int) < (l.length : Int)) = true := by simp; omega
   have key : ∀ next, jb n a b [v0, .int .i64 (i : Int)] h next = next [v0, .int .i64 ((i + 1 : Nat) : Int)] h := by
    intro next
    unfold jb
    rw [hsa, za]
    simp only [gv, zg, zi, zt, zu, za, zm, hlt, if_true, Zj, zD, p1, p2, q1, q2, zo, zr, zk, Nat.reduceLT, and_self, zb, zgV, zK, Xu (show i < lim by omega)]
    rw [if_neg (by simp)]
   rw [zG, key]
   exact ih (i + 1) M v0 (by omega) (by omega)
theorem zdq (n : Nat) {h : zd} {a b : V} {l : List Int} (ha : zbz h a l) (hb : zbz h b l) (hl : l.length < lim) (hn : l.length < n) : call (n + 1) 19 [a, b] h = some (.ret [.bool true], h) := by
 refine (znZ n a b h).trans ?_
 unfold zpM
 obtain ⟨sa, hsa⟩ := ha.1
 obtain ⟨sb, hsb⟩ := hb.1
 rw [hsa, za, hsb, za, if_neg (by simp)]
 exact zjL n ha hb hl l.length 0 n (.bool false) (by omega) hn
end Go.Proofs.Tryz
namespace Go.Sk
open Go.L Go.Rp
theorem zjM (m : Nat) (c x : Int) (xs : List Int) (h : xs.length <= m) : (Xz (m : Int) c x xs).2.length <= m := by
 unfold Xz
 split
 · split
   · simp; omega
   · exact h
 · split
   · split
     · simp; omega
     · exact h
   · exact h
theorem zeS (m : Nat) : ∀ (l : List O) (xs : List Int), xs.length <= m -> (Qx (m : Int) l xs).2.length <= m
 | [], _, h => h
 | o :: l, xs, h => zeS m l _ (zjM m o.k o.v xs h)
theorem zjN (m : Nat) (c x : Int) (xs : List Int) (h : xs.length <= m) : (Xd (m : Int) c x xs).2.length <= m := by
 unfold Xd
 split
 · split
   · simp; omega
   · exact h
 split
 · split
   · simp; omega
   · exact h
 split
 · split
   · simp at h ⊢; omega
   · exact h
 split
 · split
   · simp; omega
   · exact h
 · exact h
theorem zeT (m : Nat) : ∀ (l : List O) (xs : List Int), xs.length <= m -> (QI (m : Int) l xs).2.length <= m
 | [], _, h => h
 | o :: l, xs, h => zeT m l _ (zjN m o.k o.v xs h)
end Go.Sk
namespace Go.Proofs.Tryz
open Go.L Go.Rp Go.Sk
set_option maxRecDepth 100000
theorem zf7 (n s : Nat) (osb : Bool) (b c : Nat) (hc : c < 100000) (os : List O) (hos : os.length < lim) : ∀ (d i N : Nat) (h : zd) (xs : List Int) (done : List R), RngAt h s b c xs -> i + d = os.length -> done.length = i -> d < N →
    ∃ h', zV N (Yc (n + 3) s (os.map O.w) osb) [.sl 2 [] false, .sl 2 (done.map R.w ++ List.replicate d [.int .u8 0, .int .i32 0]) false, .bool false, .int .i64 (i : Int)] h = some (.ret [.row h'.length 2 0 os.length], h' ++ [.row 35 2 ((done ++ (QI (c : Int) (os.drop i) xs).1).map R.w) true]) /\ RngAt h' s b c (QI (c : Int) (os.drop i) xs).2 /\ RFed h h' s b := by
 intro d
 induction d with
 | zero =>
   intro i N h xs done hb h1 h2 h3
   obtain ⟨N, rfl⟩ : ∃ N', N = N' + 1 := ⟨N - 1, by omega⟩
   rw [zG]
   unfold Yc
   simp only [gv, zg, zi]
   rw [zu, za, zm, if_neg (by simp; omega), Z7 (by omega)]
   refine ⟨h, ?_, hb, RFed.refl ..⟩
   simp only [lsl, QI, Zr, QL, zt]
   rw [show done.length = os.length by omega]
 | succ d ih =>
   intro i N h xs done hb h1 h2 h3
   obtain ⟨N, rfl⟩ : ∃ N', N = N' + 1 := ⟨N - 1, by omega⟩
   have hi : i < os.length := by omega
   obtain ⟨h', e, b1, b2⟩ := zhn n hb hc os[i].k os[i].v
   obtain ⟨h'', e', d1, d2⟩ := ih (i + 1) N h' _ (done ++ [zhS (c : Int) os[i] xs]) b1 (by omega) (by simp; omega) (by omega)
   have hd : os.drop i = os[i] :: os.drop (i + 1) := zX hi
   refine ⟨h'', ?_, by rw [hd]; exact d1, b2.trans d2⟩
   rw [hd]
   simp only [QI]
   rw [show done ++ (zhS (c : Int) os[i] xs :: (QI (c : Int) (os.drop (i + 1)) (Xd (c : Int) os[i].k os[i].v xs).2).1) = done ++ [zhS (c : Int) os[i] xs] ++ (QI (c : Int) (os.drop (i + 1)) (Xd (c : Int) os[i].k os[i].v xs).2).1 by simp, <- e', zG]
   have hix : ZW 2 i (.sl 2 (os.map O.w) osb) = some (.iptr 2 (O.w os[i]) 0) := by
    simp [ZW, zf hi]
   have key : ∀ next, Yc (n + 3) s (os.map O.w) osb [.sl 2 [] false, .sl 2 (done.map R.w ++ List.replicate (d + 1) [.int .u8 0, .int .i32 0]) false, .bool false, .int .i64 (i : Int)] h next = next [.sl 2 [] false, .sl 2 ((done ++ [zhS (c : Int) os[i] xs]).map R.w ++ List.replicate d [.int .u8 0, .int .i32 0]) false, .bool false, .int .i64 ((i + 1 : Nat) : Int)] h' := by
    intro next
    unfold Yc
    simp only [gv, zg, zi]
    rw [zu, za, zm, if_pos (by simp; omega), Zj, zD, hix, za]
    simp only [zw]
    rw [zo, if_pos (by decide), zP, QC, if_pos (XN _), if_pos (by rw [XN]; decide), W6, zP, QC]
    show cl (call (n + 3) _ [.ptr s 0, .agg [.int .u8 os[i].k, .int .i32 os[i].v]] h) _ _ = _
    rw [e, zM, zx, zD]
    have hlen : i < (done.map R.w ++ List.replicate (d + 1) [V.int .u8 0, V.int .i32 0]).length := by simp; omega
    have hget : (done.map R.w ++ List.replicate (d + 1) [V.int .u8 0, V.int .i32 0])[i]? = some [.int .u8 0, .int .i32 0] := by
     rw [zI (by simp; omega)]; simp [h2]
    rw [if_pos (by refine ⟨?_, hlen, by decide⟩; first | trivial | rfl), if_pos (by rfl), if_pos (by refine ⟨?_, by decide, zk 2⟩; first | trivial | rfl)]
    simp only [lsl, zhf, V.cells]
    rw [hget, za, zK, za, Xu (by omega)]
    have hset : (done.map R.w ++ List.replicate (d + 1) [V.int .u8 0, V.int .i32 0]).set i (setR [V.int .u8 0, V.int .i32 0] 0 [V.int .u8 (Xd (c : Int) os[i].k os[i].v xs).1.1, V.int .i32 (Xd (c : Int) os[i].k os[i].v xs).1.2]) = (done ++ [zhS (c : Int) os[i] xs]).map R.w ++ List.replicate d [V.int .u8 0, V.int .i32 0] := by
     rw [Zx _ _ (by simp; omega)]
     simp [h2, Xl, R.w, setR, zhS]
    rw [hset]
   rw [key]
theorem zf8 (n s : Nat) {h : zd} {b c : Nat} {xs : List Int} (hb : RngAt h s b c xs) (hc : c < 100000) (os : List O) (osb : Bool) (hos : os.length < lim) (hn : os.length < n) :
    ∃ h', call (n + 4) 176 [.bf 201 [.ptr s 0], .sl 2 (os.map O.w) osb] h = some (.ret [.row h'.length 2 0 os.length], h' ++ [.row 35 2 ((QI (c : Int) os xs).1.map R.w) true]) /\ RngAt h' s b c (QI (c : Int) os xs).2 /\ RFed h h' s b := by
 obtain ⟨h', e, b1, b2⟩ := zf7 n s osb b c hc os hos os.length 0 (n + 3) h xs [] hb (by omega) rfl (by omega)
 refine ⟨h', (zju (n + 3) s _ osb h).trans ?_, b1, b2⟩
 unfold zky
 rw [zt, Zj, zD, zD, if_pos ⟨zk _, by omega, rfl⟩]
 exact e
def noH (xs : List Int) : List (Int × Nat) := xs.map fun x => (x, 0)
theorem Yq (xs : List Int) : (noH xs).length = xs.length := zt ..
theorem zbV (xs : List Int) : (noH xs).map Prod.fst = xs := by unfold noH; rw [List.map_map]; exact List.map_id _
def jd (k m : Nat) (os : List O) (st : St) : St × List R :=
 if k = 1 then ((noH (Qx (m : Int) os (st.1.map Prod.fst)).2, st.2), (Qx (m : Int) os (st.1.map Prod.fst)).1)
 else if k = 2 then ((noH (QI (m : Int) os (st.1.map Prod.fst)).2, st.2), (QI (m : Int) os (st.1.map Prod.fst)).1)
 else K9 os (m : Int) st
def BodAt (k : Nat) (h : zd) (s : Nat) (Y : List Nat) (m : Nat) (its : List (Int × Nat)) : Prop :=
 (k = 1 /\ ∃ xs qb, its = noH xs /\ StkAt h s qb (m : Int) xs /\ Y = s :: qb.toList) ∨
 (k = 2 /\ ∃ xs b, its = noH xs /\ RngAt h s b m xs /\ Y = [s, b]) ∨
 (k = 3 /\ ∃ ts, its = itT ts /\ (∃ N, SkAt h s ts (m : Int) N) /\ Y = skB s ts)
def zn3 (k s : Nat) : V := .iface (if k = 1 then 112 else if k = 2 then 116 else 120) (.agg [.ptr s 0])
structure ObAt (k : Nat) (h : zd) (o s c : Nat) (cb : Option Nat) (Y : List Nat) (m : Nat) (pl : Bool) (st : St) : Prop where
 box : h[o]? = some (.box 3 [zn3 k s, .ptr c 0, .bool pl])
 bits : BitsAt h c cb st.2
 body : BodAt k h s Y m st.1
 room : st.1.length <= m
 most : m <= 1000
 oc : o ≠ c
 ocb : cb ≠ some o
 oY : o ∉ Y
 cY : c ∉ Y
 cbY : ∀ b, cb = some b -> b ∉ Y
def obB (o c : Nat) (cb : Option Nat) (Y : List Nat) : List Nat := o :: c :: (cb.toList ++ Y)
theorem BodAt.lt {k : Nat} {h : zd} {s : Nat} {Y : List Nat} {m : Nat} {its : List (Int × Nat)} (B : BodAt k h s Y m its) : ∀ y ∈ Y, y < h.length := by
 rcases B with ⟨rfl, xs, qb, rfl, S, rfl⟩ | ⟨rfl, xs, b, rfl, R, rfl⟩ | ⟨rfl, ts, rfl, ⟨N, S⟩, rfl⟩
 · intro y hy
   obtain ⟨v, sz, k1, k2⟩ := S.box
   rcases zJ.1 hy with rfl | hy
   · exact zS k1
   · cases qb with
     | none => simp at hy
     | some b =>
       simp at hy; subst hy
       obtain ⟨_, l, z, _, k3, _⟩ := S
       exact zS k3
 · intro y hy
   obtain ⟨_, l, z, f, k1, k2, _⟩ := R
   simp at hy
   rcases hy with rfl | rfl
   · exact zS k1
   · exact zS k2
 · exact S.lt
theorem BitsAt.blt {h : zd} {c b : Nat} {bits : List Bool} (B : BitsAt h c (some b) bits) : b < h.length := by
 obtain ⟨_, lo, l, z, _, k, _⟩ := B
 exact zS k
theorem BitsAt.clt {h : zd} {c : Nat} {cb : Option Nat} {bits : List Bool} (B : BitsAt h c cb bits) : c < h.length := by
 cases cb with
 | none => exact zS B.2
 | some b =>
   obtain ⟨_, lo, l, z, k, _⟩ := B
   exact zS k
theorem BodAt.keep {k : Nat} {h h' : zd} {s : Nat} {Y : List Nat} {m : Nat} {its : List (Int × Nat)} (B : BodAt k h s Y m its) (hk : ∀ y ∈ Y, h'[y]? = h[y]?) : BodAt k h' s Y m its := by
 rcases B with ⟨rfl, xs, qb, rfl, S, rfl⟩ | ⟨rfl, xs, b, rfl, R, rfl⟩ | ⟨rfl, ts, rfl, ⟨N, S⟩, rfl⟩
 · exact .inl ⟨rfl, xs, qb, rfl, S.keep (hk s (by simp)) (fun b hb => hk b (by simp [hb])), rfl⟩
 · exact .inr (.inl ⟨rfl, xs, b, rfl, R.keep (hk s (by simp)) (hk b (by simp)), rfl⟩)
 · exact .inr (.inr ⟨rfl, ts, rfl, ⟨N, S.keep hk⟩, rfl⟩)
theorem ObAt.keep {k : Nat} {h h' : zd} {o s c : Nat} {cb : Option Nat} {Y : List Nat} {m : Nat} {pl : Bool} {st : St} (A : ObAt k h o s c cb Y m pl st) (hk : ∀ y ∈ obB o c cb Y, h'[y]? = h[y]?) : ObAt k h' o s c cb Y m pl st :=
 ⟨(hk o (by simp [obB])).trans A.box, A.bits.keep (hk c (by simp [obB])) (fun b hb => hk b (by simp [obB, hb])), A.body.keep (fun y hy => hk y (by simp [obB, hy])), A.room, A.most, A.oc, A.ocb, A.oY, A.cY, A.cbY⟩
theorem ObAt.lt {k : Nat} {h : zd} {o s c : Nat} {cb : Option Nat} {Y : List Nat} {m : Nat} {pl : Bool} {st : St} (A : ObAt k h o s c cb Y m pl st) : ∀ y ∈ obB o c cb Y, y < h.length := by
 intro y hy
 simp only [obB, zJ, Zl] at hy
 rcases hy with rfl | rfl | hy | hy
 · exact zS A.box
 · exact A.bits.clt
 · cases cb with
   | none => simp at hy
   | some b => simp at hy; subst hy; exact A.bits.blt
 · exact A.body.lt y hy
structure XFed (h h' : zd) (X X' : List Nat) : Prop where
 len : h.length <= h'.length
 old : ∀ i, i < h.length -> i ∉ X -> h'[i]? = h[i]?
 new : ∀ x ∈ X', x ∈ X \/ h.length <= x
structure BFed (h h' : zd) (c : Nat) (Y Y' : List Nat) : Prop where
 len : h.length <= h'.length
 old : ∀ i, i < h.length -> i ∉ c :: Y -> h'[i]? = h[i]?
 new : ∀ x ∈ Y', x ∈ Y \/ h.length <= x
def zjO (k : Nat) (pl : Bool) : Nat := if k = 1 then (if pl then 173 else 171) else if k = 2 then (if pl then 198 else 196) else (if pl then 221 else 219)
theorem zn4 (n : Nat) {k : Nat} {h : zd} {s c : Nat} {cb : Option Nat} {Y : List Nat} {m : Nat} {st : St} (pl : Bool) (B : BodAt k h s Y m st.1) (C : BitsAt h c cb st.2) (room : st.1.length <= m) (hm : m <= 1000) (cY : c ∉ Y) (cbY : ∀ b, cb = some b -> b ∉ Y) (os : List O) (osb : Bool) (hk : ∀ o ∈ os, 0 <= o.k /\ o.k < 256) (hos : os.length <= 1000) (hn : 2 * os.length + m + 100 <= n) :
    ∃ h' Y' T, call (n + 7) (zjO k pl) [.agg [.ptr s 0], .ptr c 0, .sl 2 (os.map O.w) osb] h = some (.ret [.row T 2 0 os.length], h') /\ RowR h' T (jd k m os st).2 /\ BodAt k h' s Y' m (jd k m os st).1.1 /\ BitsAt h' c cb (jd k m os st).1.2 /\ (jd k m os st).1.1.length <= m /\ h.length <= T /\ T ∉ Y' /\ BFed h h' c Y Y' := by
 have hlim : 1000000 < lim := by unfold lim; omega
 have hlt := B.lt
 have hcl := C.clt
 rcases B with ⟨rfl, xs, qb, hits, S, rfl⟩ | ⟨rfl, xs, b, hits, RR, rfl⟩ | ⟨rfl, ts, hits, S, rfl⟩
 · have hxs : st.1.map Prod.fst = xs := by rw [hits, zbV]
   have hxl : xs.length <= m := by rw [hits, Yq] at room; exact room
   have hsc : c ≠ s := fun e => cY (by simp [e])
   have hcq : qb ≠ some c := fun e => cY (by simp [e])
   have hsb : ∀ b, cb = some b -> b ≠ s /\ qb ≠ some b := fun b hb => ⟨fun e => cbY b hb (by simp [e]), fun e => cbY b hb (by simp [e])⟩
   simp only [jd, hxs, if_true]
   have hrl := zeS m os xs hxl
   cases pl with
   | false =>
     obtain ⟨h', qb', T, e, c1, c2, c3, c4, c5⟩ := zc9 (n + 1) S os osb hxl (by omega) (by omega) (by omega) (fun b hb => hlt b (by simp [hb]))
     refine ⟨h', s :: qb'.toList, T, ?_, ⟨true, c1⟩, .inl ⟨rfl, _, qb', rfl, c4, rfl⟩, C.keep (c5.old c hcl hsc hcq) (fun b hb => c5.old b (hb ▸ C).blt (hsb b hb).1 (hsb b hb).2), by rw [Yq]; exact hrl, c2, ?_, ⟨c5.len, fun i h1 h2 => c5.old i h1 (fun e => h2 (by simp [e])) (fun e => h2 (by simp [e])), ?_⟩⟩
     · show call (n + 6 + 1) 171 _ h = _
       rw [zhB]
       unfold zhA
       rw [e, zM, zx]
     · intro hT
       have := hlt s (by simp)
       rcases zJ.1 hT with rfl | hT
       · omega
       · cases qb' with
         | none => simp at hT
         | some b => simp at hT; exact c3 (by rw [hT])
     · intro x hx
       rcases zJ.1 hx with rfl | hx
       · exact .inl (by simp)
       · cases qb' with
         | none => simp at hx
         | some b =>
           simp at hx; subst hx
           rcases c5.own _ rfl with e | e
           · exact .inl (by simp [e])
           · exact .inr e
   | true =>
     obtain ⟨h', qb', e, c4, c5⟩ := zfM n s S os osb hk (by omega) (by omega)
     have hk' : ∀ j, j < h'.length -> (h' ++ [HB.row 35 2 ((Qx (m : Int) os xs).1.map R.w) true])[j]? = h'[j]? := fun j hj => zl hj
     have hql : ∀ b, qb' = some b -> b < h'.length := fun b hb => by
      rw [hb] at c4
      obtain ⟨_, l, z, _, k3, _⟩ := c4
      exact zS k3
     have hsl' : s < h'.length := by have := hlt s (by simp); have := c5.len; omega
     have hlen := c5.len
     refine ⟨h' ++ [HB.row 35 2 ((Qx (m : Int) os xs).1.map R.w) true], s :: qb'.toList, h'.length, ?_, ⟨true, zH⟩, .inl ⟨rfl, _, qb', rfl, c4.keep (hk' s hsl') (fun b hb => hk' b (hql b hb)), rfl⟩, C.keep ((hk' c (by omega)).trans (c5.old c hcl hsc hcq)) (fun b hb => (hk' b (by have := (hb ▸ C).blt; omega)).trans (c5.old b (hb ▸ C).blt (hsb b hb).1 (hsb b hb).2)), by rw [Yq]; exact hrl, hlen, ?_, ⟨by simp; omega, fun i h1 h2 => (hk' i (by omega)).trans (c5.old i h1 (fun e => h2 (by simp [e])) (fun e => h2 (by simp [e]))), ?_⟩⟩
     · show call (n + 6 + 1) 173 _ h = _
       rw [zhD]
       unfold zhC
       rw [e, zM, zx]
     · intro hT
       rcases zJ.1 hT with hT | hT
       · omega
       · cases qb' with
         | none => simp at hT
         | some b => simp at hT; have := hql b rfl; omega
     · intro x hx
       rcases zJ.1 hx with rfl | hx
       · exact .inl (by simp)
       · cases qb' with
         | none => simp at hx
         | some b =>
           simp at hx; subst hx
           rcases c5.own _ rfl with e | e
           · exact .inl (by simp [e])
           · exact .inr e
 · have hxs : st.1.map Prod.fst = xs := by rw [hits, zbV]
   have hxl : xs.length <= m := by rw [hits, Yq] at room; exact room
   have hsc : c ≠ s := fun e => cY (by simp [e])
   have hcq : c ≠ b := fun e => cY (by simp [e])
   have hsb : ∀ x, cb = some x -> x ≠ s /\ x ≠ b := fun x hb => ⟨fun e => cbY x hb (by simp [e]), fun e => cbY x hb (by simp [e])⟩
   have hsl := hlt s (by simp)
   have hbl := hlt b (by simp)
   simp only [jd, hxs, if_neg (show ¬ (2 = 1) by decide), if_true]
   have hrl := zeT m os xs hxl
   cases pl with
   | false =>
     obtain ⟨h', T, e, c1, c2, c4, c5, c6⟩ := zda (n + 1) RR os osb (by omega) (by omega) (by omega)
     refine ⟨h', [s, b], T, ?_, ⟨true, c1⟩, .inr (.inl ⟨rfl, _, b, rfl, c4, rfl⟩), C.keep (c6 c hcl hsc hcq) (fun x hb => c6 x (hb ▸ C).blt (hsb x hb).1 (hsb x hb).2), by rw [Yq]; exact hrl, c2, ?_, ⟨c5, fun i h1 h2 => c6 i h1 (fun e => h2 (by simp [e])) (fun e => h2 (by simp [e])), fun x hx => .inl hx⟩⟩
     · show call (n + 6 + 1) 196 _ h = _
       rw [zhF]
       unfold zhE
       rw [e, zM, zx]
     · simp; omega
   | true =>
     obtain ⟨h', e, c4, c5⟩ := zf8 (n + 2) s RR (by omega) os osb (by omega) (by omega)
     have hlen := c5.len
     have hk' : ∀ j, j < h'.length -> (h' ++ [HB.row 35 2 ((QI (m : Int) os xs).1.map R.w) true])[j]? = h'[j]? := fun j hj => zl hj
     refine ⟨h' ++ [HB.row 35 2 ((QI (m : Int) os xs).1.map R.w) true], [s, b], h'.length, ?_, ⟨true, zH⟩, .inr (.inl ⟨rfl, _, b, rfl, c4.keep (hk' s (by omega)) (hk' b (by omega)), rfl⟩), C.keep ((hk' c (by omega)).trans (c5.old c hsc hcq)) (fun x hb => (hk' x (by have := (hb ▸ C).blt; omega)).trans (c5.old x (hsb x hb).1 (hsb x hb).2)), by rw [Yq]; exact hrl, by omega, ?_, ⟨by simp; omega, fun i h1 h2 => (hk' i (by omega)).trans (c5.old i (fun e => h2 (by simp [e])) (fun e => h2 (by simp [e]))), fun x hx => .inl hx⟩⟩
     · show call (n + 6 + 1) 198 _ h = _
       rw [zhH]
       unfold zhG
       rw [e, zM, zx]
     · simp; omega
 · have hst : st = (itT ts, st.2) := by rw [<- hits]
   have htl : ts.length <= m := by rw [hits] at room; simpa [itT] using room
   simp only [jd, if_neg (show ¬ (3 = 1) by decide), if_neg (show ¬ (3 = 2) by decide)]
   have fin : ∀ (h' : zd) (ts' : List Tw) (bits' : List Bool) (tb : Nat) (told' : List R), Did h h' s ts ts' (m : Int) c cb bits' tb told' -> K9 os (m : Int) (itT ts, st.2) = ((itT ts', bits'), told') -> RowR h' tb (K9 os (m : Int) st).2 /\ BodAt 3 h' s (skB s ts') m (K9 os (m : Int) st).1.1 /\ BitsAt h' c cb (K9 os (m : Int) st).1.2 /\ (K9 os (m : Int) st).1.1.length <= m /\ h.length <= tb /\ tb ∉ skB s ts' /\ BFed h h' c (skB s ts) (skB s ts') := by
    intro h' ts' bits' tb told' D hd
    rw [hst, hd]
    refine ⟨D.tl, .inr (.inr ⟨rfl, ts', rfl, D.sk, rfl⟩), D.bt, ?_, D.tb, ?_, ⟨D.frm.len, fun i h1 h2 => D.frm.old i h1 h2, fun x hx => ?_⟩⟩
    · have := D.room; simp [itT]; omega
    · intro hT
      obtain ⟨N, S'⟩ := D.sk
      unfold skB at hT
      rw [<- WB s (ts'.length : Int) (m : Int) ts'] at hT
      obtain ⟨x, hx, rfl⟩ := Zz.1 hT
      have h1 := S'.rep.at_ x hx
      obtain ⟨z, hz⟩ := D.tl
      unfold K4 at h1
      rw [hz] at h1
      cases h1
    · rcases D.new x hx with e | e
      · exact .inl e
      · exact .inr e
   cases pl with
   | false =>
     obtain ⟨h', ts', bits', tb, told', e, D, hd⟩ := zdY (n + 2) os osb S C cY cbY (by omega) (by omega) (by omega) (by omega)
     refine ⟨h', skB s ts', tb, ?_, fin h' ts' bits' tb told' D hd⟩
     show call (n + 6 + 1) 219 _ h = _
     rw [zhJ]
     unfold zhI
     rw [e, zM, zx]
   | true =>
     obtain ⟨h', ts', bits', tb, told', e, D, hd⟩ := zjJ (n + 2) os osb S C cY cbY (by omega) (by omega) (by omega)
     refine ⟨h', skB s ts', tb, ?_, fin h' ts' bits' tb told' D hd⟩
     show call (n + 6 + 1) 221 _ h = _
     rw [zhL]
     unfold zhK
     rw [e, zM, zx]
end Go.Proofs.Tryz
namespace Go.Proofs.Tryz
open Go.L Go.Rp Go.Sk
set_option maxRecDepth 100000
theorem Jg (h : zd) (c : Nat) : Ql prog h .eql 25 (V.ptr c 0) (V.val (.pointer none)) = some (.bool false) := by kernel_rfl
theorem zf9 (h : zd) (c : Nat) : Ql prog h .neq 25 (V.ptr c 0) (V.val (.pointer none)) = some (.bool true) := by kernel_rfl
theorem BodAt.kind {k : Nat} {h : zd} {s : Nat} {Y : List Nat} {m : Nat} {its : List (Int × Nat)} (B : BodAt k h s Y m its) : k = 1 \/ k = 2 \/ k = 3 := by
 rcases B with ⟨h, _⟩ | ⟨h, _⟩ | ⟨h, _⟩ <;> omega
def zl2 (k : Nat) : Nat := if k = 1 then 112 else if k = 2 then 116 else 120
theorem zjP {k : Nat} (hk : k = 1 \/ k = 2 \/ k = 3) (s : Nat) : Q8 prog (zl2 k) (.agg [.ptr s 0]) "reaper/object.plain" = some (zjO k true, .agg [.ptr s 0]) := by
 rcases hk with rfl | rfl | rfl
 · show Q8 prog 112 (.agg [.ptr s 0]) "reaper/object.plain" = some (173, .agg [.ptr s 0]); kernel_rfl
 · show Q8 prog 116 (.agg [.ptr s 0]) "reaper/object.plain" = some (198, .agg [.ptr s 0]); kernel_rfl
 · show Q8 prog 120 (.agg [.ptr s 0]) "reaper/object.plain" = some (221, .agg [.ptr s 0]); kernel_rfl
theorem zjQ {k : Nat} (hk : k = 1 \/ k = 2 \/ k = 3) (s : Nat) : Q8 prog (zl2 k) (.agg [.ptr s 0]) "reaper/object.batch" = some (zjO k false, .agg [.ptr s 0]) := by
 rcases hk with rfl | rfl | rfl
 · show Q8 prog 112 (.agg [.ptr s 0]) "reaper/object.batch" = some (171, .agg [.ptr s 0]); kernel_rfl
 · show Q8 prog 116 (.agg [.ptr s 0]) "reaper/object.batch" = some (196, .agg [.ptr s 0]); kernel_rfl
 · show Q8 prog 120 (.agg [.ptr s 0]) "reaper/object.batch" = some (219, .agg [.ptr s 0]); kernel_rfl
theorem zkQ {k : Nat} (hk : k = 1 \/ k = 2 \/ k = 3) (pl : Bool) : Qw (zjO k pl) = true /\ okV prog 28 (zjO k pl) = true := by
 rcases hk with rfl | rfl | rfl <;> cases pl
 · show Qw 171 = true /\ okV prog 28 171 = true; exact ⟨by kernel_rfl, by kernel_rfl⟩
 · show Qw 173 = true /\ okV prog 28 173 = true; exact ⟨by kernel_rfl, by kernel_rfl⟩
 · show Qw 196 = true /\ okV prog 28 196 = true; exact ⟨by kernel_rfl, by kernel_rfl⟩
 · show Qw 198 = true /\ okV prog 28 198 = true; exact ⟨by kernel_rfl, by kernel_rfl⟩
 · show Qw 219 = true /\ okV prog 28 219 = true; exact ⟨by kernel_rfl, by kernel_rfl⟩
 · show Qw 221 = true /\ okV prog 28 221 = true; exact ⟨by kernel_rfl, by kernel_rfl⟩
theorem zdr (n : Nat) {k : Nat} {h : zd} {o s c : Nat} {cb : Option Nat} {Y : List Nat} {m : Nat} {pl : Bool} {st : St} (A : ObAt k h o s c cb Y m pl st) (os : List O) (osb : Bool) (hk : ∀ o ∈ os, 0 <= o.k /\ o.k < 256) (hos : os.length <= 1000) (hn : 2 * os.length + m + 100 <= n) :
    ∃ h' Y' T, call (n + 8) 17 [.ptr o 0, .sl 2 (os.map O.w) osb] h = some (.ret [.row T 2 0 os.length], h') /\ RowR h' T (jd k m os st).2 /\ ObAt k h' o s c cb Y' m pl (jd k m os st).1 /\ h.length <= T /\ T ∉ obB o c cb Y' /\ XFed h h' (obB o c cb Y) (obB o c cb Y') := by
 have hkk := A.body.kind
 obtain ⟨h', Y', T, e, b1, b2, b3, b4, b5, b6, b7⟩ := zn4 n pl A.body A.bits A.room A.most A.cY A.cbY os osb hk hos hn
 have hol := zS A.box
 have hA := A.lt
 have oX : o ∉ c :: Y := by
  intro ho
  rcases zJ.1 ho with e | e
  · exact A.oc e
  · exact A.oY e
 have hcl := A.bits.clt
 refine ⟨h', Y', T, ?_, b1, ⟨(b7.old o hol oX).trans A.box, b3, b2, b4, A.most, A.oc, A.ocb, ?_, ?_, ?_⟩, b5, ?_, ⟨b7.len, fun i h1 h2 => b7.old i h1 (fun hm => h2 ?_), fun x hx => ?_⟩⟩
 · rw [show n + 8 = (n + 7) + 1 from rfl, znj]
   unfold zpG
   rw [Jg, za, zm, if_neg (by decide), zE A.box, zo, if_pos (by decide)]
   simp only [zb, zj, za]
   rw [zm]
   cases pl with
   | true =>
     rw [if_pos rfl, zE A.box, zo, if_pos (by decide)]
     simp only [zb, zj, za]
     rw [zE A.box, zo, if_pos (by decide)]
     simp only [zb, zj, za]
     rw [if_pos (by rfl)]
     show bd2 (Q8 prog (zl2 k) (.agg [.ptr s 0]) "reaper/object.plain") _ = _
     rw [zjP hkk, Zg, if_pos (zkQ hkk true)]
     show clH (call (n + 7) (zjO k true) [.agg [.ptr s 0], .ptr c 0, .sl 2 (os.map O.w) osb] h) _ = _
     rw [e]
     rfl
   | false =>
     rw [if_neg (by decide), zE A.box, zo, if_pos (by decide)]
     simp only [zb, zj, za]
     rw [zE A.box, zo, if_pos (by decide)]
     simp only [zb, zj, za]
     rw [if_pos (by rfl)]
     show bd2 (Q8 prog (zl2 k) (.agg [.ptr s 0]) "reaper/object.batch") _ = _
     rw [zjQ hkk, Zg, if_pos (zkQ hkk false)]
     show clH (call (n + 7) (zjO k false) [.agg [.ptr s 0], .ptr c 0, .sl 2 (os.map O.w) osb] h) _ = _
     rw [e]
     rfl
 · intro hy
   rcases b7.new o hy with e1 | e1
   · exact A.oY e1
   · omega
 · intro hy
   rcases b7.new c hy with e1 | e1
   · exact A.cY e1
   · omega
 · intro b hb hy
   rcases b7.new b hy with e1 | e1
   · exact A.cbY b hb e1
   · have := (hb ▸ A.bits).blt; omega
 · intro hT
   simp only [obB, zJ, Zl] at hT
   rcases hT with e1 | e1 | e1 | e1
   · omega
   · omega
   · cases cb with
     | none => simp at e1
     | some b => simp at e1; have := A.bits.blt; omega
   · exact b6 e1
 · rcases zJ.1 hm with e1 | e1
   · simp [obB, e1]
   · simp [obB, e1]
 · simp only [obB, zJ, Zl] at hx ⊢
   rcases hx with e1 | e1 | e1 | e1
   · exact .inl (.inl e1)
   · exact .inl (.inr (.inl e1))
   · exact .inl (.inr (.inr (.inl e1)))
   · rcases b7.new x e1 with e2 | e2
     · exact .inl (.inr (.inr (.inr e2)))
     · exact .inr e2
def SlJ (h : zd) (lo : Nat) (r : V) (l : List Int) : Prop := SlI h lo r l \/ r = .sl 1 (l.map (Xh .i32)) false
theorem SlJ.sees {h : zd} {lo : Nat} {r : V} {l : List Int} (s : SlJ h lo r l) : zbz h r l := by
 rcases s with s | rfl
 · exact s.sees
 · exact ⟨⟨1, Q9 ..⟩, fun i x hx => ⟨_, Qd (es := Xh .i32 x) (by rw [zF, hx]; rfl) false, Xg ..⟩⟩
theorem SlI.keepB {h h' : zd} {lo : Nat} {r : V} {l : List Int} (s : SlI h lo r l) (hk : ∀ b, lo <= b -> b < h.length -> h'[b]? = h[b]?) : SlI h' lo r l := by
 rcases s with s | ⟨b, z, h1, h2, h3⟩
 · exact .inl s
 · exact .inr ⟨b, z, h1, h2, (hk b h1 (zS h3)).trans h3⟩
theorem SlJ.keep {h h' : zd} {lo : Nat} {r : V} {l : List Int} (s : SlJ h lo r l) (hk : ∀ b, lo <= b -> b < h.length -> h'[b]? = h[b]?) : SlJ h' lo r l := s.imp (fun s => s.keepB hk) id
theorem zqP {ts : List Tw} (hh : ∀ t ∈ ts, 1 <= t.ht) : lvV 0 ts = (itT ts).map Prod.fst := by
 unfold lvV itT
 rw [List.map_map, Xe.2 (fun t ht => by have := hh t ht; simp; omega)]
 rfl
theorem zjR {k : Nat} (hk : k = 1 \/ k = 2 \/ k = 3) (s : Nat) : Q8 prog (zl2 k) (.agg [.ptr s 0]) "Items" = some (if k = 1 then 168 else if k = 2 then 191 else 217, .ptr s 0) := by
 rcases hk with rfl | rfl | rfl
 · show Q8 prog 112 (.agg [.ptr s 0]) "Items" = some (168, .ptr s 0); kernel_rfl
 · show Q8 prog 116 (.agg [.ptr s 0]) "Items" = some (191, .ptr s 0); kernel_rfl
 · show Q8 prog 120 (.agg [.ptr s 0]) "Items" = some (217, .ptr s 0); kernel_rfl
theorem zn5 {k : Nat} (hk : k = 1 \/ k = 2 \/ k = 3) : Qw (if k = 1 then 168 else if k = 2 then 191 else 217) = true /\ okV prog 27 (if k = 1 then 168 else if k = 2 then 191 else 217) = true := by
 rcases hk with rfl | rfl | rfl
 · show Qw 168 = true /\ okV prog 27 168 = true; exact ⟨by kernel_rfl, by kernel_rfl⟩
 · show Qw 191 = true /\ okV prog 27 191 = true; exact ⟨by kernel_rfl, by kernel_rfl⟩
 · show Qw 217 = true /\ okV prog 27 217 = true; exact ⟨by kernel_rfl, by kernel_rfl⟩
theorem zds (n : Nat) {k : Nat} {h : zd} {s : Nat} {Y : List Nat} {m : Nat} {its : List (Int × Nat)} (B : BodAt k h s Y m its) (room : its.length <= m) (hm : m <= 1000) (hn : m + 10 < n) :
    ∃ h' r, call (n + 3) (if k = 1 then 168 else if k = 2 then 191 else 217) [.ptr s 0] h = some (.ret [r], h') /\ SlJ h' h.length r (its.map Prod.fst) /\ h.length <= h'.length /\ ∀ i, i < h.length -> h'[i]? = h[i]? := by
 have hlim : 1000000 < lim := by unfold lim; omega
 rcases B with ⟨rfl, xs, qb, rfl, S, rfl⟩ | ⟨rfl, xs, b, rfl, RR, rfl⟩ | ⟨rfl, ts, rfl, ⟨N, S⟩, rfl⟩
 · rw [Yq] at room
   rw [zbV]
   exact ⟨h, _, zcP (n + 2) S (by omega), .inr rfl, zk _, fun _ _ => rfl⟩
 · rw [Yq] at room
   rw [zbV]
   obtain ⟨h', r, z, e, b1, b2, b3, b4⟩ := zdh n RR (by omega) (by omega)
   exact ⟨h', _, e, .inl (.inr ⟨r, z, b2, rfl, b1⟩), b3, b4⟩
 · rw [Ja] at room
   obtain ⟨h', r, e, b1, b2, b3⟩ := zjC n S (by omega) (by omega)
   rw [zqP (fun t ht => (S.ht t ht).1)] at b1
   exact ⟨h', r, e, .inl b1, b2, b3⟩
theorem jP (n : Nat) {k : Nat} {h : zd} {o s c : Nat} {cb : Option Nat} {Y : List Nat} {m : Nat} {pl : Bool} {st : St} (A : ObAt k h o s c cb Y m pl st) (hn : m + 10 < n) :
    ∃ h' r, call (n + 4) 20 [.ptr o 0] h = some (.ret [r], h') /\ SlJ h' h.length r (st.1.map Prod.fst) /\ h.length <= h'.length /\ ∀ i, i < h.length -> h'[i]? = h[i]? := by
 have hkk := A.body.kind
 obtain ⟨h', r, e, b1, b2, b3⟩ := zds n A.body A.room A.most hn
 refine ⟨h', r, ?_, b1, b2, b3⟩
 rw [show n + 4 = (n + 3) + 1 from rfl, zhz]
 unfold zhy
 rw [Jg, za, zm, if_neg (by decide), zE A.box, zo, if_pos (by decide)]
 simp only [zb, zj, za]
 show bd2 (Q8 prog (zl2 k) (.agg [.ptr s 0]) "Items") _ = _
 rw [zjR hkk, Zg, if_pos (zn5 hkk)]
 show cl (call (n + 3) _ [.ptr s 0] h) _ _ = _
 rw [e, zM, zx]
theorem zae (n : Nat) {k : Nat} {h : zd} {o s c : Nat} {cb : Option Nat} {Y : List Nat} {m : Nat} {pl : Bool} {st : St} (A : ObAt k h o s c cb Y m pl st) (bs : List Int) (bb : Bool) (hs : QZ bs = true) (hl : st.2.length + 8 * bs.length <= 20000) (hn : bs.length + 8 < n) :
    ∃ h' cb', call (n + 2) 23 [.ptr o 0, .sl 1 (bs.map (Xh .u8)) bb] h = some (.ret [], h') /\ ObAt k h' o s c cb' Y m pl (st.1, st.2 ++ bs.flatMap qa) /\ XFed h h' (obB o c cb Y) (obB o c cb' Y) := by
 obtain ⟨h', cb', e, b1, b2⟩ := zlC n A.bits bs bb hs hl hn
 have hol := zS A.box
 have hYl := A.body.lt
 have hnew : ∀ b, cb' = some b -> cb = some b \/ h.length <= b := b2.own
 have hY : ∀ y ∈ Y, h'[y]? = h[y]? := fun y hy => b2.old y (hYl y hy) (fun e => A.cY (e ▸ hy)) (fun e => A.cbY y e hy)
 refine ⟨h', cb', ?_, ⟨(b2.old o hol A.oc A.ocb).trans A.box, b1, A.body.keep hY, A.room, A.most, A.oc, fun e => ?_, A.oY, A.cY, fun b hb hy => ?_⟩, ⟨b2.len, fun i h1 h2 => b2.old i h1 (fun e => h2 (by simp [obB, e])) (fun e => h2 (by simp [obB, e])), fun x hx => ?_⟩⟩
 · rw [show n + 2 = (n + 1) + 1 from rfl, zjs]
   unfold zkw
   rw [zf9, za, zm, if_pos rfl, zE A.box, zo, if_pos (by decide)]
   simp only [zb, zj, za]
   rw [e, zM]
 · rcases hnew o e with k1 | k1
   · exact A.ocb k1
   · omega
 · rcases hnew b hb with k1 | k1
   · exact A.cbY b k1 hy
   · have := hYl b hy; omega
 · simp only [obB, zJ, Zl] at hx ⊢
   rcases hx with e1 | e1 | e1 | e1
   · exact .inl (.inl e1)
   · exact .inl (.inr (.inl e1))
   · cases cb' with
     | none => simp at e1
     | some b =>
       simp at e1; subst e1
       rcases hnew _ rfl with k1 | k1
       · exact .inl (.inr (.inr (.inl (by simp [k1]))))
       · exact .inr k1
   · exact .inl (.inr (.inr (.inr e1)))
def zdt : List (V × V) := [(.int .u8 1, .fn 56 []), (.int .u8 2, .fn 58 []), (.int .u8 3, .fn 60 [])]
noncomputable def Jr (n F : Nat) (m : Int) (p : Bool) (h : zd) : Option (Res × zd) :=
 (cl (call n F [(V.int .i64 m)] h) (fun r16 h17 =>
 (ZA r16 fun v19 =>
 (cl (call n 62 [] h17) (fun r20 h21 =>
 (ZA r20 fun v23 =>
 (bd (Ww prog 125 [(0, v19), (1, v23), (2, (V.bool p))]) fun cs24 =>
 (if (cs24).length = 3 then
 some (Res.ret [(V.ptr (h21).length 0)], (h21 ++ [(HB.box 3 cs24)])) else none)))) (fun z22 h21 => some (Res.pan z22, h21))))) (fun z18 h17 => some (Res.pan z18, h17)))
theorem zn6 (n : Nat) (m : Int) (p : Bool) : call (n + 1) 15 [.int .u8 1, .int .i64 m, .bool p] [] = Jr n 56 m p [.map zdt] := by kernel_rfl
theorem zn7 (n : Nat) (m : Int) (p : Bool) : call (n + 1) 15 [.int .u8 2, .int .i64 m, .bool p] [] = Jr n 58 m p [.map zdt] := by kernel_rfl
theorem zn8 (n : Nat) (m : Int) (p : Bool) : call (n + 1) 15 [.int .u8 3, .int .i64 m, .bool p] [] = Jr n 60 m p [.map zdt] := by kernel_rfl
def qj (m : Int) : Nat := (if 0 < (if 1000 < m then 1000 else m) then (if 1000 < m then 1000 else m) else 0).toNat
theorem zkR (m : Int) : (if 0 < (if 1000 < m then 1000 else m) then (if 1000 < m then 1000 else m) else 0) = ((qj m : Nat) : Int) := by
 unfold qj
 (repeat' split) <;> omega
theorem zga (m : Int) : qj m <= 1000 := by
 unfold qj
 (repeat' split) <;> omega
theorem zn9 (m : Int) : max 0 (min m 1000) = ((qj m : Nat) : Int) := by
 unfold qj
 (repeat' split) <;> omega
theorem zaf (n : Nat) (h : zd) (m : Int) : call (n + 1) 57 [.int .i64 m] h = some (.ret [.ptr h.length 0], h ++ [.box 2 [.sl 0 [] true, .int .i64 (qj m : Int)]]) := by
 rw [zls, <- zkR]
 rfl
theorem zag (n : Nat) (h : zd) (m : Int) : call (n + 1) 59 [.int .i64 m] h = some (.ret [.ptr (h.length + 1) 0], h ++ [.row 21 1 (List.replicate (qj m) [.int .i32 0]) true, .box 3 [.row h.length 1 0 (qj m), .int .i64 0, .int .i64 0]]) := by
 have hc := zga m
 rw [zlE]
 unfold zm7
 rw [zkR, Zj, zD, zD, if_pos ⟨zk _, by unfold lim; omega, by first | trivial | rfl⟩]
 simp
def zl3 (k : Nat) : Nat := if k = 1 then 56 else if k = 2 then 58 else 60
theorem zoa (v : V) (s : Nat) : Ww prog 112 [(0, .ptr s 0)] = some [.ptr s 0] := by kernel_rfl
theorem zob (s : Nat) : Ww prog 116 [(0, .ptr s 0)] = some [.ptr s 0] := by kernel_rfl
theorem zoc (s : Nat) : Ww prog 120 [(0, .ptr s 0)] = some [.ptr s 0] := by kernel_rfl
theorem zgb (t : Nat) (v : V) (c : Nat) (p : Bool) : Ww prog 125 [(0, .iface t v), (1, .ptr c 0), (2, .bool p)] = some [.iface t v, .ptr c 0, .bool p] := by kernel_rfl
theorem zpe (n : Nat) {k : Nat} (hk : k = 1 \/ k = 2 \/ k = 3) (m : Int) (g : zd) : ∃ g' s Y, call (n + 2) (zl3 k) [.int .i64 m] g = some (.ret [zn3 k s], g') /\ BodAt k g' s Y (qj m) [] /\ g.length <= g'.length /\ (∀ i, i < g.length -> g'[i]? = g[i]?) /\ ∀ y ∈ Y, g.length <= y := by
 rcases hk with rfl | rfl | rfl
 · refine ⟨_, _, [g.length], ?_, .inl ⟨rfl, [], none, rfl, ⟨rfl, zH⟩, rfl⟩, by simp, fun i hi => zl hi, by simp⟩
   show call (n + 1 + 1) 56 [.int .i64 m] g = _
   rw [zc4]
   unfold zbJ
   rw [zaf, zM, zx, zoa (.bool true), za]
   rfl
 · refine ⟨g ++ [.row 21 1 (List.replicate (qj m) [.int .i32 0]) true, .box 3 [.row g.length 1 0 (qj m), .int .i64 0, .int .i64 0]], g.length + 1, [g.length + 1, g.length], ?_, .inr (.inl ⟨rfl, [], g.length, rfl, ⟨by omega, List.replicate (qj m) [.int .i32 0], true, 0, ?_, ?_, by simp, ?_, by simp, by simp, ?_⟩, rfl⟩), by simp, fun i hi => zl hi, by simp⟩
   · show call (n + 1 + 1) 58 [.int .i64 m] g = _
     rw [zc5]
     unfold zbK
     rw [zag, zM, zx, zob, za]
     rfl
   · rw [zI (by omega), Xo]; rfl
   · rw [zI (by omega), Q7]; rfl
   · omega
   · intro es hes; rw [(List.mem_replicate.1 hes).2]; rfl
 · obtain ⟨N, e, S⟩ := zh6 n g m
   rw [zn9] at e S
   refine ⟨_, g.length, [g.length], ?_, .inr (.inr ⟨rfl, [], rfl, ⟨N, S⟩, rfl⟩), by simp, fun i hi => zl hi, by simp⟩
   show call (n + 1 + 1) 60 [.int .i64 m] g = _
   rw [zc6]
   unfold zbL
   rw [e, zM, zx, zoc, za]
   rfl
theorem zkS (n : Nat) {k : Nat} (hk : k = 1 \/ k = 2 \/ k = 3) (m : Int) (pl : Bool) (g : zd) : ∃ h' o s c Y, Jr (n + 2) (zl3 k) m pl g = some (.ret [.ptr o 0], h') /\ ObAt k h' o s c none Y (qj m) pl ([], []) /\ g.length <= h'.length /\ (∀ i, i < g.length -> h'[i]? = g[i]?) /\ ∀ x ∈ obB o c none Y, g.length <= x := by
 obtain ⟨g', s, Y, e, B, b1, b2, b3⟩ := zpe n hk m g
 have hY := B.lt
 have k1 : ∀ i, i < g'.length -> ((g' ++ [HB.box 1 [V.sl 0 [] true]]) ++ [HB.box 3 [zn3 k s, .ptr g'.length 0, .bool pl]])[i]? = g'[i]? := fun i hi => by
  rw [zl (by simp; omega), zl hi]
 refine ⟨(g' ++ [HB.box 1 [V.sl 0 [] true]]) ++ [HB.box 3 [zn3 k s, .ptr g'.length 0, .bool pl]], g'.length + 1, s, g'.length, Y, ?_, ⟨?_, ⟨rfl, ?_⟩, B.keep (fun y hy => k1 y (hY y hy)), Zf _, zga m, by omega, by simp, fun hy => by have := hY _ hy; omega, fun hy => by have := hY _ hy; omega, by simp⟩, by simp; omega, fun i hi => (k1 i (by omega)).trans (b2 i hi), ?_⟩
 · unfold Jr
   rw [e, zM, zx, Wk, zM, zx]
   unfold zn3
   rw [zgb, za, if_pos (by rfl)]
   simp
 · rw [zI (by simp)]; simp
 · rw [zl (by simp), zH]
 · intro x hx
   simp only [obB, zJ, Zl, Option.toList_none, List.not_mem_nil, false_or] at hx
   rcases hx with e1 | e1 | e1
   · omega
   · omega
   · exact b3 x e1
end Go.Proofs.Tryz
namespace Go.Proofs.Tryz
open Go.L Go.Rp Go.Sk
set_option maxRecDepth 100000
theorem zpf (s : Nat) : jz prog 120 true (.iface 120 (.agg [.ptr s 0])) = some (.agg [.ptr s 0], true) := by kernel_rfl
theorem zpg (s : Nat) : jz prog 120 true (.iface 112 (.agg [.ptr s 0])) = some (.agg [.val (.pointer none)], false) := by kernel_rfl
theorem zph (s : Nat) : jz prog 120 true (.iface 116 (.agg [.ptr s 0])) = some (.agg [.val (.pointer none)], false) := by kernel_rfl
def lvI (k j : Nat) (its : List (Int × Nat)) : List Int := if k = 3 then (its.filter fun p => decide (j < p.2)).map Prod.fst else []
theorem zqc (j : Nat) (ts : List Tw) : lvV j ts = ((itT ts).filter fun p => decide (j < p.2)).map Prod.fst := by
 unfold lvV itT
 induction ts with
 | nil => rfl
 | cons t ts ih =>
   rw [zT, QT, QT]
   by_cases h : j < t.ht
   · simp [h, ih]
   · simp [h, ih]
theorem jQ (n : Nat) {k : Nat} {h : zd} {o s c : Nat} {cb : Option Nat} {Y : List Nat} {m : Nat} {pl : Bool} {st : St} (A : ObAt k h o s c cb Y m pl st) {j : Nat} (hj : j < 8) (hn : m + 10 < n) :
    ∃ h' r, call (n + 3) 29 [.ptr o 0, .int .i64 ((j + 1 : Nat) : Int)] h = some (.ret [r], h') /\ SlJ h' h.length r (lvI k j st.1) /\ h.length <= h'.length /\ ∀ i, i < h.length -> h'[i]? = h[i]? := by
 have hroom := A.room
 have hmost := A.most
 rcases A.body with ⟨rfl, xs, qb, hi, S, rfl⟩ | ⟨rfl, xs, b, hi, RR, rfl⟩ | ⟨rfl, ts, hi, ⟨N, S⟩, rfl⟩
 · refine ⟨h, _, ?_, .inr rfl, zk _, fun _ _ => rfl⟩
   rw [show n + 3 = (n + 2) + 1 from rfl, zaA]
   unfold zfs
   rw [Jg, za, zm, if_neg (by decide), zE A.box, zo, if_pos (by decide)]
   simp only [zb, za]
   show bd2 (jz prog 120 true (.iface 112 (.agg [.ptr s 0]))) _ = _
   rw [zpg, Zg, if_pos (by rfl), if_pos (by exact zk 1), if_pos (by rfl)]
   rfl
 · refine ⟨h, _, ?_, .inr rfl, zk _, fun _ _ => rfl⟩
   rw [show n + 3 = (n + 2) + 1 from rfl, zaA]
   unfold zfs
   rw [Jg, za, zm, if_neg (by decide), zE A.box, zo, if_pos (by decide)]
   simp only [zb, za]
   show bd2 (jz prog 120 true (.iface 116 (.agg [.ptr s 0]))) _ = _
   rw [zph, Zg, if_pos (by rfl), if_pos (by exact zk 1), if_pos (by rfl)]
   rfl
 · rw [hi, Ja] at hroom
   obtain ⟨h', r, e, b1, b2, b3⟩ := zdg n S hj (by unfold lim; omega) (by omega)
   refine ⟨h', r, ?_, .inl (by rw [hi]; show SlI h' h.length r (if 3 = 3 then _ else []); rw [if_pos rfl, <- zqc]; exact b1), b2, b3⟩
   rw [show n + 3 = (n + 2) + 1 from rfl, zaA]
   unfold zfs
   rw [Jg, za, zm, if_neg (by decide), zE A.box, zo, if_pos (by decide)]
   simp only [zb, za]
   show bd2 (jz prog 120 true (.iface 120 (.agg [.ptr s 0]))) _ = _
   rw [zpf, Zg, if_pos (by rfl), if_pos (by exact zk 1), if_neg (by decide)]
   show bd (some (V.ptr s 0)) _ = _
   rw [za, e, zM, zx]
end Go.Proofs.Tryz
namespace Go.Proofs.Tryz
open Go.L Go.Rp Go.Sk
set_option maxRecDepth 100000
theorem zod (n : Nat) (m : Int) (p : Bool) (a b c d : HB) : call (n + 1) 15 [.int .u8 1, .int .i64 m, .bool p] [a, b, c, d] = Jr n 56 m p [a, b, c, d, .map zdt] := by kernel_rfl
theorem zoe (n : Nat) (m : Int) (p : Bool) (a b c d e : HB) : call (n + 1) 15 [.int .u8 2, .int .i64 m, .bool p] [a, b, c, d, e] = Jr n 58 m p [a, b, c, d, e, .map zdt] := by kernel_rfl
theorem zof (n : Nat) (m : Int) (p : Bool) (a b c d : HB) : call (n + 1) 15 [.int .u8 3, .int .i64 m, .bool p] [a, b, c, d] = Jr n 60 m p [a, b, c, d, .map zdt] := by kernel_rfl
end Go.Proofs.Tryz
namespace Go.Proofs.Tryz
open Go.L
set_option maxRecDepth 100000
end Go.Proofs.Tryz
namespace Go.Proofs.Tryz
open Go.L
set_option maxRecDepth 100000
noncomputable def qk (n : Nat) (x0 : Int) (x1 : Int) (x2 : List (List V)) (x2b : Bool) (x3 : List (List V)) (x3b : Bool) (x4 : Int) : Option (Res × zd) :=
 (cl (call n 25 [(V.sl 3 x2 x2b)] []) (fun r0 h1 =>
 (ZA r0 fun v3 =>
 (bd (bop prog .gtr 3 v3 (V.int .i64 300)) fun v4 =>
 (bv v4 fun b5 => if b5 then
 (cl (call n 18 [] h1) (fun r6 h7 =>
 (ZA r6 fun v9 =>
 some (Res.ret [v9], h7))) (fun z8 h7 => some (Res.pan z8, h7)))
 else
 (if (decide (((x3).length : Int) > 100)) then
 (cl (call n 18 [] h1) (fun r10 h11 =>
 (ZA r10 fun v13 =>
 some (Res.ret [v13], h11))) (fun z12 h11 => some (Res.pan z12, h11)))
 else
 (cl (call n 18 [] h1) (fun r14 h15 =>
 (ZA r14 fun v17 =>
 (bv v17 fun b18 => if b18 then
 (cl (call n 26 [(V.int .u8 (IntKind.u8.wrap (1 + (Int.tmod x0 3)))), (V.int .i64 x1), (V.sl 3 x2 x2b)] h15) (fun r19 h20 =>
 (ZA r19 fun v22 =>
 (bv v22 fun b23 => if b23 then
 (cl (call n 21 [(V.sl 1 x3 x3b)] h20) (fun r24 h25 =>
 (ZA r24 fun v27 =>
 (cl (call n 26 [(V.int .u8 (IntKind.u8.wrap (1 + (Int.tmod x0 3)))), (V.int .i64 (IntKind.i64.wrap (Int.tmod x4 9))), v27] h25) (fun r28 h29 =>
 (ZA r28 fun v31 =>
 some (Res.ret [v31], h29))) (fun z30 h29 => some (Res.pan z30, h29))))) (fun z26 h25 => some (Res.pan z26, h25)))
 else
 some (Res.ret [(V.bool false)], h20)))) (fun z21 h20 => some (Res.pan z21, h20)))
 else
 some (Res.ret [(V.bool false)], h15)))) (fun z16 h15 => some (Res.pan z16, h15)))))))) (fun z2 h1 => some (Res.pan z2, h1)))
theorem zdZ (n : Nat) (x0 : Int) (x1 : Int) (x2 : List (List V)) (x2b : Bool) (x3 : List (List V)) (x3b : Bool) (x4 : Int) (h : zd) : call (n + 1) 5 [(V.int .u8 x0), (V.int .i64 x1), (V.sl 3 x2 x2b), (V.sl 1 x3 x3b), (V.int .u8 x4)] h = gcw [(V.int .u8 x0), (V.int .i64 x1), (V.sl 3 x2 x2b), (V.sl 1 x3 x3b), (V.int .u8 x4)] (qk n x0 x1 x2 x2b x3 x3b x4) h := by kernel_rfl
noncomputable def JT (n : Nat) (x0 : List (List V)) (x0b : Bool) (st1 : List V) (hh2 : zd) (next3 : List V -> zd -> Option (Res × zd)) : Option (Res × zd) :=
 (bd (bop prog .lss 3 (gv st1 2) (V.int .i64 ((x0).length : Int))) fun v4 =>
 (bv v4 fun b5 => if b5 then
 (if (decide ((((lsl (gv st1 1))).length : Int) < 20)) then
 (bdS (nv (gv st1 2)) fun n6 =>
 (bd (ZW 1 n6 (V.sl 1 x0 x0b)) fun p7 =>
 (bd ((esP p7))[0]? fun v8 =>
 (bd (bop prog .add 3 (gv st1 2) (V.int .i64 1)) fun v9 =>
 (bdS (nv (gv st1 2)) fun n10 =>
 (bd (ZW 1 n10 (V.sl 1 x0 x0b)) fun p11 =>
 (bd ((esP p11))[0]? fun v12 =>
 (bd (bop prog .rem 5 v12 (V.int .u8 9)) fun v13 =>
 (bd (cvt prog 5 3 v13) fun v14 =>
 (bd (bop prog .add 3 v9 v14) fun v15 =>
 (bd (jG [(some (V.int .i64 ((x0).length : Int))), (Yw hh2 v15)]) fun a16 => bd (mm false a16) fun v17 =>
 (bd (qq (V.sl 1 x0 x0b)) fun n18 =>
 (bdS (nv (gv st1 2)) fun n19 =>
 (bdS (nv v17) fun n20 =>
 (bd (QO 1 n19 n20 (none : Option Nat) true (V.sl 1 x0 x0b)) fun v21 =>
 (clH (call n 14 [v21, (V.int .u8 5)] hh2) fun r22 h23 =>
 (ZA r22 fun v25 =>
 (bd (Ww prog 43 [(0, v8), (2, v25)]) fun cs26 =>
 (if (cs26).length = 3 then
 (if ((cs26).length <= 3) then
 (bd ((setR [(V.int .u8 0), (V.sl 0 [] true), (V.sl 0 [] true)] 0 cs26))[1]? fun v27 =>
 (bdS (nv (gv st1 2)) fun n28 =>
 (bd (ZW 1 n28 (V.sl 1 x0 x0b)) fun p29 =>
 (bd ((esP p29))[0]? fun v30 =>
 (bd (Yx prog 22 1 [(0, v30)]) fun p31 =>
 (bd (app 5 1 (S.v v27) p31.2) fun l32 =>
 (bd (Yx prog 40 1 [(0, (V.agg (((setR (setR [(V.int .u8 0), (V.sl 0 [] true), (V.sl 0 [] true)] 0 cs26) 1 [(V.sl 1 l32 false)])).drop 0 |>.take 3)))]) fun p33 =>
 (bd (app 43 3 (S.own 43 3 (lsl (gv st1 1))) p33.2) fun l34 =>
 (bd (bop prog .add 3 (gv st1 2) (V.int .i64 3)) fun v35 =>
 (next3 [(V.sl 3 (lsl (gv st1 0)) false), (V.sl 3 l34 false), v35] h23)))))))))) else none) else none)))))))))))))))))))
 else
 some (Res.ret [(V.sl 3 (lsl (gv st1 1)) false)], hh2))
 else
 some (Res.ret [(V.sl 3 (lsl (gv st1 1)) false)], hh2)))
noncomputable def zog (n : Nat) (x0 : List (List V)) (x0b : Bool) (h : zd) : Option (Res × zd) :=
 (zV n (JT n x0 x0b) [(V.sl 3 [] false), (V.sl 3 [] false), (V.int .i64 0)] h)
theorem ziz (n : Nat) (x0 : List (List V)) (x0b : Bool) (h : zd) : call (n + 1) 21 [(V.sl 1 x0 x0b)] h = zog n x0 x0b h := by kernel_rfl
noncomputable def Jh (n : Nat) (x0 : List (List V)) (x0b : Bool) (st1 : List V) (hh2 : zd) (next3 : List V -> zd -> Option (Res × zd)) : Option (Res × zd) :=
 (bd (bop prog .lss 3 (gv st1 1) (V.int .i64 ((x0).length : Int))) fun v4 =>
 (bv v4 fun b5 => if b5 then
 (bd (bop prog .leq 3 (gv st1 0) (V.int .i64 1000)) fun v6 =>
 (bv v6 fun b7 => if b7 then
 (bdS (nv (gv st1 1)) fun n8 =>
 (bd (ZW 3 n8 (V.sl 3 x0 x0b)) fun p9 =>
 (bd (ZL 1 p9) fun p10 =>
 (bd3 (zw hh2 p10) fun cs12 m11 o13 => if (o13 + 1 <= m11 /\ 0 < 1) then
 (bd (cs12)[o13]? fun v14 =>
 (bd (XB hh2 v14) fun p15 =>
 (bdS (nv (gv st1 1)) fun n16 =>
 (bd (ZW 3 n16 (V.sl 3 x0 x0b)) fun p17 =>
 (bd (ZL 2 p17) fun p18 =>
 (bd3 (zw hh2 p18) fun cs20 m19 o21 => if (o21 + 1 <= m19 /\ 0 < 1) then
 (bd (cs20)[o21]? fun v22 =>
 (bd (XB hh2 v22) fun p23 =>
 (bd (bop prog .add 3 (gv st1 0) (V.int .i64 (IntKind.i64.wrap ((IntKind.i64.wrap (2 + ((p15.2).length : Int))) + ((p23.2).length : Int))))) fun v24 =>
 (bd (bop prog .add 3 (gv st1 1) (V.int .i64 1)) fun v25 =>
 (next3 [v24, v25] hh2))))) else none)))))) else none))))
 else
 some (Res.ret [(gv st1 0)], hh2)))
 else
 some (Res.ret [(gv st1 0)], hh2)))
noncomputable def zoh (n : Nat) (x0 : List (List V)) (x0b : Bool) (h : zd) : Option (Res × zd) :=
 (zV n (Jh n x0 x0b) [(V.int .i64 0), (V.int .i64 0)] h)
theorem ziA (n : Nat) (x0 : List (List V)) (x0b : Bool) (h : zd) : call (n + 1) 25 [(V.sl 3 x0 x0b)] h = zoh n x0 x0b h := by kernel_rfl
end Go.Proofs.Tryz
namespace Go.Proofs.Tryz
open Go.L
set_option maxRecDepth 100000
end Go.Proofs.Tryz
namespace Go.Proofs.Tryz
open Go.L Go.Rp Go.Sk
set_option maxRecDepth 100000
def zqQ (os : List O) : Prop := ∀ x ∈ os, -2147483648 <= x.v /\ x.v < 2147483648
end Go.Proofs.Tryz
namespace Go.Proofs.Tryz
open Go.L Go.Rp Go.Sk
set_option maxRecDepth 100000
theorem zq9 {sz z a b : Nat} {l : List (List V)} {sb : Bool} (hz : z = sz \/ l.isEmpty = true) (h1 : a <= b) (h2 : b <= l.length) : QO sz a b (none : Option Nat) true (.sl z l sb) = some (.sl sz ((l.take b).drop a) false) := by
 have hc : a <= b /\ b <= l.length /\ (z = sz \/ l.isEmpty = true) /\ ((none : Option Nat) = none \/ (none : Option Nat) = some b) /\ true = true := ⟨h1, h2, hz, .inl rfl, rfl⟩
 show (if _ then _ else _) = _
 rw [if_pos hc]
 rfl
end Go.Proofs.Tryz
namespace Go.Proofs.Tryz
open Go.L Go.Rp Go.Sk
set_option maxRecDepth 100000
def ziB (h : zd) (r : V) (l : List R) : Prop := (∃ sz, XB h r = some (sz, l.map R.w)) /\ ∀ (i : Nat) (x : R), l[i]? = some x -> ∃ p, ZW 2 i r = some p /\ zw h p = some (R.w x, 2, 0)
theorem RowR.sees {h : zd} {b : Nat} {l : List R} (r : RowR h b l) : ziB h (.row b 2 0 l.length) l := ⟨⟨2, r.slc⟩, fun i x hx => ⟨_, r.get hx 0⟩⟩
theorem zpi (a b c d : Int) : bop prog .neq 35 (.agg [.int .u8 a, .int .i32 b]) (.agg [.int .u8 c, .int .i32 d]) = some (.bool !(a == c && (b == d && true))) := by kernel_rfl
theorem zjS (n : Nat) {h : zd} {a b : V} {l : List R} (ha : ziB h a l) (hb : ziB h b l) (hl : l.length < lim) : ∀ (d i M : Nat) (v0 : V), i + d = l.length -> d < M -> zV M (jc n a b) [v0, .int .i64 (i : Int)] h = some (.ret [.bool true], h) := by
 obtain ⟨⟨sa, hsa⟩, ga⟩ := ha
 intro d
 induction d with
 | zero =>
   intro i M v0 h1 h2
   obtain ⟨M, rfl⟩ : ∃ M', M = M' + 1 := ⟨M - 1, by omega⟩
   obtain rfl : i = l.length := by omega
   rw [zG]
   unfold jc
   rw [hsa, za]
   simp only [gv, zg, zi, zt, zu, za, zm]
   rw [if_neg (by simp)]
 | succ d ih =>
   intro i M v0 h1 h2
   obtain ⟨M, rfl⟩ : ∃ M', M = M' + 1 := ⟨M - 1, by omega⟩
   obtain ⟨x, hx⟩ : ∃ x, l[i]? = some x := ⟨_, zf (by omega)⟩
   obtain ⟨p, p1, p2⟩ := ga i x hx
   obtain ⟨q, q1, q2⟩ := hb.2 i x hx
   have hlt : decide ((i : Int) < (l.length : Int)) = true := by simp; omega
   have hc : V.agg (List.take 2 (List.drop 0 (R.w x))) = .agg [.int .u8 x.c, .int .i32 x.v] := rfl
   have key : ∀ next, jc n a b [v0, .int .i64 (i : Int)] h next = next [v0, .int .i64 ((i + 1 : Nat) : Int)] h := by
    intro next
    unfold jc
    rw [hsa, za]
    simp only [gv, zg, zi, zt, zu, za, zm, hlt, if_true, Zj, zD, p1, p2, q1, q2, zo, zr, zk, Nat.reduceLT, and_self, hc, zpi, zK, Xu (show i < lim by omega)]
    rw [if_neg (by simp)]
   rw [zG, key]
   exact ih (i + 1) M v0 (by omega) (by omega)
theorem zjT (n : Nat) {h : zd} {a b : V} {l : List R} (ha : ziB h a l) (hb : ziB h b l) (hl : l.length < lim) (hn : l.length < n) : call (n + 1) 24 [a, b] h = some (.ret [.bool true], h) := by
 refine (zn0 n a b h).trans ?_
 unfold zpN
 obtain ⟨sa, hsa⟩ := ha.1
 obtain ⟨sb, hsb⟩ := hb.1
 rw [hsa, za, hsb, za, if_neg (by simp)]
 exact zjS n ha hb hl l.length 0 n (.bool false) (by omega) hn
end Go.Proofs.Tryz
namespace Go.Proofs.Tryz
open Go.L Go.Rp Go.Sk
set_option maxRecDepth 100000
end Go.Proofs.Tryz
namespace Go.Sk
open Go.L Go.Rp
end Go.Sk
namespace Go.Proofs.Tryz
open Go.L Go.Rp Go.Sk
set_option maxRecDepth 100000
theorem zoi (k m : Nat) (os : List O) (st : St) : (jd k m os st).2.length = os.length := by
 unfold jd
 split
 · exact zc7 ..
 split
 · exact zc8 ..
 · unfold K9; rw [ziq]; simp
theorem zqd {c : List Int} {kinds : Int} (hc : QZ c = true) (hk : 1 <= kinds) (hk2 : kinds <= 100) : ∀ o ∈ ops c kinds, 0 <= o.k /\ o.k < 256 := by
 intro o ho
 unfold ops at ho
 obtain ⟨x, hx, rfl⟩ := Zz.1 ho
 have h1 := Int.emod_nonneg x (show kinds ≠ 0 by omega)
 have h2 := Int.emod_lt_of_pos x (show 0 < kinds by omega)
 unfold Go.Rp.opOf
 simp only
 omega
theorem ziC : ∀ (l : List Bool) (n : Nat), (hgt n l).2.length <= l.length
 | [], n => zk _
 | b :: r, n => by
   simp only [hgt]
   split
   · exact zk _
   · split
     · have := ziC r (n + 1); simp; omega
     · simp
theorem zoj (m : Int) (st : St) (o : O) : (stp m st o).1.2.length <= st.2.length := by
 unfold stp
 split
 · split
   · exact zk _
   · exact ziC ..
 · split
   · split <;> exact zk _
   · exact zk _
theorem zeU (os : List O) (m : Int) : ∀ (l : List Int) (st : St) (told : List R), (WD os m l st told).1.2.length <= st.2.length
 | [], st, told => zk _
 | k :: l, st, told => Z5 (zeU os m l _ _) (zoj m st _)
theorem zl4 (k m : Nat) (os : List O) (st : St) : (jd k m os st).1.2.length <= st.2.length := by
 unfold jd
 split
 · exact zk _
 split
 · exact zk _
 · exact zeU ..
theorem zjU (l : List Int) : (l.flatMap qa).length = 8 * l.length := by
 induction l with
 | nil => rfl
 | cons x l ih => rw [List.flatMap_cons, zC, ih]; simp [qa]; omega
end Go.Proofs.Tryz
namespace Go.Proofs.Tryz
open Go.L Go.Rp Go.Sk
set_option maxRecDepth 100000
def zdu (c : List Int) (k : Nat) (x : Int) : De := ⟨x, [x], ops ((c.take (if (k : Int) + 1 + x % 9 < (c.length : Int) then k + 1 + (x % 9).toNat else c.length)).drop k) 5⟩
def zok (d : De) : Prop := QZ d.bits = true /\ d.bits.length <= 1 /\ d.ops.length <= 80 /\ zqQ d.ops /\ ∀ o ∈ d.ops, 0 <= o.k /\ o.k < 256
theorem zaM {c l : List Int} (hc : QZ c = true) (hl : ∀ x ∈ l, x ∈ c) : QZ l = true := by
 unfold QZ at hc ⊢
 exact Zm.2 fun x hx => Zm.1 hc x (hl x hx)
theorem zpj {c : List Int} (hc : QZ c = true) {k : Nat} {x : Int} (hx : x ∈ c) : zok (zdu c k x) := by
 have h2 : QZ ((c.take (if (k : Int) + 1 + x % 9 < (c.length : Int) then k + 1 + (x % 9).toNat else c.length)).drop k) = true := zaM hc (fun y hy => Zn (Zd hy))
 exact ⟨zaM hc (fun y hy => by rw [ZK.1 hy]; exact hx), zk _, zpd .., zqO h2, zqd h2 (by decide) (by decide)⟩
theorem zjV (a : Int) : cvt prog 5 3 (.int .u8 a) = some (.int .i64 (IntKind.i64.wrap a)) := by kernel_rfl
theorem zol (a : Int) (l : List (List V)) (b : Bool) : Ww prog 43 [(0, .int .u8 a), (2, .sl 2 l b)] = some [.int .u8 a, .sl 0 [] true, .sl 2 l b] := by kernel_rfl
theorem zqe (a : Int) : Yx prog 22 1 [(0, .int .u8 a)] = some (1, [[.int .u8 a]]) := by kernel_rfl
theorem zom (a : Int) (l : List (List V)) (b : Bool) (l' : List (List V)) (b' : Bool) : Yx prog 40 1 [(0, .agg [.int .u8 a, .sl 1 l b, .sl 2 l' b'])] = some (3, [[.int .u8 a, .sl 1 l b, .sl 2 l' b']]) := by kernel_rfl
theorem zqf (e : Nat) (a : List De) (x : De) (h : a.length + 1 < lim) : app e 3 (.own e 3 (a.map De.w)) [De.w x] = some ((a ++ [x]).map De.w) := by
 simp [app, h]
theorem zjW (n : Nat) (c : List Int) (cb : Bool) (hc : QZ c = true) (hcl : c.length <= 1000) (hn : 90 <= n) (H : zd) : ∀ (d k M : Nat) (acc : List De) (v0 : V), 20 - acc.length = d -> d < M -> k <= 3 * acc.length -> acc.length <= 20 -> (∀ x ∈ acc, zok x) →
    ∃ l : List De, l.length <= 20 /\ (∀ x ∈ l, zok x) /\ zV M (JT n (c.map (Xh .u8)) cb) [.sl 3 [] false, .sl 3 (acc.map De.w) false, .int .i64 (k : Int)] H = some (.ret [.sl 3 (l.map De.w) false], H) := by
 intro d
 induction d with
 | zero =>
   intro k M acc v0 h1 h2 hk h3 h4
   obtain ⟨M, rfl⟩ : ∃ M', M = M' + 1 := ⟨M - 1, by omega⟩
   refine ⟨acc, h3, h4, ?_⟩
   rw [zG]
   unfold JT
   simp only [gv, zg, zi, lsl]
   rw [zu, za, zm]
   by_cases hlt : (k : Int) < ((c.map (Xh .u8)).length : Int)
   · rw [if_pos (decide_eq_true hlt), if_neg (by simp; omega)]
   · rw [if_neg (by simpa using hlt)]
 | succ d ih =>
   intro k M acc v0 h1 h2 hk h3 h4
   obtain ⟨M, rfl⟩ : ∃ M', M = M' + 1 := ⟨M - 1, by omega⟩
   by_cases hlt : k < c.length
   · have hx : c[k]? = some c[k] := zf hlt
     have hmem := ZY hlt
     generalize c[k] = x at hx hmem
     have hxs : 0 <= x /\ x <= 255 := by
      unfold QZ at hc
      have := Zm.1 hc x hmem
      simp at this; omega
     have hok := zpj hc (k := k) hmem
     have hdl : (zdu c k x).ops = ops ((c.take (if (k : Int) + 1 + x % 9 < (c.length : Int) then k + 1 + (x % 9).toNat else c.length)).drop k) 5 := rfl
     obtain ⟨l, l1, l2, l3⟩ := ih (k + 3) M (acc ++ [zdu c k x]) v0 (by simp; omega) (by omega) (by simp; omega) (by simp; omega) (fun y hy => by
      rcases Zl.1 hy with h | h
      · exact h4 y h
      · rw [ZK.1 h]; exact hok)
     refine ⟨l, l1, l2, ?_⟩
     rw [zG, <- l3]
     have hxv : (c.map (Xh .u8))[k]? = some [.int .u8 x] := by rw [zF, hx]; rfl
     have e1 : Int.tmod x 9 = x % 9 := Jj hxs.1
     have w1 : IntKind.i64.wrap (x % 9) = x % 9 := by rw [w64] <;> omega
     have w2 : IntKind.i64.wrap ((k : Int) + 1) = (k : Int) + 1 := by rw [w64] <;> omega
     have w3 : IntKind.i64.wrap ((k : Int) + 1 + x % 9) = (k : Int) + 1 + x % 9 := by rw [w64] <;> omega
     obtain ⟨b, hb⟩ : ∃ b : Nat, b = (if (k : Int) + 1 + x % 9 < (c.length : Int) then k + 1 + (x % 9).toNat else c.length) := ⟨_, rfl⟩
     have hbi : (if (k : Int) + 1 + x % 9 < (((c.map (Xh .u8)).length : Nat) : Int) then (k : Int) + 1 + x % 9 else (((c.map (Xh .u8)).length : Nat) : Int)) = (b : Int) := by
      rw [zt, hb]; split <;> omega
     have hkb : k <= b := by rw [hb]; split <;> omega
     have hbl : b <= c.length := by rw [hb]; split <;> omega
     have hsub : ((c.map (Xh .u8)).take b).drop k = ((c.take b).drop k).map (Xh .u8) := by rw [List.map_drop, List.map_take]
     have hops := zn1 n ((c.take b).drop k) 1 false 5 H (.inl rfl) (zaM hc (fun y hy => Zn (Zd hy))) (by decide) (by decide) hn
     have hde : (⟨x, [x], ops ((c.take b).drop k) 5⟩ : De) = zdu c k x := by rw [hb]; rfl
     have key : ∀ next, JT n (c.map (Xh .u8)) cb [.sl 3 [] false, .sl 3 (acc.map De.w) false, .int .i64 (k : Int)] H next = next [.sl 3 [] false, .sl 3 ((acc ++ [zdu c k x]).map De.w) false, .int .i64 ((k + 3 : Nat) : Int)] H := by
      intro next
      unfold JT
      simp only [gv, zg, zi, lsl]
      rw [zu, za, zm, if_pos (by simpa using hlt), if_pos (by simp; omega), Zj, zD, Qd hxv, za]
      simp only [esP, zb, za]
      rw [zK, za, zD, Qd hxv, za]
      simp only [esP, zb, za]
      rw [zdp (by decide), za, e1, zjV, za, w1, zK, za, w2, w3]
      show bd (some [V.int .i64 _, V.int .i64 _]) _ = _
      rw [za]
      show bd (some (V.int .i64 (if (k : Int) + 1 + x % 9 < (((c.map (Xh .u8)).length : Nat) : Int) then (k : Int) + 1 + x % 9 else (((c.map (Xh .u8)).length : Nat) : Int)))) _ = _
      rw [hbi, za, zoL, za, zD, Zj, zD, zq9 (.inl rfl) hkb (by rw [zt]; exact hbl), za, hsub, hops]
      simp only [clH]
      rw [zx, zol, za, if_pos (by rfl), if_pos (by exact zk 3)]
      show bd (some (V.sl 0 [] true)) _ = _
      rw [za, zD, Qd hxv, za]
      simp only [esP, zb, za]
      rw [zqe, za]
      show bd (some [[V.int .u8 x]]) _ = _
      rw [za]
      show bd (Yx prog 40 1 [(0, .agg [.int .u8 x, .sl 1 [[V.int .u8 x]] false, .sl 2 ((ops ((c.take b).drop k) 5).map O.w) false])]) _ = _
      rw [zom, za]
      show bd (app _ 3 _ [De.w ⟨x, [x], ops ((c.take b).drop k) 5⟩]) _ = _
      rw [hde, zqf _ _ _ (by unfold lim; omega), za, zK, za, show IntKind.i64.wrap ((k : Int) + 3) = ((k + 3 : Nat) : Int) by rw [w64] <;> omega]
     rw [key]
   · refine ⟨acc, h3, h4, ?_⟩
     rw [zG]
     unfold JT
     simp only [gv, zg, zi, lsl]
     rw [zu, za, zm, if_neg (by simpa using hlt)]
theorem zjX (n : Nat) (c : List Int) (cb : Bool) (hc : QZ c = true) (hcl : c.length <= 1000) (hn : 90 <= n) (H : zd) : ∃ l : List De, l.length <= 20 /\ (∀ x ∈ l, zok x) /\ call (n + 1) 21 [.sl 1 (c.map (Xh .u8)) cb] H = some (.ret [.sl 3 (l.map De.w) false], H) := by
 obtain ⟨l, l1, l2, l3⟩ := zjW n c cb hc hcl hn H 20 0 n [] (.bool false) rfl (by omega) (zk _) (by decide) (by simp)
 exact ⟨l, l1, l2, (ziz n _ cb H).trans l3⟩
end Go.Proofs.Tryz
namespace Go.Proofs.Tryz
open Go.L Go.Rp Go.Sk
set_option maxRecDepth 100000
def Two (k m : Nat) (h : zd) (oa sa ca ob sb cc : Nat) (st : St) : Prop := ∃ cba Ya cbb Yb, ObAt k h oa sa ca cba Ya m false st /\ ObAt k h ob sb cc cbb Yb m true st /\ ∀ x ∈ obB oa ca cba Ya, x ∉ obB ob cc cbb Yb
section
variable {k m : Nat} {h : zd} {oa sa ca ob sb cc : Nat} {st : St}
theorem Two.keep {h' : zd} (A : Two k m h oa sa ca ob sb cc st) (hk : ∀ i, i < h.length -> h'[i]? = h[i]?) : Two k m h' oa sa ca ob sb cc st := by
 obtain ⟨cba, Ya, cbb, Yb, A1, A2, dis⟩ := A
 exact ⟨cba, Ya, cbb, Yb, A1.keep (fun y hy => hk y (A1.lt y hy)), A2.keep (fun y hy => hk y (A2.lt y hy)), dis⟩
theorem zon (n : Nat) (A : Two k m h oa sa ca ob sb cc st) (bs : List Int) (bb : Bool) (hs : QZ bs = true) (hl : st.2.length + 8 * bs.length <= 20000) (hn : bs.length + 8 < n) :
    ∃ h1 h2, call (n + 2) 23 [.ptr oa 0, .sl 1 (bs.map (Xh .u8)) bb] h = some (.ret [], h1) /\ call (n + 2) 23 [.ptr ob 0, .sl 1 (bs.map (Xh .u8)) bb] h1 = some (.ret [], h2) /\ Two k m h2 oa sa ca ob sb cc (st.1, st.2 ++ bs.flatMap qa) := by
 obtain ⟨cba, Ya, cbb, Yb, A1, A2, dis⟩ := A
 obtain ⟨h1, cb1, e1, B1, F1⟩ := zae n A1 bs bb hs hl hn
 have A2' := A2.keep (h' := h1) (fun y hy => F1.old y (A2.lt y hy) (fun hx => dis y hx hy))
 obtain ⟨h2, cb2, e2, B2, F2⟩ := zae n A2' bs bb hs hl hn
 have dis1 : ∀ x ∈ obB oa ca cb1 Ya, x ∉ obB ob cc cbb Yb := fun x hx hy => by
  rcases F1.new x hx with h0 | h0
  · exact dis x h0 hy
  · have := A2.lt x hy; omega
 refine ⟨h1, h2, e1, e2, cb1, Ya, cb2, Yb, B1.keep (fun y hy => F2.old y (B1.lt y hy) (dis1 y hy)), B2, fun x hx hy => ?_⟩
 rcases F2.new x hy with h0 | h0
 · exact dis1 x hx h0
 · have := B1.lt x hx; omega
theorem zqg (n : Nat) (A : Two k m h oa sa ca ob sb cc st) (os : List O) (osb : Bool) (hk : ∀ o ∈ os, 0 <= o.k /\ o.k < 256) (hos : os.length <= 1000) (hn : 2 * os.length + m + 100 <= n) :
    ∃ h1 T1 h2 T2, call (n + 8) 17 [.ptr oa 0, .sl 2 (os.map O.w) osb] h = some (.ret [.row T1 2 0 os.length], h1) /\ call (n + 8) 17 [.ptr ob 0, .sl 2 (os.map O.w) osb] h1 = some (.ret [.row T2 2 0 os.length], h2) ∧
     RowR h2 T1 (jd k m os st).2 /\ RowR h2 T2 (jd k m os st).2 /\ Two k m h2 oa sa ca ob sb cc (jd k m os st).1 := by
 obtain ⟨cba, Ya, cbb, Yb, A1, A2, dis⟩ := A
 obtain ⟨h1, Y1, T1, e1, R1, B1, t1, u1, F1⟩ := zdr n A1 os osb hk hos hn
 have A2' := A2.keep (h' := h1) (fun y hy => F1.old y (A2.lt y hy) (fun hx => dis y hx hy))
 obtain ⟨h2, Y2, T2, e2, R2, B2, t2, u2, F2⟩ := zdr n A2' os osb hk hos hn
 have dis1 : ∀ x ∈ obB oa ca cba Y1, x ∉ obB ob cc cbb Yb := fun x hx hy => by
  rcases F1.new x hx with h0 | h0
  · exact dis x h0 hy
  · have := A2.lt x hy; omega
 have hT1 : T1 < h1.length := by obtain ⟨z, hz⟩ := R1; exact zS hz
 have hT1' : T1 ∉ obB ob cc cbb Yb := fun hy => by have := A2.lt _ hy; omega
 refine ⟨h1, T1, h2, T2, e1, e2, R1.keep (F2.old T1 hT1 hT1'), R2, cba, Y1, cbb, Y2, B1.keep (fun y hy => F2.old y (B1.lt y hy) (dis1 y hy)), B2, fun x hx hy => ?_⟩
 rcases F2.new x hy with h0 | h0
 · exact dis1 x hx h0
 · have := B1.lt x hx; omega
theorem zl5 (n : Nat) (A : Two k m h oa sa ca ob sb cc st) (hn : m + 10 < n) :
    ∃ h1 r1 h2 r2, call (n + 4) 20 [.ptr oa 0] h = some (.ret [r1], h1) /\ call (n + 4) 20 [.ptr ob 0] h1 = some (.ret [r2], h2) /\ zbz h2 r1 (st.1.map Prod.fst) /\ zbz h2 r2 (st.1.map Prod.fst) /\ Two k m h2 oa sa ca ob sb cc st := by
 have A' := A
 obtain ⟨cba, Ya, cbb, Yb, A1, A2, dis⟩ := A
 obtain ⟨h1, r1, e1, S1, l1, o1⟩ := jP n A1 hn
 obtain ⟨h2, r2, e2, S2, l2, o2⟩ := jP n (A2.keep (h' := h1) (fun y hy => o1 y (A2.lt y hy))) hn
 exact ⟨h1, r1, h2, r2, e1, e2, (S1.keep (fun b _ hb => o2 b hb)).sees, S2.sees, A'.keep (fun i hi => (o2 i (by omega)).trans (o1 i hi))⟩
theorem zl6 (n : Nat) (A : Two k m h oa sa ca ob sb cc st) {j : Nat} (hj : j < 8) (hn : m + 10 < n) :
    ∃ h1 r1 h2 r2, call (n + 3) 29 [.ptr oa 0, .int .i64 ((j + 1 : Nat) : Int)] h = some (.ret [r1], h1) /\ call (n + 3) 29 [.ptr ob 0, .int .i64 ((j + 1 : Nat) : Int)] h1 = some (.ret [r2], h2) /\ zbz h2 r1 (lvI k j st.1) /\ zbz h2 r2 (lvI k j st.1) /\ Two k m h2 oa sa ca ob sb cc st := by
 have A' := A
 obtain ⟨cba, Ya, cbb, Yb, A1, A2, dis⟩ := A
 obtain ⟨h1, r1, e1, S1, l1, o1⟩ := jQ n A1 hj hn
 obtain ⟨h2, r2, e2, S2, l2, o2⟩ := jQ n (A2.keep (h' := h1) (fun y hy => o1 y (A2.lt y hy))) hj hn
 exact ⟨h1, r1, h2, r2, e1, e2, (S1.keep (fun b _ hb => o2 b hb)).sees, S2.sees, A'.keep (fun i hi => (o2 i (by omega)).trans (o1 i hi))⟩
end
theorem zpk (k j : Nat) (its : List (Int × Nat)) : (lvI k j its).length <= its.length := by
 unfold lvI
 split
 · rw [zt]; exact List.length_filter_le _ _
 · exact Zf _
theorem zoo (n : Nat) {k : Nat} (hk : k = 1 \/ k = 2 \/ k = 3) {m : Int} {pl : Bool} {g h' : zd} {r : Res} (h : Jr (n + 2) (zl3 k) m pl g = some (r, h')) : h'.length = g.length + (if k = 2 then 4 else 3) := by
 unfold Jr at h
 rcases hk with rfl | rfl | rfl
 · rw [show call (n + 2) (zl3 1) [.int .i64 m] g = zbJ (n + 1) m g from zc4 (n + 1) m g] at h
   unfold zbJ at h
   rw [zaf, zM, zx, zoa (.bool true), za] at h
   rw [zM, zx, Wk, zM, zx, zgb, za, if_pos (by rfl)] at h
   cases h
   simp
 · rw [show call (n + 2) (zl3 2) [.int .i64 m] g = zbK (n + 1) m g from zc5 (n + 1) m g] at h
   unfold zbK at h
   rw [zag, zM, zx, zob, za] at h
   rw [zM, zx, Wk, zM, zx, zgb, za, if_pos (by rfl)] at h
   cases h
   simp
 · obtain ⟨N, e, S⟩ := zh6 n g m
   rw [show call (n + 2) (zl3 3) [.int .i64 m] g = zbL (n + 1) m g from zc6 (n + 1) m g] at h
   unfold zbL at h
   rw [e, zM, zx, zoc, za] at h
   rw [zM, zx, Wk, zM, zx, zgb, za, if_pos (by rfl)] at h
   cases h
   simp
theorem zop (n : Nat) (m : Int) (p : Bool) {h : zd} (hl : h.length = 4) : call (n + 1) 15 [.int .u8 1, .int .i64 m, .bool p] h = Jr n 56 m p (h ++ [.map zdt]) := by
 match h, hl with
 | [a, b, c, d], _ => exact zod n m p a b c d
theorem zoq (n : Nat) (m : Int) (p : Bool) {h : zd} (hl : h.length = 5) : call (n + 1) 15 [.int .u8 2, .int .i64 m, .bool p] h = Jr n 58 m p (h ++ [.map zdt]) := by
 match h, hl with
 | [a, b, c, d, e], _ => exact zoe n m p a b c d e
theorem zor (n : Nat) (m : Int) (p : Bool) {h : zd} (hl : h.length = 4) : call (n + 1) 15 [.int .u8 3, .int .i64 m, .bool p] h = Jr n 60 m p (h ++ [.map zdt]) := by
 match h, hl with
 | [a, b, c, d], _ => exact zof n m p a b c d
theorem zpl (n : Nat) {k : Nat} (hk : k = 1 \/ k = 2 \/ k = 3) (m : Int) : ∃ h1 h2 oa sa ca ob sb cc, call (n + 3) 15 [.int .u8 (k : Int), .int .i64 m, .bool false] [] = some (.ret [.ptr oa 0], h1) /\ call (n + 3) 15 [.int .u8 (k : Int), .int .i64 m, .bool true] h1 = some (.ret [.ptr ob 0], h2) /\ Two k (qj m) h2 oa sa ca ob sb cc ([], []) := by
 obtain ⟨h1, oa, sa, ca, Ya, e1, A1, _⟩ := zkS n hk m false [.map zdt]
 obtain ⟨h2, ob, sb, cc, Yb, e2, A2, l2, o2, n2⟩ := zkS n hk m true (h1 ++ [.map zdt])
 have hlen := zoo n hk e1
 have o2' : ∀ i, i < h1.length -> h2[i]? = h1[i]? := fun i hi => (o2 i (by simp; omega)).trans (zl hi)
 refine ⟨h1, h2, oa, sa, ca, ob, sb, cc, ?_, ?_, none, Ya, none, Yb, A1.keep (fun y hy => o2' y (A1.lt y hy)), A2, fun x hx hy => ?_⟩
 · rw [<- e1]
   rcases hk with rfl | rfl | rfl
   · exact zn6 (n + 2) m false
   · exact zn7 (n + 2) m false
   · exact zn8 (n + 2) m false
 · rw [<- e2]
   rcases hk with rfl | rfl | rfl
   · exact zop (n + 2) m true hlen
   · exact zoq (n + 2) m true hlen
   · exact zor (n + 2) m true hlen
 · have h1 := A1.lt x hx
   have h2 := n2 x hy
   simp at h2
   omega
theorem zos (n : Nat) {k m : Nat} (hm : m <= 1000) (hn : m + 20 < n) {oa sa ca ob sb cc : Nat} {st : St} (v0 : V) (kv : Nat) (hkv : kv < lim) (next : List V -> zd -> Option (Res × zd)) : ∀ (d j M : Nat) (h : zd), Two k m h oa sa ca ob sb cc st -> j + d = 8 -> d < M →
    ∃ h', zV M (WX (n + 4) (.ptr oa 0) (.ptr ob 0) [v0, .int .i64 (kv : Int)] next) [v0, .int .i64 ((j + 1 : Nat) : Int)] h = next [v0, .int .i64 ((kv + 1 : Nat) : Int)] h' /\ Two k m h' oa sa ca ob sb cc st := by
 have hlim : 100000 < lim := by unfold lim; omega
 intro d
 induction d with
 | zero =>
   intro j M h A hj hM
   obtain ⟨M, rfl⟩ : ∃ M', M = M' + 1 := ⟨M - 1, by omega⟩
   refine ⟨h, ?_, A⟩
   rw [zG]
   unfold WX
   simp only [gv, zg, zi]
   rw [QB, za, zm, if_neg (by simp; omega), zK, za, Xu hkv]
 | succ d ih =>
   intro j M h A hj hM
   obtain ⟨M, rfl⟩ : ∃ M', M = M' + 1 := ⟨M - 1, by omega⟩
   obtain ⟨h1, r1, h2, r2, e1, e2, s1, s2, A2⟩ := zl6 (n + 1) A (j := j) (by omega) (by omega)
   have hroom : st.1.length <= m := by obtain ⟨_, _, _, _, B, _⟩ := A; exact B.room
   have hl := zpk k j st.1
   have e3 := zdq (n + 3) s1 s2 (by omega) (by omega)
   obtain ⟨h', e, A3⟩ := ih (j + 1) M h2 A2 (by omega) (by omega)
   refine ⟨h', ?_, A3⟩
   rw [<- e, zG]
   have key : ∀ nx, WX (n + 4) (.ptr oa 0) (.ptr ob 0) [v0, .int .i64 (kv : Int)] next [v0, .int .i64 ((j + 1 : Nat) : Int)] h nx = nx [v0, .int .i64 ((j + 1 + 1 : Nat) : Int)] h2 := by
    intro nx
    unfold WX
    simp only [gv, zg, zi]
    rw [QB, za, zm, if_pos (by simp; omega), e1, zM, zx, e2, zM, zx, e3, zM, zx, Y9, za, zm, if_neg (by decide), zK, za, Xu (by omega)]
   rw [key]
def wt (l : List De) : Nat := (l.map fun d => 2 + d.bits.length + d.ops.length).sum
theorem zbW (l : List De) (j : Nat) (d : De) (h : l[j]? = some d) : wt (l.take (j + 1)) = wt (l.take j) + (2 + d.bits.length + d.ops.length) := by
 have hj := (zh.1 h).1
 have : l.take (j + 1) = l.take j ++ [d] := by rw [List.take_add_one, h]; rfl
 unfold wt
 rw [this, ZD, List.sum_append]
 simp
theorem zpO (l : List De) (j : Nat) : wt (l.take j) <= wt l := by
 have : l = l.take j ++ l.drop j := (Zt j l).symm
 unfold wt
 conv => rhs; rw [this, ZD, List.sum_append]
 omega
def zot (d : De) : Prop := QZ d.bits = true /\ d.ops.length <= 1000 /\ ∀ o ∈ d.ops, 0 <= o.k /\ o.k < 256
theorem zl7 {k m : Nat} (hm : m <= 1000) (ds : List De) (dsb : Bool) (hds : ∀ d ∈ ds, zot d) (hw : wt ds <= 2000) (hdl : ds.length <= 1000) {oa sa ca ob sb cc : Nat} : ∀ (d j M : Nat) (h : zd) (st : St), Two k m h oa sa ca ob sb cc st -> j + d = ds.length -> d < M -> st.2.length <= 8 * wt (ds.take j) →
    ∃ H, zV M (WY 6000 (ds.map De.w) dsb (.ptr oa 0) (.ptr ob 0)) [.bool false, .int .i64 (j : Int)] h = some (.ret [.bool true], H) := by
 have hlim : 100000 < lim := by unfold lim; omega
 intro d
 induction d with
 | zero =>
   intro j M h st A hj hM hb
   obtain ⟨M, rfl⟩ : ∃ M', M = M' + 1 := ⟨M - 1, by omega⟩
   refine ⟨h, ?_⟩
   rw [zG]
   unfold WY
   simp only [gv, zg, zi]
   rw [zu, za, zm, if_neg (by simp; omega)]
 | succ d ih =>
   intro j M h st A hj hM hb
   obtain ⟨M, rfl⟩ : ∃ M', M = M' + 1 := ⟨M - 1, by omega⟩
   have hjl : j < ds.length := by omega
   have hd : ds[j]? = some ds[j] := zf hjl
   obtain ⟨q1, q2, q3⟩ := hds _ (ZY hjl)
   generalize ds[j] = de at hd q1 q2 q3
   have hwt := zbW ds j de hd
   have hwl := zpO ds (j + 1)
   obtain ⟨h1, h2, e1, e2, A2⟩ := zon 5998 A de.bits false q1 (by omega) (by omega)
   generalize hst2 : (st.1, st.2 ++ de.bits.flatMap qa) = st2 at A2
   have h22 : st2.2.length <= 8 * wt (ds.take (j + 1)) := by rw [<- hst2, zC, zjU]; omega
   obtain ⟨h3, T1, h4, T2, e3, e4, R1, R2, A4⟩ := zqg 5992 A2 de.ops false q3 q2 (by omega)
   have h32 := zl4 k m de.ops st2
   have hlen := zoi k m de.ops st2
   generalize jd k m de.ops st2 = q at R1 R2 A4 h32 hlen
   have e5 := zjT 5999 R1.sees R2.sees (by omega) (by omega)
   rw [hlen] at e5
   have hroom : q.1.1.length <= m := by obtain ⟨_, _, _, _, B, _⟩ := A4; exact B.room
   obtain ⟨h5, r1, h6, r2, e6, e7, s1, s2, A6⟩ := zl5 5996 A4 (by omega)
   have e8 := zdq 5999 s1 s2 (by rw [zt]; omega) (by rw [zt]; omega)
   obtain ⟨h7, e9, A7⟩ := zos 5996 hm (by omega) (V.bool false) j (by omega) (zV M (WY 6000 (ds.map De.w) dsb (.ptr oa 0) (.ptr ob 0))) 8 0 6000 h6 A6 (by omega) (by omega)
   obtain ⟨H, ef⟩ := ih (j + 1) M h7 q.1 A7 (by omega) (by omega) (by omega)
   refine ⟨H, ?_⟩
   have g1 : (De.w de)[1]? = some (.sl 1 (de.bits.map (Xh .u8)) false) := rfl
   have g2 : (De.w de)[2]? = some (.sl 2 (de.ops.map O.w) false) := rfl
   have hi : ZW 3 j (.sl 3 (ds.map De.w) dsb) = some (.iptr 3 (De.w de) 0) := Qd (by rw [zF, hd]; rfl) dsb
   have key : ∀ nx, WY 6000 (ds.map De.w) dsb (.ptr oa 0) (.ptr ob 0) [.bool false, .int .i64 (j : Int)] h nx = zV 6000 (WX 6000 (.ptr oa 0) (.ptr ob 0) [.bool false, .int .i64 (j : Int)] nx) [.bool false, .int .i64 1] h6 := by
    intro nx
    unfold WY
    simp only [gv, zg, zi]
    rw [zu, za, zm, if_pos (by simp; omega), Zj, zD, hi, za]
    simp only [ZL, za, zr, esP]
    rw [Xg, zo, if_pos (by decide), g1, za, e1, zM, zD, hi, za, za, Xg, zo, if_pos (by decide), g1, za, e2, zM, zD, hi, za]
    rw [g2, za, e3]
    simp only [clH]
    rw [zx, zD, hi, za]
    rw [g2, za, e4]
    simp only [clH]
    rw [zx, e5]
    simp only [clH]
    rw [zx, Y9, za, zm, if_neg (by decide), e6]
    simp only [clH]
    rw [zx, e7]
    simp only [clH]
    rw [zx, e8]
    simp only [clH]
    rw [zx, Y9, za, zm, if_neg (by decide)]
   rw [zG, key]
   exact e9.trans ef
theorem zeV {k : Nat} (hk : k = 1 \/ k = 2 \/ k = 3) (m : Int) (ds : List De) (dsb : Bool) (hds : ∀ d ∈ ds, zot d) (hw : wt ds <= 2000) (hdl : ds.length <= 1000) (hfr : V.free.freeL [.sl 3 (ds.map De.w) dsb] = true) (h : zd) :
    call 6001 26 [.int .u8 (k : Int), .int .i64 m, .sl 3 (ds.map De.w) dsb] h = some (.ret [.bool true], h) := by
 refine (zmS 6000 (k : Int) m (ds.map De.w) dsb h).trans ?_
 have key : ∃ H, zmR 6000 (k : Int) m (ds.map De.w) dsb = some (.ret [.bool true], H) := by
  obtain ⟨h1, h2, oa, sa, ca, ob, sb, cc, e1, e2, A⟩ := zpl 5997 hk m
  obtain ⟨H, e⟩ := zl7 (zga m) ds dsb hds hw hdl ds.length 0 6000 h2 ([], []) A (by omega) (by omega) (by simp)
  refine ⟨H, ?_⟩
  unfold zmR
  rw [e1, zM, zx, e2, zM, zx, Jg, za, zm, if_neg (by decide), Jg, za, zm, if_neg (by decide)]
  exact e
 obtain ⟨H, key⟩ := key
 rw [key]
 exact zfr (by simpa [V.free.freeL, V.free] using hfr) (by simp)
end Go.Proofs.Tryz
namespace Go.Proofs.Tryz
open Go.L Go.Rp Go.Sk
set_option maxRecDepth 100000
def zou (d : De) : Prop := d.bits.length <= 140737488355328 /\ d.ops.length <= 140737488355328
theorem zkT (l : List De) : ∀ k, k <= l.length -> 2 * k <= wt (l.take k)
 | 0, _ => Zf _
 | k + 1, h => by
   have hd : l[k]? = some l[k] := zf (by omega)
   have := zbW l k _ hd
   have := zkT l k (by omega)
   omega
theorem zjY (n : Nat) (l : List De) (b : Bool) (hB : ∀ d ∈ l, zou d) (H : zd) : ∀ (d k M : Nat), 1001 - wt (l.take k) <= d -> d < M -> k <= l.length →
    ∃ r : Nat, zV M (Jh n (l.map De.w) b) [.int .i64 (wt (l.take k) : Int), .int .i64 (k : Int)] H = some (.ret [.int .i64 (r : Int)], H) /\ (r <= 300 -> wt l <= 300) := by
 have hlim : 100000 < lim := by unfold lim; omega
 intro d
 induction d with
 | zero =>
   intro k M h1 h2 h3
   obtain ⟨M, rfl⟩ : ∃ M', M = M' + 1 := ⟨M - 1, by omega⟩
   refine ⟨wt (l.take k), ?_, fun h => by omega⟩
   rw [zG]
   unfold Jh
   simp only [gv, zg, zi]
   rw [zu, za, zm]
   by_cases hk : k < l.length
   · rw [if_pos (by simp; omega), QB, za, zm, if_neg (by simp; omega)]
   · rw [if_neg (by simp; omega)]
 | succ d ih =>
   intro k M h1 h2 h3
   obtain ⟨M, rfl⟩ : ∃ M', M = M' + 1 := ⟨M - 1, by omega⟩
   by_cases hk : k < l.length
   · by_cases ha : wt (l.take k) <= 1000
     · have hd : l[k]? = some l[k] := zf hk
       have hlen := hB _ (ZY hk)
       generalize l[k] = de at hd hlen
       have hw := zbW l k de hd
       have hg := zkT l k h3
       obtain ⟨q1, q2⟩ := hlen
       obtain ⟨r, e, hr⟩ := ih (k + 1) M (by omega) (by omega) (by omega)
       refine ⟨r, ?_, hr⟩
       rw [<- e, zG]
       have hi : ZW 3 k (.sl 3 (l.map De.w) b) = some (.iptr 3 (De.w de) 0) := Qd (by rw [zF, hd]; rfl) b
       have g1 : (De.w de)[1]? = some (.sl 1 (de.bits.map (Xh .u8)) false) := rfl
       have g2 : (De.w de)[2]? = some (.sl 2 (de.ops.map O.w) false) := rfl
       have key : ∀ nx, Jh n (l.map De.w) b [.int .i64 (wt (l.take k) : Int), .int .i64 (k : Int)] H nx = nx [.int .i64 (wt (l.take (k + 1)) : Int), .int .i64 ((k + 1 : Nat) : Int)] H := by
        intro nx
        unfold Jh
        simp only [gv, zg, zi]
        rw [zu, za, zm, if_pos (by simp; omega), QB, za, zm, if_pos (by simp; omega), Zj, zD, hi, za]
        simp only [ZL, za, zr, esP]
        rw [Xg, zo, if_pos (by decide), g1, za, Q9, za, zD, hi, za, za, Xg, zo, if_pos (by decide), g2, za, Q9, za, zK, za, zK, za, Xu (by omega)]
        simp only [zt]
        rw [show IntKind.i64.wrap (2 + (de.bits.length : Int)) = 2 + (de.bits.length : Int) by rw [w64] <;> omega, show IntKind.i64.wrap (2 + (de.bits.length : Int) + (de.ops.length : Int)) = 2 + (de.bits.length : Int) + (de.ops.length : Int) by rw [w64] <;> omega,
         show IntKind.i64.wrap ((wt (l.take k) : Int) + (2 + (de.bits.length : Int) + (de.ops.length : Int))) = (wt (l.take (k + 1)) : Int) by rw [w64] <;> omega]
       rw [key]
     · refine ⟨wt (l.take k), ?_, fun h => by omega⟩
       rw [zG]
       unfold Jh
       simp only [gv, zg, zi]
       rw [zu, za, zm, if_pos (by simp; omega), QB, za, zm, if_neg (by simp; omega)]
   · have hkl : l.take k = l := zN (by omega)
     refine ⟨wt (l.take k), ?_, fun h => by rw [hkl] at h; exact h⟩
     rw [zG]
     unfold Jh
     simp only [gv, zg, zi]
     rw [zu, za, zm, if_neg (by simp; omega)]
theorem zjZ (n : Nat) (l : List De) (b : Bool) (hB : ∀ d ∈ l, zou d) (hn : 1010 <= n) (H : zd) :
    ∃ r : Nat, call (n + 1) 25 [.sl 3 (l.map De.w) b] H = some (.ret [.int .i64 (r : Int)], H) /\ (r <= 300 -> wt l <= 300) := by
 obtain ⟨r, e, hr⟩ := zjY n l b hB H 1001 0 n (by omega) (by omega) (Zf _)
 exact ⟨r, (ziA n _ b H).trans e, hr⟩
theorem zgc (l : List De) : V.free.freeLL (l.map De.w) = true := qI _ (fun d => by simp [De.w, qI O.w (fun _ => rfl)]) l
def zra (d : De) : Prop := QZ d.bits = true /\ (∀ o ∈ d.ops, 0 <= o.k /\ o.k < 256) /\ zou d
theorem zqh {l : List De} {d : De} (h : d ∈ l) : d.ops.length + 2 <= wt l /\ l.length <= wt l := by
 refine ⟨?_, ?_⟩
 · obtain ⟨i, hi⟩ := ZC.1 h
   have := zbW l i d hi
   have := zpO l (i + 1)
   omega
 · have := zkT l l.length (zk _)
   rw [QV] at this
   omega
theorem ziD : ∀ (l : List De), (∀ d ∈ l, zok d) -> wt l <= 83 * l.length
 | [], _ => zk _
 | d :: l, h => by
   have h1 := h d (by simp)
   have h2 := ziD l (fun x hx => h x (zp _ hx))
   have e : wt (d :: l) = (2 + d.bits.length + d.ops.length) + wt l := by simp [wt]
   rw [e, zB]
   have := h1.2.1
   have := h1.2.2.1
   omega
theorem ziE (x0 x1 x4 : Int) (ds : List De) (dsb : Bool) (c : List Int) (cb : Bool) (h0 : 0 <= x0 /\ x0 < 256) (h4 : 0 <= x4 /\ x4 < 256) (hds : ∀ d ∈ ds, zra d) (hc : QZ c = true) :
    call 6002 5 [.int .u8 x0, .int .i64 x1, .sl 3 (ds.map De.w) dsb, .sl 1 (c.map (Xh .u8)) cb, .int .u8 x4] [] = some (.ret [.bool true], []) := by
 refine (zdZ 6001 x0 x1 (ds.map De.w) dsb (c.map (Xh .u8)) cb x4 []).trans ?_
 have key : qk 6001 x0 x1 (ds.map De.w) dsb (c.map (Xh .u8)) cb x4 = some (.ret [.bool true], []) := by
  obtain ⟨k, hk⟩ : ∃ k : Nat, (k : Int) = 1 + x0 % 3 := ⟨(1 + x0 % 3).toNat, by omega⟩
  have hkk : k = 1 \/ k = 2 \/ k = 3 := by omega
  have hkw : IntKind.u8.wrap (1 + Int.tmod x0 3) = (k : Int) := by rw [Jj h0.1, w8, hk] <;> omega
  obtain ⟨r, e1, hr⟩ := zjZ 6000 ds dsb (fun d hd => (hds d hd).2.2) (by decide) []
  have hkn := zlq 5901 []
  unfold qk
  rw [hkw, e1, zM, zx, Xy, za, zm, zt]
  by_cases h1 : r <= 300
  · have hw := hr h1
    rw [if_neg (by simp; omega)]
    by_cases hl : c.length > 100
    · rw [if_pos (by simp; omega), hkn, zM, zx]
    · have hdl : ds.length <= 1000 := by
        have := zkT ds ds.length (zk _)
        rw [QV] at this
        omega
      have e2 := zeV hkk x1 ds dsb (fun d hd => ⟨(hds d hd).1, by have := (zqh hd).1; omega, (hds d hd).2.1⟩) (by omega) hdl (by simp [zgc]) []
      obtain ⟨dl, d1, d2, e3⟩ := zjX 6000 c cb hc (by omega) (by decide) []
      have hb := ziD dl d2
      have e4 := zeV hkk (IntKind.i64.wrap (Int.tmod x4 9)) dl false (fun d hd => ⟨(d2 d hd).1, by have := (d2 d hd).2.2.1; omega, (d2 d hd).2.2.2.2⟩) (by omega) (by omega) (by simp [zgc]) []
      rw [if_neg (by simp; omega), hkn, zM, zx, zm, if_pos rfl, e2, zM, zx, zm, if_pos rfl, e3, zM, zx, e4, zM, zx]
  · rw [if_pos (by simp; omega), hkn, zM, zx]
 rw [key]
 exact zfr (by simp [Xh, zgc]) (by simp)
end Go.Proofs.Tryz
