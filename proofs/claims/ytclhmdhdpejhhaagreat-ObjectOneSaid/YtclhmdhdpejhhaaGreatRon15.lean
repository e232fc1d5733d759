/- Vr Vs: what the law needs of these -/
import Derived.Test.YtclhmdhdpejhhaaGreatRon14
set_option linter.unusedVariables false
set_option linter.unusedSimpArgs false
namespace Go.Proofs.Tryz
open Go.L Go.Rp Go.Sk
set_option maxRecDepth 100000
def SVn (s : List Int) (v : V) : Prop := (∃ sb, v = .sl 1 (vL s) sb) \/ (s = [] /\ v = .sl 0 [] true)
theorem zkf (n : Nat) (m : Int) (o : O) (H : zd) :
    ∃ v, call (n + 2) 92 [.int .i64 m, .sl 0 [] true, .agg [.int .u8 o.k, .int .i32 o.v]] H = some (.ret [v, .agg (R.w (zaz (max 0 (min m 1000)) o []))], H) /\ SVn (ZC (max 0 (min m 1000)) o.k o.v []).2 v := by
 rw [show n + 2 = (n + 1) + 1 from rfl, zoy]
 unfold zpY zaz
 have a0 : app 21 1 (S.own 21 1 []) [] = some [] := Jz [] (by unfold lim; decide)
 have a1 : app 21 1 (S.own 21 1 []) [[V.int .i32 o.v]] = some (vL [o.v]) := Jz [o.v] (by simp [lim])
 by_cases k1 : o.k = 1
 · rw [if_pos (by simp [k1]), Ys, zM, zy, Z0, za, zm]
   by_cases h2 : max 0 (min m 1000) <= (0 : Int)
   · have ht : ZC (max 0 (min m 1000)) o.k o.v [] = ((3, 0), []) := by unfold ZC; rw [if_pos k1, if_neg (by simp; omega)]
     rw [if_pos (decide_eq_true h2), ht]
     exact ⟨_, rfl, .inr ⟨rfl, rfl⟩⟩
   · have ht : ZC (max 0 (min m 1000)) o.k o.v [] = ((1, 0), [o.v]) := by unfold ZC; rw [if_pos k1, if_pos (by simp; omega)]; rfl
     rw [if_neg (by intro e; exact h2 (of_decide_eq_true e)), if_pos (by simp [k1]), a0, za, a1, za, ht]
     exact ⟨_, rfl, .inl ⟨false, rfl⟩⟩
 rw [if_neg (by simp [k1]), if_neg (by simp [k1])]
 by_cases k2 : o.k = 2
 · have ht : ZC (max 0 (min m 1000)) o.k o.v [] = ((4, 0), []) := by unfold ZC; rw [if_neg k1, if_pos k2]; rfl
   rw [if_pos (by simp [k2]), if_pos (by simp [k2]), ht]
   exact ⟨_, rfl, .inr ⟨rfl, rfl⟩⟩
 · have ht : ZC (max 0 (min m 1000)) o.k o.v [] = ((5, 0), []) := by unfold ZC; rw [if_neg k1, if_neg k2]
   rw [if_neg (by simp [k2]), if_neg (by simp [k2]), ht]
   exact ⟨_, rfl, .inr ⟨rfl, rfl⟩⟩
theorem zkg (n : Nat) (m : Int) (o : O) (H : zd) :
    ∃ v, call (n + 2) 93 [.int .i64 m, .sl 0 [] true, .agg [.int .u8 o.k, .int .i32 o.v]] H = some (.ret [v, .agg (R.w (zaA (max 0 (min m 1000)) o []))], H) /\ SVn (Zi (max 0 (min m 1000)) o.k o.v []).2 v := by
 rw [show n + 2 = (n + 1) + 1 from rfl, zoz]
 unfold zpZ zaA
 have a0 : app 21 1 (S.own 21 1 []) [] = some [] := Jz [] (by unfold lim; decide)
 have a1 : app 21 1 (S.own 21 1 []) [[V.int .i32 o.v]] = some (vL [o.v]) := Jz [o.v] (by simp [lim])
 have a2 : app 21 1 (S.own 21 1 (vL [o.v])) [] = some (vL [o.v]) := zaN [o.v] [] (by simp [lim])
 rw [Ys, zM, zy, Z0, za]
 generalize hmo : max 0 (min m 1000) = mo
 by_cases hlo : o.k < 1
 · have ht : Zi mo o.k o.v [] = ((5, 0), []) := by unfold Zi; rw [if_neg (by omega), if_neg (by omega), if_neg (by omega), if_neg (by omega)]
   rw [if_pos (decide_eq_true hlo), ht]
   exact ⟨_, rfl, .inr ⟨rfl, rfl⟩⟩
 rw [if_neg (by simpa using hlo)]
 by_cases hhi : o.k > 4
 · have ht : Zi mo o.k o.v [] = ((5, 0), []) := by unfold Zi; rw [if_neg (by omega), if_neg (by omega), if_neg (by omega), if_neg (by omega)]
   rw [if_pos (decide_eq_true hhi), ht]
   exact ⟨_, rfl, .inr ⟨rfl, rfl⟩⟩
 rw [if_neg (by simpa using hhi)]
 by_cases h2 : o.k <= 2
 · rw [if_pos (decide_eq_true h2), zm]
   by_cases hf : mo <= (0 : Int)
   · have ht : Zi mo o.k o.v [] = ((3, 0), []) := by
       unfold Zi
       by_cases k1 : o.k = 1
       · rw [if_pos k1, if_neg (by simp; omega)]
       · rw [if_neg k1, if_pos (by omega), if_neg (by simp; omega)]
     rw [if_pos (decide_eq_true hf), ht]
     exact ⟨_, rfl, .inr ⟨rfl, rfl⟩⟩
   · rw [if_neg (by intro e; exact hf (of_decide_eq_true e)), if_neg (by simp; omega)]
     by_cases k1 : o.k = 1
     · have ht : Zi mo o.k o.v [] = ((1, 0), [o.v]) := by unfold Zi; rw [if_pos k1, if_pos (by simp; omega)]
       rw [if_pos (by simp [k1]), a1, za, a2, za, ht]
       exact ⟨_, rfl, .inl ⟨false, rfl⟩⟩
     · have k2 : o.k = 2 := by omega
       have ht : Zi mo o.k o.v [] = ((1, 0), [o.v]) := by unfold Zi; rw [if_neg k1, if_pos k2, if_pos (by simp; omega)]; rfl
       rw [if_neg (by simp [k1]), if_pos (by simp [k2]), a0, za, a1, za, ht]
       exact ⟨_, rfl, .inl ⟨false, rfl⟩⟩
 rw [if_neg (by simpa using h2), if_pos (by simp; omega)]
 have ht : Zi mo o.k o.v [] = ((4, 0), []) := by
  unfold Zi
  rw [if_neg (by omega), if_neg (by omega)]
  by_cases k3 : o.k = 3
  · rw [if_pos k3]
  · rw [if_neg k3, if_pos (by omega)]; rfl
 rw [ht]
 exact ⟨_, rfl, .inr ⟨rfl, rfl⟩⟩
def JM (k : Nat) (m : Int) (o : O) (s : List Int) : List Int × R := if k = 3 then Yf m s o else J0 k m o s
def SVk (k : Nat) (s : List Int) (v : V) : Prop := ∃ z sb, v = .sl z (vL s) sb /\ (z = 1 \/ (s = [] /\ (k = 3 \/ (z = 0 /\ sb = true))))
theorem zpy (n : Nat) {k : Nat} (hk : k = 1 \/ k = 2 \/ k = 3) (m : Nat) (hm : m <= 1000) (s : List Int) (v : V) (hv : SVk k s v) (o : O) (H : zd) (hl : s.length + 2 < lim) (hn : s.length + 2 <= n) :
    ∃ v', call (n + 3) 63 [.int .u8 (k : Int), .int .i64 (m : Int), v, .agg [.int .u8 o.k, .int .i32 o.v]] H = some (.ret [v', .agg (R.w (JM k (m : Int) o s).2)], H) /\ SVk k (JM k (m : Int) o s).1 v' := by
 have hcl : max 0 (min (m : Int) 1000) = (m : Int) := by omega
 obtain ⟨z, sb, rfl, hz⟩ := hv
 rcases hk with h1 | h1 | h1
 · have hst : JM k (m : Int) o s = J0 k (m : Int) o s := if_neg (by omega)
   rw [hst]
   by_cases z1 : z = 1
   · subst z1
     obtain ⟨sb', e⟩ := zag n (k := k) (.inl h1) (m : Int) s sb o H hl
     rw [hcl] at e
     exact ⟨_, e, 1, sb', rfl, .inl rfl⟩
   · obtain ⟨rfl, h3⟩ := hz.resolve_left z1
     obtain ⟨rfl, rfl⟩ := h3.resolve_left (by omega)
     subst h1
     obtain ⟨v', e, hv'⟩ := zkf n (m : Int) o []
     rw [hcl] at e hv'
     refine ⟨v', (zkb (n + 2) (m : Int) o.k o.v H).trans ?_, ?_⟩
     · have key : zgk (n + 2) (m : Int) o.k o.v = some (.ret [v', .agg (R.w (J0 1 (m : Int) o []).2)], []) := by
         unfold zgk
         rw [e, zM]
         rfl
       rw [key]
       rcases hv' with ⟨sb', rfl⟩ | ⟨_, rfl⟩
       · exact Ym (by simp) (by simp [XL, R.w])
       · exact Ym (by simp) (by simp [XL, R.w])
     · rcases hv' with ⟨sb', rfl⟩ | ⟨hs, rfl⟩
       · exact ⟨1, sb', rfl, .inl rfl⟩
       · refine ⟨0, true, ?_, .inr ⟨hs, .inr ⟨rfl, rfl⟩⟩⟩
         show _ = V.sl 0 (vL (ZC (m : Int) o.k o.v []).2) true
         rw [hs]; rfl
 · have hst : JM k (m : Int) o s = J0 k (m : Int) o s := if_neg (by omega)
   rw [hst]
   by_cases z1 : z = 1
   · subst z1
     obtain ⟨sb', e⟩ := zag n (k := k) (.inr h1) (m : Int) s sb o H hl
     rw [hcl] at e
     exact ⟨_, e, 1, sb', rfl, .inl rfl⟩
   · obtain ⟨rfl, h3⟩ := hz.resolve_left z1
     obtain ⟨rfl, rfl⟩ := h3.resolve_left (by omega)
     subst h1
     obtain ⟨v', e, hv'⟩ := zkg n (m : Int) o []
     rw [hcl] at e hv'
     refine ⟨v', (zkc (n + 2) (m : Int) o.k o.v H).trans ?_, ?_⟩
     · have key : zgl (n + 2) (m : Int) o.k o.v = some (.ret [v', .agg (R.w (J0 2 (m : Int) o []).2)], []) := by
         unfold zgl
         rw [e, zM]
         rfl
       rw [key]
       rcases hv' with ⟨sb', rfl⟩ | ⟨_, rfl⟩
       · exact Ym (by simp) (by simp [XL, R.w])
       · exact Ym (by simp) (by simp [XL, R.w])
     · rcases hv' with ⟨sb', rfl⟩ | ⟨hs, rfl⟩
       · exact ⟨1, sb', rfl, .inl rfl⟩
       · refine ⟨0, true, ?_, .inr ⟨hs, .inr ⟨rfl, rfl⟩⟩⟩
         show _ = V.sl 0 (vL (Zi (m : Int) o.k o.v []).2) true
         rw [hs]; rfl
 · subst h1
   have hst : JM 3 (m : Int) o s = Yf (m : Int) s o := if_pos rfl
   rw [hst]
   obtain ⟨z', sb', e, hz'⟩ := ziR (n + 1) (m : Int) s z sb (hz.imp id (fun h => h.1)) o H hl (by omega)
   rw [hcl] at e hz'
   exact ⟨_, e, z', sb', rfl, hz'.imp id (fun h => ⟨h, .inl rfl⟩)⟩
end Go.Proofs.Tryz
namespace Go.Proofs.Tryz
open Go.L Go.Rp Go.Sk
set_option maxRecDepth 100000
def jE (k : Nat) (m : Int) : List O -> List Int -> List R × List Int
 | [], s => ([], s)
 | o :: l, s => ((JM k m o s).2 :: (jE k m l (JM k m o s).1).1, (jE k m l (JM k m o s).1).2)
theorem zeU (k : Nat) (m : Int) (o : O) (s : List Int) : (JM k m o s).1.length <= s.length + 1 := by
 unfold JM
 split
 · exact zoE ..
 · exact zmx ..
theorem zq2 (x : R) : Wi prog 28 1 [(0, .agg (R.w x))] = some (2, [R.w x]) := by kernel_rfl
theorem zpz (e : Nat) (a : List R) (x : R) (h : a.length + 1 < lim) : app e 2 (.own e 2 (a.map R.w)) [R.w x] = some ((a ++ [x]).map R.w) := by
 simp [app, h]
theorem zoI (n : Nat) {k : Nat} (hk : k = 1 \/ k = 2 \/ k = 3) (m : Nat) (hm : m <= 1000) (os : List O) (b : Bool) (H : zd) (hlim : os.length < lim) : ∀ (d M : Nat) (s : List Int) (v : V) (done : List R) (v1 v2 : V), done.length + d = os.length -> d < M -> s.length + d + 2 < lim -> s.length + d + 2 <= n -> SVk k s v →
    ∃ v', zY M (zaf (n + 3) (k : Int) (m : Int) (os.map O.w) b) [v, v1, v2, .sl 2 (done.map R.w) false, .int .i64 (done.length : Int)] H = some (.ret [v', .sl 2 ((done ++ (jE k (m : Int) (os.drop done.length) s).1).map R.w) false], H) /\ SVk k (jE k (m : Int) (os.drop done.length) s).2 v' := by
 intro d
 induction d with
 | zero =>
   intro M s v done v1 v2 h1 h2 hl hn hv
   obtain ⟨M, rfl⟩ : ∃ M', M = M' + 1 := ⟨M - 1, by omega⟩
   rw [ZQ (by omega)]
   refine ⟨v, ?_, hv⟩
   rw [zH]
   unfold zaf
   simp only [gv, zh, zf]
   rw [zw, za, zm, if_neg (by simp; omega)]
   simp [lsl, jE]
 | succ d ih =>
   intro M s v done v1 v2 h1 h2 hl hn hv
   obtain ⟨M, rfl⟩ : ∃ M', M = M' + 1 := ⟨M - 1, by omega⟩
   have hlt : done.length < os.length := by omega
   have hdr : os.drop done.length = os[done.length] :: os.drop (done.length + 1) := zX hlt
   obtain ⟨v3, e1, hv3⟩ := zpy n hk m hm s v hv os[done.length] H (by omega) (by omega)
   generalize hq : JM k (m : Int) os[done.length] s = q at e1 hv3
   have hql : q.1.length <= s.length + 1 := hq ▸ zeU k _ _ s
   have hov : (os.map O.w)[done.length]? = some (O.w os[done.length]) := by rw [KZ, zg hlt]; rfl
   have hou : V.agg (List.take 2 (List.drop 0 (O.w os[done.length]))) = .agg [.int .u8 os[done.length].k, .int .i32 os[done.length].v] := rfl
   have hrw : V.agg (List.take 2 (List.drop 0 (setR [V.int .u8 0, V.int .i32 0] 0 (R.w q.2)))) = .agg (R.w q.2) := rfl
   obtain ⟨v4, e2, hv4⟩ := ih M q.1 v3 (done ++ [q.2]) (.sl 1 (lsl v1) false) (.sl 2 (lsl v2) false) (by simp; omega) (by omega) (by omega) (by omega) hv3
   rw [zF, Zt] at e2 hv4
   rw [hdr]
   simp only [jE, hq]
   refine ⟨v4, ?_, hv4⟩
   have key : ∀ next, zaf (n + 3) (k : Int) (m : Int) (os.map O.w) b [v, v1, v2, .sl 2 (done.map R.w) false, .int .i64 (done.length : Int)] H next = next [v3, .sl 1 (lsl v1) false, .sl 2 (lsl v2) false, .sl 2 ((done ++ [q.2]).map R.w) false, .int .i64 ((done.length + 1 : Nat) : Int)] H := by
    intro next
    unfold zaf
    simp only [gv, zh, zf, lsl]
    rw [zw, za, zm, if_pos (by simp; omega), Zh, zx, XU hov, za, Z1, zn, if_pos (by decide), hou, e1, zM]
    simp only [zb, zi, za]
    rw [show V.cells (V.agg (R.w q.2)) = R.w q.2 from rfl, if_pos (by rfl), if_pos (by exact zl 2), hrw, zq2, za, zpz _ _ _ (by omega), za, zN, za, XM (by omega)]
   rw [zH, key, e2]
   simp
theorem zoJ (n : Nat) {k : Nat} (hk : k = 1 \/ k = 2 \/ k = 3) (m : Nat) (hm : m <= 1000) (os : List O) (b : Bool) (H : zd) (hlim : os.length + 2 < lim) (hn : os.length + 2 <= n) :
    ∃ v', call (n + 4) 16 [.int .u8 (k : Int), .int .i64 (m : Int), .sl 0 [] true, .sl 2 (os.map O.w) b] H = some (.ret [v', .sl 2 ((jE k (m : Int) os []).1.map R.w) false], H) /\ SVk k (jE k (m : Int) os []).2 v' := by
 obtain ⟨v', e, hv⟩ := zoI n hk m hm os b H (by omega) os.length (n + 3) [] (.sl 0 [] true) [] (.sl 1 [] false) (.sl 2 [] false) (by simp) (by omega) (by simpa using hlim) (by simpa using hn) ⟨0, true, rfl, .inr ⟨rfl, .inr ⟨rfl, rfl⟩⟩⟩
 exact ⟨v', (zpw (n + 3) _ _ _ b H).trans (by unfold zq1; simpa using e), by simpa using hv⟩
theorem zoK {k : Nat} (hk : k = 1 \/ k = 2 \/ k = 3) (m : Nat) (o : O) (st : St) : (jD k m [o] st).1.1.map Prod.fst = (JM k (m : Int) o (st.1.map Prod.fst)).1 /\ (jD k m [o] st).2 = [(JM k (m : Int) o (st.1.map Prod.fst)).2] := by
 rcases hk with h1 | h1 | h1
 · have h2 := zeT (.inl h1) m [o] st
   rw [Prod.mk.injEq] at h2
   have hst : JM k (m : Int) o (st.1.map Prod.fst) = J0 k (m : Int) o (st.1.map Prod.fst) := if_neg (by omega)
   rw [h2.1, h2.2, hst]
   exact ⟨rfl, rfl⟩
 · have h2 := zeT (.inr h1) m [o] st
   rw [Prod.mk.injEq] at h2
   have hst : JM k (m : Int) o (st.1.map Prod.fst) = J0 k (m : Int) o (st.1.map Prod.fst) := if_neg (by omega)
   rw [h2.1, h2.2, hst]
   exact ⟨rfl, rfl⟩
 · subst h1
   have h3 : jD 3 m [o] st = YP [o] (m : Int) st := by unfold jD; rw [if_neg (by decide), if_neg (by decide)]
   have hst : JM 3 (m : Int) o (st.1.map Prod.fst) = Yf (m : Int) (st.1.map Prod.fst) o := if_pos rfl
   have h4 := zoG (m : Int) st o
   rw [Prod.mk.injEq] at h4
   rw [h3, hst, zmk]
   exact ⟨h4.1, by rw [<- h4.2]⟩
theorem zqx (x : R) : bop prog .neq 35 (.agg (R.w x)) (.agg (R.w x)) = some (.bool false) := by
 refine (zo1 x x).trans ?_
 simp
theorem SVk.sees {k : Nat} {s : List Int} {v : V} (hv : SVk k s v) (h : zd) : zdN h v s := by
 obtain ⟨z, sb, rfl, hz⟩ := hv
 exact zpx h (hz.imp id (fun h => h.1))
theorem zkh {k m : Nat} (hkk : k = 1 \/ k = 2 \/ k = 3) (hm : m <= 20) (os : List O) (hos : os.length <= 100) (hks : ∀ o ∈ os, 0 <= o.k /\ o.k < 256) (told : List R) (vs : V) (sEnd : List Int) {o s c : Nat} {cb : Option Nat} {pl : Bool} (hvs : SVk k sEnd vs) (hse : sEnd.length <= 1000) : ∀ (d j M : Nat) (h : zd) (Y : List Nat) (st : St), ObAt k h o s c cb Y m pl st -> j + d = os.length -> d < M -> told.drop j = (jE k (m : Int) (os.drop j) (st.1.map Prod.fst)).1 -> sEnd = (jE k (m : Int) (os.drop j) (st.1.map Prod.fst)).2 →
    ∃ H, zY M (JZ 3000 (.sl 2 (os.map O.w) false) (.ptr o 0) vs (.sl 2 (told.map R.w) false)) [.bool false, .int .i64 (j : Int)] h = some (.ret [.bool true], H) := by
 have hlim : 100000 < lim := by unfold lim; omega
 intro d
 induction d with
 | zero =>
   intro j M h Y st A hj hM ht hs
   obtain ⟨M, rfl⟩ : ∃ M', M = M' + 1 := ⟨M - 1, by omega⟩
   rw [ZQ (by omega)] at hs
   have hs' : sEnd = st.1.map Prod.fst := hs
   obtain ⟨h1, r, e1, S1, l1, o1⟩ := zdP 2996 A (by omega)
   have A1 := A.keep (h' := h1) (fun y hy => o1 y (A.lt y hy))
   rw [<- hs'] at S1
   have e2 := zj2 2999 S1.sees (hvs.sees h1) (by omega) (by omega)
   obtain ⟨h2, tb, e3, R3⟩ := ziN 2992 A1 (by omega)
   refine ⟨h2, ?_⟩
   rw [zH]
   unfold JZ
   simp only [gv, zf, zh]
   rw [XD, za, zw, za, zm, if_neg (by simp; omega), zlK 2900 h, zM, zy, zm, if_pos rfl, e1, zM, zy, e2, zM, zy, zm, if_pos rfl, e3, zM, zy]
   have := R3.slc
   rw [zG] at this
   rw [this, za]
   rfl
 | succ d ih =>
   intro j M h Y st A hj hM ht hs
   obtain ⟨M, rfl⟩ : ∃ M', M = M' + 1 := ⟨M - 1, by omega⟩
   have hjl : j < os.length := by omega
   have hov : os[j]? = some os[j] := zg hjl
   have hkj := hks _ (Xm hjl)
   have hdr : os.drop j = os[j] :: os.drop (j + 1) := zX hjl
   rw [hdr] at ht hs
   simp only [jE] at ht hs
   generalize os[j] = op at hov hkj ht hs
   obtain ⟨h1, Y1, T, e1, R1, A1, t1, t2, F1⟩ := zj5 2992 A [op] false (fun x hx => by rw [ZV.1 hx]; exact hkj) (by simp) (by simp; omega)
   obtain ⟨q1, q2⟩ := zoK hkk m op st
   have htj : told[j]? = some (JM k (m : Int) op (st.1.map Prod.fst)).2 := by
    have := congrArg (fun l : List R => l[0]?) ht
    simpa using this
   have ht' : told.drop (j + 1) = (jE k (m : Int) (os.drop (j + 1)) (JM k (m : Int) op (st.1.map Prod.fst)).1).1 := by
    have := congrArg (List.drop 1) ht
    simpa [J3, Nat.add_comm] using this
   rw [<- q1] at ht' hs
   obtain ⟨H, e⟩ := ih (j + 1) M h1 Y1 _ A1 (by omega) (by omega) ht' hs
   refine ⟨H, ?_⟩
   rw [zH, <- e]
   rw [q2] at R1
   generalize (JM k (m : Int) op (st.1.map Prod.fst)).2 = r at R1 htj
   have hsl := R1.slc
   obtain ⟨g1, g2⟩ := R1.get (i := 0) (x := r) rfl 0
   rw [Zt] at hsl g1
   have hou : V.agg (List.take 2 (List.drop 0 (O.w op))) = .agg (O.w op) := rfl
   have hrr : V.agg (List.take 2 (List.drop 0 (R.w r))) = .agg (R.w r) := rfl
   have key : ∀ nx, JZ 3000 (.sl 2 (os.map O.w) false) (.ptr o 0) vs (.sl 2 (told.map R.w) false) [.bool false, .int .i64 (j : Int)] h nx = nx [.bool false, .int .i64 ((j + 1 : Nat) : Int)] h1 := by
    intro nx
    unfold JZ
    simp only [gv, zf, zh]
    rw [XD, za, zw, za, zm, if_pos (by simp; omega), Zh, zx, XU (es := O.w op) (by rw [KZ, hov]; rfl), za, Z1, zn, if_pos (by decide), hou, zpO, za]
    rw [show [O.w op] = [op].map O.w from rfl, e1, zM, zy]
    rw [show [op].length = 1 from rfl, hsl, za, if_neg (by simp), g1, za, g2, zn, if_pos (by decide), zx, XU (es := R.w r) (by rw [K0, htj]; rfl), za, Z1, zn, if_pos (by decide), hrr, zqx, za, zm, if_neg (by decide), zN, za, XM (by omega)]
   rw [key]
theorem zmy (x0 x1 : Int) (c : List Int) (cb pl : Bool) (h0 : 0 <= x0 /\ x0 < 256) (h1 : 0 <= x1 /\ x1 < 256) (hc : za7 c = true) :
    call 3001 3 [.int .u8 x0, .int .u8 x1, .sl 1 (c.map (XL .u8)) cb, .bool pl] [] = some (.ret [.bool true], []) := by
 refine (ziO 3000 x0 x1 (c.map (XL .u8)) cb pl []).trans ?_
 have key : ∃ H, zdj 3000 x0 x1 (c.map (XL .u8)) cb pl = some (.ret [.bool true], H) := by
  obtain ⟨k, hk⟩ : ∃ k : Nat, (k : Int) = 1 + x0 % 3 := ⟨(1 + x0 % 3).toNat, by omega⟩
  have hkk : k = 1 \/ k = 2 \/ k = 3 := by omega
  have hkw : IntKind.u8.wrap (1 + Int.tmod x0 3) = (k : Int) := by rw [Jg h0.1, w8, hk] <;> omega
  obtain ⟨m, hm⟩ : ∃ m : Nat, (m : Int) = x1 % 12 := ⟨(x1 % 12).toNat, by omega⟩
  have hmw : IntKind.i64.wrap (Int.tmod x1 12) = (m : Int) := by rw [Jg h1.1, w64, hm] <;> omega
  have ol := zps c 4
  have e0 := zoo 3000 c 1 cb 4 [] (.inl rfl) hc (by decide) (by decide) (by decide)
  obtain ⟨g1, o, s, cc, Y, e1, A1⟩ := ziK 2997 hkk (m : Int) pl
  rw [zke (by omega)] at A1
  obtain ⟨v, e2, hv⟩ := zoJ 2996 hkk m (by omega) (ops c 4) false g1 (by unfold lim; omega) (by omega)
  have hsl : ∀ (l : List O) (s : List Int), (jE k (m : Int) l s).2.length <= s.length + l.length := by
   intro l
   induction l with
   | nil => intro s; exact zl _
   | cons p l ih =>
     intro s
     have h1 := ih (JM k (m : Int) p s).1
     have h2 := zeU k (m : Int) p s
     simp only [jE, zE]
     omega
  have hse := hsl (ops c 4) []
  simp only [zG, zu] at hse
  obtain ⟨H, e⟩ := zkh hkk (by omega) (ops c 4) (by omega) (zqw hc (by decide) (by decide)) (jE k (m : Int) (ops c 4) []).1 v (jE k (m : Int) (ops c 4) []).2 hv (by omega) (ops c 4).length 0 3000 g1 Y ([], []) A1 (by omega) (by omega) rfl rfl
  refine ⟨H, ?_⟩
  unfold zdj
  rw [e0, zM, zy, hkw, hmw, e1, zM, zy, Yr, za, zm, if_neg (by decide), e2, zM]
  simp only [zb, zi, za]
  exact e
 obtain ⟨H, key⟩ := key
 rw [key]
 exact Ym (by simp [XL]) (by simp)
end Go.Proofs.Tryz
