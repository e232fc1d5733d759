/- Ug: what the law needs of these -/
import Derived.Test.YtclhmdhdpejhhaaGreatRsp14
set_option linter.unusedVariables false
set_option linter.unusedSimpArgs false
namespace Go.Proofs.Tryz
open Go.L Go.Rp Go.Sk
set_option maxRecDepth 100000
theorem zpd (n : Nat) {k : Nat} (hk : k = 1 \/ k = 2 \/ k = 3) (m : Nat) (hm : m <= 1000) (st : St) (room : st.1.length <= m) (z : Nat) (sb : Bool) (hz : z = 1 \/ (k = 3 /\ st.1.map Prod.fst = [])) (os : List O) (b : Bool) (hs : zbu os) (hos : os.length <= 1000) (hn : 2500 <= n) (H : zd) :
    ∃ z' sb', call (n + 4) 22 [.int .u8 (k : Int), .int .i64 (m : Int), .sl z (vL (st.1.map Prod.fst)) sb, .sl 2 (os.map O.w) b] H = some (.ret [.sl z' (vL ((Yi k m os st).1.1.map Prod.fst)) sb', .sl 2 ((Yi k m os st).2.map R.w) false], H) /\ (z' = 1 \/ (k = 3 /\ (Yi k m os st).1.1.map Prod.fst = [])) := by
 have hcl : max 0 (min (m : Int) 1000) = (m : Int) := by omega
 have hlim : 100000 < lim := by unfold lim; omega
 have hsl : (st.1.map Prod.fst).length <= 1000 := by rw [zx]; omega
 rcases hk with h1 | h1 | h1
 · obtain rfl : z = 1 := hz.resolve_right (by rintro ⟨h, _⟩; omega)
   obtain ⟨sb', e⟩ := zan n (k := k) (.inl h1) (m : Int) (st.1.map Prod.fst) sb os b H (by omega) (by omega)
   have h2 := ze1 (.inl h1) m os st
   rw [Prod.mk.injEq] at h2
   rw [hcl, <- h2.1, <- h2.2] at e
   exact ⟨1, sb', e, .inl rfl⟩
 · obtain rfl : z = 1 := hz.resolve_right (by rintro ⟨h, _⟩; omega)
   obtain ⟨sb', e⟩ := zan n (k := k) (.inr h1) (m : Int) (st.1.map Prod.fst) sb os b H (by omega) (by omega)
   have h2 := ze1 (.inr h1) m os st
   rw [Prod.mk.injEq] at h2
   rw [hcl, <- h2.1, <- h2.2] at e
   exact ⟨1, sb', e, .inl rfl⟩
 · subst h1
   obtain ⟨z', sb', e, hz'⟩ := ziR (n + 1) (m : Int) (st.1.map Prod.fst) z sb os b H (hz.imp id (fun h => h.2)) hs (by omega) (by omega)
   have h2 := zmJ os (m : Int) st
   have h3 : Yi 3 m os st = WJ os (m : Int) st := by unfold Yi; rw [if_neg (by decide), if_neg (by decide)]
   rw [Prod.mk.injEq] at h2
   rw [hcl] at e hz'
   rw [h3]
   have h4 : (WJ os (m : Int) st).1.1.map Prod.fst = (zgn os (m : Int) (st.1.map Prod.fst)).1 := h2.1
   have h5 : (WJ os (m : Int) st).2 = (zgn os (m : Int) (st.1.map Prod.fst)).2 := h2.2
   rw [h4, h5]
   exact ⟨z', sb', e, hz'.imp id (fun h => ⟨rfl, h⟩)⟩
theorem ziV : ∀ (l : List Bool) (n : Nat), (hgt n l).2.length <= l.length
 | [], n => zk _
 | b :: r, n => by
   simp only [hgt]
   split
   · exact zk _
   · split
     · have := ziV r (n + 1); simp; omega
     · simp
theorem zpe (m : Int) (st : St) (o : O) : (stp m st o).1.2.length <= st.2.length := by
 unfold stp
 split
 · split
   · exact zk _
   · exact ziV ..
 · split
   · split <;> exact zk _
   · exact zk _
theorem ze2 (os : List O) (m : Int) : ∀ (l : List Int) (st : St) (told : List R), (J5 os m l st told).1.2.length <= st.2.length
 | [], st, told => zk _
 | k :: l, st, told => Xn (ze2 os m l _ _) (zpe m st _)
theorem zmO (k m : Nat) (os : List O) (st : St) : (Yi k m os st).1.2.length <= st.2.length := by
 unfold Yi
 split
 · exact zk _
 split
 · exact zk _
 · exact ze2 ..
theorem zkq (l : List Int) : (l.flatMap zaL).length = 8 * l.length := by
 induction l with
 | nil => rfl
 | cons x l ih => rw [List.flatMap_cons, zB, ih]; simp [zaL]; omega
theorem zkr {ds : List De} {j : Nat} {d : De} (h : ds[j]? = some d) : ZK 3 j (.sl 3 (ds.map De.w) false) = some (.iptr 3 (De.w d) 0) := Xl (by rw [zI, h]; rfl) false
theorem zmP (x0 x1 : Int) {k m : Nat} (hkw : IntKind.u8.wrap (1 + Int.tmod x0 3) = (k : Int)) (hmw : IntKind.i64.wrap (Int.tmod x1 12) = (m : Int)) (hkk : k = 1 \/ k = 2 \/ k = 3) (hm : m <= 20) (ds : List De) (hds : ∀ d ∈ ds, zpa d) (hdl : ds.length <= 20) {o s c : Nat} {pl : Bool} : ∀ (d j M : Nat) (h : zd) (cb : Option Nat) (Y : List Nat) (st : St) (z : Nat) (sb : Bool), ObAt k h o s c cb Y m pl st -> j + d = ds.length -> d < M -> st.2.length <= 8 * j -> (z = 1 \/ (k = 3 /\ st.1.map Prod.fst = [])) →
    ∃ H, zV M (Jx 3000 x0 x1 (.ptr o 0) (.sl 3 (ds.map De.w) false)) [.bool false, .sl z (vL (st.1.map Prod.fst)) sb, .int .i64 (j : Int)] h = some (.ret [.bool true], H) := by
 have hlim : 100000 < lim := by unfold lim; omega
 intro d
 induction d with
 | zero =>
   intro j M h cb Y st z sb A hj hM hb hz
   obtain ⟨M, rfl⟩ : ∃ M', M = M' + 1 := ⟨M - 1, by omega⟩
   refine ⟨h, ?_⟩
   rw [zD]
   unfold Jx
   simp only [gv, zf, zh]
   rw [Xb, za, zt, za, zm, if_neg (by simp; omega), zew 2900 h, zM, zE]
 | succ d ih =>
   intro j M h cb Y st z sb A hj hM hb hz
   obtain ⟨M, rfl⟩ : ∃ M', M = M' + 1 := ⟨M - 1, by omega⟩
   have hjl : j < ds.length := by omega
   have hd : ds[j]? = some ds[j] := zg hjl
   obtain ⟨q1, q2, q3, q4, q5⟩ := hds _ (Z9 hjl)
   generalize ds[j] = de at hd q1 q2 q3 q4 q5
   obtain ⟨h2, cb2, e2, A2, F2⟩ := zgp 2998 A de.bits false q1 (by omega) (by omega)
   generalize hst2 : (st.1, st.2 ++ de.bits.flatMap zaL) = st2 at A2
   have h21 : st2.1 = st.1 := by rw [<- hst2]
   have h22 : st2.2.length <= 8 * (j + 1) := by rw [<- hst2, zB, zkq]; omega
   obtain ⟨z1, sb1, e1, hz1⟩ := zpd 2996 hkk m (by omega) st2 A2.room z sb (by rw [h21]; exact hz) de.ops false q4 (by omega) (by decide) h
   rw [h21] at e1
   obtain ⟨h3, Y3, T, e3, b3, A3, b4, b5, F3⟩ := zkk 2992 A2 de.ops false q5 (by omega) (by omega)
   have h32 := zmO k m de.ops st2
   have hlen := zo9 k m de.ops st2
   generalize Yi k m de.ops st2 = q at e1 hz1 b3 A3 h32 hlen
   have e4 := zkh 2999 b3.sees (zoW h3 q.2 false) (by omega) (by omega)
   rw [hlen] at e4
   obtain ⟨h5, r, e5, S5, l5, o5⟩ := zd4 2996 A3 (by omega)
   have A5 := A3.keep (h' := h5) (fun y hy => o5 y (A3.lt y hy))
   have hroom := A3.room
   have e6 := zj8 2999 S5.sees (zp1 h5 (z := z1) (sb := sb1) (hz1.imp id (fun h => h.2))) (by rw [zx]; omega) (by rw [zx]; omega)
   obtain ⟨H, ef⟩ := ih (j + 1) M h5 cb2 Y3 q.1 z1 sb1 A5 (by omega) (by omega) (by omega) hz1
   refine ⟨H, ?_⟩
   rw [zD, <- ef]
   have g1 : (De.w de)[1]? = some (.sl 1 (de.bits.map (Xf .u8)) false) := rfl
   have g2 : (De.w de)[2]? = some (.sl 2 (de.ops.map O.w) false) := rfl
   have key : ∀ nx, Jx 3000 x0 x1 (.ptr o 0) (.sl 3 (ds.map De.w) false) [.bool false, .sl z (vL (st.1.map Prod.fst)) sb, .int .i64 (j : Int)] h nx = nx [.bool false, .sl z1 (vL (q.1.1.map Prod.fst)) sb1, .int .i64 ((j + 1 : Nat) : Int)] h5 := by
    intro nx
    unfold Jx
    simp only [gv, zf, zh]
    rw [Xb, za, zt, za, zm, if_pos (by simp; omega), Zd, zw, zkr hd, za]
    simp only [ZU, za, zr]
    rw [ZC, zo, if_pos (by decide), g2, za, hkw, hmw, e1, zM]
    simp only [zb, zj, za]
    rw [zw, zkr hd, za, za, ZC, zo, if_pos (by decide), g1, za, e2, zM, zw, zkr hd, za, za, ZC, zo, if_pos (by decide), g2, za, e3, zM, zE, e4, zM, zE, Ki, za, zm, if_neg (by decide), e5, zM, zE]
    rw [show V.sl z1 (vL (q.1.1.map Prod.fst)) sb1 = V.sl z1 (vL (q.1.1.map Prod.fst)) sb1 from rfl, e6, zM, zE, Ki, za, zm, if_neg (by decide), zK, za, Xv (by omega)]
   rw [key]
theorem zd5 (x0 x1 : Int) (c : List Int) (cb pl : Bool) (h0 : 0 <= x0 /\ x0 < 256) (h1 : 0 <= x1 /\ x1 < 256) (hc : Jg c = true) :
    call 3001 4 [.int .u8 x0, .int .u8 x1, .sl 1 (c.map (Xf .u8)) cb, .bool pl] [] = some (.ret [.bool true], []) := by
 refine (zfA 3000 x0 x1 (c.map (Xf .u8)) cb pl []).trans ?_
 have key : ∃ H, zaJ 3000 x0 x1 (c.map (Xf .u8)) cb pl = some (.ret [.bool true], H) := by
  obtain ⟨k, hk⟩ : ∃ k : Nat, (k : Int) = 1 + x0 % 3 := ⟨(1 + x0 % 3).toNat, by omega⟩
  have hkk : k = 1 \/ k = 2 \/ k = 3 := by omega
  have hkw : IntKind.u8.wrap (1 + Int.tmod x0 3) = (k : Int) := by rw [QA h0.1, w8, hk] <;> omega
  obtain ⟨m, hm⟩ : ∃ m : Nat, (m : Int) = x1 % 12 := ⟨(x1 % 12).toNat, by omega⟩
  have hmw : IntKind.i64.wrap (Int.tmod x1 12) = (m : Int) := by rw [QA h1.1, w64, hm] <;> omega
  obtain ⟨g1, o, s, cc, Y, e1, A1⟩ := ziU 2997 hkk (m : Int) pl
  rw [zkm (by omega)] at A1
  unfold zaJ
  rw [hkw, hmw, e1, zM, zE, jo, za, zm, if_neg (by decide), zx]
  by_cases hl : c.length > 100
  · refine ⟨g1, ?_⟩
    rw [if_pos (by simp; omega), zao, za, zm, if_pos rfl, zew 2900 g1, zM, zE]
  · obtain ⟨ds, d1, d2, d3⟩ := zkp 2999 c cb hc (by omega) (by decide) g1
    obtain ⟨H, e⟩ := zmP x0 x1 hkw hmw hkk (by omega) ds d2 d1 ds.length 0 3000 g1 none Y ([], []) 1 false A1 (by omega) (by omega) (by simp) (.inl rfl)
    refine ⟨H, ?_⟩
    rw [if_neg (by simp; omega), d3, zM, zE]
    exact e
 obtain ⟨H, key⟩ := key
 rw [key]
 exact WS (by simp [Xf]) (by simp)
end Go.Proofs.Tryz
