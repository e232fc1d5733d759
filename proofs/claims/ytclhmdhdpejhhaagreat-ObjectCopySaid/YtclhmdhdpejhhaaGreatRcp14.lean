/- Tg Tb Th Kt Ks Ku Kl Ti Kb Lso SortL SortM: what the law needs of these -/
import Derived.Test.YtclhmdhdpejhhaaGreatRcp13
set_option linter.unusedVariables false
set_option linter.unusedSimpArgs false
namespace Go.Proofs.Tryz
open Go.L Go.Rp Go.Sk
set_option maxRecDepth 100000
def znN (n s q r mp : Nat) (osb : Bool) (os : List O) (h : ze) (done : List R) (d : Nat) (t : (Int × Int)) (h' : ze) : Prop :=
 ∀ next, QO n s (os.map O.w) osb q r os.length (.map mp) [.sl 2 [] false, .sl 2 (done.map cdC ++ ([.int .u8 0, .int .i32 0] :: List.replicate d [.int .u8 0, .int .i32 0])) false, .bool false, .int .i64 (done.length : Int)] h next = next [.sl 2 [] false, .sl 2 ((done ++ [(⟨t.1, t.2⟩ : R)]).map cdC ++ List.replicate d [.int .u8 0, .int .i32 0]) false, .bool false, .int .i64 ((done.length + 1 : Nat) : Int)] h'
theorem Jw (done : List R) (d : Nat) (a : Int) : done.length < (done.map cdC ++ ([V.int .u8 a, V.int .i32 0] :: List.replicate d [V.int .u8 0, V.int .i32 0])).length := by simp
theorem jO (n s q qb r mp B : Nat) (osb : Bool) (m : Nat) (os : List O) {sb : Nat -> Option Nat} {h0 h : ze} {ws : Nat -> List Nat} {v : Nat -> V} {xs : List Int} {done : List R} {d : Nat} (L : ELay B s q qb r mp) (I : EInv B s q qb r m h0 h sb ws v xs done (d + 1))
    (hmp0 : h0[mp]? = some (.map YI)) (hd : done.length + (d + 1) = os.length) (hl : tot ws xs + 1 < lim) (hos : os.length < lim) (o : O) (ho : os[done.length]? = some o) (e : Nat) (e2 : e < 2) (hf : QJ [0] (.int .u8 o.k) YI 0 = some (some e)) (he : Wx YI (.agg [.bool false, .int .i64 0]) (some e) = some (.agg [.bool true, .int .i64 (e : Int)])) :
    ∃ h' sb' v', znN (n + 3) s q r mp osb os h done d (WE (m : Int) done.length e ws xs).1 h' /\ EInv B s q qb r m h0 h' sb' (WE (m : Int) done.length e ws xs).2.1 v' (WE (m : Int) done.length e ws xs).2.2 (done ++ [⟨(WE (m : Int) done.length e ws xs).1.1, (WE (m : Int) done.length e ws xs).1.2⟩]) d := by
 have hlt : done.length < os.length := by omega
 have hix : Xa 2 done.length (.sl 2 (os.map O.w) osb) = some (.iptr 2 (O.w o) 0) := by simp [Xa, ho]
 have hmp : Yu h (.map mp) = some YI := zaB ((I.rest mp L.m1 L.sm.symm L.qm.symm L.bm.symm L.rm.symm).trans hmp0)
 have hwrap : IntKind.i64.wrap ((done.length : Int) + 1) = ((done.length + 1 : Nat) : Int) := XF (by omega)
 have g0 : (setR [V.bool false, V.int .i64 0] 0 (V.cells (V.agg [V.bool true, V.int .i64 (e : Int)])))[0]? = some (.bool true) := rfl
 have g1 : (setR [V.bool false, V.int .i64 0] 0 (V.cells (V.agg [V.bool true, V.int .i64 (e : Int)])))[1]? = some (.int .i64 (e : Int)) := rfl
 unfold tot at hl
 unfold WE
 by_cases hm : ((xs.length + (ws 0).length + (ws 1).length : Nat) : Int) < (m : Int)
 · rw [if_pos hm]
   obtain ⟨h', v', ec, c1, c2⟩ := zdR (n + 2) I.mt e2 done.length (by omega) (by omega)
   refine ⟨h', _, v', ?_, (I.meet L c1 c2).told 1⟩
   intro next
   unfold QO
   simp only [gv, zg, zk, lsl]
   rw [zC, zb, zo, if_pos (by simp; omega), Zo, zH, hix, zb]
   simp only [zu]
   rw [zl, if_pos (by decide), zP, QB, if_pos (XR _), if_pos (by rw [XR]; decide), W3]
   simp only [O.w, za, zb]
   rw [hmp, zH, K4, zb, hf, zH, he, zb, if_pos (by refine ⟨?_, ?_, ?_⟩ <;> first | trivial | rfl), if_pos (by rfl), if_pos (by exact zm 2)]
   rw [if_neg (by simp), g0, zb, zo, if_pos rfl, g1, zb, ec, zK, zw, zo, if_pos rfl, zH, if_pos (by refine ⟨?_, Jw _ _ _, by decide⟩; first | trivial | rfl), X2, zb, zM, zb, hwrap, XE, QQ (v := 0)]
 · rw [if_neg hm]
   have ec := zdQ (n + 2) I.mt (e : Int) (done.length : Int) (by omega) (by omega)
   refine ⟨h, sb, v, ?_, I.told 3⟩
   intro next
   unfold QO
   simp only [gv, zg, zk, lsl]
   rw [zC, zb, zo, if_pos (by simp; omega), Zo, zH, hix, zb]
   simp only [zu]
   rw [zl, if_pos (by decide), zP, QB, if_pos (XR _), if_pos (by rw [XR]; decide), W3]
   simp only [O.w, za, zb]
   rw [hmp, zH, K4, zb, hf, zH, he, zb, if_pos (by refine ⟨?_, ?_, ?_⟩ <;> first | trivial | rfl), if_pos (by rfl), if_pos (by exact zm 2)]
   rw [if_neg (by simp), g0, zb, zo, if_pos rfl, g1, zb, ec, zK, zw, zo, if_neg (by decide), zb, zo, if_pos rfl, zH, if_pos (by refine ⟨?_, Jw _ _ _, by decide⟩; first | trivial | rfl), X2, zb, zM, zb, hwrap, XE, QQ (v := 0)]
theorem qS (n s q qb r mp B : Nat) (osb : Bool) (m : Nat) (os : List O) {sb : Nat -> Option Nat} {h0 h : ze} {ws : Nat -> List Nat} {v : Nat -> V} {xs : List Int} {done : List R} {d : Nat} (L : ELay B s q qb r mp) (I : EInv B s q qb r m h0 h sb ws v xs done (d + 1))
    (hmp0 : h0[mp]? = some (.map YI)) (hd : done.length + (d + 1) = os.length) (hw : Below2 done.length ws) (hl : tot ws xs + 1 < lim) (hm : m < 100000) (hos : os.length < lim) (o : O) (ho : os[done.length]? = some o) (e k : Nat) (e2 : e < 2) (hf : QJ [0] (.int .u8 o.k) YI 0 = some (some k)) (he : Wx YI (.agg [.bool false, .int .i64 0]) (some k) = some (.agg [.bool false, .int .i64 (e : Int)])) :
    ∃ h' sb' v', znN (n + 3) s q r mp osb os h done d (qR (valsOf os) e ws xs).1 h' /\ EInv B s q qb r m h0 h' sb' (qR (valsOf os) e ws xs).2.1 v' (qR (valsOf os) e ws xs).2.2 (done ++ [⟨(qR (valsOf os) e ws xs).1.1, (qR (valsOf os) e ws xs).1.2⟩]) d := by
 have hlt : done.length < os.length := by omega
 have hix : Xa 2 done.length (.sl 2 (os.map O.w) osb) = some (.iptr 2 (O.w o) 0) := by simp [Xa, ho]
 have hmp : Yu h (.map mp) = some YI := zaB ((I.rest mp L.m1 L.sm.symm L.qm.symm L.bm.symm L.rm.symm).trans hmp0)
 have hwrap : IntKind.i64.wrap ((done.length : Int) + 1) = ((done.length + 1 : Nat) : Int) := XF (by omega)
 have g0 : (setR [V.bool false, V.int .i64 0] 0 (V.cells (V.agg [V.bool false, V.int .i64 (e : Int)])))[0]? = some (.bool false) := rfl
 have g1 : (setR [V.bool false, V.int .i64 0] 0 (V.cells (V.agg [V.bool false, V.int .i64 (e : Int)])))[1]? = some (.int .i64 (e : Int)) := rfl
 have hll : (done.map vlC ++ List.replicate (d + 1) [V.int .i32 0]).length = os.length := by simp; omega
 have hwd : ∀ a, a < 2 -> (ws a).length <= (ws 0).length + (ws 1).length := fun a ha => by
  obtain rfl | rfl : a = 0 \/ a = 1 := by omega
  · omega
  · omega
 unfold tot at hl
 have hw1 := hwd e e2
 unfold qR
 rcases ZD (ws e) with hn | ⟨w0, w, hc⟩
 · rw [hn]
   simp only [List.getLast?_nil]
   cases hp : Yk e xs with
   | some p =>
     simp only []
     have hxl := zeI hp
     have hmt := I.mt
     rw [<- hxl] at hmt
     obtain ⟨h1, v1, ec, c1, c2, c3⟩ := zhB (n + 1) hmt e2 hn (by omega)
     have hst : RngAt h1 q qb m xs := I.st.keep (c3 q L.sq.symm) (c3 qb L.sb.symm)
     obtain ⟨h2, ea, d1, d2, d3, d4⟩ := zjM n (os := os.map O.w) (osb := osb) (i := done.length) e2 ((c3 r L.sr.symm).trans I.row) qQ (by rw [hll]; exact hlt) hst hm L.qr.symm L.br.symm hp
     rw [hll] at ea
     have hB : ∀ a b, a < 2 -> sb a = some b -> h2[b]? = h1[b]? := fun a b ha hb => by
      have := I.fr a b ha hb; have := L.q1; have := L.b1; have := L.r1
      exact d4 b (by omega) (by omega) (by omega)
     refine ⟨h2, sb, v1, ?_, ⟨c1.keep (d4 s L.sq L.sb L.sr) hB, I.fr, by rw [d3, c2]; exact I.le, d1, by rw [d2, zbQ done d 2 p.1], fun j j1 j2 j3 j4 j5 => (d4 j j3 j4 j5).trans ((c3 j j2).trans (I.rest j j1 j2 j3 j4 j5))⟩⟩
     intro next
     unfold QO
     simp only [gv, zg, zk, lsl]
     rw [zC, zb, zo, if_pos (by simp; omega), Zo, zH, hix, zb]
     simp only [zu]
     rw [zl, if_pos (by decide), zP, QB, if_pos (XR _), if_pos (by rw [XR]; decide), W3]
     simp only [O.w, za, zb]
     rw [hmp, zH, K4, zb, hf, zH, he, zb, if_pos (by refine ⟨?_, ?_, ?_⟩ <;> first | trivial | rfl), if_pos (by rfl), if_pos (by exact zm 2)]
     rw [if_neg (by simp), g0, zb, zo, if_neg (by decide), zb, zo, if_neg (by decide), zH, if_pos (by refine ⟨?_, Jw _ _ _, by decide⟩; first | trivial | rfl), X2, zb, g1, zb, ec, zK]
     simp only [za, zi, zb]
     rw [zo, if_pos rfl, zH, XE, if_pos (by refine ⟨?_, Jw _ _ _, by decide⟩; first | trivial | rfl), X2, zb, ea, zK, zM, zb, hwrap, XE, QQ (v := p.1)]
   | none =>
     simp only []
     have hx0 : xs = [] := by
      unfold Yk at hp
      split at hp
      · cases xs with
        | nil => rfl
        | cons y r => cases hp
      · rcases ZD xs with rfl | ⟨x0, x, rfl⟩
        · rfl
        · simp at hp
     subst hx0
     cases hf2 : ws (1 - e) with
     | nil =>
       simp only []
       have ec := zfL (n + 1) I.mt e2 hn hf2
       refine ⟨h, sb, v, ?_, I.told 4⟩
       intro next
       unfold QO
       simp only [gv, zg, zk, lsl]
       rw [zC, zb, zo, if_pos (by simp; omega), Zo, zH, hix, zb]
       simp only [zu]
       rw [zl, if_pos (by decide), zP, QB, if_pos (XR _), if_pos (by rw [XR]; decide), W3]
       simp only [O.w, za, zb]
       rw [hmp, zH, K4, zb, hf, zH, he, zb, if_pos (by refine ⟨?_, ?_, ?_⟩ <;> first | trivial | rfl), if_pos (by rfl), if_pos (by exact zm 2)]
       rw [if_neg (by simp), g0, zb, zo, if_neg (by decide), zb, zo, if_neg (by decide), zH, if_pos (by refine ⟨?_, Jw _ _ _, by decide⟩; first | trivial | rfl), X2, zb, g1, zb, ec, zK]
       simp only [za, zi, zb]
       rw [zo, if_neg (by decide), zM, zb, hwrap, XE, QQ (v := 0)]
     | cons w r' =>
       simp only []
       obtain ⟨h1, v1, ec, c1, c2, c3⟩ := zhC (n + 1) I.mt e2 hn hf2
       have hwl : w < os.length := by have := hw (1 - e) (by omega) w (by rw [hf2]; simp); omega
       have I1 := I.meet L c1 (EFed.of c2 c3)
       have ea := zeJ (n + 2) (q := q) (osb := osb) (i := done.length) (os := os) e2 I1.row qQ (by rw [hll]; exact hlt) hwl
       rw [hll] at ea
       have hv : valsOf os w = os[w].v := by simp [valsOf, zf hwl]
       rw [hv]
       have hrB : ∀ a b, a < 2 -> sb a = some b -> r ≠ b := fun a b ha hb k => by have := I.fr a b ha hb; have := L.r1; omega
       refine ⟨_, sb, v1, ?_, I1.num L 2 os[w].v (I1.mt.keep (zd L.sr.symm) (fun a b ha hb => zd (hrB a b ha hb))) (I1.st.keep (zd L.qr.symm) (zd L.br.symm)) (zp ..) (Xf (zQ I1.row) _) (fun j _ _ h3 => zd (Ne.symm h3))⟩
       intro next
       unfold QO
       simp only [gv, zg, zk, lsl]
       rw [zC, zb, zo, if_pos (by simp; omega), Zo, zH, hix, zb]
       simp only [zu]
       rw [zl, if_pos (by decide), zP, QB, if_pos (XR _), if_pos (by rw [XR]; decide), W3]
       simp only [O.w, za, zb]
       rw [hmp, zH, K4, zb, hf, zH, he, zb, if_pos (by refine ⟨?_, ?_, ?_⟩ <;> first | trivial | rfl), if_pos (by rfl), if_pos (by exact zm 2)]
       rw [if_neg (by simp), g0, zb, zo, if_neg (by decide), zb, zo, if_neg (by decide), zH, if_pos (by refine ⟨?_, Jw _ _ _, by decide⟩; first | trivial | rfl), X2, zb, g1, zb, ec, zK]
       simp only [za, zi, zb]
       rw [zo, if_pos rfl, zH, XE, if_pos (by refine ⟨?_, Jw _ _ _, by decide⟩; first | trivial | rfl), X2, zb, ea, zK, zM, zb, hwrap, XE, QQ (v := os[w].v)]
 · rw [X3] at hc
   have hgl : (ws e).getLast? = some w := by rw [hc]; simp
   have hdl : (ws e).dropLast = w0 := by rw [hc]; simp
   rw [hgl, hdl]
   simp only []
   have hwl0 : (ws e).length = w0.length + 1 := by rw [hc]; simp
   obtain ⟨h1, v1, ec, c1, c2, c3⟩ := zfK (n + 1) I.mt e2 hc (by omega)
   have hwl : w < os.length := by have := hw e e2 w (by rw [hc]; simp); omega
   have I1 := I.meet L c1 (EFed.of c2 c3)
   have ea := zeJ (n + 2) (q := q) (osb := osb) (i := done.length) (os := os) e2 I1.row qQ (by rw [hll]; exact hlt) hwl
   rw [hll] at ea
   have hv : valsOf os w = os[w].v := by simp [valsOf, zf hwl]
   rw [hv]
   have hrB : ∀ a b, a < 2 -> sb a = some b -> r ≠ b := fun a b ha hb k => by have := I.fr a b ha hb; have := L.r1; omega
   refine ⟨_, sb, v1, ?_, I1.num L 2 os[w].v (I1.mt.keep (zd L.sr.symm) (fun a b ha hb => zd (hrB a b ha hb))) (I1.st.keep (zd L.qr.symm) (zd L.br.symm)) (zp ..) (Xf (zQ I1.row) _) (fun j _ _ h3 => zd (Ne.symm h3))⟩
   intro next
   unfold QO
   simp only [gv, zg, zk, lsl]
   rw [zC, zb, zo, if_pos (by simp; omega), Zo, zH, hix, zb]
   simp only [zu]
   rw [zl, if_pos (by decide), zP, QB, if_pos (XR _), if_pos (by rw [XR]; decide), W3]
   simp only [O.w, za, zb]
   rw [hmp, zH, K4, zb, hf, zH, he, zb, if_pos (by refine ⟨?_, ?_, ?_⟩ <;> first | trivial | rfl), if_pos (by rfl), if_pos (by exact zm 2)]
   rw [if_neg (by simp), g0, zb, zo, if_neg (by decide), zb, zo, if_neg (by decide), zH, if_pos (by refine ⟨?_, Jw _ _ _, by decide⟩; first | trivial | rfl), X2, zb, g1, zb, ec, zK]
   simp only [za, zi, zb]
   rw [zo, if_pos rfl, zH, XE, if_pos (by refine ⟨?_, Jw _ _ _, by decide⟩; first | trivial | rfl), X2, zb, ea, zK, zM, zb, hwrap, XE, QQ (v := os[w].v)]
theorem zfS (n s q qb r mp B : Nat) (osb : Bool) (m : Nat) (os : List O) {sb : Nat -> Option Nat} {h0 h : ze} {ws : Nat -> List Nat} {v : Nat -> V} {xs : List Int} {done : List R} {d : Nat} (L : ELay B s q qb r mp) (I : EInv B s q qb r m h0 h sb ws v xs done (d + 1))
    (hmp0 : h0[mp]? = some (.map YI)) (hd : done.length + (d + 1) = os.length) (hw : Below2 done.length ws) (hl : tot ws xs + 1 < lim) (hm : m < 100000) (hos : os.length < lim) (o : O) (ho : os[done.length]? = some o) :
    ∃ h' sb' v' t, t = JL (m : Int) (valsOf os) done.length o.k ws xs /\ znN (n + 3) s q r mp osb os h done d t.1 h' /\ EInv B s q qb r m h0 h' sb' t.2.1 v' t.2.2 (done ++ [⟨t.1.1, t.1.2⟩]) d := by
 have hfa := znM o.k
 by_cases k1 : o.k = 1
 · obtain ⟨h', sb', v', a, b⟩ := jO n s q qb r mp B osb m os L I hmp0 hd hl hos o ho 0 (by decide) (by rw [hfa, if_pos k1]) rfl
   exact ⟨h', sb', v', _, rfl, by unfold JL; rw [if_pos k1]; exact ⟨a, b⟩⟩
 by_cases k2 : o.k = 2
 · obtain ⟨h', sb', v', a, b⟩ := jO n s q qb r mp B osb m os L I hmp0 hd hl hos o ho 1 (by decide) (by rw [hfa, if_neg k1, if_pos k2]) rfl
   exact ⟨h', sb', v', _, rfl, by unfold JL; rw [if_neg k1, if_pos k2]; exact ⟨a, b⟩⟩
 by_cases k3 : o.k = 3
 · obtain ⟨h', sb', v', a, b⟩ := qS n s q qb r mp B osb m os L I hmp0 hd hw hl hm hos o ho 0 2 (by decide) (by rw [hfa, if_neg k1, if_neg k2, if_pos k3]) rfl
   exact ⟨h', sb', v', _, rfl, by unfold JL; rw [if_neg k1, if_neg k2, if_pos k3]; exact ⟨a, b⟩⟩
 by_cases k4 : o.k = 4
 · obtain ⟨h', sb', v', a, b⟩ := qS n s q qb r mp B osb m os L I hmp0 hd hw hl hm hos o ho 1 3 (by decide) (by rw [hfa, if_neg k1, if_neg k2, if_neg k3, if_pos k4]) rfl
   exact ⟨h', sb', v', _, rfl, by unfold JL; rw [if_neg k1, if_neg k2, if_neg k3, if_pos k4]; exact ⟨a, b⟩⟩
 refine ⟨h, sb, v, _, rfl, ?_⟩
 have ht : JL (m : Int) (valsOf os) done.length o.k ws xs = ((5, 0), ws, xs) := by unfold JL; rw [if_neg k1, if_neg k2, if_neg k3, if_neg k4]
 rw [ht]
 refine ⟨?_, I.told 5⟩
 have hlt : done.length < os.length := by omega
 have hix : Xa 2 done.length (.sl 2 (os.map O.w) osb) = some (.iptr 2 (O.w o) 0) := by simp [Xa, ho]
 have hmp : Yu h (.map mp) = some YI := zaB ((I.rest mp L.m1 L.sm.symm L.qm.symm L.bm.symm L.rm.symm).trans hmp0)
 have hwrap : IntKind.i64.wrap ((done.length : Int) + 1) = ((done.length + 1 : Nat) : Int) := XF (by omega)
 have hf : QJ [0] (.int .u8 o.k) YI 0 = some none := by rw [hfa, if_neg k1, if_neg k2, if_neg k3, if_neg k4]
 have he : Wx YI (.agg [.bool false, .int .i64 0]) none = some (.agg [.bool false, .int .i64 0]) := rfl
 intro next
 unfold QO
 simp only [gv, zg, zk, lsl]
 rw [zC, zb, zo, if_pos (by simp; omega), Zo, zH, hix, zb]
 simp only [zu]
 rw [zl, if_pos (by decide), zP, QB, if_pos (XR _), if_pos (by rw [XR]; decide), W3]
 simp only [O.w, za, zb]
 rw [hmp, zH, K4, zb, hf, zH, he, zb, if_pos (by refine ⟨?_, ?_, ?_⟩ <;> first | trivial | rfl), if_pos (by rfl), if_pos (by exact zm 2)]
 rw [if_pos (by rfl), zH, if_pos (by refine ⟨?_, Jw _ _ _, by decide⟩; first | trivial | rfl), X2, zb, zM, zb, hwrap, XE, QQ (v := 0)]
theorem zfT (n s q qb r mp B : Nat) (osb : Bool) (m : Nat) (os : List O) {h0 : ze} (L : ELay B s q qb r mp) (hmp0 : h0[mp]? = some (.map YI)) (hm : m < 100000) (hos : os.length < lim) : ∀ (d N : Nat) (h : ze) (sb : Nat -> Option Nat) (ws : Nat -> List Nat) (v : Nat -> V) (xs : List Int) (done : List R), EInv B s q qb r m h0 h sb ws v xs done d -> done.length + d = os.length -> d < N -> Below2 done.length ws -> tot ws xs <= m →
    ∃ h' sb' v' z, z = jz (m : Int) (valsOf os) (os.drop done.length) done.length ws xs /\ Ze N (QO (n + 3) s (os.map O.w) osb q r os.length (.map mp)) [.sl 2 [] false, .sl 2 (done.map cdC ++ List.replicate d [.int .u8 0, .int .i32 0]) false, .bool false, .int .i64 (done.length : Int)] h = some (.ret [.row h'.length 2 0 os.length], h' ++ [.row 35 2 ((done ++ z.1).map cdC) true]) /\ EInv B s q qb r m h0 h' sb' z.2.1 v' z.2.2 (done ++ z.1) 0 := by
 intro d
 induction d with
 | zero =>
   intro N h sb ws v xs done I h1 h2 hw hl
   obtain ⟨N, rfl⟩ : ∃ N', N = N' + 1 := ⟨N - 1, by omega⟩
   refine ⟨h, sb, v, _, rfl, ?_, ?_⟩
   · rw [zL]
     unfold QO
     simp only [gv, zg, zk]
     rw [zC, zb, zo, if_neg (by simp; omega), Z9 (by omega)]
     simp only [lsl, jz, Zn, QK, zA]
     rw [show done.length = os.length by omega]
   · rw [Z9 (by omega)]
     simp only [jz, Zn]
     exact I
 | succ d ih =>
   intro N h sb ws v xs done I h1 h2 hw hl
   obtain ⟨N, rfl⟩ : ∃ N', N = N' + 1 := ⟨N - 1, by omega⟩
   have hi : done.length < os.length := by omega
   have hlim : m + 1 < lim := by unfold lim; omega
   obtain ⟨h', sb', v', t, rfl, key, I'⟩ := zfS n s q qb r mp B osb m os L I hmp0 h1 hw (by omega) hm hos os[done.length] (zf hi)
   have hok := zh6 m (valsOf os) done.length os[done.length].k hw hl
   obtain ⟨h'', sb'', v'', z, hz, e', I''⟩ := ih N h' sb' _ v' _ _ I' (by simp; omega) (by omega) (by simpa using hok.1) hok.2.1
   have hd : os.drop done.length = os[done.length] :: os.drop (done.length + 1) := zW hi
   rw [zE, ZL] at hz e'
   refine ⟨h'', sb'', v'', _, rfl, ?_, ?_⟩
   · rw [hd, zL, Xn, key, e', hz]
     simp [jz]
   · rw [hd]
     rw [hz] at I''
     simpa [jz] using I''
theorem zfU (n s q qb r : Nat) (osb : Bool) (m : Nat) (os : List O) {h : ze} {v : Nat -> V} {xs : List Int} (L : ELay (h.length + 1) s q qb r h.length) (hm : m < 100000) (hx : xs.length <= m) (hos : os.length < lim) (hn : os.length < n) (E : EndAt h s (fun _ => none) xs.length m (fun _ => []) v) (hb : RngAt h q qb m xs) (hr : h[r]? = some (.row 21 1 (List.replicate os.length [.int .i32 0]) true)) :
    ∃ h' sb' v' z, z = jz (m : Int) (valsOf os) os 0 (fun _ => []) xs /\ call (n + 4) 207 [.ptr s 0, .sl 2 (os.map O.w) osb, .fn 208 [.iptr 2 [.bf 203 [.ptr q 0], .bf 204 [.ptr q 0]] 0, .iptr 1 [.row r 1 0 os.length] 0, .iptr 1 [.sl 2 (os.map O.w) osb] 0]] h = some (.ret [.row h'.length 2 0 os.length], h' ++ [.row 35 2 (z.1.map cdC) true]) /\ EInv (h.length + 1) s q qb r m (h ++ [.map YI]) h' sb' z.2.1 v' z.2.2 z.1 0 := by
 have ap : ∀ j, j < h.length -> (h ++ [HB.map YI])[j]? = h[j]? := fun j hj => zj hj
 have hrl := zQ hr
 have hsl := zQ E.box
 have I : EInv (h.length + 1) s q qb r m (h ++ [.map YI]) (h ++ [.map YI]) (fun _ => none) (fun _ => []) v xs [] os.length := ⟨E.keep (ap s hsl) (fun _ _ _ e => nomatch e), (fun _ _ _ e => nomatch e), by simp, hb.keep (ap q (by have := L.q1; have := L.qm; omega)) (ap qb (by have := L.b1; have := L.bm; omega)), by rw [ap r hrl]; exact hr, fun _ _ _ _ _ _ => rfl⟩
 obtain ⟨h', sb', v', z, hz, e, I'⟩ := zfT n s q qb r h.length (h.length + 1) osb m os L zD hm (by omega) os.length (n + 3) _ _ _ _ xs [] I (by simp) (by omega) (fun _ _ _ h => (nomatch h)) (by simpa [tot] using hx)
 refine ⟨h', sb', v', z, by simpa using hz, (zl8 (n + 3) s _ osb q r _ h).trans ?_, by simpa using I'⟩
 unfold znH
 rw [zA, Zo, zH, zH, if_pos ⟨zm _, by omega, rfl⟩, znL (n + 2), zK, zw]
 simpa using e
end Go.Proofs.Tryz
namespace Go.Sk
open Go.L Go.Rp
theorem znO (most : Nat) (vals : Nat -> Int) (i : Nat) (c : Int) (ws : List Nat) (xs : List Int) (h : xs.length + ws.length <= most) : (Ql (most : Int) vals i c ws xs).2.2.length + (Ql (most : Int) vals i c ws xs).2.1.length <= most := by
 unfold Ql
 split
 · split
   · simp; omega
   · exact h
 · split
   · split
     · simp; omega
     · split
       · simp; omega
       · exact h
   · exact h
theorem zk1 (most : Nat) (vals : Nat -> Int) : ∀ (l : List O) (i : Nat) (ws : List Nat) (xs : List Int), xs.length + ws.length <= most -> (KE (most : Int) vals l i ws xs).2.2.length + (KE (most : Int) vals l i ws xs).2.1.length <= most
 | [], _, _, _, h => h
 | o :: l, i, ws, xs, h => zk1 most vals l (i + 1) _ _ (znO most vals i o.k ws xs h)
theorem znP (most : Int) (vals : Nat -> Int) (i : Nat) (c : Int) (ws : List Nat) (xs : List Int) : (Ql most vals i c ws xs).2.1.length <= ws.length + 1 := by
 unfold Ql
 split
 · split <;> simp
 · split
   · split
     · simp; omega
     · split <;> simp
   · simp
theorem zk2 (most : Int) (vals : Nat -> Int) : ∀ (l : List O) (i : Nat) (ws : List Nat) (xs : List Int), (KE most vals l i ws xs).2.1.length <= ws.length + l.length
 | [], _, _, _ => zm _
 | o :: l, i, ws, xs => by
   have h1 := zk2 most vals l (i + 1) (Ql most vals i o.k ws xs).2.1 (Ql most vals i o.k ws xs).2.2
   have h2 := znP most vals i o.k ws xs
   simp only [KE, zB]
   omega
theorem zk3 (most : Int) (vals : Nat -> Int) : ∀ (l : List O) (i : Nat) (ws : List Nat) (xs : List Int), (∀ w ∈ ws, w < i) -> ∀ w ∈ (KE most vals l i ws xs).2.1, w < i + l.length
 | [], _, _, _, h => h
 | o :: l, i, ws, xs, h => fun w hw => by
   have := zk3 most vals l (i + 1) _ _ (zh1 most vals i o.k ws xs h) w hw
   simp; omega
end Go.Sk
namespace Go.Proofs.Tryz
open Go.L Go.Rp Go.Sk
set_option maxRecDepth 100000
theorem zh7 (n : Nat) {h1 : ze} {q bo bs : Nat} {qb : Option Nat} {m : Nat} {xs : List Int} {os : List O} {osb : Bool} {v9 : V} {sz : Nat} {ws : List Nat} (hbo : h1[bo]? = some (.box 1 [.sl 2 (os.map O.w) osb])) (hbs : h1[bs]? = some (.box 1 [.ptr q 0])) (qbo : bo ≠ q /\ qb ≠ some bo) (qbs : bs ≠ q /\ qb ≠ some bs)
    (hv : ∀ h', (∀ j, j < h1.length -> j ≠ q -> qb ≠ some j -> h'[j]? = h1[j]?) -> ∀ i (hi : i < ws.length), ∃ p, Xa 1 i v9 = some p /\ ∃ cs m' o, zu h' p = some (cs, m', o) /\ (o + 1 <= m' /\ 0 < 1) /\ cs[o]? = some (.int .i64 (ws[i] : Int)))
    (hw : ∀ w ∈ ws, w < os.length) (hm : xs.length + ws.length <= m) (hl : m + 1 < lim) :
    ∀ (d i N : Nat) (h : ze) (qc : Option Nat), i + d = ws.length -> d < N -> StkAt h q qc (m : Int) (xs ++ (ws.take i).map (valsOf os)) -> Fed h1 h q qb qc →
    ∃ h' qc', Ze N (YH (n + 1) bs bo v9 (sz, ws.map JP)) [.int .i64 (i : Int)] h = some (h', false) /\ StkAt h' q qc' (m : Int) (xs ++ ws.map (valsOf os)) /\ Fed h1 h' q qb qc' := by
 intro d
 induction d with
 | zero =>
   intro i N h qc hi hN hb hf
   obtain ⟨N, rfl⟩ : ∃ N', N = N' + 1 := ⟨N - 1, by omega⟩
   rw [zL]
   unfold YH
   simp only [gv, zg]
   rw [zC, zb, zo, if_neg (by simp; omega)]
   rw [zN (by omega)] at hb
   exact ⟨h, qc, rfl, hb, hf⟩
 | succ d ih =>
   intro i N h qc hi hN hb hf
   obtain ⟨N, rfl⟩ : ∃ N', N = N' + 1 := ⟨N - 1, by omega⟩
   have hlt : i < ws.length := by omega
   have hwi : ws[i] < os.length := hw _ (Xl hlt)
   have h1l := zQ hbo
   have h2l := zQ hbs
   obtain ⟨p, e1, cs, m', o, e2, e3, e4⟩ := hv h (fun j k1 k2 k3 => hf.old j k1 k2 k3) i hlt
   have hx : (xs ++ (ws.take i).map (valsOf os)).length = xs.length + i := by simp; omega
   obtain ⟨h', qc', e5, c1, c2⟩ := jK n hb os[ws[i]].v (by rw [hx]; omega) (by rw [hx]; omega)
   have hvv : valsOf os ws[i] = os[ws[i]].v := by simp [valsOf, zf hwi]
   have hx2 : xs ++ (ws.take i).map (valsOf os) ++ [os[ws[i]].v] = xs ++ (ws.take (i + 1)).map (valsOf os) := by
    rw [XU hlt, ZC, List.append_assoc, <- hvv]; rfl
   rw [hx2] at c1
   obtain ⟨h'', qc'', e6, d1, d2⟩ := ih (i + 1) N h' qc' (by omega) (by omega) c1 (hf.trans c2)
   refine ⟨h'', qc'', ?_, d1, d2⟩
   rw [<- e6, zL]
   have key : ∀ next, YH (n + 1) bs bo v9 (sz, ws.map JP) [.int .i64 (i : Int)] h next = next [.int .i64 ((i + 1 : Nat) : Int)] h' := by
    intro next
    unfold YH
    simp only [gv, zg]
    rw [zC, zb, zo, if_pos (by simp; omega), Zo, zH, e1, zb, e2, zl, if_pos e3, e4, zb, zx ((hf.old bs h2l qbs.1 qbs.2).trans hbs), zl, if_pos (by decide)]
    simp only [za, zb]
    rw [zx ((hf.old bo h1l qbo.1 qbo.2).trans hbo), zl, if_pos (by decide)]
    simp only [za, zb]
    rw [Zo, zH, QW (es := O.w os[ws[i]]) (by rw [zJ, zf hwi]; rfl), zb]
    simp only [ZN, zb]
    rw [XP, zl, if_pos (by decide)]
    simp only [O.w, zr, zi, za, zb]
    rw [e5, zK, zw, zM, zb, XF (by unfold lim at hl ⊢; omega)]
   rw [key]
theorem zh8 (n : Nat) {h : ze} {b s q bo bs : Nat} {qb sb : Option Nat} {u m : Nat} {xs : List Int} {os : List O} {osb : Bool} {ws : List Nat} (hbb : h[b]? = some (.box 1 [.ptr s 0])) (hm : MatAt h s sb u m ws) (hbo : h[bo]? = some (.box 1 [.sl 2 (os.map O.w) osb])) (hbs : h[bs]? = some (.box 1 [.ptr q 0])) (qbo : bo ≠ q /\ qb ≠ some bo) (qbs : bs ≠ q /\ qb ≠ some bs) (hsb : ∀ b, sb = some b -> b ≠ q /\ qb ≠ some b)
    (hb : StkAt h q qb (m : Int) xs) (hw : ∀ w ∈ ws, w < os.length) (hmm : xs.length + ws.length <= m) (hl : m + 1 < lim) (hn : ws.length < n) :
    ∃ h' qb', dcl (n + 1) 179 [.ptr b 0, .ptr bs 0, .ptr bo 0] h none = some (h', false) /\ StkAt h' q qb' (m : Int) (xs ++ ws.map (valsOf os)) /\ Fed h h' q qb qb' := by
 obtain ⟨v, sz, k1, k2⟩ := hm.box
 have hv : ∀ h', (∀ j, j < h.length -> j ≠ q -> qb ≠ some j -> h'[j]? = h[j]?) -> ∀ i (hi : i < ws.length), ∃ p, Xa 1 i v = some p /\ ∃ cs m' o, zu h' p = some (cs, m', o) /\ (o + 1 <= m' /\ 0 < 1) /\ cs[o]? = some (.int .i64 (ws[i] : Int)) := by
  intro h' hk i hi
  cases sb with
  | none => rw [hm.1] at hi; simp at hi
  | some r =>
    obtain ⟨e1, l, z, e2, e3, e4, e5⟩ := hm
    obtain rfl : v = .row r 1 0 ws.length := by rw [e2] at k1; simpa using k1.symm
    have hx : l[i]? = some [.int .i64 (ws[i] : Int)] := by
     have := congrArg (fun t : List (List V) => t[i]?) e5
     simpa [JP, zX, hi] using this
    refine ⟨_, XG (by omega), _, _, _, Xr ((hk r (zQ e3) (hsb r rfl).1 (hsb r rfl).2).trans e3) (by decide) (by rw [zr]; exact hx), by decide, rfl⟩
 obtain ⟨h', qb', e, c1, c2⟩ := zh7 n (sz := sz) (v9 := v) hbo hbs qbo qbs hv hw hmm hl ws.length 0 (n + 1) h qb (by omega) (by omega) (by simpa using hb) (Fed.refl ..)
 refine ⟨h', qb', (znw (n + 1) b bs bo h).trans ?_, c1, c2⟩
 unfold zpU
 rw [zx hbb, zl, if_pos (by decide)]
 simp only [za, zb, ZN, zV]
 rw [zx k1, zl, if_pos (by decide)]
 simp only [za, zb]
 rw [k2, zb]
 exact e
theorem zdT (n : Nat) (H : ze) (r : Nat) (s : Nat) (os : List (List V)) (osb : Bool) (h5 : ze) (cs8 : List V) (n14 : Nat) (z : List R) (hr : H[r]? = some (.row 21 1 (z.map vlC) true)) (hrr : r = (((((h5 ++ [(HB.box 3 cs8)]) ++ [(HB.box 1 [(V.ptr (h5).length 0)])]) ++ [(HB.box 1 [(V.ptr s 0)])]) ++ [(HB.box 1 [(V.sl 2 os osb)])])).length) (hn14 : n14 = z.length) (hz : z.length < lim) (h' : ze) (hD : dcl n 179 [(V.ptr ((h5 ++ [(HB.box 3 cs8)])).length 0), (V.ptr (((h5 ++ [(HB.box 3 cs8)]) ++ [(HB.box 1 [(V.ptr (h5).length 0)])])).length 0), (V.ptr ((((h5 ++ [(HB.box 3 cs8)]) ++ [(HB.box 1 [(V.ptr (h5).length 0)])]) ++ [(HB.box 1 [(V.ptr s 0)])])).length 0)] (H ++ [.row 35 2 (z.map R.w) true]) none = some (h', false)) :
    ∀ (d i N : Nat), i + d = z.length -> d < N -> Ze N (JY n s os osb h5 cs8 n14 (.row H.length 2 0 z.length) (1, z.map vlC)) [.sl 2 [] false, .int .i64 (i : Int)] (H ++ [.row 35 2 ((z.take i).map R.w ++ (z.drop i).map cdC) true]) = some (.ret [.row H.length 2 0 z.length], h') := by
 intro d
 induction d with
 | zero =>
   intro i N hi hN
   obtain ⟨N, rfl⟩ : ∃ N', N = N' + 1 := ⟨N - 1, by omega⟩
   rw [zL]
   unfold JY
   simp only [gv, zg, zk]
   rw [zC, zb, zo, if_neg (by simp; omega), zN (by omega), Z9 (by omega), Jq, Zn, hD, Zd]
 | succ d ih =>
   intro i N hi hN
   obtain ⟨N, rfl⟩ : ∃ N', N = N' + 1 := ⟨N - 1, by omega⟩
   have hlt : i < z.length := by omega
   rw [zL, <- ih (i + 1) N (by omega) (by omega)]
   have hrl := zQ hr
   have key : ∀ next, JY n s os osb h5 cs8 n14 (.row H.length 2 0 z.length) (1, z.map vlC) [.sl 2 [] false, .int .i64 (i : Int)] (H ++ [.row 35 2 ((z.take i).map R.w ++ (z.drop i).map cdC) true]) next = next [.sl 2 [] false, .int .i64 ((i + 1 : Nat) : Int)] (H ++ [.row 35 2 ((z.take (i + 1)).map R.w ++ (z.drop (i + 1)).map cdC) true]) := by
    intro next
    unfold JY
    simp only [gv, zg, zk, lsl]
    rw [<- hrr, zC, zb, zo, if_pos (by simp; omega), Zo, zH, XG (by simp; omega), zb, Xr (es := vlC z[i]) (by rw [zj hrl]; exact hr) (by decide) (by simp [hlt]), zl, if_pos (by decide)]
    simp only [vlC, za, zb]
    rw [zH, XG (by omega), zb]
    simp only [ZN, zb, V.cells, zB, zO, zr, if_true]
    have hT : (H ++ [HB.row 35 2 ((z.take i).map R.w ++ (z.drop i).map cdC) true])[H.length]? = some (.row 35 2 ((z.take i).map R.w ++ (z.drop i).map cdC) true) := zD
    have hTi : ((z.take i).map R.w ++ (z.drop i).map cdC)[i]? = some (cdC z[i]) := by
     rw [zG (by simp; omega)]; simp [hlt, X0 (Nat.le_of_lt hlt)]
    rw [JK hT (by decide) (by simp) hTi, Zd, zM, zb, XF (by omega)]
    have hset : ((z.take i).map R.w ++ (z.drop i).map cdC).set i (setR (cdC z[i]) 1 [V.int .i32 z[i].v]) = (z.take (i + 1)).map R.w ++ (z.drop (i + 1)).map cdC := by
     rw [Zw _ _ (by simp; omega), zW hlt, XU hlt, zU, show i - (List.map R.w (z.take i)).length = 0 by simp; omega, JD, ZC, List.append_assoc]
     rfl
    rw [hset]
    have : ∀ x, (H ++ [HB.row 35 2 ((z.take i).map R.w ++ (z.drop i).map cdC) true]).set H.length x = H ++ [x] := fun x => by rw [Zw _ _ (zm _)]; simp
    rw [this]
   rw [key]
theorem znQ (a b : Int) : Ji prog 249 [(1, .int .i64 a), (2, .int .i64 b)] = some [.sl 0 [] true, .int .i64 a, .int .i64 b] := by kernel_rfl
theorem zda (n : Nat) {h : ze} {q : Nat} {qb : Option Nat} {m : Nat} {xs : List Int} (hb : StkAt h q qb (m : Int) xs) (os : List O) (osb : Bool) (hmm : xs.length <= m) (hl : m + 1 < lim) (hos : os.length + xs.length < lim) (hn : os.length < n) (hqb : ∀ b, qb = some b -> b < h.length) :
    ∃ h' qb' T, call (n + 5) 174 [.ptr q 0, .sl 2 (os.map O.w) osb] h = some (.ret [.row T 2 0 os.length], h') /\ h'[T]? = some (.row 35 2 ((Qx (m : Int) os xs).1.map R.w) true) /\ h.length <= T /\ qb' ≠ some T /\ StkAt h' q qb' (m : Int) (Qx (m : Int) os xs).2 /\ Fed h h' q qb qb' := by
 have hqs : qb ≠ some q := by
  intro e
  rw [e] at hb
  exact hb.1 rfl
 have hql : q < h.length := by obtain ⟨v, sz, k1, k2⟩ := hb.box; exact zQ k1
 rw [show n + 5 = (n + 4) + 1 from rfl, zhn]
 unfold zhm
 rw [Ke (n + 3) hb]
 simp only [clH]
 rw [zw, jJ (n + 3) hb]
 simp only []
 rw [zw, znQ, zb, if_pos (by rfl)]
 generalize hA : h ++ [HB.box 3 [V.sl 0 [] true, V.int .i64 (xs.length : Int), V.int .i64 (m : Int)]] = A
 generalize hB : A ++ [HB.box 1 [V.ptr h.length 0]] = B
 generalize hC : B ++ [HB.box 1 [V.ptr q 0]] = C
 generalize hD : C ++ [HB.box 1 [V.sl 2 (os.map O.w) osb]] = D
 have lA : A.length = h.length + 1 := by rw [<- hA]; simp
 have lB : B.length = h.length + 2 := by rw [<- hB]; simp; omega
 have lC : C.length = h.length + 3 := by rw [<- hC]; simp; omega
 have lD : D.length = h.length + 4 := by rw [<- hD]; simp; omega
 have aA : ∀ j, j < h.length -> A[j]? = h[j]? := fun j hj => by rw [<- hA, zj hj]
 have aB : ∀ j, j < A.length -> B[j]? = A[j]? := fun j hj => by rw [<- hB, zj hj]
 have aC : ∀ j, j < B.length -> C[j]? = B[j]? := fun j hj => by rw [<- hC, zj hj]
 have aD : ∀ j, j < C.length -> D[j]? = C[j]? := fun j hj => by rw [<- hD, zj hj]
 have eA : A[h.length]? = some (HB.box 3 [V.sl 0 [] true, V.int .i64 (xs.length : Int), V.int .i64 (m : Int)]) := by rw [<- hA]; exact zD
 have eB : B[A.length]? = some (HB.box 1 [V.ptr h.length 0]) := by rw [<- hB]; exact zD
 have eC : C[B.length]? = some (HB.box 1 [V.ptr q 0]) := by rw [<- hC]; exact zD
 have eD : D[C.length]? = some (HB.box 1 [V.sl 2 (os.map O.w) osb]) := by rw [<- hD]; exact zD
 have dA : D[h.length]? = some (HB.box 3 [V.sl 0 [] true, V.int .i64 (xs.length : Int), V.int .i64 (m : Int)]) := by rw [aD _ (by omega), aC _ (by omega), aB _ (by omega)]; exact eA
 have dB : D[A.length]? = some (HB.box 1 [V.ptr h.length 0]) := by rw [aD _ (by omega), aC _ (by omega)]; exact eB
 have dC : D[B.length]? = some (HB.box 1 [V.ptr q 0]) := by rw [aD _ (by omega)]; exact eC
 have d0 : ∀ j, j < h.length -> D[j]? = h[j]? := fun j hj => by rw [aD _ (by omega), aC _ (by omega), aB _ (by omega), aA _ hj]
 rw [zx eD, zl, if_pos (by decide)]
 simp only [za, zb]
 rw [QX, zb, zA, Zo, zH, zH, if_pos ⟨zm _, by omega, trivial⟩]
 generalize hE : D ++ [HB.row 21 1 (List.replicate os.length [V.int .i32 0]) true] = E
 have lE : E.length = h.length + 5 := by rw [<- hE]; simp; omega
 have aE : ∀ j, j < D.length -> E[j]? = D[j]? := fun j hj => by rw [<- hE, zj hj]
 have eE : E[D.length]? = some (HB.row 21 1 (List.replicate os.length [V.int .i32 0]) true) := by rw [<- hE]; exact zD
 have e0 : ∀ j, j < h.length -> E[j]? = h[j]? := fun j hj => (aE j (by omega)).trans (d0 j hj)
 have fA := (aE h.length (by omega)).trans dA
 have fB := (aE A.length (by omega)).trans dB
 have fC := (aE B.length (by omega)).trans dC
 have fD := (aE C.length (by omega)).trans eD
 rw [zx fB, zl, if_pos (by decide)]
 simp only [za, zb]
 rw [zx fD, zl, if_pos (by decide)]
 simp only [za, zb]
 rw [Qw]
 have L : Lay E.length h.length q C.length B.length D.length qb := ⟨by omega, by omega, by omega, by omega, by omega, by omega, by omega, by omega, by omega, by omega, by omega, by omega, by omega, by omega, fun b hb' => ⟨by have := hqb b hb'; omega, by have := hqb b hb'; omega, fun e => hqs (e ▸ hb'), by have := hqb b hb'; omega⟩⟩
 have I : MInv E.length h.length q D.length qb m E E none [] xs [] os.length := ⟨⟨rfl, fA⟩, (fun b hb' => nomatch hb'), zm _, hb.keep (e0 q hql) (fun b hb' => e0 b (hqb b hb')), by rw [eE]; rfl, fun _ _ _ _ _ => rfl⟩
 obtain ⟨H, sb', z, hz, e, I'⟩ := zfQ n h.length q C.length B.length D.length E.length osb m os L fD fC hos hn I
 rw [e, zK, zw]
 have hzl : z.1.length = os.length := by rw [hz]; exact zhZ ..
 have hrl := zQ I'.row
 have hrow : H[D.length]? = some (.row 21 1 (z.1.map vlC) true) := by rw [I'.row]; simp
 have hsl : Xq (H ++ [HB.row 35 2 (z.1.map cdC) true]) (.row D.length 1 0 os.length) = some (1, z.1.map vlC) := by
  have : (H ++ [HB.row 35 2 (z.1.map cdC) true])[D.length]? = some (.row 21 1 (z.1.map vlC) true) := by rw [zj hrl]; exact hrow
  have h2 := K0 this
  rwa [zA, hzl] at h2
 rw [hsl, zb]
 generalize hG : H ++ [HB.row 35 2 (z.1.map R.w) true] = G
 have aG : ∀ j, j < H.length -> G[j]? = H[j]? := fun j hj => by rw [<- hG, zj hj]
 have eG : G[H.length]? = some (HB.row 35 2 (z.1.map R.w) true) := by rw [<- hG]; exact zD
 have lG : G.length = H.length + 1 := by rw [<- hG]; simp
 have hle := I'.le
 have rest : ∀ j, j < E.length -> j ≠ h.length -> j ≠ q -> j ≠ D.length -> G[j]? = E[j]? := fun j h1 h2 h3 h4 => (aG j (by omega)).trans (I'.rest j h1 h2 h3 h4)
 have hsl' : h.length < H.length := by omega
 have hm : MatAt G h.length sb' z.2.2.length m z.2.1 := I'.mt.keep (aG _ hsl') (fun b hb' => by
  have hmt := I'.mt
  rw [hb'] at hmt
  obtain ⟨_, l, w, _, h3, _⟩ := hmt
  exact aG b (zQ h3))
 have hst : StkAt G q qb (m : Int) z.2.2 := I'.st.keep (aG q (by omega)) (fun b hb' => aG b (by have := hqb b hb'; omega))
 have hzz := zh0 (m : Int) (valsOf os) os 0 [] xs (fun j o hj => by rw [zr]; simp [valsOf, hj])
 rw [Jq, Zn, <- hz] at hzz
 have hws : ∀ w ∈ z.2.1, w < os.length := by
  have := zk3 (m : Int) (valsOf os) os 0 [] xs (by simp)
  rw [<- hz] at this
  simpa using this
 have hle2 : z.2.2.length + z.2.1.length <= m := by
  have := zk1 m (valsOf os) os 0 [] xs (by simpa using hmm)
  rwa [<- hz] at this
 have hwl : z.2.1.length <= os.length := by
  have := zk2 (m : Int) (valsOf os) os 0 [] xs
  rw [<- hz] at this
  simpa using this
 obtain ⟨h', qb', eD', b1, b2⟩ := zh8 (n + 3) (b := A.length) (s := h.length) (bo := C.length) (bs := B.length) ((rest _ (by omega) (by omega) (by omega) (by omega)).trans fB) hm ((rest _ (by omega) (by omega) (by omega) (by omega)).trans fD) ((rest _ (by omega) (by omega) (by omega) (by omega)).trans fC) ⟨by omega, fun e => by have := hqb _ e; omega⟩ ⟨by omega, fun e => by have := hqb _ e; omega⟩ (fun b hb' => ⟨by have := I'.fr b hb'; omega, fun e => by have := I'.fr b hb'; have := hqb b e; omega⟩) hst hws hle2 hl (by omega)
 have fin := zdT (n + 4) H D.length q (os.map O.w) osb h [V.sl 0 [] true, V.int .i64 (xs.length : Int), V.int .i64 (m : Int)] os.length z.1 hrow (by rw [hA, hB, hC, hD]) hzl.symm (by omega) h' (by rw [hA, hB, hC, hG]; exact eD') z.1.length 0 (n + 4) (by omega) (by omega)
 rw [hzl] at fin
 have hT : G[H.length]? = some (HB.row 35 2 ((Qx (m : Int) os xs).1.map R.w) true) := by rw [hzz]; exact eG
 have hqH : ∀ b, qb = some b -> b < H.length := fun b hb' => by have := hqb b hb'; omega
 refine ⟨h', qb', H.length, ?_, ?_, by omega, ?_, by rw [hzz]; exact b1, ?_⟩
 · simpa using fin
 · rw [b2.old H.length (by omega) (by omega) (fun e => by have := hqH _ e; omega)]; exact hT
 · intro e
   rcases b2.own _ e with e1 | e1
   · have := hqH _ e1; omega
   · omega
 · refine ⟨by have := b2.len; omega, fun j h1 h2 h3 => ?_, fun b hb' => ?_⟩
   · rw [b2.old j (by omega) h2 h3, rest j (by omega) (by omega) h2 (by omega), e0 j h1]
   · rcases b2.own b hb' with e1 | e1
     · exact .inl e1
     · exact .inr (by omega)
end Go.Proofs.Tryz
namespace Go.Sk
open Go.L Go.Rp
def zdU (d : Nat) (x : Int) (xs : List Int) : List Int := if d = 0 then x :: xs else xs ++ [x]
theorem zh9 (d : Nat) (x : Int) (xs : List Int) : (zdU d x xs).length = xs.length + 1 := by unfold zdU; split <;> simp
def jP (vals : Nat -> Int) (d : Nat) (ws : List Nat) (xs : List Int) : List Int := ws.foldl (fun xs w => zdU d (vals w) xs) xs
theorem znR (vals : Nat -> Int) : ∀ (ws : List Nat) (xs : List Int), jP vals 0 ws xs = ws.reverse.map vals ++ xs
 | [], xs => rfl
 | w :: ws, xs => by
   show jP vals 0 ws (zdU 0 (vals w) xs) = _
   rw [znR vals ws]; simp [zdU]
theorem znS (vals : Nat -> Int) : ∀ (ws : List Nat) (xs : List Int), jP vals 1 ws xs = xs ++ ws.map vals
 | [], xs => by simp [jP]
 | w :: ws, xs => by
   show jP vals 1 ws (zdU 1 (vals w) xs) = _
   rw [znS vals ws]; simp [zdU]
theorem zmc (vals : Nat -> Int) (ws : Nat -> List Nat) (xs : List Int) : jP vals 1 (ws 1) (jP vals 0 (ws 0) xs) = Kg vals ws xs := by
 rw [znS, znR]; rfl
theorem zeK (vals : Nat -> Int) (d : Nat) : ∀ (ws : List Nat) (xs : List Int), (jP vals d ws xs).length = xs.length + ws.length
 | [], xs => rfl
 | w :: ws, xs => by
   show (jP vals d ws (zdU d (vals w) xs)).length = _
   rw [zeK vals d ws, zh9]; simp; omega
end Go.Sk
namespace Go.Proofs.Tryz
open Go.L Go.Rp Go.Sk
set_option maxRecDepth 100000
theorem SideV.at {h : ze} {v : V} {ob : Option Nat} {ws : List Nat} (hv : SideV h v ob ws) {i : Nat} (hi : i < ws.length) : ∃ p cs m o, Xa 1 i v = some p /\ zu h p = some (cs, m, o) /\ (o + 1 <= m /\ 0 < 1) /\ cs[o]? = some (.int .i64 (ws[i] : Int)) := by
 cases ob with
 | none => rw [hv.2] at hi; simp at hi
 | some b =>
   obtain ⟨lo, l, z, rfl, h2, h3, h4⟩ := hv
   have hx : l[lo + i]? = some [.int .i64 (ws[i] : Int)] := by
    have := congrArg (fun t : List (List V) => t[i]?) h4
    simpa [JP, zX, hi] using this
   exact ⟨_, _, _, _, XG (by omega), Xr h2 (by decide) hx, by decide, rfl⟩
theorem SideV.slc2 {h : ze} {v : V} {ob : Option Nat} {ws : List Nat} (hv : SideV h v ob ws) : Xq h v = some (if ob.isSome then 1 else 0, ws.map JP) := by
 cases ob with
 | none =>
   obtain ⟨rfl, rfl⟩ := hv
   exact QX ..
 | some b =>
   obtain ⟨lo, l, z, rfl, h2, h3, h4⟩ := hv
   rw [Qi h2 (Nat.le_add_right _ _) h3, h4]; rfl
theorem zfV (n : Nat) {h : ze} {q qb c d : Nat} {xs : List Int} (hb : RngAt h q qb c xs) (x : Int) (hm : xs.length < c) (hc : c < 100000) :
    ∃ h', call (n + 2) (if d = 0 then 205 else 206) [.ptr q 0, .int .i32 x] h = some (.ret [.bool true], h') /\ RngAt h' q qb c (zdU d x xs) /\ RFed h h' q qb := by
 unfold zdU
 by_cases hd : d = 0
 · rw [if_pos hd, if_pos hd]; exact K2 n hb x hm hc
 · rw [if_neg hd, if_neg hd]; exact K3 n hb x hm hc
theorem zqm (d : Nat) : X9 (if d = 0 then 205 else 206) = true /\ okV prog 4 (if d = 0 then 205 else 206) = true := by
 by_cases hd : d = 0
 · rw [if_pos hd]; exact ⟨by kernel_rfl, by kernel_rfl⟩
 · rw [if_neg hd]; exact ⟨by kernel_rfl, by kernel_rfl⟩
def zbE (q : Nat) : List V := [V.bf 205 [(V.ptr q 0)], V.bf 206 [(V.ptr q 0)]]
theorem znT (q : Nat) {d : Nat} (hd : d < 2) : (zbE q)[d]? = some (.bf (if d = 0 then 205 else 206) [.ptr q 0]) := by
 obtain rfl | rfl : d = 0 \/ d = 1 := by omega
 · rfl
 · rfl
theorem qT (n : Nat) {h1 : ze} {q qb m d : Nat} {os : List O} {osb : Bool} {v : V} {sz : Nat} {ob : Option Nat} {ws : List Nat} (hd : d < 2) (hv : SideV h1 v ob ws) (hob : ∀ b, ob = some b -> b ≠ q /\ b ≠ qb) (hw : ∀ w ∈ ws, w < os.length) (hm : m < 100000) (hws : ws.length < lim) (next : List V -> ze -> Option (Res × ze)) :
    ∀ (k i N : Nat) (h : ze) (xs : List Int), RngAt h q qb m xs -> RFed h1 h q qb -> i + k = ws.length -> k < N -> xs.length + k <= m →
    ∃ h', Ze N (Jn (n + 2) (os.map O.w) osb [.sl 2 [] false, .agg (zbE q), .int .i64 (d : Int)] next v (sz, ws.map JP)) [.sl 2 [] false, .agg (zbE q), .agg [v], .int .i64 (i : Int)] h = next [.sl 2 [] false, .agg (zbE q), .int .i64 ((d + 1 : Nat) : Int)] h' /\ RngAt h' q qb m (jP (valsOf os) d (ws.drop i) xs) /\ RFed h1 h' q qb := by
 intro k
 induction k with
 | zero =>
   intro i N h xs hb hf hi hN hx
   obtain ⟨N, rfl⟩ : ∃ N', N = N' + 1 := ⟨N - 1, by omega⟩
   refine ⟨h, ?_, by rw [Z9 (by omega)]; exact hb, hf⟩
   rw [zL]
   unfold Jn
   simp only [gv, zg, zk, lsl, lcs]
   rw [zC, zb, zo, if_neg (by simp; omega), zM, zb, XF (by unfold lim; omega)]
 | succ k ih =>
   intro i N h xs hb hf hi hN hx
   obtain ⟨N, rfl⟩ : ∃ N', N = N' + 1 := ⟨N - 1, by omega⟩
   have hlt : i < ws.length := by omega
   have hwi : ws[i] < os.length := hw _ (Xl hlt)
   obtain ⟨p, cs, m', o, a1, a2, a3, a4⟩ := (hv.keep (fun b hb' => hf.old b (hob b hb').1 (hob b hb').2) : SideV h v ob ws).at hlt
   obtain ⟨h', e, b1, b2⟩ := zfV n (d := d) hb os[ws[i]].v (by omega) hm
   have hvv : valsOf os ws[i] = os[ws[i]].v := by simp [valsOf, zf hwi]
   obtain ⟨h'', e', c1, c2⟩ := ih (i + 1) N h' _ b1 (hf.trans b2) (by omega) (by omega) (by rw [zh9]; omega)
   refine ⟨h'', ?_, by rw [zW hlt]; rw [<- hvv] at c1; exact c1, c2⟩
   rw [<- e', zL]
   have key : ∀ nx, Jn (n + 2) (os.map O.w) osb [.sl 2 [] false, .agg (zbE q), .int .i64 (d : Int)] next v (sz, ws.map JP) [.sl 2 [] false, .agg (zbE q), .agg [v], .int .i64 (i : Int)] h nx = nx [.sl 2 [] false, .agg (zbE q), .agg [v], .int .i64 ((i + 1 : Nat) : Int)] h' := by
    intro nx
    unfold Jn
    simp only [gv, zg, zk, lsl, lcs]
    rw [zC, zb, zo, if_pos (by simp; omega), Zo, zH, a1, zb, a2, zl, if_pos a3, a4, zb, Zo, zb, if_pos hd, if_pos (by omega), Z3, znT q hd, zb, Zo, zH, QW (es := O.w os[ws[i]]) (by rw [zJ, zf hwi]; rfl), zb]
    simp only [ZN, zb]
    rw [XP, zl, if_pos (by decide)]
    simp only [O.w, zr, zi, za, zb, zqH]
    rw [if_pos (zqm d)]
    show cl (call (n + 2) _ [.ptr q 0, .int .i32 os[ws[i]].v] h) _ _ = _
    rw [e, zK, zw, zM, zb, XF (by omega)]
   rw [key]
theorem zdV (n : Nat) {h5 : ze} {n9 T : Nat} {z : List R} (hn9 : n9 = z.length) (hz : z.length < lim) (hT : T ≠ h5.length) : ∀ (d i N : Nat) (h : ze) (w : V), i + d = z.length -> d < N -> h[h5.length]? = some (.row 21 1 (z.map vlC) true) -> h[T]? = some (.row 35 2 ((z.take i).map R.w ++ (z.drop i).map cdC) true) -> (w = .agg (lcs w)) →
    ∃ h', Ze N (JZ n h5 n9 (.row T 2 0 z.length) (1, z.map vlC)) [.sl 2 [] false, w, .int .i64 (i : Int)] h = some (.ret [.row T 2 0 z.length], h') /\ h'[T]? = some (.row 35 2 (z.map R.w) true) /\ h'.length = h.length /\ ∀ j, j ≠ T -> h'[j]? = h[j]? := by
 intro d
 induction d with
 | zero =>
   intro i N h w hi hN hr ht hww
   obtain ⟨N, rfl⟩ : ∃ N', N = N' + 1 := ⟨N - 1, by omega⟩
   refine ⟨h, ?_, by rw [ht, zN (by omega), Z9 (by omega)]; simp, rfl, fun _ _ => rfl⟩
   rw [zL]
   unfold JZ
   simp only [gv, zg, zk]
   rw [zC, zb, zo, if_neg (by simp; omega)]
 | succ d ih =>
   intro i N h w hi hN hr ht hww
   obtain ⟨N, rfl⟩ : ∃ N', N = N' + 1 := ⟨N - 1, by omega⟩
   have hlt : i < z.length := by omega
   have htl := zQ ht
   have hset : ((z.take i).map R.w ++ (z.drop i).map cdC).set i (setR (cdC z[i]) 1 [V.int .i32 z[i].v]) = (z.take (i + 1)).map R.w ++ (z.drop (i + 1)).map cdC := by
    rw [Zw _ _ (by simp; omega), zW hlt, XU hlt, zU, show i - (List.map R.w (z.take i)).length = 0 by simp; omega, JD, ZC, List.append_assoc]
    rfl
   obtain ⟨h', e, b1, b2, b3⟩ := ih (i + 1) N (h.set T (.row 35 2 ((z.take (i + 1)).map R.w ++ (z.drop (i + 1)).map cdC) true)) w (by omega) (by omega) ((zd hT).trans hr) (Xf htl _) hww
   refine ⟨h', ?_, b1, b2.trans (zp ..), fun j hj => (b3 j hj).trans (zd (Ne.symm hj))⟩
   rw [zL, <- e]
   have hti : ((z.take i).map R.w ++ (z.drop i).map cdC)[i]? = some (cdC z[i]) := by
    rw [zG (by simp; omega)]; simp [hlt, X0 (Nat.le_of_lt hlt)]
   have key : ∀ nx, JZ n h5 n9 (.row T 2 0 z.length) (1, z.map vlC) [.sl 2 [] false, w, .int .i64 (i : Int)] h nx = nx [.sl 2 [] false, w, .int .i64 ((i + 1 : Nat) : Int)] (h.set T (.row 35 2 ((z.take (i + 1)).map R.w ++ (z.drop (i + 1)).map cdC) true)) := by
    intro nx
    unfold JZ
    simp only [gv, zg, zk, lsl]
    rw [<- hww, zC, zb, zo, if_pos (by simp; omega), Zo, zH, XG (by simp; omega), zb, Xr (es := vlC z[i]) hr (by decide) (by simp [hlt]), zl, if_pos (by decide)]
    simp only [vlC, za, zb]
    rw [zH, XG (by omega), zb]
    simp only [ZN, zb, V.cells, zB, zO, zr, if_true]
    rw [JK ht (by decide) (by simp) hti, Zd, zM, zb, XF (by omega), hset]
   rw [key]
theorem jQ (n : Nat) {os : List (List V)} {osb : Bool} {h5 hh : ze} {n9 : Nat} {v14 a b : V} {v : Nat -> V} {q sz d : Nat} {ws : List Nat} (hd : d < 2) (hs : Xq hh (v d) = some (sz, ws.map JP)) (next : List V -> ze -> Option (Res × ze)) :
    QZ n os osb h5 n9 v14 [v 0, v 1, a, b] 0 [.sl 2 [] false, .agg (zbE q), .int .i64 (d : Int)] hh next = Ze n (Jn n os osb [.sl 2 [] false, .agg (zbE q), .int .i64 (d : Int)] next (v d) (sz, ws.map JP)) [.sl 2 [] false, .agg (zbE q), .agg [v d], .int .i64 0] hh := by
 have h1 : (([v 0, v 1, a, b].drop 0 |>.take 2).drop (d * 1) |>.take 1) = [v d] := by
  obtain rfl | rfl : d = 0 \/ d = 1 := by omega
  · rfl
  · rfl
 unfold QZ
 simp only [gv, zg, zk, lsl, lcs]
 rw [zC, zb, zo, if_pos (by simp; omega), Zo, zH, if_pos ⟨hd, by simp; omega⟩, h1, if_pos (by rfl), if_pos (by exact zm 1)]
 show bd (some (v d)) _ = _
 rw [zb, hs, zb]
 rfl
theorem znU (a b : Int) : Ji prog 274 [(1, .int .i64 a), (2, .int .i64 b)] = some [.sl 0 [] true, .sl 0 [] true, .int .i64 a, .int .i64 b] := by kernel_rfl
theorem zdb (n : Nat) {h : ze} {q qb m : Nat} {xs : List Int} (hb : RngAt h q qb m xs) (os : List O) (osb : Bool) (hm : m < 100000) (hos : os.length < lim) (hn : os.length + m + 10 < n) :
    ∃ h' T, call (n + 5) 199 [.ptr q 0, .sl 2 (os.map O.w) osb] h = some (.ret [.row T 2 0 os.length], h') /\ h'[T]? = some (.row 35 2 ((QH (m : Int) os xs).1.map R.w) true) /\ h.length <= T /\ RngAt h' q qb m (QH (m : Int) os xs).2 /\ h.length <= h'.length /\ ∀ j, j < h.length -> j ≠ q -> j ≠ qb -> h'[j]? = h[j]? := by
 have hb0 := hb
 obtain ⟨hqq, l0, z0, f0, e1, e2, e3, e4, e5, e6, e7⟩ := hb0
 have hql := zQ e1
 have hbl := zQ e2
 have hlim : m + 1 < lim := by unfold lim; omega
 rw [show n + 5 = (n + 4) + 1 from rfl, zhA]
 unfold zhz
 rw [Qj (n + 3) hb, zK, zw, Jv (n + 3) hb, zK, zw, znU, zb, if_pos (by rfl), zA, Zo, zH, zH, if_pos ⟨zm _, by omega, rfl⟩]
 generalize hA : h ++ [HB.row 21 1 (List.replicate os.length [V.int .i32 0]) true] = A
 generalize hB : A ++ [HB.box 4 [V.sl 0 [] true, V.sl 0 [] true, V.int .i64 (xs.length : Int), V.int .i64 (m : Int)]] = B
 have lA : A.length = h.length + 1 := by rw [<- hA]; simp
 have lB : B.length = h.length + 2 := by rw [<- hB]; simp; omega
 have aA : ∀ j, j < h.length -> A[j]? = h[j]? := fun j hj => by rw [<- hA, zj hj]
 have aB : ∀ j, j < A.length -> B[j]? = A[j]? := fun j hj => by rw [<- hB, zj hj]
 have eA : A[h.length]? = some (HB.row 21 1 (List.replicate os.length [V.int .i32 0]) true) := by rw [<- hA]; exact zD
 have eB : B[A.length]? = some (HB.box 4 [V.sl 0 [] true, V.sl 0 [] true, V.int .i64 (xs.length : Int), V.int .i64 (m : Int)]) := by rw [<- hB]; exact zD
 have b0 : ∀ j, j < h.length -> B[j]? = h[j]? := fun j hj => by rw [aB _ (by omega), aA _ hj]
 have bR : B[h.length]? = some (HB.row 21 1 (List.replicate os.length [V.int .i32 0]) true) := by rw [aB _ (by omega)]; exact eA
 have L : ELay (B.length + 1) A.length q qb h.length B.length := by constructor <;> omega
 have E : EndAt B A.length (fun _ => none) xs.length m (fun _ => []) (fun _ => .sl 0 [] true) := ⟨eB, fun _ _ => ⟨rfl, rfl⟩, fun _ _ e => (nomatch e), fun _ e => (nomatch e)⟩
 rw [Qw]
 obtain ⟨H, sb', v', z, hz, e, I⟩ := zfU n A.length q qb h.length osb m os L hm e5 hos (by omega) E (hb.keep (b0 q hql) (b0 qb hbl)) bR
 rw [e, zK, zw]
 have hzl : z.1.length = os.length := by rw [hz]; exact zh2 ..
 have hok := zk0 m (valsOf os) os 0 (fun _ => []) xs (fun _ _ _ h => (nomatch h)) (by simpa [tot] using e5)
 rw [<- hz, zr] at hok
 have hzz := zh4 (m : Int) (valsOf os) os 0 (fun _ => []) xs (fun j o hj => by rw [zr]; simp [valsOf, hj])
 rw [<- hz, show Kg (valsOf os) (fun _ => []) xs = xs by simp [Kg]] at hzz
 have hle := I.le
 generalize hG : H ++ [HB.row 35 2 (z.1.map cdC) true] = G
 have aG : ∀ j, j < H.length -> G[j]? = H[j]? := fun j hj => by rw [<- hG, zj hj]
 have eG : G[H.length]? = some (HB.row 35 2 (z.1.map cdC) true) := by rw [<- hG]; exact zD
 have lG : G.length = H.length + 1 := by rw [<- hG]; simp
 have EG : EndAt G A.length sb' z.2.2.length m z.2.1 v' := I.mt.keep (aG _ (by omega)) (fun e b he hb' => aG b (by have := I.mt.side e he; rw [hb'] at this; exact this.lt))
 have RG : RngAt G q qb m z.2.2 := I.st.keep (aG q (by omega)) (aG qb (by omega))
 rw [zx EG.box, zl, if_pos (by decide)]
 have htot := hok.2
 unfold tot at htot
 have hside : ∀ d, d < 2 -> ∀ b, sb' d = some b -> b ≠ q /\ b ≠ qb := fun d hd b hb' => by have := I.fr d b hd hb'; omega
 have hwlen : ∀ d, d < 2 -> (z.2.1 d).length <= m := fun d hd => by
  obtain rfl | rfl : d = 0 \/ d = 1 := by omega
  · omega
  · omega
 have k0 := (EG.side 0 (by decide)).slc2
 obtain ⟨G1, f1, r1, r2⟩ := qT (n + 2) (os := os) (osb := osb) (sz := if (sb' 0).isSome then 1 else 0) (d := 0) (by decide) (EG.side 0 (by decide)) (hside 0 (by decide)) (hok.1 0 (by decide)) hm (by have := hwlen 0 (by decide); omega) (fun st h' => Ze (n + 3) (QZ (n + 4) (os.map O.w) osb h os.length (.row H.length 2 0 os.length) [v' 0, v' 1, .int .i64 (z.2.2.length : Int), .int .i64 (m : Int)] 0) st h') (z.2.1 0).length 0 (n + 4) G z.2.2 RG (RFed.refl ..) (by omega) (by have := hwlen 0 (by decide); omega) (by omega)
 rw [zP] at r1
 have hl1 := zeK (valsOf os) 0 (z.2.1 0) z.2.2
 have k1' := ((EG.side 1 (by decide)).keep (h' := G1) (fun b hb' => r2.old b (hside 1 (by decide) b hb').1 (hside 1 (by decide) b hb').2)).slc2
 obtain ⟨G2, f2, r3, r4⟩ := qT (n + 2) (os := os) (osb := osb) (sz := if (sb' 1).isSome then 1 else 0) (d := 1) (by decide) (EG.side 1 (by decide)) (hside 1 (by decide)) (hok.1 1 (by decide)) hm (by have := hwlen 1 (by decide); omega) (fun st h' => Ze (n + 2) (QZ (n + 4) (os.map O.w) osb h os.length (.row H.length 2 0 os.length) [v' 0, v' 1, .int .i64 (z.2.2.length : Int), .int .i64 (m : Int)] 0) st h') (z.2.1 1).length 0 (n + 4) G1 _ r1 r2 (by omega) (by have := hwlen 1 (by decide); omega) (by omega)
 rw [zP, zmc] at r3
 have hG2 : ∀ j, j ≠ q -> j ≠ qb -> G2[j]? = G[j]? := r4.old
 have w1 : G2[h.length]? = some (.row 21 1 (z.1.map vlC) true) := by
  rw [hG2 _ (by omega) (by omega), aG _ (by omega), I.row]; simp
 have w2 : G2[H.length]? = some (.row 35 2 ((z.1.take 0).map R.w ++ (z.1.drop 0).map cdC) true) := by
  rw [hG2 _ (by omega) (by omega)]; exact eG
 obtain ⟨h', f3, t1, t2, t3⟩ := zdV (n + 4) (h5 := h) (n9 := os.length) (T := H.length) (z := z.1) hzl.symm (by omega) (by omega) z.1.length 0 (n + 4) G2 (.agg (zbE q)) (by omega) (by omega) w1 w2 rfl
 have lG2 := r4.len
 refine ⟨h', H.length, ?_, by rw [hzz]; exact t1, by omega, ?_, by omega, fun j j1 j2 j3 => ?_⟩
 · show Ze (n + 4) (QZ (n + 4) (os.map O.w) osb h os.length (.row H.length 2 0 os.length) [v' 0, v' 1, .int .i64 (z.2.2.length : Int), .int .i64 (m : Int)] 0) [.sl 2 [] false, .agg (zbE q), .int .i64 ((0 : Nat) : Int)] G = _
   rw [zL, jQ (n + 4) (by decide) k0]
   refine f1.trans ?_
   rw [zL, jQ (n + 4) (by decide) k1']
   refine f2.trans ?_
   rw [zL]
   unfold QZ
   simp only [gv, zg, zk, lsl, lcs]
   rw [zC, zb, zo, if_neg (by decide), Qw]
   have hsl : Xq G2 (.row h.length 1 0 os.length) = some (1, z.1.map vlC) := by
    have h2 := K0 w1
    rwa [zA, hzl] at h2
   rw [hsl, zb]
   rw [hzl] at f3
   exact f3
 · rw [hzz]
   exact r3.keep (t3 q (by omega)) (t3 qb (by omega))
 · rw [t3 j (by omega), hG2 j j2 j3, aG j (by omega), I.rest j (by omega) (by omega) j2 j3 (by omega), zj (by omega), b0 j j1]
end Go.Proofs.Tryz
namespace Go.Sk
open Go.L
structure Tw where
 b : Nat
 v : Int
 ht : Nat
def jA : V := .val (.pointer none)
def Kh (k : Nat) (ts : List Tw) : Option Tw := ts.find? fun t => decide (k < t.ht)
def nx (k : Nat) (ts : List Tw) : V := match Kh k ts with | some t => .ptr t.b 0 | none => jA
def Z5 (s : Nat) (ts : List Tw) : Nat -> Nat
 | 0 => s
 | i + 1 => (ts.getD i ⟨0, 0, 0⟩).b
def WG (ts : List Tw) (k : Nat) : Nat -> Prop
 | 0 => True
 | i + 1 => ∃ t, ts[i]? = some t /\ k < t.ht
def ZZ (ts : List Tw) (k : Nat) : Nat -> Nat
 | 0 => 0
 | j + 1 => if k < (ts.getD j ⟨0, 0, 0⟩).ht then j + 1 else ZZ ts k j
theorem Jx (ts : List Tw) (k : Nat) : ∀ j, ZZ ts k j <= j
 | 0 => zm _
 | j + 1 => by
   simp only [ZZ]
   split
   · exact zm _
   · exact Nat.le_succ_of_le (Jx ts k j)
theorem getD_some {ts : List Tw} {i : Nat} {t : Tw} (h : ts[i]? = some t) : ts.getD i ⟨0, 0, 0⟩ = t := by rw [zR, h]; rfl
theorem K5 (ts : List Tw) (k : Nat) : ∀ j, j <= ts.length -> WG ts k (ZZ ts k j)
 | 0, _ => trivial
 | j + 1, h => by
   simp only [ZZ]
   obtain ⟨t, ht⟩ : ∃ t, ts[j]? = some t := ⟨_, zf (by omega)⟩
   rw [getD_some ht]
   split
   · rename_i hk; exact ⟨t, ht, hk⟩
   · exact K5 ts k j (by omega)
theorem qi (ts : List Tw) (k : Nat) : ∀ j i t, ZZ ts k j <= i -> i < j -> ts[i]? = some t -> ¬ k < t.ht
 | 0, i, t, h1, h2, _ => by omega
 | j + 1, i, t, h1, h2, ht => by
   simp only [ZZ] at h1
   split at h1
   · omega
   · rename_i hk
     rcases ZQ i j with h3 | h3
     · exact qi ts k j i t h1 h3 ht
     · obtain rfl : i = j := by omega
       rw [getD_some ht] at hk; exact hk
theorem zdc {ts : List Tw} {k i : Nat} (hon : WG ts k i) : ∀ j, i <= j -> j <= ts.length -> (∀ m t, i <= m -> m < j -> ts[m]? = some t -> ¬ k < t.ht) -> ZZ ts k j = i
 | 0, h, _, _ => by simp only [ZZ]; omega
 | j + 1, h, hl, hn => by
   obtain ⟨t, ht⟩ : ∃ t, ts[j]? = some t := ⟨_, zf (by omega)⟩
   simp only [ZZ, getD_some ht]
   rcases ZQ j i with h3 | h3
   · obtain rfl : i = j + 1 := by omega
     obtain ⟨t', ht', hk⟩ := hon
     rw [ht] at ht'; cases ht'
     rw [if_pos hk]
   · rw [if_neg (hn j t h3 (by omega) ht)]
     exact zdc hon j h3 (by omega) fun m t h1 h2 => hn m t h1 (by omega)
theorem zia {k : Nat} {ts : List Tw} : ∀ (i : Nat), (Kh k (ts.drop i) = none /\ ∀ m t, i <= m -> ts[m]? = some t -> ¬ k < t.ht) \/ ∃ m t, i <= m /\ ts[m]? = some t /\ k < t.ht /\ Kh k (ts.drop i) = some t /\ ∀ m' t', i <= m' -> m' < m -> ts[m']? = some t' -> ¬ k < t'.ht := by
 intro i
 obtain ⟨d, hd⟩ : ∃ d, d + i = ts.length \/ (d = 0 /\ ts.length <= i) := ⟨ts.length - i, by omega⟩
 induction d generalizing i with
 | zero =>
   left
   have hi : ts.length <= i := by omega
   refine ⟨by rw [Zl hi]; rfl, fun m t h1 h2 => ?_⟩
   have := (zh.1 h2).1
   omega
 | succ d ih =>
   have hi : i < ts.length := by omega
   obtain ⟨t, ht⟩ : ∃ t, ts[i]? = some t := ⟨_, zf hi⟩
   have hdr : ts.drop i = t :: ts.drop (i + 1) := by rw [zW hi]; congr 1; rw [zf hi] at ht; exact Option.some.inj ht
   by_cases hk : k < t.ht
   · right
     exact ⟨i, t, zm _, ht, hk, by rw [hdr]; simp [Kh, hk], fun m' t' h1 h2 => by omega⟩
   · rcases ih (i + 1) (by omega) with ⟨h1, h2⟩ | ⟨m, t', h1, h2, h3, h4, h5⟩
     · left
       refine ⟨by rw [hdr]; simpa [Kh, hk] using h1, fun m t' h3 h4 => ?_⟩
       rcases ZQ i m with h | h
       · exact h2 m t' h h4
       · obtain rfl : m = i := by omega
         rw [ht] at h4; cases h4; exact hk
     · right
       refine ⟨m, t', by omega, h2, h3, by rw [hdr]; simpa [Kh, hk] using h4, fun m' t'' h6 h7 h8 => ?_⟩
       rcases ZQ i m' with h | h
       · exact h5 m' t'' h h7 h8
       · obtain rfl : m' = i := by omega
         rw [ht] at h8; cases h8; exact hk
abbrev Nx := Nat -> Nat -> V
structure Linked (s : Nat) (ts : List Tw) (N : Nx) : Prop where
 hd : ∀ k, k < 8 -> N s k = nx k ts
 tw : ∀ (i : Nat) t k, ts[i]? = some t -> k < 8 -> N t.b k = if k < t.ht then nx k (ts.drop (i + 1)) else jA
theorem Linked.at_ {s : Nat} {ts : List Tw} {N : Nx} (h : Linked s ts N) {k i : Nat} (hk : k < 8) (hi : WG ts k i) : N (Z5 s ts i) k = nx k (ts.drop i) := by
 cases i with
 | zero => exact h.hd k hk
 | succ i =>
   obtain ⟨t, ht, hkt⟩ := hi
   have := h.tw i t k ht hk
   rw [if_pos hkt] at this
   simp only [Z5, getD_some ht]
   exact this
def Yc (N : Nx) (b k : Nat) (x : V) : Nx := fun b' k' => if b' = b /\ k' = k then x else N b' k'
def Xj (ts : List Tw) (v : Int) : Nat := (ts.takeWhile fun t => decide (t.v <= v)).length
def Rise (ts : List Tw) : Prop := ts.Pairwise fun a b => a.v <= b.v
theorem js (ts : List Tw) (v : Int) : Xj ts v <= ts.length := (List.takeWhile_prefix _).length_le
theorem K6 {ts : List Tw} (hr : Rise ts) (v : Int) {i : Nat} {t : Tw} (ht : ts[i]? = some t) : i < Xj ts v ↔ t.v <= v := by
 unfold Xj
 induction ts generalizing i with
 | nil => simp at ht
 | cons a ts ih =>
   have hr' := Z0.1 hr
   rw [List.takeWhile_cons]
   cases i with
   | zero =>
     obtain rfl : a = t := by simpa using ht
     by_cases h : a.v <= v
     · simp [h]
     · simp [h]
   | succ i =>
     have hm := hr'.1 t (zI ht)
     by_cases h : a.v <= v
     · simp only [h, decide_true, if_true, zB, Nat.succ_lt_succ_iff]
       exact ih hr'.2 ht
     · simp only [h, decide_false, zn, if_false, zO, Nat.not_lt_zero, false_iff]
       omega
def ins (ts : List Tw) (j : Nat) (u : Tw) : List Tw := ts.take j ++ u :: ts.drop j
theorem zjN {ts : List Tw} {j : Nat} {u : Tw} (hj : j <= ts.length) {i : Nat} (h : i < j) : (ins ts j u)[i]? = ts[i]? := by
 unfold ins
 rw [zj (by rw [Zg]; omega), zX, if_pos h]
theorem zfW {ts : List Tw} {j : Nat} {u : Tw} (hj : j <= ts.length) : (ins ts j u)[j]? = some u := by
 unfold ins
 rw [zG (by rw [Zg]; omega), Zg, X0 hj, Q6]
 rfl
theorem znV {ts : List Tw} {j : Nat} {u : Tw} (hj : j <= ts.length) {i : Nat} (h : j <= i) : (ins ts j u)[i + 1]? = ts[i]? := by
 unfold ins
 rw [zG (by rw [Zg]; omega), Zg, X0 hj, show i + 1 - j = (i - j) + 1 by omega, zi, Zj]
 congr 1
 omega
theorem zk4 {ts : List Tw} {j : Nat} {u : Tw} (hj : j <= ts.length) : (ins ts j u).length = ts.length + 1 := by
 unfold ins
 rw [zE, Zg, zB, Xg]
 omega
theorem znW {ts : List Tw} {j : Nat} {u : Tw} (hj : j <= ts.length) {i : Nat} (h : i <= j) : (ins ts j u).drop i = (ts.take j).drop i ++ u :: ts.drop j := by
 unfold ins
 rw [Qf (by rw [Zg]; omega)]
theorem zbl {ts : List Tw} {j : Nat} {u : Tw} (hj : j <= ts.length) {i : Nat} (h : j <= i) : (ins ts j u).drop (i + 1) = ts.drop i := by
 apply ZM
 intro m
 rw [Zj, Zj, show i + 1 + m = (i + m) + 1 by omega, znV hj (by omega)]
theorem zeL {ts : List Tw} {i j : Nat} (h : i <= j) (hj : j <= ts.length) : ts.drop i = (ts.take j).drop i ++ ts.drop j := by
 have : ts = ts.take j ++ ts.drop j := (Zx j ts).symm
 conv => lhs; rw [this]
 rw [Qf (by rw [Zg]; omega)]
theorem zdW {ts : List Tw} {k i j : Nat} (h : Kh k ((ts.take j).drop i) = none) (m : Nat) (t : Tw) (h1 : i <= m) (h2 : m < j) (ht : ts[m]? = some t) : ¬ k < t.ht := by
 unfold Kh at h
 rw [List.find?_eq_none] at h
 have hm : t ∈ (ts.take j).drop i := by
  refine zI (i := m - i) ?_
  rw [Zj, zX, show i + (m - i) = m by omega, if_pos h2]
  exact ht
 simpa using h t hm
theorem jR {ts : List Tw} {k i j : Nat} {t : Tw} (h : Kh k ((ts.take j).drop i) = some t) : ∃ m, i <= m /\ m < j /\ ts[m]? = some t /\ k < t.ht := by
 unfold Kh at h
 have h1 := List.find?_some h
 have h2 := List.mem_of_find?_eq_some h
 obtain ⟨m, hm⟩ := Z1.1 h2
 rw [Zj, zX] at hm
 split at hm
 · exact ⟨i + m, by omega, by assumption, hm, by simpa using h1⟩
 · cases hm
theorem zqn {ts : List Tw} {k i j : Nat} {u : Tw} (hj : j <= ts.length) (hi : i <= j) (hon : WG ts k i) :
    nx k ((ins ts j u).drop i) = if k < u.ht /\ ZZ ts k j = i then .ptr u.b 0 else nx k (ts.drop i) := by
 rw [znW hj hi]
 unfold nx
 rw [zeL hi hj]
 cases hA : Kh k ((ts.take j).drop i) with
 | some t =>
   obtain ⟨m, h1, h2, h3, h4⟩ := jR hA
   have hne : ZZ ts k j ≠ i := fun e => qi ts k j m t (by omega) h2 h3 h4
   rw [if_neg (fun h => hne h.2)]
   unfold Kh at hA ⊢
   rw [Q9, Q9, hA]
   rfl
 | none =>
   have hl : ZZ ts k j = i := zdc hon j hi hj fun m t h1 h2 h3 => zdW hA m t h1 h2 h3
   unfold Kh at hA ⊢
   rw [Q9, Q9, hA, List.find?_cons]
   by_cases hk : k < u.ht
   · simp [hk, hl]
   · simp [hk]
theorem zdd {s : Nat} {ts : List Tw} (hnd : (ts.map Tw.b).Nodup) (hs : s ∉ ts.map Tw.b) {p q : Nat} (hp : p <= ts.length) (hq : q <= ts.length) (h : Z5 s ts p = Z5 s ts q) : p = q := by
 have hb : ∀ i, i < ts.length -> (ts.map Tw.b)[i]? = some (ts.getD i ⟨0, 0, 0⟩).b := fun i hi => by
  rw [zJ, zR, zf hi]; rfl
 have hne : ∀ i, i < ts.length -> s ≠ (ts.getD i ⟨0, 0, 0⟩).b := fun i hi e => hs (e ▸ zI (hb i hi))
 cases p with
 | zero =>
   cases q with
   | zero => rfl
   | succ q => exact absurd h (hne q (by omega))
 | succ p =>
   cases q with
   | zero => exact absurd h.symm (hne p (by omega))
   | succ q =>
     have h1 := hb p (by omega)
     have h2 := hb q (by omega)
     simp only [Z5] at h
     rw [h] at h1
     congr 1
     exact (List.getElem?_inj (by rw [zA]; omega) hnd).1 (h1.trans h2.symm)
theorem znX {s : Nat} {ts : List Tw} {j : Nat} {u : Tw} (hj : j <= ts.length) {p : Nat} (hp : p <= j) : Z5 s (ins ts j u) p = Z5 s ts p := by
 cases p with
 | zero => rfl
 | succ p => simp only [Z5]; rw [zR, zR, zjN hj (by omega)]
theorem zeM {ts : List Tw} {k j : Nat} {u : Tw} (hj : j <= ts.length) : ∀ i, i <= j -> ZZ (ins ts j u) k i = ZZ ts k i
 | 0, _ => rfl
 | i + 1, h => by
   simp only [ZZ]
   rw [zeM hj i (by omega), zR, zR, zjN hj (by omega)]
theorem zfX {ts : List Tw} {k j : Nat} {u : Tw} (hj : j <= ts.length) : ZZ (ins ts j u) k (j + 1) = if k < u.ht then j + 1 else ZZ ts k j := by
 simp only [ZZ]
 rw [zeM hj j (zm _), getD_some (zfW hj)]
theorem Linked.ins {s : Nat} {ts : List Tw} {N N' : Nx} (h : Linked s ts N) (hnd : (ts.map Tw.b).Nodup) (hs : s ∉ ts.map Tw.b) {u : Tw} (hus : u.b ≠ s) (hut : u.b ∉ ts.map Tw.b) {j : Nat} (hj : j <= ts.length)
    (h1 : ∀ k, k < 8 -> N' u.b k = if k < u.ht then nx k (ts.drop j) else jA)
    (h2 : ∀ k, k < 8 -> k < u.ht -> N' (Z5 s ts (ZZ ts k j)) k = .ptr u.b 0)
    (h3 : ∀ b k, k < 8 -> b ≠ u.b -> (k < u.ht -> b ≠ Z5 s ts (ZZ ts k j)) -> N' b k = N b k) : Linked s (Go.Sk.ins ts j u) N' := by
 have key : ∀ i k, k < 8 -> i <= j -> WG ts k i -> N' (Z5 s ts i) k = nx k ((Go.Sk.ins ts j u).drop i) := fun i k hk hi hon => by
  rw [zqn hj hi hon]
  by_cases hc : k < u.ht /\ ZZ ts k j = i
  · rw [if_pos hc, <- hc.2]; exact h2 k hk hc.1
  · rw [if_neg hc, <- h.at_ hk hon]
    refine h3 _ _ hk (fun e => ?_) fun hku e => ?_
    · cases i with
      | zero => exact hus e.symm
      | succ i =>
        obtain ⟨t, ht, _⟩ := hon
        simp only [Z5, getD_some ht] at e
        exact hut (e ▸ Zi (zI ht))
    · exact hc ⟨hku, (zdd hnd hs (by omega) (by have := Jx ts k j; omega) e).symm⟩
 refine ⟨fun k hk => ?_, fun i t k ht hk => ?_⟩
 · have := key 0 k hk (Zh _) trivial
   rwa [zP] at this
 · rcases Nat.lt_trichotomy i j with hij | hij | hij
   · rw [zjN hj hij] at ht
     by_cases hkt : k < t.ht
     · rw [if_pos hkt]
       have := key (i + 1) k hk (by omega) ⟨t, ht, hkt⟩
       simpa only [Z5, getD_some ht] using this
     · rw [if_neg hkt]
       have hN := h.tw i t k ht hk
       rw [if_neg hkt] at hN
       rw [<- hN]
       refine h3 _ _ hk (fun e => hut (e ▸ Zi (zI ht))) fun hku e => ?_
       have hp : t.b = Z5 s ts (i + 1) := by simp only [Z5, getD_some ht]
       have hon := K5 ts k j hj
       have := zdd hnd hs (by omega) (by have := Jx ts k j; omega) (hp.symm.trans e)
       rw [<- this] at hon
       obtain ⟨t', ht', hk'⟩ := hon
       rw [ht] at ht'; cases ht'
       exact hkt hk'
   · subst hij
     rw [zfW hj] at ht
     cases ht
     rw [zbl hj (zm _)]
     exact h1 k hk
   · obtain ⟨i, rfl⟩ : ∃ i', i = i' + 1 := ⟨i - 1, by omega⟩
     rw [znV hj (by omega)] at ht
     rw [zbl hj (by omega)]
     rw [<- h.tw i t k ht hk]
     have hil := (zh.1 ht).1
     refine h3 _ _ hk (fun e => hut (e ▸ Zi (zI ht))) fun hku e => ?_
     have hp : t.b = Z5 s ts (i + 1) := by simp only [Z5, getD_some ht]
     have := zdd hnd hs (by omega) (by have := Jx ts k j; omega) (hp.symm.trans e)
     have := Jx ts k j
     omega
theorem Rise.ins {ts : List Tw} (hr : Rise ts) (u : Tw) : Rise (Go.Sk.ins ts (Xj ts u.v) u) := by
 unfold Rise Go.Sk.ins
 have hle : ∀ t ∈ ts.take (Xj ts u.v), t.v <= u.v := fun t ht => by
  obtain ⟨i, hi⟩ := Z1.1 ht
  rw [zX] at hi
  split at hi
  · rename_i h; exact (K6 hr u.v hi).1 h
  · cases hi
 have hge : ∀ t ∈ ts.drop (Xj ts u.v), u.v <= t.v := fun t ht => by
  obtain ⟨i, hi⟩ := Z1.1 ht
  rw [Zj] at hi
  have := (K6 hr u.v hi)
  omega
 rw [ZI]
 refine ⟨hr.sublist (J2 _ _), Z0.2 ⟨hge, hr.sublist (Qg _ _)⟩, fun a ha b hb => ?_⟩
 have h1 := hle a ha
 rcases zF.1 hb with rfl | hb
 · exact h1
 · have := hge b hb; omega
theorem Linked.tail {s : Nat} {t : Tw} {ts : List Tw} {N N' : Nx} (h : Linked s (t :: ts) N) (hnd : ((t :: ts).map Tw.b).Nodup) (hs : s ∉ (t :: ts).map Tw.b)
    (h1 : ∀ k, k < 8 -> N' s k = if k < t.ht then N t.b k else N s k) (h2 : ∀ b k, k < 8 -> b ≠ s -> N' b k = N b k) : Linked s ts N' := by
 refine ⟨fun k hk => ?_, fun i u k hu hk => ?_⟩
 · rw [h1 k hk]
   have a := h.tw 0 t k rfl hk
   have b := h.hd k hk
   by_cases hkt : k < t.ht
   · rw [if_pos hkt, a, if_pos hkt]; rfl
   · rw [if_neg hkt, b]
     unfold nx Kh
     rw [List.find?_cons]
     simp [hkt]
 · have a := h.tw (i + 1) u k (by simpa using hu) hk
   rw [h2 _ _ hk]
   · simpa using a
   · rintro rfl
     exact hs (Zi (zq _ (zI hu)))
end Go.Sk
namespace Go.Sk
open Go.L
def Yl (f : Nat -> V) : List V := (List.range 8).map f
theorem X6 (f : Nat -> V) : (Yl f).length = 8 := by simp [Yl]
theorem zaE (f : Nat -> V) {k : Nat} (h : k < 8) : (Yl f)[k]? = some (f k) := by
 unfold Yl
 rw [zJ, XX h]; rfl
theorem zeN (f : Nat -> V) {k : Nat} (h : k < 8) (x : V) : (Yl f).set k x = Yl (fun j => if j = k then x else f j) := by
 apply ZM
 intro j
 rw [Zb]
 by_cases hj : j < 8
 · rw [zaE _ hj, zaE _ hj]
   by_cases e : k = j
   · rw [if_pos e, if_pos (by rw [X6]; omega), if_pos e.symm]
   · rw [if_neg e, if_neg (Ne.symm e)]
 · rw [Zc (by rw [X6]; omega), Zc (by rw [X6]; omega), if_neg (by omega)]
structure Nd where
 b : Nat
 v : Int
 ht : Int
 post : List V
def Nd.cells (x : Nd) (N : Nx) : List V := [.int .i32 x.v, .int .i64 x.ht] ++ (Yl (N x.b) ++ x.post)
def Ki (h : ze) (N : Nx) (x : Nd) : Prop := h[x.b]? = some (.box (10 + x.post.length) (x.cells N))
theorem Nd.get0 (x : Nd) (N : Nx) : (x.cells N)[0]? = some (.int .i32 x.v) := rfl
theorem Nd.get1 (x : Nd) (N : Nx) : (x.cells N)[1]? = some (.int .i64 x.ht) := rfl
theorem Nd.get (x : Nd) (N : Nx) {k : Nat} (h : k < 8) : (x.cells N)[2 + k]? = some (N x.b k) := by
 unfold Nd.cells
 rw [zG (by simp), show 2 + k - [V.int .i32 x.v, .int .i64 x.ht].length = k by simp, zj (by rw [X6]; exact h), zaE _ h]
theorem Nd.set (x : Nd) (N : Nx) {k : Nat} (h : k < 8) (y : V) : setR (x.cells N) (2 + k) [y] = x.cells (Yc N x.b k y) := by
 show (x.cells N).set (2 + k) y = _
 unfold Nd.cells
 rw [Zw _ _ (by simp), show 2 + k - [V.int .i32 x.v, .int .i64 x.ht].length = k by simp, List.set_append_left _ _ (by rw [X6]; exact h), zeN _ h]
 congr 3
 funext j
 unfold Yc
 by_cases e : j = k
 · rw [if_pos e, if_pos ⟨rfl, e⟩]
 · rw [if_neg e, if_neg (fun hh => e hh.2)]
structure Rep (h : ze) (ns : List Nd) (N : Nx) : Prop where
 at_ : ∀ x ∈ ns, Ki h N x
 nd : (ns.map Nd.b).Nodup
 one : ∀ x ∈ ns, ∀ k, V.cells (N x.b k) = [N x.b k]
theorem Rep.inj {h : ze} {ns : List Nd} {N : Nx} (r : Rep h ns N) {x y : Nd} (hx : x ∈ ns) (hy : y ∈ ns) (e : x.b = y.b) : x = y := by
 obtain ⟨i, hi⟩ := Z1.1 hx
 obtain ⟨j, hj⟩ := Z1.1 hy
 have h1 : (ns.map Nd.b)[i]? = some x.b := by rw [zJ, hi]; rfl
 have h2 : (ns.map Nd.b)[j]? = some y.b := by rw [zJ, hj]; rfl
 have := (List.getElem?_inj (zh.1 h1).1 r.nd).1 (h1.trans (by rw [e, h2]))
 subst this
 rw [hi] at hj
 exact Option.some.inj hj
theorem Rep.read {h : ze} {ns : List Nd} {N : Nx} (r : Rep h ns N) {x : Nd} (hx : x ∈ ns) (o : Nat) : zu h (.ptr x.b o) = some (x.cells N, 10 + x.post.length, o) := zx (r.at_ x hx) o
theorem Rep.write {h : ze} {ns : List Nd} {N : Nx} (r : Rep h ns N) {x : Nd} (hx : x ∈ ns) {k : Nat} (hk : k < 8) (y : V) (hy : V.cells y = [y]) :
    Zp h [y] (.ptr x.b (2 + k)) = some (x.b, .box (10 + x.post.length) (x.cells (Yc N x.b k y))) /\ Rep (h.set x.b (.box (10 + x.post.length) (x.cells (Yc N x.b k y)))) ns (Yc N x.b k y) := by
 have hb := r.at_ x hx
 refine ⟨?_, ⟨fun z hz => ?_, r.nd, fun z hz j => ?_⟩⟩
 · rw [ZO hb (by simp; omega), x.set N hk]
 · by_cases e : z.b = x.b
   · have := r.inj hz hx e
     subst this
     exact Xf (zQ hb) _
   · unfold Ki
     rw [zd (Ne.symm e)]
     have := r.at_ z hz
     unfold Ki at this
     rw [this]
     have e2 : Yc N x.b k y z.b = N z.b := by
      funext j
      unfold Yc
      rw [if_neg (fun hh => e hh.1)]
     unfold Nd.cells
     rw [e2]
 · unfold Yc
   split
   · exact hy
   · exact r.one z hz j
theorem Rep.keep {h h' : ze} {ns : List Nd} {N : Nx} (r : Rep h ns N) (hk : ∀ x ∈ ns, h'[x.b]? = h[x.b]?) : Rep h' ns N := ⟨fun x hx => (hk x hx).trans (r.at_ x hx), r.nd, r.one⟩
def Zu (P : Nat -> Nat) : List V := (List.range 8).map fun k => .ptr (P k) 0
theorem Zz (P : Nat -> Nat) : (Zu P).length = 8 := by simp [Zu]
theorem zaF (P : Nat -> Nat) {k : Nat} (h : k < 8) : (Zu P)[k]? = some (.ptr (P k) 0) := by
 unfold Zu
 rw [zJ, XX h]; rfl
theorem zeO (P : Nat -> Nat) {k : Nat} (h : k < 8) (b : Nat) : (Zu P).set k (.ptr b 0) = Zu (fun j => if j = k then b else P j) := by
 have e : ∀ Q : Nat -> Nat, Zu Q = Yl (fun j => .ptr (Q j) 0) := fun Q => rfl
 rw [e, e, zeN _ h]
 congr 1
 funext j
 split <;> rfl
def ndT (t : Tw) : Nd := ⟨t.b, t.v, t.ht, []⟩
def ndH (s : Nat) (many most : Int) : Nd := ⟨s, 0, 0, [.int .i64 many, .int .i64 most]⟩
def Wa (N : Nx) (u : Nat) (P : Nat -> Nat) : Nat -> Nx
 | 0 => N
 | k + 1 => Yc (Yc (Wa N u P k) u k (Wa N u P k (P k) k)) (P k) k (.ptr u 0)
theorem qU (N : Nx) (u : Nat) (P : Nat -> Nat) : ∀ K b k, K <= k -> Wa N u P K b k = N b k
 | 0, b, k, h => rfl
 | K + 1, b, k, h => by
   simp only [Wa, Yc]
   rw [if_neg (by omega), if_neg (by omega)]
   exact qU N u P K b k (by omega)
theorem zbR (N : Nx) (u : Nat) (P : Nat -> Nat) (hu : ∀ k, P k ≠ u) : ∀ K k, k < K -> Wa N u P K u k = N (P k) k /\ Wa N u P K (P k) k = .ptr u 0 /\ ∀ b, b ≠ u -> b ≠ P k -> Wa N u P K b k = N b k
 | 0, k, h => by omega
 | K + 1, k, h => by
   rcases ZQ k K with hk | hk
   · obtain ⟨a1, a2, a3⟩ := zbR N u P hu K k hk
     have hne : ∀ b, Wa N u P (K + 1) b k = Wa N u P K b k := fun b => by
      simp only [Wa, Yc]
      rw [if_neg (by omega), if_neg (by omega)]
     exact ⟨by rw [hne, a1], by rw [hne, a2], fun b h1 h2 => by rw [hne, a3 b h1 h2]⟩
   · obtain rfl : k = K := by omega
     refine ⟨?_, ?_, fun b h1 h2 => ?_⟩
     · simp only [Wa, Yc]
       rw [if_neg (fun e => hu k e.1.symm), if_pos (by simp), qU _ _ _ _ _ _ (zm _)]
     · simp only [Wa, Yc]
       rw [if_pos (by simp)]
     · simp only [Wa, Yc]
       rw [if_neg (fun e => h2 e.1), if_neg (fun e => h1 e.1), qU _ _ _ _ _ _ (zm _)]
end Go.Sk
namespace Go.Proofs.Tryz
open Go.L Go.Rp Go.Sk
set_option maxRecDepth 100000
theorem Kj (h : ze) (b : Nat) : X1 prog h .neq 177 (V.ptr b 0) (V.val (.pointer none)) = some (.bool true) := by kernel_rfl
theorem qj (h : ze) : X1 prog h .neq 177 (V.val (.pointer none)) (V.val (.pointer none)) = some (.bool false) := by kernel_rfl
theorem zib (h : ze) (b : Nat) : X1 prog h .eql 177 (V.ptr b 0) (V.val (.pointer none)) = some (.bool false) := by kernel_rfl
theorem zic (h : ze) : X1 prog h .eql 177 (V.val (.pointer none)) (V.val (.pointer none)) = some (.bool true) := by kernel_rfl
theorem Wb (h : ze) (b : Nat) : X1 prog h .eql 117 (V.ptr b 0) (V.val (.pointer none)) = some (.bool false) := by kernel_rfl
theorem zjO {h : ze} {t o n m : Nat} {cs ds : List V} (ht : h[t]? = some (.box n cs)) (ho : h[o]? = some (.box m ds)) : X1 prog h .eql 177 (V.ptr t 0) (V.ptr o 0) = some (.bool (t == o && 0 == 0)) := by
 have e : X1 prog h .eql 177 (V.ptr t 0) (V.ptr o 0) = (match h[t]?, h[o]? with | some (.box ..), some (.box ..) => some (.bool (neg .eql (t == o && 0 == 0))) | _, _ => none) := by kernel_rfl
 rw [e, ht, ho]
 rfl
theorem zfY (n : Nat) {h : ze} {ns : List Nd} {N : Nx} (r : Rep h ns N) {x y : Nd} (hx : x ∈ ns) (hy : y ∈ ns) : ∃ b, call (n + 1) 245 [.ptr x.b 0, .ptr y.b 0] h = some (.ret [.bool b], h) := by
 rw [zjv]
 unfold zkL
 rw [zjO (r.at_ x hx) (r.at_ y hy), zb, zo]
 split
 · exact ⟨_, rfl⟩
 · rw [r.read hx, zl, if_pos (by omega), x.get1, zb, Xi, zb, zo]
   split
   · exact ⟨_, rfl⟩
   · rw [r.read hy, zl, if_pos (by omega), y.get1, zb, Xi, zb, zo]
     split
     · exact ⟨_, rfl⟩
     · rw [r.read hx, zl, if_pos (by omega), x.get0, zb, r.read hy, zl, if_pos (by omega), y.get0, zb, zg0, zb]
       exact ⟨_, rfl⟩
theorem zeP (n : Nat) (h : ze) (v k : Int) : call (n + 1) 232 [.int .i32 v, .int .i64 k] h = some (.ret [.ptr h.length 0], h ++ [.box 10 ([.int .i32 v, .int .i64 (max 1 (min k 8))] ++ Yl (fun _ => jA))]) := by
 rw [zo1]
 unfold tall
 have e : (if (1 : Int) < (if 8 < k then 8 else k) then (if 8 < k then 8 else k) else 1) = max 1 (min k 8) := by
  by_cases h1 : 8 < k
  · simp only [if_pos h1]; omega
  · simp only [if_neg h1]; split <;> omega
 rw [e]
 rfl
theorem nv_int (k : IntKind) (a : Nat) : nv (V.int k (a : Int)) = some a := Zo _ _
theorem Xx (k b o : Nat) : ZN k (.ptr b o) = some (.ptr b (o + k)) := rfl
theorem Jp (l : List V) : lcs (V.agg l) = l := rfl
theorem K7 (cs : List V) (o : Nat) (y : V) : setR cs o [y] = cs.set o y := rfl
theorem zjP (n : Nat) (s : Nat) (h : ze) (r0 : List V) (hr : r0.length = 8) : ∀ (d k M : Nat) (cs : List V), k + d = 8 -> d < M -> cs.length = 8 -> (∀ j, j < k -> cs[j]? = some (.ptr s 0)) →
    Ze M (JX n s) [.agg r0, .agg cs, .int .i64 (k : Int)] h = some (.ret [.agg (Zu (fun _ => s))], h) := by
 intro d
 induction d with
 | zero =>
   intro k M cs h1 h2 h3 h4
   obtain ⟨M, rfl⟩ : ∃ M', M = M' + 1 := ⟨M - 1, by omega⟩
   obtain rfl : k = 8 := by omega
   have hcs : cs = Zu (fun _ => s) := by
    apply ZM
    intro j
    by_cases hj : j < 8
    · rw [h4 j hj, zaF _ hj]
    · rw [Zc (by omega), Zc (by rw [Zz]; omega)]
   subst hcs
   rw [zL]
   unfold JX
   have hl : ((Zu (fun _ => s)).drop 0 |>.take 8) = Zu (fun _ => s) := by rw [zP, zN (by rw [Zz]; exact zm _)]
   simp only [gv, zg, zk, zC, zb, zo, Jp, hl, Zz]
   rw [if_neg (by decide), if_pos (by first | trivial | rfl), if_pos (by omega)]
   have : setR r0 0 (Zu (fun _ => s)) = Zu (fun _ => s) := by
    rw [JT (by rw [Zz]; omega), Qu, zT, Zz, Zl (by omega), Zn]
   rw [this, hl]
 | succ d ih =>
   intro k M cs h1 h2 h3 h4
   obtain ⟨M, rfl⟩ : ∃ M', M = M' + 1 := ⟨M - 1, by omega⟩
   have hlt : decide ((k : Int) < 8) = true := by simp; omega
   have key : ∀ next, JX n s [.agg r0, .agg cs, .int .i64 (k : Int)] h next = next [.agg r0, .agg (cs.set k (.ptr s 0)), .int .i64 ((k + 1 : Nat) : Int)] h := by
    intro next
    unfold JX
    simp only [gv, zg, zk, zC, zb, zo, Jp, hlt, if_true, nv_int]
    rw [if_pos (by omega), if_pos (by first | exact ⟨trivial, by omega⟩ | omega), zM, zb, XF (show k < lim by unfold lim; omega), Z3, K7]
   rw [zL, key]
   refine ih (k + 1) M _ (by omega) (by omega) (by rw [zp]; exact h3) fun j hj => ?_
   rw [Zb]
   split
   · rename_i e; rw [if_pos (by omega)]
   · exact h4 j (by omega)
theorem qk (n : Nat) (h : ze) (s : Nat) (hn : 8 < n) : call (n + 1) 230 [.ptr s 0] h = some (.ret [.agg (Zu (fun _ => s))], h) := by
 rw [zfv]
 unfold zez
 exact zjP n s h _ rfl 8 0 n _ (by omega) hn rfl (fun j h => by omega)
theorem znY (n : Nat) {ns : List Nd} (u : Nd) (hu : u ∈ ns) (P : Nat -> Nat) (hP : ∀ k, k < 8 -> ∃ x ∈ ns, x.b = P k) (hne : ∀ k, P k ≠ u.b) (N : Nx) (T : Nat) (hT : T <= 8) (r0 : List V) (hr : r0.length = 8) : ∀ (d k M : Nat) (h : ze), k + d = T -> d < M -> Rep h ns (Wa N u.b P k) →
    ∃ h', Ze M (W4 n u.b (.int .i64 (T : Int))) [.agg (Zu (fun j => if j < k then u.b else P j)), .agg r0, .int .i64 (k : Int)] h = some (.ret [.agg (Zu (fun j => if j < T then u.b else P j))], h') /\ Rep h' ns (Wa N u.b P T) /\ h'.length = h.length /\ ∀ i, (∀ x ∈ ns, x.b ≠ i) -> h'[i]? = h[i]? := by
 intro d
 induction d with
 | zero =>
   intro k M h h1 h2 hr'
   obtain ⟨M, rfl⟩ : ∃ M', M = M' + 1 := ⟨M - 1, by omega⟩
   obtain rfl : k = T := by omega
   refine ⟨h, ?_, hr', rfl, fun _ _ => rfl⟩
   rw [zL]
   unfold W4
   have hlt : decide ((k : Int) < (k : Int)) = false := by simp
   have hl : ∀ Q, ((Zu Q).drop 0 |>.take 8) = Zu Q := fun Q => by rw [zP, zN (by rw [Zz]; exact zm _)]
   simp only [gv, zg, zk, zC, zb, zo, Jp, hlt, zn, if_false, hl, Zz]
   rw [if_pos (by first | trivial | rfl), if_pos (by omega)]
   have : ∀ Q, setR r0 0 (Zu Q) = Zu Q := fun Q => by
    rw [JT (by rw [Zz]; omega), Qu, zT, Zz, Zl (by omega), Zn]
   rw [this, hl]
 | succ d ih =>
   intro k M h h1 h2 hr'
   obtain ⟨M, rfl⟩ : ∃ M', M = M' + 1 := ⟨M - 1, by omega⟩
   have hk : k < 8 := by omega
   obtain ⟨x, hx, hxb⟩ := hP k hk
   have hlt : decide ((k : Int) < (T : Int)) = true := by simp; omega
   have hone := hr'.one x hx k
   rw [hxb] at hone
   obtain ⟨w1, r1⟩ := hr'.write hu hk (Wa N u.b P k (P k) k) hone
   obtain ⟨w2, r2⟩ := r1.write hx hk (.ptr u.b 0) rfl
   rw [hxb] at w2 r2
   have hg : (Zu (fun j => if j < k then u.b else P j))[k]? = some (.ptr (P k) 0) := by rw [zaF _ hk, if_neg (by omega)]
   have hrd : zu h (.ptr (P k) (2 + k)) = some (x.cells (Wa N u.b P k), 10 + x.post.length, 2 + k) := by rw [<- hxb]; exact hr'.read hx _
   have hgx : (x.cells (Wa N u.b P k))[2 + k]? = some (Wa N u.b P k (P k) k) := by rw [x.get _ hk, hxb]
   obtain ⟨h', e, b1, b2, b3⟩ := ih (k + 1) M _ (by omega) (by omega) r2
   have hset : (Zu (fun j => if j < k then u.b else P j)).set k (.ptr u.b 0) = Zu (fun j => if j < k + 1 then u.b else P j) := by
    rw [zeO _ hk]
    congr 1
    funext j
    by_cases e1 : j = k
    · rw [if_pos e1, if_pos (by omega)]
    · rw [if_neg e1]
      by_cases e2 : j < k
      · rw [if_pos e2, if_pos (by omega)]
      · rw [if_neg e2, if_neg (by omega)]
   refine ⟨h', ?_, b1, by rw [b2, zp, zp], fun i hi => ?_⟩
   · rw [zL]
     have key : ∀ next, W4 n u.b (.int .i64 (T : Int)) [.agg (Zu (fun j => if j < k then u.b else P j)), .agg r0, .int .i64 (k : Int)] h next = next [.agg (Zu (fun j => if j < k + 1 then u.b else P j)), .agg r0, .int .i64 ((k + 1 : Nat) : Int)] ((h.set u.b (.box (10 + u.post.length) (u.cells (Yc (Wa N u.b P k) u.b k (Wa N u.b P k (P k) k))))).set (P k) (.box (10 + x.post.length) (x.cells (Yc (Yc (Wa N u.b P k) u.b k (Wa N u.b P k (P k) k)) (P k) k (.ptr u.b 0))))) := by
      intro next
      unfold W4
      simp only [gv, zg, zk, zC, zb, zo, Jp, hlt, if_true, nv_int, Xx, Z3, zr, hg, hrd, zl, hgx, hone, zB, zO, w1, w2, Zd, K7, hset, zM, XF (show k < lim by unfold lim; omega)]
      rw [if_pos hk, if_pos (by omega), if_pos hk, if_pos (by omega), if_pos hk, if_pos hk, if_pos (by omega), if_pos hk, if_pos hk, if_pos (by first | exact ⟨trivial, by omega⟩ | omega)]
     rw [key]
     exact e
   · rw [b3 i hi, zd (by rw [<- hxb]; exact hi x hx), zd (hi u hu)]
theorem znZ (n : Nat) {h : ze} {ns : List Nd} {N : Nx} (r : Rep h ns N) (u : Nd) (hu : u ∈ ns) {T : Nat} (hut : u.ht = (T : Int)) (hT : T <= 8) (P : Nat -> Nat) (hP : ∀ k, k < 8 -> ∃ x ∈ ns, x.b = P k) (hne : ∀ k, P k ≠ u.b) (hn : 8 < n) :
    ∃ h', call (n + 1) 231 [.agg (Zu P), .ptr u.b 0] h = some (.ret [.agg (Zu (fun j => if j < T then u.b else P j))], h') /\ Rep h' ns (Wa N u.b P T) /\ h'.length = h.length /\ ∀ i, (∀ x ∈ ns, x.b ≠ i) -> h'[i]? = h[i]? := by
 obtain ⟨h', e, b1, b2, b3⟩ := znY n u hu P hP hne N T hT [V.val (.pointer none), V.val (.pointer none), V.val (.pointer none), V.val (.pointer none), V.val (.pointer none), V.val (.pointer none), V.val (.pointer none), V.val (.pointer none)] rfl T 0 n h (by omega) (by omega) r
 refine ⟨h', ?_, b1, b2, b3⟩
 rw [zjw]
 unfold zkM
 rw [if_pos (by first | rfl | exact Zz P), r.read hu, zl, if_pos (by omega), u.get1, zb, hut]
 have e0 : (fun j => if j < 0 then u.b else P j) = P := by funext j; rw [if_neg (by omega)]
 rw [e0] at e
 exact e
def nds (s : Nat) (many most : Int) (ts : List Tw) : List Nd := ndH s many most :: ts.map ndT
structure SkAt (h : ze) (s : Nat) (ts : List Tw) (most : Int) (N : Nx) : Prop where
 rep : Rep h (nds s (ts.length : Int) most ts) N
 lk : Linked s ts N
 up : Rise ts
 ht : ∀ t ∈ ts, 1 <= t.ht /\ t.ht <= 8
theorem WA (s : Nat) (many most : Int) (ts : List Tw) : (nds s many most ts).map Nd.b = s :: ts.map Tw.b := by
 unfold nds
 rw [zU, List.map_map]
 rfl
theorem qV {s : Nat} {many most : Int} {ts : List Tw} {i : Nat} (hi : i <= ts.length) : ∃ x ∈ nds s many most ts, x.b = Z5 s ts i := by
 cases i with
 | zero => exact ⟨_, zy .., rfl⟩
 | succ i =>
   obtain ⟨t, ht⟩ : ∃ t, ts[i]? = some t := ⟨_, zf (by omega)⟩
   exact ⟨ndT t, zq _ (Zi (zI ht)), by simp only [Z5, getD_some ht]; rfl⟩
theorem zjQ {ts : List Tw} {k k' i : Nat} (h : k' <= k) (ho : WG ts k i) : WG ts k' i := by
 cases i with
 | zero => trivial
 | succ i => obtain ⟨t, ht, hk⟩ := ho; exact ⟨t, ht, by omega⟩
theorem zn0 : @zcM = @X5 := rfl
theorem zn1 : @zcN = @X5 := rfl
theorem zo2 (n : Nat) {h : ze} {s : Nat} {ts : List Tw} {many most : Int} {N : Nx} (r : Rep h (nds s many most ts) N) (lk : Linked s ts N) (up : Rise ts) (v : Int) {k : Nat} (hk : k < 8) (cs r0 : List V) (hcs : cs.length = 8) (last : V) (next3 : List V -> ze -> Option (Res × ze)) (sv0 sv1 : V) : ∀ (d i M : Nat), i + d = ts.length + 1 -> d < M + 1 -> i <= Xj ts v -> WG ts k i -> 0 < M →
    Ze M (X5 n v [sv0, sv1, last, .int .i64 (k : Int)] next3) [.agg cs, .agg r0, .ptr (Z5 s ts i) 0, nx k (ts.drop i)] h = next3 [.agg (cs.set k (.ptr (Z5 s ts (ZZ ts k (Xj ts v))) 0)), .agg r0, .ptr (Z5 s ts (ZZ ts k (Xj ts v))) 0, .int .i64 (IntKind.i64.wrap ((k : Int) - 1))] h := by
 intro d
 induction d using Nat.strongRecOn with
 | _ d ih =>
 intro i M h1 h2 h3 h4 hM
 obtain ⟨M, rfl⟩ : ∃ M', M = M' + 1 := ⟨M - 1, by omega⟩
 have hul := js ts v
 have hend : (∀ m t, i <= m -> m < Xj ts v -> ts[m]? = some t -> ¬ k < t.ht) -> ZZ ts k (Xj ts v) = i := fun hn => zdc h4 _ h3 hul hn
 rw [zL]
 rcases zia (k := k) (ts := ts) i with ⟨f1, f2⟩ | ⟨m, t, f1, f2, f3, f4, f5⟩
 · have hl := hend fun m t a1 a2 a3 => f2 m t a1 a3
   have hnx : nx k (ts.drop i) = V.val (.pointer none) := by unfold nx; rw [f1]; rfl
   rw [hl, hnx]
   have key : ∀ next21, X5 n v [sv0, sv1, last, .int .i64 (k : Int)] next3 [.agg cs, .agg r0, .ptr (Z5 s ts i) 0, .val (.pointer none)] h next21 = next3 [.agg (cs.set k (.ptr (Z5 s ts i) 0)), .agg r0, .ptr (Z5 s ts i) 0, .int .i64 (IntKind.i64.wrap ((k : Int) - 1))] h := by
    intro next21
    unfold X5
    simp only [gv, zg, zk, qj, zb, zo, zn, if_false, nv_int, Jp, V.cells, zB, zO, Z3, K7, ZH]
    rw [if_pos hk, if_pos (by first | trivial | rfl), if_pos (by first | exact ⟨trivial, by omega⟩ | omega)]
   rw [key]
 · have hnx : nx k (ts.drop i) = V.ptr t.b 0 := by unfold nx; rw [f4]
   have hmem : ndT t ∈ nds s many most ts := zq _ (Zi (zI f2))
   have hrd := r.read hmem
   have hrd0 : ∀ o, zu h (.ptr t.b o) = some ((ndT t).cells N, 10, o) := fun o => hrd o
   have hml := (zh.1 f2).1
   rw [hnx]
   by_cases hv : t.v <= v
   · have hmu : m < Xj ts v := (K6 up v f2).2 hv
     have hgx : ((ndT t).cells N)[2 + k]? = some (nx k (ts.drop (m + 1))) := by
      rw [(ndT t).get _ hk]
      have := lk.tw m t k f2 hk
      rw [if_pos f3] at this
      rw [<- this]; rfl
     have hp : Z5 s ts (m + 1) = t.b := by simp only [Z5, getD_some f2]
     have IH := ih (ts.length + 1 - (m + 1)) (by omega) (m + 1) M (by omega) (by omega) (by omega) ⟨t, f2, f3⟩ (by omega)
     rw [hp] at IH
     have key : ∀ next21, X5 n v [sv0, sv1, last, .int .i64 (k : Int)] next3 [.agg cs, .agg r0, .ptr (Z5 s ts i) 0, .ptr t.b 0] h next21 = next21 [.agg cs, .agg r0, .ptr t.b 0, nx k (ts.drop (m + 1))] h := by
      intro next21
      unfold X5
      simp only [gv, zg, zk, Kj, zb, zo, if_true, Xx, zr, zV, Z3, hrd0, zl, Nd.get0, zbd, nv_int, hgx, Jp]
      rw [if_pos (by omega), if_pos (by exact decide_eq_true hv), if_pos hk, if_pos (by omega)]
     rw [key]
     exact IH
   · have hmu : ¬ m < Xj ts v := fun h => hv ((K6 up v f2).1 h)
     have hl := hend fun m' t' a1 a2 a3 => f5 m' t' a1 (by omega) a3
     rw [hl]
     have key : ∀ next21, X5 n v [sv0, sv1, last, .int .i64 (k : Int)] next3 [.agg cs, .agg r0, .ptr (Z5 s ts i) 0, .ptr t.b 0] h next21 = next3 [.agg (cs.set k (.ptr (Z5 s ts i) 0)), .agg r0, .ptr (Z5 s ts i) 0, .int .i64 (IntKind.i64.wrap ((k : Int) - 1))] h := by
      intro next21
      unfold X5
      simp only [gv, zg, zk, Kj, zb, zo, if_true, Xx, zr, zV, Z3, hrd0, zl, Nd.get0, zbd, nv_int, Jp, V.cells, zB, zO, K7, ZH]
      rw [if_pos (by omega), if_neg (by exact fun e => hv (of_decide_eq_true e)), if_pos hk, if_pos (by first | exact ⟨trivial, by omega⟩ | omega)]
     rw [key]
theorem zmd (Q : Nat -> Nat) (r0 : List V) (hr : r0.length = 8) : (((setR r0 0 ((Zu Q).drop 0 |>.take 8))).drop 0 |>.take 8) = Zu Q := by
 have hl : ((Zu Q).drop 0 |>.take 8) = Zu Q := by rw [zP, zN (by rw [Zz]; exact zm _)]
 have : setR r0 0 (Zu Q) = Zu Q := by
  rw [JT (by rw [Zz]; omega), Qu, zT, Zz, Zl (by omega), Zn]
 rw [hl, this, hl]
theorem zaG (Q : Nat -> Nat) : ((Zu Q).drop 0 |>.take 8) = Zu Q := by rw [zP, zN (by rw [Zz]; exact zm _)]
theorem zo3 (n : Nat) {h : ze} {s : Nat} {ts : List Tw} {many most : Int} {N : Nx} (r : Rep h (nds s many most ts) N) (lk : Linked s ts N) (up : Rise ts) (v : Int) (Q : Nat -> Nat) (hQ : ∀ k, k < 8 -> Q k <= Xj ts v /\ WG ts k (Q k)) (r0 : List V) (hr : r0.length = 8) (hn : ts.length < n) : ∀ (c M : Nat) (last : V), c <= 8 -> c < M →
    ((last = .val (.pointer none) /\ c = 8) \/ ∃ i, last = .ptr (Z5 s ts i) 0 /\ i <= Xj ts v /\ WG ts c i) →
    Ze M (JI (n + 1) v) [.agg (Zu (fun k => if c <= k then Z5 s ts (ZZ ts k (Xj ts v)) else Z5 s ts (Q k))), .agg r0, last, .int .i64 ((c : Int) - 1)] h = some (.ret [.agg (Zu (fun k => Z5 s ts (ZZ ts k (Xj ts v))))], h) := by
 intro c
 induction c with
 | zero =>
   intro M last h1 h2 h3
   obtain ⟨M, rfl⟩ : ∃ M', M = M' + 1 := ⟨M - 1, by omega⟩
   rw [zL]
   unfold JI
   have hlt : decide ((((0 : Nat) : Int) - 1) ≥ 0) = false := by decide
   have e : (fun k => if 0 <= k then Z5 s ts (ZZ ts k (Xj ts v)) else Z5 s ts (Q k)) = fun k => Z5 s ts (ZZ ts k (Xj ts v)) := by funext k; rw [if_pos (Zh _)]
   simp only [gv, zg, zk, Xm, zb, zo, hlt, zn, if_false, Jp, e, zmd _ r0 hr]
   simp only [zaG, Zz]
   rw [if_pos (by first | trivial | rfl), if_pos (by omega)]
 | succ k ih =>
   intro M last h1 h2 h3
   obtain ⟨M, rfl⟩ : ∃ M', M = M' + 1 := ⟨M - 1, by omega⟩
   have hk : k < 8 := by omega
   have hul := js ts v
   have hge : decide ((((k + 1 : Nat) : Int) - 1) ≥ 0) = true := by simp
   have hki : (((k + 1 : Nat) : Int) - 1) = (k : Int) := by omega
   have hwr : IntKind.i64.wrap ((k : Int) - 1) = (k : Int) - 1 := by rw [w64] <;> omega
   obtain ⟨q1, q2⟩ := hQ k hk
   have hpk : (Zu (fun j => if k + 1 <= j then Z5 s ts (ZZ ts j (Xj ts v)) else Z5 s ts (Q j)))[k]? = some (.ptr (Z5 s ts (Q k)) 0) := by rw [zaF _ hk, if_neg (by omega)]
   have hstep : (Zu (fun j => if k + 1 <= j then Z5 s ts (ZZ ts j (Xj ts v)) else Z5 s ts (Q j))).set k (.ptr (Z5 s ts (ZZ ts k (Xj ts v))) 0) = Zu (fun j => if k <= j then Z5 s ts (ZZ ts j (Xj ts v)) else Z5 s ts (Q j)) := by
    rw [zeO _ hk]
    congr 1
    funext j
    by_cases e1 : j = k
    · rw [if_pos e1, if_pos (by omega), e1]
    · rw [if_neg e1]
      by_cases e2 : k + 1 <= j
      · rw [if_pos e2, if_pos (by omega)]
      · rw [if_neg e2, if_neg (by omega)]
   have hon : WG ts k (ZZ ts k (Xj ts v)) := K5 ts k _ hul
   have IH := ih M (.ptr (Z5 s ts (ZZ ts k (Xj ts v))) 0) (by omega) (by omega) (.inr ⟨_, rfl, Jx ts k _, hon⟩)
   have walk : ∀ i, i <= Xj ts v -> WG ts k i -> ∀ lst, Ze (n + 1) (X5 (n + 1) v [.agg (Zu (fun j => if k + 1 <= j then Z5 s ts (ZZ ts j (Xj ts v)) else Z5 s ts (Q j))), .agg r0, lst, .int .i64 (k : Int)] (Ze M (JI (n + 1) v))) [.agg (Zu (fun j => if k + 1 <= j then Z5 s ts (ZZ ts j (Xj ts v)) else Z5 s ts (Q j))), .agg r0, .ptr (Z5 s ts i) 0, nx k (ts.drop i)] h = some (.ret [.agg (Zu (fun k => Z5 s ts (ZZ ts k (Xj ts v))))], h) := fun i hi hi2 lst => by
    rw [zo2 (n + 1) r lk up v hk _ r0 (Zz _) lst _ _ _ (ts.length + 1 - i) i (n + 1) (by omega) (by omega) hi hi2 (by omega), hstep, hwr]
    exact IH
   have rdQ : ∀ i, i <= Xj ts v -> WG ts k i -> ∃ cs m, zu h (.ptr (Z5 s ts i) (2 + k)) = some (cs, m, 2 + k) /\ 2 + k + 1 <= m /\ cs[2 + k]? = some (nx k (ts.drop i)) := fun i hi hi2 => by
    obtain ⟨x, hx, hxb⟩ := qV (s := s) (many := many) (most := most) (ts := ts) (i := i) (by omega)
    refine ⟨x.cells N, 10 + x.post.length, by rw [<- hxb]; exact r.read hx _, by omega, ?_⟩
    rw [x.get _ hk, hxb, lk.at_ hk hi2]
   obtain ⟨cs, m, c1, c2, c3⟩ := rdQ (Q k) q1 q2
   rw [zL, hki]
   rcases h3 with ⟨rfl, h8⟩ | ⟨i, rfl, i1, i2⟩
   · have key : ∀ next, JI (n + 1) v [.agg (Zu (fun j => if k + 1 <= j then Z5 s ts (ZZ ts j (Xj ts v)) else Z5 s ts (Q j))), .agg r0, .val (.pointer none), .int .i64 (k : Int)] h next = Ze (n + 1) (X5 (n + 1) v [.agg (Zu (fun j => if k + 1 <= j then Z5 s ts (ZZ ts j (Xj ts v)) else Z5 s ts (Q j))), .agg r0, .val (.pointer none), .int .i64 (k : Int)] next) [.agg (Zu (fun j => if k + 1 <= j then Z5 s ts (ZZ ts j (Xj ts v)) else Z5 s ts (Q j))), .agg r0, .ptr (Z5 s ts (Q k)) 0, nx k (ts.drop (Q k))] h := by
       intro next
       unfold JI
       simp only [gv, zg, zk, Xm, zb, zo]
       rw [if_pos (decide_eq_true (Int.natCast_nonneg k)), zic, zb, zo, if_pos rfl]
       simp only [nv_int, zb, Jp, Z3, hpk, Xx, zr, zV, c1, zl, c3]
       rw [if_pos hk, if_pos (by omega), if_pos hk, if_pos (by omega)]
     rw [key]
     exact walk (Q k) q1 q2 _
   · have i2' := zjQ (k' := k) (by omega) i2
     obtain ⟨ds, m', d1, d2, d3⟩ := rdQ i i1 i2'
     obtain ⟨x, hx, hxb⟩ := qV (s := s) (many := many) (most := most) (ts := ts) (i := Q k) (by omega)
     obtain ⟨y, hy, hyb⟩ := qV (s := s) (many := many) (most := most) (ts := ts) (i := i) (by omega)
     obtain ⟨b, hb⟩ := zfY n r hx hy
     rw [hxb, hyb] at hb
     have key : ∀ next, JI (n + 1) v [.agg (Zu (fun j => if k + 1 <= j then Z5 s ts (ZZ ts j (Xj ts v)) else Z5 s ts (Q j))), .agg r0, .ptr (Z5 s ts i) 0, .int .i64 (k : Int)] h next = Ze (n + 1) (X5 (n + 1) v [.agg (Zu (fun j => if k + 1 <= j then Z5 s ts (ZZ ts j (Xj ts v)) else Z5 s ts (Q j))), .agg r0, .ptr (Z5 s ts i) 0, .int .i64 (k : Int)] next) [.agg (Zu (fun j => if k + 1 <= j then Z5 s ts (ZZ ts j (Xj ts v)) else Z5 s ts (Q j))), .agg r0, .ptr (Z5 s ts (if b then Q k else i)) 0, nx k (ts.drop (if b then Q k else i))] h := by
      intro next
      unfold JI
      simp only [gv, zg, zk, Xm, zb, zo]
      rw [if_pos (decide_eq_true (Int.natCast_nonneg k)), zib, zb, zo, if_neg (by decide)]
      simp only [nv_int, zb, Jp, Z3, hpk]
      rw [if_pos hk, if_pos (by omega), hb, zK, zw, zo]
      cases b with
      | true =>
        rw [if_pos rfl]
        simp only [nv_int, zb, Jp, Z3, hpk, Xx, zr, zV, c1, zl, c3, if_true, zn0]
        rw [if_pos hk, if_pos (by omega), if_pos hk, if_pos (by omega)]
      | false =>
        rw [if_neg (by decide)]
        simp only [nv_int, zb, Jp, Z3, Xx, zr, zV, d1, zl, d3, zn, if_false, zn1]
        rw [if_pos hk, if_pos (by omega)]
     rw [key]
     cases b with
     | true => exact walk (Q k) q1 q2 _
     | false => exact walk i i1 i2' _
theorem zo4 (n : Nat) {h : ze} {s : Nat} {ts : List Tw} {many most : Int} {N : Nx} (r : Rep h (nds s many most ts) N) (lk : Linked s ts N) (up : Rise ts) (v : Int) (Q : Nat -> Nat) (hQ : ∀ k, k < 8 -> Q k <= Xj ts v /\ WG ts k (Q k)) (hn : ts.length + 8 < n) :
    call (n + 2) 238 [.agg (Zu (fun k => Z5 s ts (Q k))), .int .i32 v] h = some (.ret [.agg (Zu (fun k => Z5 s ts (ZZ ts k (Xj ts v))))], h) := by
 rw [show n + 2 = (n + 1) + 1 from rfl, zlX]
 unfold znm
 rw [if_pos (Zz _)]
 have e := zo3 n r lk up v Q hQ [V.val (.pointer none), V.val (.pointer none), V.val (.pointer none), V.val (.pointer none), V.val (.pointer none), V.val (.pointer none), V.val (.pointer none), V.val (.pointer none)] rfl (by omega) 8 (n + 1) (.val (.pointer none)) (by omega) (by omega) (.inl ⟨rfl, rfl⟩)
 have e0 : Zu (fun k => if 8 <= k then Z5 s ts (ZZ ts k (Xj ts v)) else Z5 s ts (Q k)) = Zu (fun k => Z5 s ts (Q k)) := by
  unfold Zu
  apply List.map_congr_left
  intro k hk
  have := Za.1 hk
  simp only
  rw [if_neg (by omega)]
 rw [e0] at e
 exact e
end Go.Proofs.Tryz
namespace Go.Sk
open Go.L
theorem zo5 {ts : List Tw} {k j : Nat} (hj : j <= ts.length) : nx k (ts.drop (ZZ ts k j)) = nx k (ts.drop j) := by
 have hl := Jx ts k j
 unfold nx
 rw [zeL hl hj]
 have : Kh k ((ts.take j).drop (ZZ ts k j)) = none := by
  cases h : Kh k ((ts.take j).drop (ZZ ts k j)) with
  | none => rfl
  | some t =>
    obtain ⟨m, h1, h2, h3, h4⟩ := jR h
    exact absurd h4 (qi ts k j m t h1 h2 h3)
 unfold Kh at this ⊢
 rw [Q9, this]
 rfl
theorem zid (ts : List Tw) (j : Nat) (u : Tw) : (ins ts j u).Perm (u :: ts) := by
 unfold ins
 refine List.perm_middle.trans ?_
 rw [Zx]
theorem qW {ts : List Tw} {j : Nat} {u t : Tw} : t ∈ ins ts j u ↔ t = u \/ t ∈ ts := by rw [(zid ts j u).mem_iff, zF]
def jB (N : Nx) (b : Nat) : Nx := fun b' k => if b' = b then jA else N b' k
end Go.Sk
namespace Go.Proofs.Tryz
open Go.L Go.Rp Go.Sk
set_option maxRecDepth 100000
def skB (s : Nat) (ts : List Tw) : List Nat := s :: ts.map Tw.b
theorem SkAt.nd {h : ze} {s : Nat} {ts : List Tw} {most : Int} {N : Nx} (S : SkAt h s ts most N) : (skB s ts).Nodup := by
 have := S.rep.nd
 rwa [WA] at this
theorem SkAt.lt {h : ze} {s : Nat} {ts : List Tw} {most : Int} {N : Nx} (S : SkAt h s ts most N) : ∀ b ∈ skB s ts, b < h.length := fun b hb => by
 unfold skB at hb
 rw [<- WA s (ts.length : Int) most] at hb
 obtain ⟨x, hx, rfl⟩ := ZF.1 hb
 exact zQ (S.rep.at_ x hx)
theorem SkAt.keep {h h' : ze} {s : Nat} {ts : List Tw} {most : Int} {N : Nx} (S : SkAt h s ts most N) (hk : ∀ b ∈ skB s ts, h'[b]? = h[b]?) : SkAt h' s ts most N :=
 ⟨S.rep.keep fun x hx => hk _ (by unfold skB; rw [<- WA s (ts.length : Int) most]; exact Zi hx), S.lk, S.up, S.ht⟩
theorem zme {N : Nx} {b : Nat} (h : ∀ k, N b k = jA) : Yl (N b) = Yl (fun _ => jA) := by
 congr 1; funext k; exact h k
theorem zde (n : Nat) {h : ze} {s : Nat} {ts : List Tw} {most : Int} {N : Nx} (S : SkAt h s ts most N) (v kk : Int) (Q : Nat -> Nat) (hQ : ∀ k, k < 8 -> Q k <= Xj ts v /\ WG ts k (Q k)) (hn : ts.length + 8 < n) (hlim : ts.length < lim) :
    ∃ (u : Tw) (h1 h2 : ze) (N' : Nx) (cs : List V) (B : HB), u.b = h.length /\ u.v = v /\ (u.ht : Int) = max 1 (min kk 8) ∧
     call (n + 2) 238 [.agg (Zu (fun k => Z5 s ts (Q k))), .int .i32 v] h = some (.ret [.agg (Zu (fun k => Z5 s ts (ZZ ts k (Xj ts v))))], h) ∧
     call (n + 2) 232 [.int .i32 v, .int .i64 kk] h = some (.ret [.ptr u.b 0], h1) ∧
     call (n + 2) 231 [.agg (Zu (fun k => Z5 s ts (ZZ ts k (Xj ts v)))), .ptr u.b 0] h1 = some (.ret [.agg (Zu (fun k => Z5 s (ins ts (Xj ts v) u) (ZZ (ins ts (Xj ts v) u) k (Xj ts v + 1))))], h2) ∧
     zu h2 (.ptr s 10) = some (cs, 12, 10) /\ cs[10]? = some (.int .i64 (ts.length : Int)) /\ Zp h2 [.int .i64 ((ts.length + 1 : Nat) : Int)] (.ptr s 10) = some (s, B) ∧
     SkAt (h2.set s B) s (ins ts (Xj ts v) u) most N' /\ (h2.set s B).length = h.length + 1 /\ ∀ i, i < h.length -> i ∉ skB s ts -> (h2.set s B)[i]? = h[i]? := by
 obtain ⟨T, hT⟩ : ∃ T : Nat, (T : Int) = max 1 (min kk 8) := ⟨(max 1 (min kk 8)).toNat, ZY (by omega)⟩
 have hT1 : 1 <= T /\ T <= 8 := by omega
 have hul := js ts v
 have hlt := S.lt
 have hnd := S.nd
 have hon := zo4 n S.rep S.lk S.up v Q hQ hn
 have htall := zeP (n + 1) h v kk
 obtain ⟨P, hPe⟩ : ∃ P : Nat -> Nat, P = fun k => Z5 s ts (ZZ ts k (Xj ts v)) := ⟨_, rfl⟩
 rw [<- hPe] at hon
 obtain ⟨u, hu⟩ : ∃ u : Tw, u = ⟨h.length, v, T⟩ := ⟨_, rfl⟩
 have hub : u.b = h.length := by rw [hu]
 have huT : u.ht = T := by rw [hu]
 have huv : u.v = v := by rw [hu]
 have hfresh : ∀ b ∈ skB s ts, b ≠ h.length := fun b hb e => by have := hlt b hb; omega
 have hPin : ∀ k, P k ∈ skB s ts := fun k => by
  rw [hPe]
  obtain ⟨x, hx, hxb⟩ := qV (s := s) (many := (ts.length : Int)) (most := most) (ts := ts) (i := ZZ ts k (Xj ts v)) (by have := Jx ts k (Xj ts v); omega)
  simp only
  rw [<- hxb]
  unfold skB
  rw [<- WA s (ts.length : Int) most]
  exact Zi hx
 obtain ⟨h1, hh1⟩ : ∃ h1 : ze, h1 = h ++ [.box 10 ([.int .i32 v, .int .i64 (max 1 (min kk 8))] ++ Yl (fun _ => jA))] := ⟨_, rfl⟩
 rw [<- hh1] at htall
 have hN1 : ∀ b ∈ skB s ts, jB N h.length b = N b := fun b hb => by funext k; unfold jB; rw [if_neg (hfresh b hb)]
 have r1 : Rep h1 (ndT u :: nds s (ts.length : Int) most ts) (jB N h.length) := by
  refine ⟨fun x hx => ?_, ?_, fun x hx k => ?_⟩
  · rcases zF.1 hx with rfl | hx
    · show h1[u.b]? = some (.box (10 + 0) ([.int .i32 u.v, .int .i64 (u.ht : Int)] ++ (Yl (jB N h.length u.b) ++ [])))
      rw [hub, hh1, zD, huv, huT, hT, Zn, zme (N := jB N h.length) (b := h.length) (fun k => by unfold jB; rw [if_pos rfl])]
    · have hb : x.b ∈ skB s ts := by unfold skB; rw [<- WA s (ts.length : Int) most]; exact Zi hx
      have := S.rep.at_ x hx
      unfold Ki at this ⊢
      rw [hh1, zj (hlt _ hb), this]
      unfold Nd.cells
      rw [hN1 _ hb]
  · rw [zU, WA]
    refine ZB.2 ⟨fun hm => hfresh _ hm hub, hnd⟩
  · rcases zF.1 hx with rfl | hx
    · have e : jB N h.length (ndT u).b k = jA := if_pos hub
      rw [e]; rfl
    · have hb : x.b ∈ skB s ts := by unfold skB; rw [<- WA s (ts.length : Int) most]; exact Zi hx
      rw [hN1 _ hb]
      exact S.rep.one x hx k
 have hPne : ∀ k, P k ≠ u.b := fun k e => hfresh _ (hPin k) (e.trans hub)
 obtain ⟨h2, e3, r2, l2, f2⟩ := znZ (n + 1) r1 (ndT u) (zy ..) (T := T) (by show ((u.ht : Nat) : Int) = _; rw [huT]) hT1.2 P (fun k hk => by
     have := hPin k
     unfold skB at this
     rw [<- WA s (ts.length : Int) most] at this
     obtain ⟨x, hx, hxb⟩ := ZF.1 this
     exact ⟨x, zq _ hx, hxb⟩) hPne (by omega)
 have hlk : Linked s (ins ts (Xj ts v) u) (Wa (jB N h.length) u.b P T) := by
  have hnd' := ZB.1 hnd
  refine S.lk.ins hnd'.2 hnd'.1 (fun e => hfresh s (zy ..) (e.symm.trans hub)) (fun hm => hfresh _ (zq _ hm) hub) hul (fun k hk => ?_) (fun k hk hku => ?_) (fun b k hk hb1 hb2 => ?_)
  · rw [huT]
    by_cases hkT : k < T
    · rw [if_pos hkT, (zbR (jB N h.length) u.b P hPne T k hkT).1, hN1 _ (hPin k), hPe]
      simp only
      rw [S.lk.at_ hk (K5 ts k _ hul), zo5 hul]
    · rw [if_neg hkT, qU _ _ _ _ _ _ (by omega), hub]
      unfold jB; rw [if_pos rfl]
  · rw [huT] at hku
    have := (zbR (jB N h.length) u.b P hPne T k hku).2.1
    rw [hPe] at this
    rw [hPe]
    exact this
  · have hbN : jB N h.length b k = N b k := by unfold jB; rw [if_neg (by rw [<- hub]; exact hb1)]
    by_cases hkT : k < T
    · rw [(zbR (jB N h.length) u.b P hPne T k hkT).2.2 b hb1 (by rw [hPe]; exact hb2 (by rw [huT]; exact hkT)), hbN]
    · rw [qU _ _ _ _ _ _ (by omega), hbN]
 have hpath : Zu (fun j => if j < T then (ndT u).b else P j) = Zu (fun k => Z5 s (ins ts (Xj ts v) u) (ZZ (ins ts (Xj ts v) u) k (Xj ts v + 1))) := by
  congr 1
  funext k
  rw [zfX hul, huT]
  by_cases hkT : k < T
  · rw [if_pos hkT, if_pos hkT]
    simp only [Z5, getD_some (zfW hul)]
    rfl
  · rw [if_neg hkT, if_neg hkT, znX hul (Jx _ _ _), hPe]
 rw [hpath] at e3
 have hhd := r2.at_ (ndH s (ts.length : Int) most) (zq _ (zy ..))
 have hcell := r2.read (x := ndH s (ts.length : Int) most) (zq _ (zy ..)) 10
 have hc10 : ∀ (many : Int) (M : Nx), ((ndH s many most).cells M)[10]? = some (.int .i64 many) := fun many M => by
  unfold Nd.cells
  rw [zG (by simp), zG (by rw [X6]; simp)]
  simp [X6, ndH]
 have hset : ∀ (a b : Int) (M : Nx), setR ((ndH s a most).cells M) 10 [.int .i64 b] = (ndH s b most).cells M := fun a b M => by
  show (List.set _ _ _) = _
  unfold Nd.cells
  rw [Zw _ _ (by simp), Zw _ _ (by rw [X6]; simp)]
  congr 1
  try simp [X6, ndH]
 have hsl := zQ hhd
 have hw : Zp h2 [.int .i64 ((ts.length + 1 : Nat) : Int)] (.ptr s 10) = some (s, .box 12 ((ndH s ((ts.length + 1 : Nat) : Int) most).cells (Wa (jB N h.length) u.b P T))) := by
  have h0 : h2[s]? = some (.box 12 ((ndH s (ts.length : Int) most).cells (Wa (jB N h.length) u.b P T))) := hhd
  rw [ZO h0 (by simp), hset]
 refine ⟨u, h1, h2, _, _, _, hub, huv, by rw [huT]; exact hT, hPe ▸ hon, by rw [hub]; exact htall, hPe ▸ e3, hcell, hc10 _ _, hw, ⟨⟨fun x hx => ?_, ?_, fun x hx k => ?_⟩, hlk, ?_, fun t ht => ?_⟩, ?_, fun i hi hib => ?_⟩
 · rcases zF.1 hx with rfl | hx
   · rw [zk4 hul]
     exact Xf hsl _
   · obtain ⟨t, ht, rfl⟩ := ZF.1 hx
     have hm : ndT t ∈ ndT u :: nds s (ts.length : Int) most ts := by
      rcases qW.1 ht with rfl | ht
      · exact zy ..
      · exact zq _ (zq _ (Zi ht))
     have hne : t.b ≠ s := by
      rcases qW.1 ht with rfl | ht
      · intro e; exact hfresh s (zy ..) (e.symm.trans hub)
      · intro e; exact (ZB.1 hnd).1 (e ▸ Zi ht)
     unfold Ki
     rw [zd (show s ≠ (ndT t).b from Ne.symm hne)]
     exact r2.at_ _ hm
 · rw [WA]
   have hp : ((ins ts (Xj ts v) u).map Tw.b).Perm ((u :: ts).map Tw.b) := (zid ts _ u).map _
   have hnd' := ZB.1 hnd
   refine ZB.2 ⟨fun hm => ?_, hp.nodup_iff.2 ?_⟩
   · rcases zF.1 (hp.mem_iff.1 hm) with e | hm
     · exact hfresh s (zy ..) (e.trans hub)
     · exact hnd'.1 hm
   · rw [zU]
     exact ZB.2 ⟨fun hm => hfresh _ (zq _ hm) hub, hnd'.2⟩
 · rcases zF.1 hx with rfl | hx
   · exact r2.one (ndH s (ts.length : Int) most) (zq _ (zy ..)) k
   · obtain ⟨t, ht, rfl⟩ := ZF.1 hx
     rcases qW.1 ht with rfl | ht
     · exact r2.one _ (zy ..) k
     · exact r2.one _ (zq _ (zq _ (Zi ht))) k
 · have := S.up.ins u
   rwa [huv] at this
 · rcases qW.1 ht with rfl | ht
   · rw [huT]; exact hT1
   · exact S.ht t ht
 · rw [zp, l2, hh1, zE]; rfl
 · have his : i ≠ s := fun e => hib (e ▸ zy ..)
   rw [zd (Ne.symm his), f2 i fun x hx e => ?_, hh1, zj hi]
   rcases zF.1 hx with rfl | hx
   · have : (ndT u).b = h.length := hub
     omega
   · refine hib ?_
     unfold skB
     rw [<- WA s (ts.length : Int) most, <- e]
     exact Zi hx
theorem jt (s : Nat) (many most : Int) (M : Nx) : ((ndH s many most).cells M)[10]? = some (.int .i64 many) := by
 unfold Nd.cells
 rw [zG (by simp), zG (by rw [X6]; simp)]
 simp [X6, ndH]
theorem zaH (s : Nat) (many most : Int) (M : Nx) : ((ndH s many most).cells M)[11]? = some (.int .i64 most) := by
 unfold Nd.cells
 rw [zG (by simp), zG (by rw [X6]; simp)]
 simp [X6, ndH]
theorem zn2 (s : Nat) (a b most : Int) (M : Nx) : setR ((ndH s a most).cells M) 10 [.int .i64 b] = (ndH s b most).cells M := by
 show (List.set _ _ _) = _
 unfold Nd.cells
 rw [Zw _ _ (by simp), Zw _ _ (by rw [X6]; simp)]
 congr 1
 try simp [X6, ndH]
theorem SkAt.head {h : ze} {s : Nat} {ts : List Tw} {most : Int} {N : Nx} (S : SkAt h s ts most N) (o : Nat) : zu h (.ptr s o) = some ((ndH s (ts.length : Int) most).cells N, 12, o) := S.rep.read (x := ndH s (ts.length : Int) most) (zy ..) o
theorem SkAt.hb {h : ze} {s : Nat} {ts : List Tw} {most : Int} {N : Nx} (S : SkAt h s ts most N) : h[s]? = some (.box 12 ((ndH s (ts.length : Int) most).cells N)) := S.rep.at_ _ (zy ..)
theorem zaI (n : Nat) {h : ze} {s : Nat} {ts : List Tw} {most : Int} {N : Nx} (S : SkAt h s ts most N) : call (n + 1) 226 [.ptr s 0] h = some (.ret [.int .i64 most], h) := by
 refine (zhe n s h).trans ?_
 unfold zhd
 rw [Wb, zb, zo, if_neg (by decide), S.head, zl, if_pos (by decide), zaH, zb]
theorem qX (n : Nat) {h : ze} {s : Nat} {ts : List Tw} {most : Int} {N : Nx} (S : SkAt h s ts most N) : call (n + 1) 218 [.ptr s 0] h = some (.ret [.int .i64 (ts.length : Int)], h) := by
 refine (zju n s h).trans ?_
 unfold zkK
 rw [Wb, zb, zo, if_neg (by decide), S.head, zl, if_pos (by decide), jt, zb]
structure Put (h h' : ze) (s : Nat) (ts ts' : List Tw) (most : Int) (v kk : Int) : Prop where
 sk : ∃ N, SkAt h' s ts' most N
 ins : ∃ u : Tw, u.b = h.length /\ u.v = v /\ (u.ht : Int) = max 1 (min kk 8) /\ ts' = Go.Sk.ins ts (Xj ts v) u
 len : h'.length = h.length + 1
 old : ∀ i, i < h.length -> i ∉ skB s ts -> h'[i]? = h[i]?
theorem zaJ (k : IntKind) (a : Int) : V.cells (.int k a) = [.int k a] := rfl
theorem zie (n : Nat) {h : ze} {s : Nat} {ts : List Tw} {most : Int} {N : Nx} (S : SkAt h s ts most N) (v kk : Int) (hn : ts.length + 8 < n) (hlim : ts.length < lim) (hm : (ts.length : Int) < most) :
    ∃ h' ts', call (n + 3) 233 [.ptr s 0, .int .i32 v, .int .i64 kk] h = some (.ret [.bool true], h') /\ Put h h' s ts ts' most v kk := by
 obtain ⟨u, h1, h2, N', cs, B, a1, a2, a3, e1, e2, e3, c1, c2, w, S', l', f'⟩ := zde n S v kk (fun _ => 0) (fun k _ => ⟨Zh _, trivial⟩) hn hlim
 refine ⟨h2.set s B, _, ?_, ⟨⟨N', S'⟩, ⟨u, a1, a2, a3, rfl⟩, l', f'⟩⟩
 refine (zdH (n + 2) s v kk h).trans ?_
 unfold zcO
 have hb := qk (n + 1) h s (by omega)
 have hb' : call (n + 2) 230 [.ptr s 0] h = some (.ret [.agg (Zu (fun _ => Z5 s ts 0))], h) := hb
 rw [Wb, zb, zo, if_neg (by decide), S.head, zl, if_pos (by decide), jt, zb, S.head, zl, if_pos (by decide), zaH, zb, Xm, zb, zo]
 rw [if_neg (by intro e; have := of_decide_eq_true e; omega), hb', zK, zw, e1, zK, zw, e2, zK, zw, e3, zK, zw, c1, zl, if_pos (by decide), c2, zb, zM, zb, XF hlim, zaJ, if_pos (by rfl), w, Zd]
def Yr (N : Nx) (s b : Nat) : Nat -> Nx
 | 0 => N
 | k + 1 => Yc (Yr N s b k) s k (Yr N s b k b k)
theorem zif (N : Nx) {s b : Nat} (hsb : s ≠ b) : ∀ K, (∀ b' k, b' ≠ s -> Yr N s b K b' k = N b' k) /\ ∀ k, Yr N s b K s k = if k < K then N b k else N s k
 | 0 => ⟨fun _ _ _ => rfl, fun k => by rw [if_neg (by omega)]; rfl⟩
 | K + 1 => by
   obtain ⟨h1, h2⟩ := zif N hsb K
   refine ⟨fun b' k hb => ?_, fun k => ?_⟩
   · simp only [Yr, Yc]
     rw [if_neg (fun e => hb e.1)]
     exact h1 b' k hb
   · simp only [Yr, Yc]
     by_cases e : k = K
     · rw [if_pos (by first | exact ⟨rfl, e⟩ | exact ⟨trivial, e⟩), h1 b K (Ne.symm hsb), if_pos (by omega), e]
     · rw [if_neg (fun h => e h.2), h2 k]
       by_cases h3 : k < K
       · rw [if_pos h3, if_pos (by omega)]
       · rw [if_neg h3, if_neg (by omega)]
structure Took (h h' : ze) (s : Nat) (ts : List Tw) (most : Int) : Prop where
 sk : ∃ N, SkAt h' s ts most N
 len : h'.length = h.length
 old : ∀ i, i ≠ s -> h'[i]? = h[i]?
theorem zn3 (n : Nat) {ns : List Nd} {N : Nx} {x t : Nd} (hx : x ∈ ns) (ht : t ∈ ns) (hne : x.b ≠ t.b) (T : Nat) (hT : T <= 8) : ∀ (d k M : Nat) (h : ze), k + d = T -> d < M -> Rep h ns (Yr N x.b t.b k) →
    ∃ h' M', Ze M (QC n x.b (.ptr t.b 0) (.int .i64 (T : Int))) [.int .i64 (k : Int)] h = QC n x.b (.ptr t.b 0) (.int .i64 (T : Int)) [.int .i64 (T : Int)] h' (Ze M' (QC n x.b (.ptr t.b 0) (.int .i64 (T : Int)))) /\ Rep h' ns (Yr N x.b t.b T) /\ h'.length = h.length /\ ∀ i, i ≠ x.b -> h'[i]? = h[i]? := by
 intro d
 induction d with
 | zero =>
   intro k M h h1 h2 r
   obtain ⟨M, rfl⟩ : ∃ M', M = M' + 1 := ⟨M - 1, by omega⟩
   obtain rfl : k = T := by omega
   exact ⟨h, M, zL .., r, rfl, fun _ _ => rfl⟩
 | succ d ih =>
   intro k M h h1 h2 r
   obtain ⟨M, rfl⟩ : ∃ M', M = M' + 1 := ⟨M - 1, by omega⟩
   have hk : k < 8 := by omega
   have hlt : decide ((k : Int) < (T : Int)) = true := by simp; omega
   have hone := r.one t ht k
   obtain ⟨w, r'⟩ := r.write hx hk (Yr N x.b t.b k t.b k) hone
   have hrd := r.read ht (2 + k)
   have hg := t.get (Yr N x.b t.b k) hk
   have key : ∀ next, QC n x.b (.ptr t.b 0) (.int .i64 (T : Int)) [.int .i64 (k : Int)] h next = next [.int .i64 ((k + 1 : Nat) : Int)] (h.set x.b (.box (10 + x.post.length) (x.cells (Yc (Yr N x.b t.b k) x.b k (Yr N x.b t.b k t.b k))))) := by
    intro next
    unfold QC
    simp only [gv, zg, zC, zb, zo, hlt, if_true, nv_int, Xx, Z3, zr, hrd, zl, hg, hone, zB, zO, w, Zd, zM, XF (show k < lim by unfold lim; omega)]
    rw [if_pos hk, if_pos (by omega), if_pos hk]
   obtain ⟨h', M', e, b1, b2, b3⟩ := ih (k + 1) M _ (by omega) (by omega) r'
   exact ⟨h', M', by rw [zL, key]; exact e, b1, by rw [b2, zp], fun i hi => by rw [b3 i hi, zd (Ne.symm hi)]⟩
theorem zn4 (n : Nat) {h : ze} {s : Nat} {t : Tw} {ts : List Tw} {most : Int} {N : Nx} (S : SkAt h s (t :: ts) most N) (hn : 8 < n) (hlim : ts.length + 1 < lim) :
    ∃ h', call (n + 2) 239 [.ptr s 0] h = some (.ret [.int .i32 t.v, .bool true], h') /\ Took h h' s ts most := by
 have hmem : ndT t ∈ nds s ((t :: ts).length : Int) most (t :: ts) := zq _ (Zi (zy ..))
 have hmh : ndH s ((t :: ts).length : Int) most ∈ nds s ((t :: ts).length : Int) most (t :: ts) := zy ..
 have hht := S.ht t (zy ..)
 have hnd := S.nd
 have hne : s ≠ t.b := fun e => (ZB.1 hnd).1 (e ▸ zy ..)
 have hnx : N s 0 = .ptr t.b 0 := by
  have := S.lk.hd 0 (by omega)
  rw [this]
  unfold nx Kh
  rw [List.find?_cons, decide_eq_true (by omega)]
 have h2 : ((ndH s ((t :: ts).length : Int) most).cells N)[2]? = some (.ptr t.b 0) := by
  have := (ndH s ((t :: ts).length : Int) most).get N (k := 0) (by omega)
  rw [zV] at this
  rw [this]
  exact congrArg some hnx
 have hT1 : ∀ o, zu h (.ptr t.b o) = some ((ndT t).cells N, 10, o) := fun o => S.rep.read hmem o
 have hend : ∀ h' next, Rep h' (nds s ((t :: ts).length : Int) most (t :: ts)) (Yr N s t.b t.ht) -> h'.length = h.length -> (∀ i, i ≠ s -> h'[i]? = h[i]?) →
     QC (n + 1) s (.ptr t.b 0) (.int .i64 (t.ht : Int)) [.int .i64 (t.ht : Int)] h' next = some (.ret [.int .i32 t.v, .bool true], h'.set s (.box 12 ((ndH s (ts.length : Int) most).cells (Yr N s t.b t.ht)))) := fun h' next r hl hf => by
  unfold QC
  have hlt : decide ((t.ht : Int) < (t.ht : Int)) = false := by simp
  have hrd : zu h' (.ptr s 10) = some ((ndH s ((t :: ts).length : Int) most).cells (Yr N s t.b t.ht), 12, 10) := r.read hmh 10
  have hb : h'[s]? = some (.box 12 ((ndH s ((t :: ts).length : Int) most).cells (Yr N s t.b t.ht))) := r.at_ _ hmh
  have hsub : IntKind.i64.wrap (((ts.length + 1 : Nat) : Int) - 1) = (ts.length : Int) := by unfold lim at hlim; rw [w64] <;> omega
  have hw : Zp h' [.int .i64 (ts.length : Int)] (.ptr s 10) = some (s, .box 12 ((ndH s (ts.length : Int) most).cells (Yr N s t.b t.ht))) := by rw [ZO hb (by simp), zn2]
  have hrt : zu (h'.set s (.box 12 ((ndH s (ts.length : Int) most).cells (Yr N s t.b t.ht)))) (.ptr t.b 0) = some ((ndT t).cells (Yr N s t.b t.ht), 10, 0) := by
   refine zx ?_ 0
   rw [zd hne]
   exact r.at_ _ hmem
  simp only [gv, zg, zC, zb, zo, hlt, zn, if_false, hrd, zl, jt, ZH, hsub, zaJ, zB, zO, hw, Zd, Xx, zr, hrt, Nd.get0]
  rw [if_pos (by omega), if_pos (by first | trivial | rfl), if_pos (by omega)]
  rfl
 obtain ⟨h', M', e, b1, b2, b3⟩ := zn3 (n + 1) hmh hmem hne t.ht hht.2 t.ht 0 (n + 1) h (by omega) (by omega) S.rep
 have e2 := hend h' (Ze M' (QC (n + 1) s (.ptr t.b 0) (.int .i64 (t.ht : Int)))) b1 b2 b3
 have hbs := b1.at_ _ hmh
 have hsl := zQ hbs
 refine ⟨h'.set s (.box 12 ((ndH s (ts.length : Int) most).cells (Yr N s t.b t.ht))), ?_, ⟨⟨Yr N s t.b t.ht, ⟨⟨fun x hx => ?_, ?_, fun x hx k => ?_⟩, ?_, (Z0.1 S.up).2, fun u hu => S.ht u (zq _ hu)⟩⟩, by rw [zp, b2], fun i hi => by rw [zd (Ne.symm hi), b3 i hi]⟩⟩
 · refine (zcP (n + 1) s h).trans ?_
   unfold zfx
   rw [qX n S, zK, zw, Xi, zb, zo, if_neg (by simp; omega), S.head, zl, if_pos (by decide), h2, zb, Xx, zb, zr, Xx, zb, zr, hT1, zl, if_pos (by decide), Nd.get1, zb]
   exact e.trans e2
 · rcases zF.1 hx with rfl | hx
   · exact Xf hsl _
   · obtain ⟨u, hu, rfl⟩ := ZF.1 hx
     have hne' : u.b ≠ s := fun e => (ZB.1 hnd).1 (e ▸ Zi (zq _ hu))
     unfold Ki
     rw [zd (show s ≠ (ndT u).b from Ne.symm hne')]
     exact b1.at_ _ (zq _ (Zi (zq _ hu)))
 · rw [WA]
   have h1 := ZB.1 hnd
   rw [zU] at h1
   exact ZB.2 ⟨fun hm => h1.1 (zq _ hm), (ZB.1 h1.2).2⟩
 · rcases zF.1 hx with rfl | hx
   · exact b1.one (ndH s ((t :: ts).length : Int) most) hmh k
   · obtain ⟨u, hu, rfl⟩ := ZF.1 hx
     exact b1.one _ (zq _ (Zi (zq _ hu))) k
 · have h1 := ZB.1 hnd
   obtain ⟨m1, m2⟩ := zif N hne t.ht
   exact S.lk.tail h1.2 h1.1 (fun k _ => m2 k) (fun b k _ hb => m1 b k hb)
theorem zn5 (n : Nat) {h : ze} {s : Nat} {most : Int} {N : Nx} (S : SkAt h s [] most N) : call (n + 2) 239 [.ptr s 0] h = some (.ret [.int .i32 0, .bool false], h) := by
 refine (zcP (n + 1) s h).trans ?_
 unfold zfx
 rw [qX n S, zK, zw, Xi, zb, zo, if_pos (by rfl)]
theorem zig (n : Nat) (h : ze) (m : Int) : ∃ N, call (n + 1) 61 [.int .i64 m] h = some (.ret [.ptr h.length 0], h ++ [.box 12 ((ndH h.length 0 (max 0 (min m 1000))).cells (fun _ _ => jA))]) /\ SkAt (h ++ [.box 12 ((ndH h.length 0 (max 0 (min m 1000))).cells (fun _ _ => jA))]) h.length [] (max 0 (min m 1000)) N := by
 refine ⟨fun _ _ => jA, ?_, ⟨⟨fun x hx => ?_, by simp [nds], fun x hx k => rfl⟩, ⟨fun k hk => rfl, fun i t k ht => by simp at ht⟩, by simp [Rise], by simp⟩⟩
 · refine (zjt n m h).trans ?_
   unfold zkJ
   have e : (if (0 : Int) < (if 1000 < m then 1000 else m) then (if 1000 < m then 1000 else m) else 0) = max 0 (min m 1000) := by
    by_cases h1 : 1000 < m
    · simp only [if_pos h1]; omega
    · simp only [if_neg h1]; split <;> omega
   rw [e]
   rfl
 · rcases zF.1 hx with rfl | hx
   · exact zD
   · simp at hx
theorem zdf (n : Nat) (a : Int) (h : ze) : call (n + 1) 247 [.int .i32 a] h = some (.ret [.bool false], h) := by
 refine (znn n a h).trans ?_
 unfold zpR
 simp
theorem zmf (n : Nat) (a b : Int) (h : ze) : call (n + 2) 244 [.int .i32 a, .int .i32 b] h = some (.ret [.bool (decide (a < b))], h) := by
 refine (zjy (n + 1) a b h).trans ?_
 unfold zkN
 rw [zdf, zK, zw, zo, if_neg (by decide)]
def zn6 (a b : Int) : Int := if a < b then -1 else if a > b then 1 else 0
theorem zfZ (n : Nat) (a b : Int) (h : ze) : call (n + 2) 242 [.int .i32 a, .int .i32 b] h = some (.ret [.int .i64 (zn6 a b)], h) := by
 refine (zdI (n + 1) a b h).trans ?_
 unfold zcS zn6
 rw [zdf, zK, zw, zdf, zK, zw, zo, if_neg (by decide), zo, if_neg (by decide)]
 by_cases h1 : a < b
 · rw [if_pos (by simpa using h1), if_pos h1]
 · rw [if_neg (by simpa using h1), if_neg h1]
   by_cases h2 : a > b
   · rw [if_pos (by simpa using h2), if_pos h2]
   · rw [if_neg (by simpa using h2), if_neg h2]
def RowI (h : ze) (b : Nat) (k : IntKind) (e : Nat) (l : List Int) : Prop := ∃ z, h[b]? = some (.row e 1 (l.map (XA k)) z)
theorem RowI.keep {h h' : ze} {b : Nat} {k : IntKind} {e : Nat} {l : List Int} (r : RowI h b k e l) (hk : h'[b]? = h[b]?) : RowI h' b k e l := by obtain ⟨z, hz⟩ := r; exact ⟨z, hk.trans hz⟩
theorem RowI.slc {h : ze} {b : Nat} {k : IntKind} {e : Nat} {l : List Int} (r : RowI h b k e l) : Xq h (.row b 1 0 l.length) = some (1, l.map (XA k)) := by
 obtain ⟨z, hz⟩ := r
 have := K0 hz
 rwa [zA] at this
theorem RowI.get {h : ze} {b : Nat} {k : IntKind} {e : Nat} {l : List Int} (r : RowI h b k e l) {i : Nat} {x : Int} (hx : l[i]? = some x) : Xa 1 i (.row b 1 0 l.length) = some (.rptr b 1 i 0) /\ zu h (.rptr b 1 i 0) = some ([.int k x], 1, 0) := by
 obtain ⟨z, hz⟩ := r
 have hi := (zh.1 hx).1
 refine ⟨by simpa using XG (b := b) (sz := 1) (lo := 0) (hi := l.length) (n := i) (by omega), Xr hz (by decide) ?_⟩
 rw [zJ, hx]
 rfl
theorem zih (n : Nat) {h : ze} {b : Nat} {e : Nat} {l : List Int} (r : RowI h b .i32 e l) (hs : l.Pairwise (· <= ·)) (hl : l.length < lim) : ∀ (i M : Nat), i < l.length -> i < M -> ∀ v0, Ze M (JJ (n + 2) (.row b 1 0 l.length)) [v0, .int .i64 (i : Int)] h = some (.ret [.bool true], h) := by
 intro i
 induction i with
 | zero =>
   intro M h1 h2 v0
   obtain ⟨M, rfl⟩ : ∃ M', M = M' + 1 := ⟨M - 1, by omega⟩
   rw [zL]
   unfold JJ
   simp only [gv, zg, zk, XO, zb, zo]
   rw [if_neg (by decide)]
 | succ i ih =>
   intro M h1 h2 v0
   obtain ⟨M, rfl⟩ : ∃ M', M = M' + 1 := ⟨M - 1, by omega⟩
   obtain ⟨x, hx⟩ : ∃ x, l[i + 1]? = some x := ⟨_, zf h1⟩
   obtain ⟨y, hy⟩ : ∃ y, l[i]? = some y := ⟨_, zf (by omega)⟩
   have hyx : y <= x := by
    have := Xz.1 hs i (i + 1) (by omega) h1 (by omega)
    rw [zf h1] at hx
    rw [zf (by omega)] at hy
    rw [<- Option.some.inj hx, <- Option.some.inj hy]
    exact this
   obtain ⟨g1, g2⟩ := r.get hx
   obtain ⟨g3, g4⟩ := r.get hy
   have hw : IntKind.i64.wrap (((i + 1 : Nat) : Int) - 1) = (i : Int) := by unfold lim at hl; rw [w64] <;> omega
   have hgt : decide (((i + 1 : Nat) : Int) > 0) = true := by simp
   have key : ∀ next, JJ (n + 2) (.row b 1 0 l.length) [v0, .int .i64 ((i + 1 : Nat) : Int)] h next = next [v0, .int .i64 (i : Int)] h := by
    intro next
    unfold JJ
    simp only [gv, zg, zk, XO, zb, zo, hgt, if_true, Zo, zH, g1, g2, zl, ZH, hw, g3, g4, zr, zm, Nat.reduceLT, and_self, za]
    rw [zmf, zK, zw, zo, if_neg (by intro e; have := of_decide_eq_true e; omega)]
   rw [zL, key]
   exact ih M (by omega) (by omega) v0
theorem zii (n : Nat) {h : ze} {b : Nat} {e : Nat} {l : List Int} (r : RowI h b .i32 e l) (hs : l.Pairwise (· <= ·)) (hl : l.length < lim) (hn : l.length < n) : call (n + 3) 237 [.row b 1 0 l.length] h = some (.ret [.bool true], h) := by
 refine (zhg (n + 2) _ h).trans ?_
 unfold zhf
 rw [r.slc, zb]
 simp only [zA]
 rcases JE l.length with h0 | h0
 · rw [h0]
   show Ze ((n + 1) + 1) _ _ _ = _
   rw [zL]
   unfold JJ
   simp only [gv, zg, zk]
   have : IntKind.i64.wrap (((0 : Nat) : Int) - 1) = -1 := by decide
   rw [this, XO, zb, zo, if_neg (by decide)]
 · have hw : IntKind.i64.wrap ((l.length : Int) - 1) = ((l.length - 1 : Nat) : Int) := by unfold lim at hl; rw [w64] <;> omega
   rw [hw]
   exact zih n r hs hl _ (n + 2) (by omega) (by omega) _
def itT (ts : List Tw) : List (Int × Nat) := ts.map fun t => (t.v, t.ht)
def zdX (l : List (Int × Nat)) (v : Int) (T : Nat) : List (Int × Nat) := l.takeWhile (fun p => decide (p.1 <= v)) ++ (v, T) :: l.dropWhile (fun p => decide (p.1 <= v))
theorem K8 {α : Type} (p : α -> Bool) : ∀ l : List α, l.take (l.takeWhile p).length = l.takeWhile p /\ l.drop (l.takeWhile p).length = l.dropWhile p
 | [] => ⟨rfl, rfl⟩
 | a :: l => by
   rw [List.takeWhile_cons, List.dropWhile_cons]
   cases p a with
   | true =>
     obtain ⟨h1, h2⟩ := K8 p l
     exact ⟨by simp [h1], by simpa using h2⟩
   | false => simp
theorem zo6 (ts : List Tw) (u : Tw) : itT (ins ts (Xj ts u.v) u) = zdX (itT ts) u.v u.ht := by
 unfold itT ins zdX Xj
 obtain ⟨h1, h2⟩ := K8 (fun t : Tw => decide (t.v <= u.v)) ts
 rw [h1, h2, ZC, zU, List.takeWhile_map, List.dropWhile_map]
 rfl
def hOf (k : Int) : Nat := (max 1 (min k 8)).toNat
structure Grew (h h' : ze) (s : Nat) (ts ts' : List Tw) (most : Int) : Prop where
 sk : ∃ N, SkAt h' s ts' most N
 len : h.length <= h'.length
 old : ∀ i, i < h.length -> i ∉ skB s ts -> h'[i]? = h[i]?
 new : ∀ b ∈ skB s ts', b ∈ skB s ts \/ h.length <= b
theorem Grew.refl {h : ze} {s : Nat} {ts : List Tw} {most : Int} (S : ∃ N, SkAt h s ts most N) : Grew h h s ts ts most := ⟨S, zm _, fun _ _ _ => rfl, fun _ h => .inl h⟩
theorem Grew.trans {h h' h'' : ze} {s : Nat} {ts ts' ts'' : List Tw} {most : Int} (a : Grew h h' s ts ts' most) (b : Grew h' h'' s ts' ts'' most) : Grew h h'' s ts ts'' most :=
 ⟨b.sk, Z2 a.len b.len, fun i h1 h2 => (b.old i (by have := a.len; omega) fun hm => by rcases a.new i hm with h | h; exact h2 h; omega).trans (a.old i h1 h2), fun x hx => by
  rcases b.new x hx with h | h
  · exact a.new x h
  · exact .inr (by have := a.len; omega)⟩
theorem Put.grew {h h' : ze} {s : Nat} {ts ts' : List Tw} {most v kk : Int} (p : Put h h' s ts ts' most v kk) : Grew h h' s ts ts' most := by
 obtain ⟨u, u1, u2, u3, u4⟩ := p.ins
 refine ⟨p.sk, by rw [p.len]; omega, p.old, fun b hb => ?_⟩
 rw [u4] at hb
 rcases zF.1 hb with rfl | hb
 · exact .inl (zy ..)
 · obtain ⟨t, ht, rfl⟩ := ZF.1 hb
   rcases qW.1 ht with rfl | ht
   · exact .inr (by rw [u1]; exact zm _)
   · exact .inl (zq _ (Zi ht))
theorem Put.items {h h' : ze} {s : Nat} {ts ts' : List Tw} {most v kk : Int} (p : Put h h' s ts ts' most v kk) : itT ts' = zdX (itT ts) v (hOf kk) := by
 obtain ⟨u, u1, u2, u3, u4⟩ := p.ins
 have : u.ht = hOf kk := by unfold hOf; omega
 rw [u4, <- u2, zo6, this]
def ql (l : List (Int × Nat)) : List (Int × Int) -> List (Int × Nat)
 | [] => l
 | p :: r => ql (zdX l p.1 (hOf p.2)) r
theorem zjR (n : Nat) {s : Nat} {most : Int} (bl bm : Nat) (vs hs : List Int) (hlen : hs.length = vs.length) (hup : vs.Pairwise (· <= ·)) (hv : vs.length < lim) : ∀ (d k M : Nat) (h : ze) (ts : List Tw) (told : List (List V)) (Q : Nat -> Nat) (v0 v3 : V), k + d = vs.length -> d < M -> (∃ N, SkAt h s ts most N) -> RowI h bl .i32 21 vs -> RowI h bm .i64 3 hs -> bl ∉ skB s ts -> bm ∉ skB s ts →
    told.length = vs.length -> (ts.length : Int) + d <= most -> ts.length + d < lim -> ts.length + d + 9 < n -> (∀ k' x, k' < 8 -> vs[k]? = some x -> Q k' <= Xj ts x /\ WG ts k' (Q k')) →
    ∃ h' ts' told', Ze M (Ju (n + 2) s (.row bl 1 0 vs.length) (.row bm 1 0 hs.length) (1, vs.map (XA .i32))) [v0, .sl 1 told false, .agg (Zu (fun k' => Z5 s ts (Q k'))), v3, .int .i64 (k : Int)] h = some (.ret [.sl 1 told' false], h') /\ Grew h h' s ts ts' most /\ itT ts' = ql (itT ts) ((vs.zip hs).drop k) := by
 intro d
 induction d with
 | zero =>
   intro k M h ts told Q v0 v3 h1 h2 S rl rm nl nm ht hm hlm hn hQ
   obtain ⟨M, rfl⟩ : ∃ M', M = M' + 1 := ⟨M - 1, by omega⟩
   obtain rfl : k = vs.length := by omega
   refine ⟨h, ts, told, ?_, .refl S, ?_⟩
   · rw [zL]
     unfold Ju
     simp only [gv, zg, zk, zA, zC, zb, zo]
     rw [if_neg (by simp)]
     rfl
   · rw [Zl (by rw [List.length_zip]; omega)]; rfl
 | succ d ih =>
   intro k M h ts told Q v0 v3 h1 h2 S rl rm nl nm ht hm hlm hn hQ
   obtain ⟨M, rfl⟩ : ∃ M', M = M' + 1 := ⟨M - 1, by omega⟩
   obtain ⟨N, S⟩ := S
   obtain ⟨x, hx⟩ : ∃ x, vs[k]? = some x := ⟨_, zf (by omega)⟩
   obtain ⟨y, hy⟩ : ∃ y, hs[k]? = some y := ⟨_, zf (by omega)⟩
   obtain ⟨u, q1, q2, N', cs, B, a1, a2, a3, e1, e2, e3, c1, c2, w, S', l', f'⟩ := zde n S x y Q (fun k' hk => hQ k' x hk hx) (by omega) (by omega)
   obtain ⟨g1, g2⟩ := rl.get hx
   obtain ⟨g3, g4⟩ := rm.get hy
   have hlt : decide ((k : Int) < (vs.length : Int)) = true := by simp; omega
   have hlt2 : decide ((k : Int) < (hs.length : Int)) = true := by simp; omega
   have hge : decide ((ts.length : Int) ≥ most) = false := by simp; omega
   obtain ⟨es, hes⟩ : ∃ es, told[k]? = some es := ⟨_, zf (by omega)⟩
   have hP : Put h (q2.set s B) s ts (ins ts (Xj ts x) u) most x y := ⟨⟨N', S'⟩, ⟨u, a1, a2, a3, rfl⟩, l', f'⟩
   have hbl := zQ rl.choose_spec
   have hbm := zQ rm.choose_spec
   have hnew : ∀ b, b < h.length -> b ∉ skB s ts -> b ∉ skB s (ins ts (Xj ts x) u) := fun b hb hn hm => by rcases hP.grew.new b hm with h' | h'; exact hn h'; omega
   have hil := zk4 (ts := ts) (u := u) (js ts x)
   have hpt : ∀ R, ((Zu R).drop 0 |>.take 8) = Zu R := zaG
   obtain ⟨h', ts', told', e, G, I⟩ := ih (k + 1) M (q2.set s B) (ins ts (Xj ts x) u) (told.set k (setR es 0 [.bool true])) (fun k' => ZZ (ins ts (Xj ts x) u) k' (Xj ts x + 1)) (.sl 1 (lsl v0) false) (.bool false) (by omega) (by omega) ⟨N', S'⟩ (rl.keep (f' _ hbl nl)) (rm.keep (f' _ hbm nm)) (hnew _ hbl nl) (hnew _ hbm nm) (by rw [zp]; exact ht) (by rw [hil]; omega) (by rw [hil]; omega) (by rw [hil]; omega) (fun k' x' hk' hx' => by
    have hle : x <= x' := by
     have hk1 := (zh.1 hx').1
     have := Xz.1 hup k (k + 1) (by omega) hk1 (by omega)
     rw [zf (by omega)] at hx
     rw [zf hk1] at hx'
     rw [<- Option.some.inj hx, <- Option.some.inj hx']
     exact this
    have hj : Xj ts x + 1 <= Xj (ins ts (Xj ts x) u) x' := (K6 S'.up x' (zfW (js ts x))).2 (by rw [a2]; exact hle)
    refine ⟨Z2 (Jx _ _ _) hj, K5 _ _ _ (by rw [hil]; have := js ts x; omega)⟩)
   refine ⟨h', ts', told', ?_, hP.grew.trans G, ?_⟩
   · rw [zL]
     have key : ∀ next, Ju (n + 2) s (.row bl 1 0 vs.length) (.row bm 1 0 hs.length) (1, vs.map (XA .i32)) [v0, .sl 1 told false, .agg (Zu (fun k' => Z5 s ts (Q k'))), v3, .int .i64 (k : Int)] h next = next [.sl 1 (lsl v0) false, .sl 1 (told.set k (setR es 0 [.bool true])) false, .agg (Zu (fun k' => Z5 s (ins ts (Xj ts x) u) (ZZ (ins ts (Xj ts x) u) k' (Xj ts x + 1)))), .bool false, .int .i64 ((k + 1 : Nat) : Int)] (q2.set s B) := by
      intro next
      unfold Ju
      simp only [gv, zg, zk, zA, zC, zb, zo, hlt, hlt2, if_true, Zo, zH, g1, g2, zl, zr, zm, Nat.reduceLT, and_self, za, S.head, jt, zaH, Nat.reduceAdd, Nat.reduceLeDiff, Xm, hge, zn, if_false, rm.slc, g3, g4, Jp, hpt]
      rw [e1, zK, zw, e2, zK, zw, e3, zK, zw]
      have hpl : (V.cells (.agg (Zu (fun k' => Z5 s (ins ts (Xj ts x) u) (ZZ (ins ts (Xj ts x) u) k' (Xj ts x + 1)))))) = Zu (fun k' => Z5 s (ins ts (Xj ts x) u) (ZZ (ins ts (Xj ts x) u) k' (Xj ts x + 1))) := rfl
      have hpr : ∀ R T, setR (Zu R) 0 (Zu T) = Zu T := fun R T => by
       rw [JT (by rw [Zz, Zz]; omega), Qu, zT, Zz, Zl (by rw [Zz]; omega), Zn]
      simp only [hpl, Zz, hpr]
      rw [if_pos (by first | trivial | rfl), if_pos (by omega), c1, zl, if_pos (by decide), c2, zb, zM, zb, XF (show ts.length < lim by omega), zaJ, if_pos (by rfl), w, Zd]
      rw [if_pos (by exact ⟨trivial, by show k < told.length; omega, by decide⟩), show lsl (V.sl 1 told false) = told from rfl, hes, zb, zM, zb, XF (show k < lim by omega)]
     rw [key]
     exact e
   · rw [I, hP.items]
     have hz : (vs.zip hs).drop k = (x, y) :: (vs.zip hs).drop (k + 1) := by
      rw [zW (by rw [List.length_zip]; omega)]
      congr 1
      rw [List.getElem_zip]
      rw [zf (by omega)] at hx
      rw [zf (by omega)] at hy
      rw [Option.some.inj hx, Option.some.inj hy]
     rw [hz]
     rfl
theorem zjS (n : Nat) {h : ze} {s : Nat} {ts : List Tw} {most : Int} (S : ∃ N, SkAt h s ts most N) (bl bm : Nat) (vs hs : List Int) (hlen : hs.length = vs.length) (hup : vs.Pairwise (· <= ·)) (rl : RowI h bl .i32 21 vs) (rm : RowI h bm .i64 3 hs) (nl : bl ∉ skB s ts) (nm : bm ∉ skB s ts)
    (hm : (ts.length : Int) + vs.length <= most) (hlm : ts.length + vs.length < lim) (hn : ts.length + vs.length + 9 < n) :
    ∃ h' ts' told', call (n + 3) 228 [.ptr s 0, .row bl 1 0 vs.length, .row bm 1 0 hs.length] h = some (.ret [.sl 1 told' false], h') /\ Grew h h' s ts ts' most /\ itT ts' = ql (itT ts) (vs.zip hs) := by
 obtain ⟨h', ts', told', e, G, I⟩ := zjR n (s := s) (most := most) bl bm vs hs hlen hup (by omega) vs.length 0 (n + 2) h ts (List.replicate vs.length [V.bool false]) (fun _ => 0) (.sl 1 [] false) (.bool false) (by omega) (by omega) S rl rm nl nm (by simp) hm (by omega) (by omega) (fun _ _ _ _ => ⟨Zh _, trivial⟩)
 refine ⟨h', ts', told', ?_, G, by rw [I, zP]⟩
 refine (zfw (n + 2) s _ _ h).trans ?_
 unfold zeA
 have hb : call (n + 2) 230 [.ptr s 0] h = some (.ret [.agg (Zu (fun _ => s))], h) := qk (n + 1) h s (by omega)
 have hso : call (n + 2) 237 [.row bl 1 0 vs.length] h = some (.ret [.bool true], h) := by
  obtain ⟨m, rfl⟩ : ∃ m, n = m + 1 := ⟨n - 1, by omega⟩
  exact zii m rl hup (by omega) (by omega)
 have fN : nv (V.int .i64 (vs.length : Int)) = some vs.length := Zo _ _
 rw [rl.slc, zb]
 simp only [zA]
 rw [fN, zH, zH, if_pos (by first | exact ⟨zm _, by omega, rfl⟩ | exact ⟨trivial, by omega, trivial⟩ | exact ⟨zm _, by omega, trivial⟩), Wb, zb, zo, if_neg (by decide), hso, zK, zw, zbP, zb, zo, if_neg (by decide), hb, zK, zw]
 have hpl : V.cells (.agg (Zu (fun _ => s))) = Zu (fun _ => s) := rfl
 rw [hpl, if_pos (Zz _), if_pos (by rw [Zz]; omega), rl.slc, zb]
 have hpr : setR [V.val (.pointer none), V.val (.pointer none), V.val (.pointer none), V.val (.pointer none), V.val (.pointer none), V.val (.pointer none), V.val (.pointer none), V.val (.pointer none)] 0 (Zu (fun _ => s)) = Zu (fun _ => s) := by
  rw [JT (by rw [Zz]; decide), Qu, zT, Zz]; rfl
 rw [hpr]
 exact e
end Go.Proofs.Tryz
namespace Go.Sk
open Go.L
def lvV (k : Nat) (ts : List Tw) : List Int := (ts.filter fun t => decide (k < t.ht)).map Tw.v
theorem zn7 {k : Nat} {ts : List Tw} {i m : Nat} {t : Tw} (h1 : i <= m) (h2 : ts[m]? = some t) (h3 : k < t.ht) (h5 : ∀ m' t', i <= m' -> m' < m -> ts[m']? = some t' -> ¬ k < t'.ht) : lvV k (ts.drop i) = t.v :: lvV k (ts.drop (m + 1)) := by
 obtain ⟨d, rfl⟩ : ∃ d, m = i + d := ⟨m - i, by omega⟩
 induction d generalizing i with
 | zero =>
   have hi := (zh.1 h2).1
   rw [zV] at h2 hi
   rw [zW hi]
   rw [zf hi] at h2
   rw [Option.some.inj h2]
   simp [lvV, h3]
 | succ d ih =>
   have hm := (zh.1 h2).1
   have hi : i < ts.length := by omega
   have hn := h5 i ts[i] (zm _) (by omega) (zf hi)
   have hst : lvV k (ts.drop i) = lvV k (ts.drop (i + 1)) := by
    unfold lvV
    rw [zW hi, QS, if_neg (by simpa using hn)]
   have := ih (i := i + 1) (by omega) (by rw [show i + 1 + d = i + (d + 1) by omega]; exact h2) (fun m' t' a b c => h5 m' t' (by omega) (by omega) c)
   rw [show i + 1 + d + 1 = i + (d + 1) + 1 by omega] at this
   rw [hst, this]
theorem zn8 {k : Nat} {ts : List Tw} {i : Nat} (h : ∀ m t, i <= m -> ts[m]? = some t -> ¬ k < t.ht) : lvV k (ts.drop i) = [] := by
 unfold lvV
 rw [List.map_eq_nil_iff, List.filter_eq_nil_iff]
 intro t ht
 obtain ⟨m, hm⟩ := Z1.1 ht
 rw [Zj] at hm
 simpa using h (i + m) t (by omega) hm
end Go.Sk
namespace Go.Proofs.Tryz
open Go.L Go.Rp Go.Sk
set_option maxRecDepth 100000
def zqN (h : ze) (c : Nat) (ob : Option Nat) (l : List Int) : Prop := match ob with
 | none => l = [] /\ h[c]? = some (.box 1 [.sl 0 [] true])
 | some b => b ≠ c /\ ∃ z, h[c]? = some (.box 1 [.row b 1 0 l.length]) /\ h[b]? = some (.row 21 1 (l.map (XA .i32)) z)
def SlI (h : ze) (lo : Nat) (r : V) (l : List Int) : Prop := (r = .sl 0 [] true /\ l = []) \/ ∃ b z, lo <= b /\ r = .row b 1 0 l.length /\ h[b]? = some (.row 21 1 (l.map (XA .i32)) z)
theorem zk5 : XL (WM (Xo f70)) = true /\ XL (WN (Xo f70)) = true := ⟨by kernel_rfl, by kernel_rfl⟩
theorem zo7 : ((Wk prog 132).isNone && (XL (WM (Xo f70)) && XL (WN (Xo f70)))) = true := by kernel_rfl
def zdY (y0 y1 y4 : Option V) (x5 : Nat) (y7 y8 y9 y10 y11 y12 y13 y14 y15 y16 y17 y18 y19 : Option V) : List (Option V) := [y0, y1, none, none, y4, some (V.ptr x5 0), none, y7, y8, y9, y10, y11, y12, y13, y14, y15, y16, y17, y18, y19, none, none, none, none, none, none, none, none, none]
noncomputable def zaK (D : Nat) (fr : List (Option V)) (st : LSt) : HB := .loop D true fr [20] (WM (Xo f70)) (WN (Xo f70)) st
theorem zdg (n : Nat) {h : ze} {b D : Nat} {vc : Bool} {fr : List (Option V)} {ps : List Nat} {ca cb : Code} (hb : h[b]? = some (.loop D vc fr ps ca cb .ready)) (ys : List V) (hl : ys.length = ps.length) (h1 : XL ca = true) (h2 : XL cb = true) : rnd n b ys h = zas prog (call n) X9 Wr n (L.textDraws prog) vc fr ps ca cb b ys h := by
 unfold rnd L.roundX
 rw [hb]
 simp only [lpR]
 rw [if_pos ⟨hl, h1, h2⟩]
section
variable {y0 y1 y4 y7 y8 y9 y10 y11 y12 y13 y14 y15 y16 y17 y18 y19 : Option V}
theorem zn9 (n : Nat) {h : ze} {b D x5 : Nat} (hb : h[b]? = some (zaK D (zdY y0 y1 y4 x5 y7 y8 y9 y10 y11 y12 y13 y14 y15 y16 y17 y18 y19) .ready)) (z : V) : rnd n b [z] h = KZ n x5 b z h :=
 (zdg n hb [z] rfl zk5.1 zk5.2).trans (zcR n y0 y1 y4 x5 y7 y8 y9 y10 y11 y12 y13 y14 y15 y16 y17 y18 y19 b z h)
structure LvAt (h hh : ze) (k : Int) (s : Nat) (l : List Int) (fr : List (Option V)) : Prop where
 len : h.length + 6 <= hh.length
 old : ∀ i, i < h.length -> hh[i]? = h[i]?
 p0 : hh[h.length]? = some (.box 1 [.ptr s 0])
 p1 : hh[h.length + 1]? = some (.box 1 [.int .i64 k])
 out : ∃ ob, zqN hh (h.length + 2) ob l /\ ∀ b, ob = some b -> h.length + 6 <= b
 df : hh[h.length + 4]? = some .defb
 lp : hh[h.length + 5]? = some (zaK (h.length + 4) fr .ready)
theorem zbS (x : Int) : jX prog 27 1 [(0, .int .i32 x)] = some (1, [[.int .i32 x]]) := by kernel_rfl
theorem zo8 (n : Nat) {h hh : ze} {k : Int} {s : Nat} {l : List Int} (L : LvAt h hh k s l (zdY y0 y1 y4 (h.length + 2) y7 y8 y9 y10 y11 y12 y13 y14 y15 y16 y17 y18 y19)) {x : Nd} {N : Nx} (hx : Ki h N x) (hl : l.length + 1 < lim) :
    ∃ hh', rnd n (h.length + 5) [.ptr x.b 0] hh = some (true, hh') /\ LvAt h hh' k s (l ++ [x.v]) (zdY y0 y1 y4 (h.length + 2) y7 y8 y9 y10 y11 y12 y13 y14 y15 y16 y17 y18 y19) := by
 rw [zn9 n L.lp]
 have hlen := L.len
 have hxb : x.b < h.length := zQ hx
 unfold KZ
 rw [L.lp]
 simp only [zaK, lpR]
 generalize hbusy : HB.loop (h.length + 4) true (zdY y0 y1 y4 (h.length + 2) y7 y8 y9 y10 y11 y12 y13 y14 y15 y16 y17 y18 y19) [20] (WM (Xo f70)) (WN (Xo f70)) .busy = B
 obtain ⟨G, hG⟩ : ∃ G, G = hh.set (h.length + 5) B := ⟨_, rfl⟩
 rw [<- hG]
 have hGl : G.length = hh.length := by rw [hG, zp]
 have hGo : ∀ i, i ≠ h.length + 5 -> G[i]? = hh[i]? := fun i hi => by rw [hG, zd (Ne.symm hi)]
 have hGb : G[h.length + 5]? = some B := by rw [hG]; exact Xf (by omega) _
 have hGx : zu G (.ptr x.b 0) = some (x.cells N, 10 + x.post.length, 0) := by
  refine zx ?_ 0
  rw [hGo _ (by omega), L.old _ hxb]
  exact hx
 obtain ⟨ob, O, hob⟩ := L.out
 have fin : ∀ (G2 : ze) (v : V) (b' : Nat) (z : Bool), G2.length = G.length + 1 -> b' = G.length -> v = .row b' 1 0 (l.length + 1) -> G2[b']? = some (.row 21 1 ((l ++ [x.v]).map (XA .i32)) z) -> (∀ i, i < h.length + 6 -> G2[i]? = G[i]?) →
     ∃ hh', lpB (((G2.set (h.length + 2) (.box 1 [v]))[h.length + 5]?)) (fun eD eV eF eP eA eB => some (true, (G2.set (h.length + 2) (.box 1 [v])).set (h.length + 5) (HB.loop eD eV eF eP eA eB .ready))) = some (true, hh') /\ LvAt h hh' k s (l ++ [x.v]) (zdY y0 y1 y4 (h.length + 2) y7 y8 y9 y10 y11 y12 y13 y14 y15 y16 y17 y18 y19) := fun G2 v b' z e1 e2 e3 e4 e5 => by
  have hb5 : (G2.set (h.length + 2) (.box 1 [v]))[h.length + 5]? = some B := by rw [zd (by omega), e5 _ (by omega)]; exact hGb
  rw [hb5, <- hbusy]
  simp only [lpB]
  have hoth : ∀ i, i ≠ h.length + 5 -> i ≠ h.length + 2 -> ((G2.set (h.length + 2) (.box 1 [v])).set (h.length + 5) (HB.loop (h.length + 4) true (zdY y0 y1 y4 (h.length + 2) y7 y8 y9 y10 y11 y12 y13 y14 y15 y16 y17 y18 y19) [20] (WM (Xo f70)) (WN (Xo f70)) .ready))[i]? = G2[i]? := fun i h1 h2 => by
   rw [zd (Ne.symm h1), zd (Ne.symm h2)]
  refine ⟨_, rfl, ⟨by rw [zp, zp]; omega, fun i hi => ?_, ?_, ?_, ⟨some b', ⟨by omega, z, ?_, ?_⟩, fun b hb => by cases hb; omega⟩, ?_, ?_⟩⟩
  · rw [hoth i (by omega) (by omega), e5 i (by omega), hGo i (by omega), L.old i hi]
  · rw [hoth _ (by omega) (by omega), e5 _ (by omega), hGo _ (by omega), L.p0]
  · rw [hoth _ (by omega) (by omega), e5 _ (by omega), hGo _ (by omega), L.p1]
  · rw [zd (by omega), Xf (by omega), e3, zE]; rfl
  · rw [hoth _ (by omega) (by omega)]; exact e4
  · rw [hoth _ (by omega) (by omega), e5 _ (by omega), hGo _ (by omega), L.df]
  · exact Xf (by rw [zp]; omega) _
 have hx0 : (x.cells N)[0]? = some (.int .i32 x.v) := x.get0 N
 cases ob with
 | none =>
   obtain ⟨rfl, hc⟩ := O
   have hc' : G[h.length + 2]? = some (.box 1 [.sl 0 [] true]) := by rw [hGo _ (by omega)]; exact hc
   have J5 : J4 21 1 G [[.int .i32 x.v]] (.sl 0 [] true) = some (.row G.length 1 0 1, G ++ [.row 21 1 [[.int .i32 x.v]] true]) := rfl
   have hw : Zp (G ++ [.row 21 1 [[.int .i32 x.v]] true]) [.row G.length 1 0 1] (.ptr (h.length + 2) 0) = some (h.length + 2, .box 1 [.row G.length 1 0 1]) := by
    rw [ZO (n := 1) (cs := [.sl 0 [] true]) (by rw [zj (by omega)]; exact hc') (by simp)]; rfl
   rw [zx hc', zl, if_pos (by decide)]
   simp only [za, zb]
   rw [Xx, zb, zV, Xx, zb, zV, hGx, zl, if_pos (by omega), hx0, zb, zbS, zb, J5, Zd]
   simp only [V.cells, zB, zO, zr, if_true]
   rw [hw, Zd]
   exact fin _ _ G.length true (by simp) rfl rfl (by rw [zD]; rfl) (fun i hi => by rw [zj (by omega)])
 | some b0 =>
   obtain ⟨o1, z, hc, hr⟩ := O
   have hb0 := hob b0 rfl
   have hc' : G[h.length + 2]? = some (.box 1 [.row b0 1 0 l.length]) := by rw [hGo _ (by omega)]; exact hc
   have hr' : G[b0]? = some (.row 21 1 (l.map (XA .i32)) z) := by rw [hGo _ (by omega)]; exact hr
   have hb0l := zQ hr'
   have J5 : J4 21 1 G [[.int .i32 x.v]] (.row b0 1 0 l.length) = some (.row G.length 1 0 (l.length + 1), G.set b0 .dead ++ [.row 21 1 (l.map (XA .i32) ++ [[.int .i32 x.v]]) (z && 0 == 0)]) := by
    simp only [J4, hr']
    rw [if_pos (by refine ⟨⟨?_, ?_, ?_⟩, ⟨Zh _, by simp⟩, by simp; omega⟩ <;> first | trivial | rfl), zP, zN (by simp)]
    simp
   have hw : Zp (G.set b0 .dead ++ [.row 21 1 (l.map (XA .i32) ++ [[.int .i32 x.v]]) (z && 0 == 0)]) [.row G.length 1 0 (l.length + 1)] (.ptr (h.length + 2) 0) = some (h.length + 2, .box 1 [.row G.length 1 0 (l.length + 1)]) := by
    rw [ZO (n := 1) (cs := [.row b0 1 0 l.length]) (by rw [zj (by rw [zp]; omega), zd (by omega)]; exact hc') (by simp)]; rfl
   rw [zx hc', zl, if_pos (by decide)]
   simp only [za, zb]
   rw [Xx, zb, zV, Xx, zb, zV, hGx, zl, if_pos (by omega), hx0, zb, zbS, zb, J5, Zd]
   simp only [V.cells, zB, zO, zr, if_true]
   rw [hw, Zd]
   refine fin _ _ G.length (z && 0 == 0) (by simp) rfl rfl ?_ (fun i hi => by rw [zj (by rw [zp]; omega), zd (by omega)])
   have : G.length = (G.set b0 .dead).length := by rw [zp]
   rw [this, zD, ZC]
   rfl
theorem zo9 (n : Nat) {h : ze} {s : Nat} {ts : List Tw} {most : Int} {N : Nx} (S : SkAt h s ts most N) {k : Nat} (hk : k < 8) (hlim : ts.length < lim) : ∀ (d i M : Nat) (hh : ze) (l : List Int), i + d = ts.length + 1 -> d < M + 1 -> 0 < M -> l.length <= i -> LvAt h hh ((k + 1 : Nat) : Int) s l (zdY y0 y1 y4 (h.length + 2) y7 y8 y9 y10 y11 y12 y13 y14 y15 y16 y17 y18 y19) →
    ∃ hh', Ze M (QD n (h.length + 5) (h.length + 1)) [nx k (ts.drop i)] hh = some (.ret [], hh') /\ LvAt h hh' ((k + 1 : Nat) : Int) s (l ++ lvV k (ts.drop i)) (zdY y0 y1 y4 (h.length + 2) y7 y8 y9 y10 y11 y12 y13 y14 y15 y16 y17 y18 y19) := by
 intro d
 induction d using Nat.strongRecOn with
 | _ d ih =>
 intro i M hh l h1 h2 hM hli L
 obtain ⟨M, rfl⟩ : ∃ M', M = M' + 1 := ⟨M - 1, by omega⟩
 rcases zia (k := k) (ts := ts) i with ⟨f1, f2⟩ | ⟨m, t, f1, f2, f3, f4, f5⟩
 · have hnx : nx k (ts.drop i) = V.val (.pointer none) := by unfold nx; rw [f1]; rfl
   refine ⟨hh, ?_, by rw [zn8 f2, Zn]; exact L⟩
   rw [zL, hnx]
   unfold QD
   simp only [gv, zg, qj, zb, zo]
   rw [if_neg (by decide)]
 · have hnx : nx k (ts.drop i) = V.ptr t.b 0 := by unfold nx; rw [f4]
   have hmem : ndT t ∈ nds s (ts.length : Int) most ts := zq _ (Zi (zI f2))
   have hml := (zh.1 f2).1
   obtain ⟨hh1, r1, L1⟩ := zo8 n L (x := ndT t) (S.rep.at_ _ hmem) (by omega)
   obtain ⟨hh2, e, L2⟩ := ih (ts.length + 1 - (m + 1)) (by omega) (m + 1) M hh1 (l ++ [t.v]) (by omega) (by omega) (by omega) (by simp; omega) L1
   refine ⟨hh2, ?_, ?_⟩
   · have htb : t.b < h.length := zQ (S.rep.at_ _ hmem)
     have hrd : zu hh1 (.ptr t.b (2 + k)) = some ((ndT t).cells N, 10, 2 + k) := by
      refine zx ?_ _
      rw [L1.old _ htb]
      exact S.rep.at_ _ hmem
     have hgx : ((ndT t).cells N)[2 + k]? = some (nx k (ts.drop (m + 1))) := by
      rw [(ndT t).get _ hk]
      have := S.lk.tw m t k f2 hk
      rw [if_pos f3] at this
      rw [<- this]; rfl
     have hw : IntKind.i64.wrap (((k + 1 : Nat) : Int) - 1) = (k : Int) := by rw [w64] <;> omega
     have r1' : rnd n (h.length + 5) [.ptr t.b 0] hh = some (true, hh1) := r1
     have key : ∀ next, QD n (h.length + 5) (h.length + 1) [.ptr t.b 0] hh next = next [nx k (ts.drop (m + 1))] hh1 := by
      intro next
      unfold QD
      simp only [gv, zg, Kj, zb, zo, if_true, r1', Zd]
      rw [zx L1.p1, zl, if_pos (by decide)]
      simp only [za, zb, ZH, hw, Xx, zr, nv_int, Z3, hrd, zl, hgx]
      rw [if_pos hk, if_pos (by omega)]
     rw [zL, hnx, key]
     exact e
   · rw [zn7 f1 f2 f3 f5, show l ++ t.v :: lvV k (ts.drop (m + 1)) = (l ++ [t.v]) ++ lvV k (ts.drop (m + 1)) by simp]
     exact L2
end
theorem zdh (n : Nat) {h : ze} {s : Nat} {ts : List Tw} {most : Int} {N : Nx} (S : SkAt h s ts most N) {k : Nat} (hk : k < 8) (hlim : ts.length < lim) (hn : ts.length + 2 < n) :
    ∃ h' r, call (n + 2) 70 [.ptr s 0, .int .i64 ((k + 1 : Nat) : Int)] h = some (.ret [r], h') /\ SlI h' h.length r (lvV k ts) /\ h.length <= h'.length /\ ∀ i, i < h.length -> h'[i]? = h[i]? := by
 have he := zfz (n + 1) s ((k + 1 : Nat) : Int) h
 have hlv : call (n + 1) 100 [.ptr s 0, .int .i64 ((k + 1 : Nat) : Int)] h = some (.ret [.fn 132 [.ptr h.length 0, .ptr (h.length + 1) 0]], h ++ [.box 1 [.ptr s 0], .box 1 [.int .i64 ((k + 1 : Nat) : Int)]]) := by
  refine (zeB n s _ h).trans ?_
  unfold zjx
  simp
 have h1 : decide (((k + 1 : Nat) : Int) < 1) = false := by simp; omega
 have h8 : decide (((k + 1 : Nat) : Int) > 8) = false := by simp; omega
 rw [he]
 unfold zeC
 rw [Wb, zb, zo, if_neg (by decide), if_neg (by rw [h1]; decide), if_neg (by rw [h8]; decide), hlv, zK, zw]
 simp only [zjj]
 rw [if_pos zo7]
 simp only [zE, zB, zO, List.append_assoc, ZT, zT, ZK, zr, Nat.reduceAdd]
 have hS : ∀ (T : List HB) i, (h ++ T)[h.length + i]? = T[i]? := fun T i => by rw [zG (by omega), Xh]
 obtain ⟨HS, hHS⟩ : ∃ HS : ze, HS = h ++ [HB.box 1 [V.ptr s 0], HB.box 1 [V.int IntKind.i64 ((k + 1 : Nat) : Int)], HB.box 1 [V.sl 0 [] true], HB.row 21 1 [] true, HB.defb, zaK (h.length + 4) (zdY (some (V.ptr s 0)) (some (V.int IntKind.i64 ((k + 1 : Nat) : Int))) (some (V.row (h.length + 3) 1 0 0)) (h.length + 2) (some (V.ptr s 0)) (some (V.bool false)) (some (V.bool false)) (some (V.int IntKind.i64 ((k + 1 : Nat) : Int))) (some (V.bool (decide (((k + 1 : Nat) : Int) < 1)))) (some (V.bool (decide (((k + 1 : Nat) : Int) < 1)))) (some (V.bool false)) (some (V.int IntKind.i64 ((k + 1 : Nat) : Int))) (some (V.bool (decide (((k + 1 : Nat) : Int) > 8)))) (some (V.bool false)) (some (V.ptr s 0)) (some (V.int IntKind.i64 ((k + 1 : Nat) : Int))) (some (V.fn 132 [V.ptr h.length 0, V.ptr (h.length + 1) 0]))) .ready] := ⟨_, rfl⟩
 have hS0 : ∀ (T : List HB), (h ++ T)[h.length]? = T[0]? := fun T => hS T 0
 have L0 : LvAt h HS ((k + 1 : Nat) : Int) s [] _ := ⟨by rw [hHS]; simp, fun i hi => by rw [hHS, zj hi], by rw [hHS, hS0]; rfl, by rw [hHS, hS]; rfl, ⟨none, ⟨rfl, by rw [hHS, hS]; rfl⟩, fun b hb => by cases hb⟩, by rw [hHS, hS]; rfl, by rw [hHS, hS]; rfl⟩
 obtain ⟨hh', e, L⟩ := zo9 n S hk hlim (ts.length + 1) 0 n HS [] (by omega) (by omega) (by omega) (by simp) L0
 rw [zP, zT] at L
 have hit : call (n + 1) 132 [.yld (h.length + 5), .ptr h.length 0, .ptr (h.length + 1) 0] HS = some (.ret [], hh') := by
  refine (zcQ n _ _ _ HS).trans ?_
  unfold zfy
  have hw : IntKind.i64.wrap (((k + 1 : Nat) : Int) - 1) = (k : Int) := by rw [w64] <;> omega
  have hsl : s < h.length := zQ S.hb
  have hrd : zu HS (.ptr s (2 + k)) = some ((ndH s (ts.length : Int) most).cells N, 12, 2 + k) := by
   refine zx ?_ _
   rw [L0.old _ hsl]
   exact S.hb
  have hg : ((ndH s (ts.length : Int) most).cells N)[2 + k]? = some (nx k (ts.drop 0)) := by
   rw [(ndH s (ts.length : Int) most).get _ hk]
   exact congrArg some (S.lk.hd k hk)
  rw [zx L0.p0, zl, if_pos (by decide)]
  simp only [za, zb]
  rw [zx L0.p1, zl, if_pos (by decide)]
  simp only [za, zb, ZH, hw, Xx, zr, zV, nv_int, Z3, hrd, zl, hg]
  rw [if_pos hk, if_pos (by omega)]
  exact e
 have hhl := L.len
 have hHS' := hHS
 simp only [zaK, zdY] at hHS'
 rw [<- hHS', hit]
 simp only [clN]
 have hlp := L.lp
 rw [hlp]
 simp only [zaK, lpE]
 obtain ⟨ob, O, hob⟩ := L.out
 have hdf : (hh'.set (h.length + 5) HB.dead)[h.length + 4]? = some .defb := by rw [zd (by omega)]; exact L.df
 have hrest : ∀ i, i ≠ h.length + 5 -> i ≠ h.length + 4 -> ((hh'.set (h.length + 5) HB.dead).set (h.length + 4) HB.dead)[i]? = hh'[i]? := fun i a b => by rw [zd (Ne.symm b), zd (Ne.symm a)]
 have hout : ∀ v, hh'[h.length + 2]? = some (.box 1 [v]) -> zu (hh'.set (h.length + 5) HB.dead) (.ptr (h.length + 2) 0) = some ([v], 1, 0) := fun v hv => zx (by rw [zd (by omega)]; exact hv) 0
 cases ob with
 | none =>
   obtain ⟨hnil, hc⟩ := O
   rw [hout _ hc, zl, if_pos (by decide)]
   simp only [za, zb]
   rw [hdf]
   simp only [dfB]
   exact ⟨_, _, rfl, .inl ⟨rfl, hnil⟩, by rw [zp, zp]; omega, fun i hi => by rw [hrest i (by omega) (by omega), L.old i hi]⟩
 | some b =>
   obtain ⟨o1, z, hc, hr⟩ := O
   have hb := hob b rfl
   rw [hout _ hc, zl, if_pos (by decide)]
   simp only [za, zb]
   rw [hdf]
   simp only [dfB]
   exact ⟨_, _, rfl, .inr ⟨b, z, by omega, rfl, by rw [hrest b (by omega) (by omega)]; exact hr⟩, by rw [zp, zp]; omega, fun i hi => by rw [hrest i (by omega) (by omega), L.old i hi]⟩
theorem zjT (n : Nat) {h : ze} {s : Nat} {ts : List Tw} {most : Int} {N : Nx} (S : SkAt h s ts most N) (hlim : ts.length < lim) (hn : ts.length + 2 < n) :
    ∃ h' r, call (n + 3) 217 [.ptr s 0] h = some (.ret [r], h') /\ SlI h' h.length r (lvV 0 ts) /\ h.length <= h'.length /\ ∀ i, i < h.length -> h'[i]? = h[i]? := by
 obtain ⟨h', r, e, a, b, c⟩ := zdh n S (k := 0) (by omega) hlim hn
 refine ⟨h', r, ?_, a, b, c⟩
 refine (zfA (n + 2) s h).trans ?_
 unfold zeD
 rw [show (V.int IntKind.i64 1) = V.int .i64 ((0 + 1 : Nat) : Int) from rfl, e, zK, zw]
end Go.Proofs.Tryz
namespace Go.Proofs.Tryz
open Go.L Go.Rp Go.Sk
set_option maxRecDepth 100000
theorem zk6 : XL (WM (Xo f191)) = true /\ XL (WN (Xo f191)) = true := ⟨by kernel_rfl, by kernel_rfl⟩
theorem zpa : ((Wk prog 194).isNone && (XL (WM (Xo f191)) && XL (WN (Xo f191)))) = true := by kernel_rfl
def zf0 (y0 y2 : Option V) (x3 : Nat) (y5 y6 y7 y8 y9 y10 y11 y12 y13 y14 y15 y16 : Option V) : List (Option V) := [y0, none, y2, some (V.ptr x3 0), none, y5, y6, y7, y8, y9, y10, y11, y12, y13, y14, y15, y16, none, none, none, none, none, none]
noncomputable def zaL (D : Nat) (fr : List (Option V)) (st : LSt) : HB := .loop D true fr [17] (WM (Xo f191)) (WN (Xo f191)) st
section
variable {y0 y2 y5 y6 y7 y8 y9 y10 y11 y12 y13 y14 y15 y16 : Option V}
theorem zoa (n : Nat) {h : ze} {b D x3 : Nat} (hb : h[b]? = some (zaL D (zf0 y0 y2 x3 y5 y6 y7 y8 y9 y10 y11 y12 y13 y14 y15 y16) .ready)) (z : V) : rnd n b [z] h = qh n x3 b z h :=
 (zdg n hb [z] rfl zk6.1 zk6.2).trans (zdN n y0 y2 x3 y5 y6 y7 y8 y9 y10 y11 y12 y13 y14 y15 y16 b z h)
structure RgLp (h hh : ze) (s : Nat) (l : List Int) (fr : List (Option V)) : Prop where
 len : h.length + 6 <= hh.length
 old : ∀ i, i < h.length -> hh[i]? = h[i]?
 p1 : hh[h.length + 1]? = some (.box 1 [.ptr s 0])
 out : ∃ b z, (b = h.length \/ h.length + 6 <= b) /\ hh[h.length + 2]? = some (.box 1 [.row b 1 0 l.length]) /\ hh[b]? = some (.row 21 1 (l.map (XA .i32)) z)
 df : hh[h.length + 4]? = some .defb
 lp : hh[h.length + 5]? = some (zaL (h.length + 4) fr .ready)
theorem zpb (n : Nat) {h hh : ze} {s : Nat} {l : List Int} (L : RgLp h hh s l (zf0 y0 y2 (h.length + 2) y5 y6 y7 y8 y9 y10 y11 y12 y13 y14 y15 y16)) (x : Int) (hl : l.length + 1 < lim) :
    ∃ hh', rnd n (h.length + 5) [.int .i32 x] hh = some (true, hh') /\ RgLp h hh' s (l ++ [x]) (zf0 y0 y2 (h.length + 2) y5 y6 y7 y8 y9 y10 y11 y12 y13 y14 y15 y16) := by
 rw [zoa n L.lp]
 have hlen := L.len
 unfold qh
 rw [L.lp]
 simp only [zaL, lpR]
 generalize hbusy : HB.loop (h.length + 4) true (zf0 y0 y2 (h.length + 2) y5 y6 y7 y8 y9 y10 y11 y12 y13 y14 y15 y16) [17] (WM (Xo f191)) (WN (Xo f191)) .busy = B
 obtain ⟨G, hG⟩ : ∃ G, G = hh.set (h.length + 5) B := ⟨_, rfl⟩
 rw [<- hG]
 have hGl : G.length = hh.length := by rw [hG, zp]
 have hGo : ∀ i, i ≠ h.length + 5 -> G[i]? = hh[i]? := fun i hi => by rw [hG, zd (Ne.symm hi)]
 have hGb : G[h.length + 5]? = some B := by rw [hG]; exact Xf (by omega) _
 obtain ⟨b0, z, hb0, hc, hr⟩ := L.out
 have hc' : G[h.length + 2]? = some (.box 1 [.row b0 1 0 l.length]) := by rw [hGo _ (by omega)]; exact hc
 have hr' : G[b0]? = some (.row 21 1 (l.map (XA .i32)) z) := by rw [hGo _ (by omega)]; exact hr
 have hb0l := zQ hr'
 have J5 : J4 21 1 G [[.int .i32 x]] (.row b0 1 0 l.length) = some (.row G.length 1 0 (l.length + 1), G.set b0 .dead ++ [.row 21 1 (l.map (XA .i32) ++ [[.int .i32 x]]) (z && 0 == 0)]) := by
  simp only [J4, hr']
  rw [if_pos (by refine ⟨⟨?_, ?_, ?_⟩, ⟨Zh _, by simp⟩, by simp; omega⟩ <;> first | trivial | rfl), zP, zN (by simp)]
  simp
 have hw : Zp (G.set b0 .dead ++ [.row 21 1 (l.map (XA .i32) ++ [[.int .i32 x]]) (z && 0 == 0)]) [.row G.length 1 0 (l.length + 1)] (.ptr (h.length + 2) 0) = some (h.length + 2, .box 1 [.row G.length 1 0 (l.length + 1)]) := by
  rw [ZO (n := 1) (cs := [.row b0 1 0 l.length]) (by rw [zj (by rw [zp]; omega), zd (by omega)]; exact hc') (by simp)]; rfl
 rw [zx hc', zl, if_pos (by decide)]
 simp only [za, zb]
 rw [zbS, zb, J5, Zd]
 simp only [V.cells, zB, zO, zr, if_true]
 rw [hw, Zd]
 generalize hG2 : G.set b0 .dead ++ [HB.row 21 1 (l.map (XA .i32) ++ [[.int .i32 x]]) (z && 0 == 0)] = G2
 have e1 : G2.length = G.length + 1 := by rw [<- hG2]; simp
 have e4 : G2[G.length]? = some (.row 21 1 ((l ++ [x]).map (XA .i32)) (z && 0 == 0)) := by
  have : G.length = (G.set b0 .dead).length := by rw [zp]
  rw [<- hG2, this, zD, ZC]; rfl
 have e5 : ∀ i, i < h.length + 6 -> i ≠ b0 -> G2[i]? = G[i]? := fun i hi hb => by rw [<- hG2, zj (by rw [zp]; omega), zd (Ne.symm hb)]
 have hb5 : (G2.set (h.length + 2) (.box 1 [.row G.length 1 0 (l.length + 1)]))[h.length + 5]? = some B := by rw [zd (by omega), e5 _ (by omega) (by omega)]; exact hGb
 rw [hb5, <- hbusy]
 simp only [lpB]
 have hoth : ∀ i, i ≠ h.length + 5 -> i ≠ h.length + 2 -> ((G2.set (h.length + 2) (.box 1 [.row G.length 1 0 (l.length + 1)])).set (h.length + 5) (HB.loop (h.length + 4) true (zf0 y0 y2 (h.length + 2) y5 y6 y7 y8 y9 y10 y11 y12 y13 y14 y15 y16) [17] (WM (Xo f191)) (WN (Xo f191)) .ready))[i]? = G2[i]? := fun i h1 h2 => by
  rw [zd (Ne.symm h1), zd (Ne.symm h2)]
 refine ⟨_, rfl, ⟨by rw [zp, zp]; omega, fun i hi => ?_, ?_, ⟨G.length, (z && 0 == 0), .inr (by omega), ?_, ?_⟩, ?_, ?_⟩⟩
 · rw [hoth i (by omega) (by omega), e5 i (by omega) (by omega), hGo i (by omega), L.old i hi]
 · rw [hoth _ (by omega) (by omega), e5 _ (by omega) (by omega), hGo _ (by omega), L.p1]
 · rw [zd (by omega), Xf (by omega), zE]; rfl
 · rw [hoth _ (by omega) (by omega)]; exact e4
 · rw [hoth _ (by omega) (by omega), e5 _ (by omega) (by omega), hGo _ (by omega), L.df]
 · exact Xf (by rw [zp]; omega) _
theorem zpc (n : Nat) {h : ze} {s b c : Nat} {xs : List Int} (hb : RngAt h s b c xs) (hc : c < 100000) : ∀ (d i M : Nat) (hh : ze), i + d = xs.length -> d < M -> RgLp h hh s (xs.take i) (zf0 y0 y2 (h.length + 2) y5 y6 y7 y8 y9 y10 y11 y12 y13 y14 y15 y16) →
    ∃ hh', Ze M (Wt (n + 1) (h.length + 5) (h.length + 1) (.int .i64 (xs.length : Int))) [.int .i64 (i : Int)] hh = some (.ret [], hh') /\ RgLp h hh' s xs (zf0 y0 y2 (h.length + 2) y5 y6 y7 y8 y9 y10 y11 y12 y13 y14 y15 y16) := by
 intro d
 induction d with
 | zero =>
   intro i M hh h1 h2 L
   obtain ⟨M, rfl⟩ : ∃ M', M = M' + 1 := ⟨M - 1, by omega⟩
   rw [zN (by omega)] at L
   refine ⟨hh, ?_, L⟩
   rw [zL]
   unfold Wt
   simp only [gv, zg]
   rw [zC, zb, zo, if_neg (by simp; omega)]
 | succ d ih =>
   intro i M hh h1 h2 L
   obtain ⟨M, rfl⟩ : ∃ M', M = M' + 1 := ⟨M - 1, by omega⟩
   have hlt : i < xs.length := by omega
   obtain ⟨k, l, z, f, e1, e2, e3, e4, e5, e6, e7⟩ := hb
   have hs1 := (L.old s (zQ e1)).trans e1
   have hb1 := (L.old b (zQ e2)).trans e2
   have ea := Wu n (m := i) hs1 hb1 e3 (by omega) (by omega) hc
   obtain ⟨hh1, r1, L1⟩ := zpb (n + 1) L xs[i] (by simp; unfold lim; omega)
   rw [show xs.take i ++ [xs[i]] = xs.take (i + 1) from (XU hlt).symm] at L1
   obtain ⟨hh2, e, L2⟩ := ih (i + 1) M hh1 (by omega) (by omega) L1
   refine ⟨hh2, ?_, L2⟩
   have key : ∀ next, Wt (n + 1) (h.length + 5) (h.length + 1) (.int .i64 (xs.length : Int)) [.int .i64 (i : Int)] hh next = next [.int .i64 ((i + 1 : Nat) : Int)] hh1 := by
    intro next
    unfold Wt
    simp only [gv, zg]
    rw [zC, zb, zo, if_pos (by simp; omega), zx L.p1, zl, if_pos (by decide)]
    simp only [za, zb]
    rw [ea, zK, zw]
    simp only [ZN, zb, zV]
    rw [Xr hb1 (by decide) (e6 i hlt), zl, if_pos (by decide)]
    simp only [WO, za, zb]
    rw [r1, Zd, if_neg (by decide), zM, zb, XF (by unfold lim; omega)]
   rw [zL, key]
   exact e
end
theorem zdi (n : Nat) {h : ze} {s b c : Nat} {xs : List Int} (hb : RngAt h s b c xs) (hc : c < 100000) (hn : xs.length < n) :
    ∃ h' r z, call (n + 3) 191 [.ptr s 0] h = some (.ret [.row r 1 0 xs.length], h') /\ h'[r]? = some (.row 21 1 (xs.map (XA .i32)) z) /\ h.length <= r /\ h.length <= h'.length /\ ∀ i, i < h.length -> h'[i]? = h[i]? := by
 have hb0 := hb
 obtain ⟨k, l, z, f, e1, e2, e3, e4, e5, e6, e7⟩ := hb0
 rw [show n + 3 = (n + 2) + 1 from rfl, zhr]
 unfold zhq
 rw [Yj, zb, zo, if_neg (by decide), zx e1, zl, if_pos (by decide)]
 simp only [za, zi, zb]
 rw [Zo, zH, if_pos ⟨Zh _, by unfold lim; omega, trivial⟩]
 rw [show n + 2 = (n + 1) + 1 from rfl, zl7]
 unfold znA
 rw [zK, zw]
 simp only [zjj]
 rw [if_pos zpa]
 simp only [zE, zB, zO, List.append_assoc, ZT, zT, ZK, zr, Nat.reduceAdd, QK]
 have hS : ∀ (T : List HB) i, (h ++ T)[h.length + i]? = T[i]? := fun T i => by rw [zG (by omega), Xh]
 have hS0 : ∀ (T : List HB), (h ++ T)[h.length]? = T[0]? := fun T => hS T 0
 obtain ⟨HS, hHS⟩ : ∃ HS : ze, HS = h ++ [HB.row 21 1 [] true, HB.box 1 [V.ptr s 0], HB.box 1 [V.row h.length 1 0 0], HB.row 21 1 [] true, HB.defb, zaL (h.length + 4) (zf0 (some (V.ptr s 0)) (some (V.row (h.length + 3) 1 0 0)) (h.length + 2) (some (V.ptr s 0)) (some (V.bool false)) (some (V.ptr s 0)) (some (V.ptr s 0)) (some (V.ptr s 0)) (some (V.ptr s 2)) (some (V.int .i64 (xs.length : Int))) (some (V.row h.length 1 0 0)) (some (V.ptr s 0)) (some (V.ptr s 0)) (some (V.ptr s 0)) (some (V.fn 194 [V.ptr (h.length + 1) 0]))) .ready] := ⟨_, rfl⟩
 have L0 : RgLp h HS s (xs.take 0) _ := ⟨by rw [hHS]; simp, fun i hi => by rw [hHS, zj hi], by rw [hHS, hS]; rfl, ⟨h.length, true, .inl rfl, by rw [hHS, hS]; rfl, by rw [hHS, hS0]; rfl⟩, by rw [hHS, hS]; rfl, by rw [hHS, hS]; rfl⟩
 obtain ⟨hh', e, L⟩ := zpc n hb hc xs.length 0 (n + 1) HS (by omega) (by omega) L0
 have hit : call (n + 1 + 1) 194 [.yld (h.length + 5), .ptr (h.length + 1) 0] HS = some (.ret [], hh') := by
  refine (zjD (n + 1) _ _ HS).trans ?_
  unfold zkQ
  rw [zx L0.p1, zl, if_pos (by decide)]
  simp only [za, zb, ZN, zV, zr]
  rw [zx ((L0.old s (zQ e1)).trans e1), zl, if_pos (by decide)]
  simp only [za, zi, zb]
  exact e
 have hHS' := hHS
 simp only [zaL, zf0] at hHS'
 rw [<- hHS', hit]
 simp only [clN]
 have hlp := L.lp
 rw [hlp]
 simp only [zaL, lpE]
 obtain ⟨b', z', hb', hc', hr⟩ := L.out
 have hdf : (hh'.set (h.length + 5) HB.dead)[h.length + 4]? = some .defb := by rw [zd (by omega)]; exact L.df
 have hrest : ∀ i, i ≠ h.length + 5 -> i ≠ h.length + 4 -> ((hh'.set (h.length + 5) HB.dead).set (h.length + 4) HB.dead)[i]? = hh'[i]? := fun i a b => by rw [zd (Ne.symm b), zd (Ne.symm a)]
 have hout : zu (hh'.set (h.length + 5) HB.dead) (.ptr (h.length + 2) 0) = some ([.row b' 1 0 xs.length], 1, 0) := zx (by rw [zd (by omega)]; exact hc') 0
 rw [hout, zl, if_pos (by decide)]
 simp only [za, zb]
 rw [hdf]
 simp only [dfB]
 have hhl := L.len
 refine ⟨_, b', z', rfl, by rw [hrest b' (by omega) (by omega)]; exact hr, by omega, by rw [zp, zp]; omega, fun i hi => by rw [hrest i (by omega) (by omega), L.old i hi]⟩
end Go.Proofs.Tryz
namespace Go.Proofs.Tryz
open Go.L
set_option maxRecDepth 100000
noncomputable def zqo (n : Nat) (x0_0 : Int) (x0_1 : Int) : Option (Res × ze) :=
 some (Res.ret [(V.int .i32 x0_1)], [])
theorem zmg (n : Nat) (x0_0 : Int) (x0_1 : Int) (h : ze) : call (n + 1) 235 [(V.agg [(V.int .u8 x0_0), (V.int .i32 x0_1)])] h = gcw [(V.agg [(V.int .u8 x0_0), (V.int .i32 x0_1)])] (zqo n x0_0 x0_1) h := by kernel_rfl
noncomputable def zpY (n : Nat) (a : Int) (b : Int) (l : List (List V)) (lb : Bool) (h : ze) : Option (Res × ze) :=
 (bdS (nv (V.int .i64 a)) fun n0 =>
 (bd (Xa 2 n0 (V.sl 2 l lb)) fun p1 =>
 (clS (call n 235 [(V.agg (((esP p1)).drop 0 |>.take 2))] []) fun r2 =>
 (Zs r2 fun v5 =>
 (bdS (nv (V.int .i64 b)) fun n6 =>
 (bd (Xa 2 n6 (V.sl 2 l lb)) fun p7 =>
 (clS (call n 235 [(V.agg (((esP p7)).drop 0 |>.take 2))] []) fun r8 =>
 (Zs r8 fun v11 =>
 (clH (call n 242 [v5, v11] h) fun r12 h13 =>
 (Zs r12 fun v15 =>
 some (Res.ret [v15], h13)))))))))))
theorem zob (n : Nat) (a : Int) (b : Int) (l : List (List V)) (lb : Bool) (h : ze) : call (n + 1) 241 [(V.int .i64 a), (V.int .i64 b), (V.iptr 1 [(V.fn 235 [])] 0), (V.iptr 1 [(V.sl 2 l lb)] 0)] h = zpY n a b l lb h := by kernel_rfl
noncomputable def zpZ (n : Nat) (l : List (List V)) (lb : Bool) (b : Nat) (hi : Nat) (h : ze) : Option (Res × ze) :=
 (rwT ((h)[b]?) fun el0 sl0 l0 => if ((el0 = 3 /\ 1 = 1 /\ sl0 = 1) /\ (0 = 0 /\ hi = l0.length)) then (clr (call n 240 (V.sl 1 l0 false :: [(V.fn 241 [(V.iptr 1 [(V.fn 235 [])] 0), (V.iptr 1 [(V.sl 2 l lb)] 0)])]) ((h).set b HB.dead)) fun sl1 l1 r2 h3 => if sl1 = 1 /\ l1.length = l0.length then
 some (Res.ret [(V.row b 1 0 hi)], ((h3).set b (HB.row 3 1 l1 true))) else none) else none)
theorem zoc (n : Nat) (l : List (List V)) (lb : Bool) (b : Nat) (hi : Nat) (h : ze) : call (n + 1) 234 [(V.sl 2 l lb), (V.row b 1 0 hi), (V.fn 235 [])] h = zpZ n l lb b hi h := by kernel_rfl
noncomputable def YJ (n : Nat) (l : List (List V)) (lb : Bool) (st1 : List V) (hh2 : ze) (next3 : List V -> ze -> Option (Res × ze)) : Option (Res × ze) :=
 (bd (bop prog .lss 3 (gv st1 2) (V.int .i64 ((l).length : Int))) fun v4 =>
 (bv v4 fun b5 => if b5 then
 (bdS (nv (gv st1 2)) fun n6 =>
 (bd (Xa 2 n6 (V.sl 2 l lb)) fun p7 =>
 (bd3 (zu hh2 p7) fun cs9 m8 o10 => if (o10 + 2 <= m8 /\ 0 < 2) then
 (if (((cs9).drop o10 |>.take 2)).length = 2 then
 (if ((((cs9).drop o10 |>.take 2)).length <= 2) then
 (bd ((setR [(V.int .u8 0), (V.int .i32 0)] 0 ((cs9).drop o10 |>.take 2)))[0]? fun v11 =>
 (bd (bop prog .eql 5 v11 (V.int .u8 1)) fun v12 =>
 (bv v12 fun b13 => if b13 then
 (bd (jX prog 55 1 [(0, (gv st1 2))]) fun p14 =>
 (bd (app 3 1 (S.own 3 1 (lsl (gv st1 0))) p14.2) fun l15 =>
 (bd (bop prog .add 3 (gv st1 2) (V.int .i64 1)) fun v16 =>
 (next3 [(V.sl 1 l15 false), (V.sl 1 (lsl (gv st1 1)) false), v16] hh2))))
 else
 (bd (jX prog 55 1 [(0, (gv st1 2))]) fun p17 =>
 (bd (app 3 1 (S.own 3 1 (lsl (gv st1 1))) p17.2) fun l18 =>
 (bd (bop prog .add 3 (gv st1 2) (V.int .i64 1)) fun v19 =>
 (next3 [(V.sl 1 (lsl (gv st1 0)) false), (V.sl 1 l18 false), v19] hh2))))))) else none) else none) else none)))
 else
 (cl (call n 234 [(V.sl 2 l lb), (V.row (hh2).length 1 0 ((lsl (gv st1 0))).length), (V.fn 235 [])] (hh2 ++ [(HB.row 3 1 (lsl (gv st1 0)) true)])) (fun r20 h21 =>
 (Zs r20 fun v23 =>
 some (Res.ret [v23, (V.row (h21).length 1 0 ((lsl (gv st1 1))).length)], (h21 ++ [(HB.row 3 1 (lsl (gv st1 1)) true)])))) (fun z22 h21 => some (Res.pan z22, h21)))))
noncomputable def zod (n : Nat) (l : List (List V)) (lb : Bool) (h : ze) : Option (Res × ze) :=
 (Ze n (YJ n l lb) [(V.sl 1 [] false), (V.sl 1 [] false), (V.int .i64 0)] h)
theorem zmh (n : Nat) (l : List (List V)) (lb : Bool) (h : ze) : call (n + 1) 225 [(V.sl 2 l lb)] h = zod n l lb h := by kernel_rfl
noncomputable def W8 (n : Nat) (s : Nat) (l : List (List V)) (lb : Bool) (o : V) (t : V) (p0 : Nat × List (List V)) (st2 : List V) (hh3 : ze) (next4 : List V -> ze -> Option (Res × ze)) : Option (Res × ze) :=
 (bd (bop prog .lss 3 (gv st2 1) (V.int .i64 ((p0.2).length : Int))) fun v5 =>
 (bv v5 fun b6 => if b6 then
 (bdS (nv (gv st2 1)) fun n7 =>
 (bd (Xa 1 n7 o) fun p8 =>
 (bd3 (zu hh3 p8) fun cs10 m9 o11 => if (o11 + 1 <= m9 /\ 0 < 1) then
 (bd (cs10)[o11]? fun v12 =>
 (bdS (nv v12) fun n13 =>
 (bd (Xa 2 n13 t) fun p14 =>
 (bd (ZN 0 p14) fun p15 =>
 (bd2 (Zp hh3 [(V.int .u8 5)] p15) fun b16 x17 =>
 (bdS (nv v12) fun n18 =>
 (bd (Xa 2 n18 (V.sl 2 l lb)) fun p19 =>
 (bd (ZN 0 p19) fun p20 =>
 (bd3 (zu ((hh3).set b16 x17) p20) fun cs22 m21 o23 => if (o23 + 1 <= m21 /\ 0 < 1) then
 (bd (cs22)[o23]? fun v24 =>
 (bd (bop prog .neq 5 v24 (V.int .u8 2)) fun v25 =>
 (bv v25 fun b26 => if b26 then
 (bd (bop prog .add 3 (gv st2 1) (V.int .i64 1)) fun v27 =>
 (next4 [(V.sl 2 (lsl (gv st2 0)) false), v27] ((hh3).set b16 x17)))
 else
 (bdS (nv v12) fun n28 =>
 (bd (Xa 2 n28 t) fun p29 =>
 (bd (ZN 0 p29) fun p30 =>
 (bd2 (Zp ((hh3).set b16 x17) [(V.int .u8 4)] p30) fun b31 x32 =>
 (cl (call n 239 [(V.ptr s 0)] ((((hh3).set b16 x17)).set b31 x32)) (fun r33 h34 =>
 (bd (r33)[0]? fun v36 =>
 (bd (r33)[1]? fun v37 =>
 (bv v37 fun b38 => if b38 then
 (bd (Ji prog 35 [(0, (V.int .u8 2)), (1, v36)]) fun cs39 =>
 (bdS (nv v12) fun n40 =>
 (bd (Xa 2 n40 t) fun p41 =>
 (if (cs39).length = 2 then
 (bd2 (Zp h34 cs39 p41) fun b42 x43 =>
 (bd (bop prog .add 3 (gv st2 1) (V.int .i64 1)) fun v44 =>
 (next4 [(V.sl 2 (lsl (gv st2 0)) false), v44] ((h34).set b42 x43)))) else none))))
 else
 (bd (bop prog .add 3 (gv st2 1) (V.int .i64 1)) fun v45 =>
 (next4 [(V.sl 2 (lsl (gv st2 0)) false), v45] h34)))))) (fun z35 h34 => some (Res.pan z35, h34)))))))))) else none))))))))) else none)))
 else
 some (Res.ret [t], hh3)))
noncomputable def zk7 (n : Nat) (s : Nat) (l : List (List V)) (lb : Bool) (o : V) (t : V) (h : ze) : Option (Res × ze) :=
 (bd (Xq h o) fun p0 =>
 (Ze n (W8 n s l lb o t p0) [(V.sl 2 [] false), (V.int .i64 0)] h))
theorem zjU (n : Nat) (s : Nat) (l : List (List V)) (lb : Bool) (o : V) (t : V) (h : ze) : call (n + 1) 229 [(V.ptr s 0), (V.sl 2 l lb), o, t] h = zk7 n s l lb o t h := by kernel_rfl
noncomputable def Q1 (n : Nat) (s : Nat) (l : List (List V)) (lb : Bool) (v6 : V) (v59 : V) (p60 : Nat × List (List V)) (st62 : List V) (hh63 : ze) (next64 : List V -> ze -> Option (Res × ze)) : Option (Res × ze) :=
 (bd (bop prog .lss 3 (gv st62 3) (V.int .i64 ((p60.2).length : Int))) fun v65 =>
 (bv v65 fun b66 => if b66 then
 (bdS (nv (gv st62 3)) fun n67 =>
 (bd (Xa 1 n67 v59) fun p68 =>
 (bd3 (zu hh63 p68) fun cs70 m69 o71 => if (o71 + 1 <= m69 /\ 0 < 1) then
 (bd (cs70)[o71]? fun v72 =>
 (bdS (nv v72) fun n73 =>
 (if (2 = 2 /\ n73 < ((lsl (gv st62 1))).length /\ (some 73 : Option Nat) ≠ some 7) then
 (bd ((lsl (gv st62 1)))[n73]? fun es74 =>
 (bd (bop prog .add 3 (gv st62 3) (V.int .i64 1)) fun v75 =>
 (next64 [(V.sl 2 (lsl (gv st62 0)) false), (V.sl 2 (((lsl (gv st62 1))).set n73 (setR es74 0 [(V.int .u8 3)])) false), (V.bool false), v75] hh63))) else none))) else none)))
 else
 (cl (call n 229 [(V.ptr s 0), (V.sl 2 l lb), v6, (V.row (hh63).length 2 0 ((lsl (gv st62 1))).length)] (hh63 ++ [(HB.row 35 2 (lsl (gv st62 1)) true)])) (fun r76 h77 =>
 (Zs r76 fun v79 =>
 some (Res.ret [v79], h77))) (fun z78 h77 => some (Res.pan z78, h77)))))
noncomputable def Q2 (n : Nat) (s : Nat) (c : Nat) (l : List (List V)) (lb : Bool) (v5 : V) (v6 : V) (v18 : V) (v21 : V) (p22 : Nat × List (List V)) (st24 : List V) (hh25 : ze) (next26 : List V -> ze -> Option (Res × ze)) : Option (Res × ze) :=
 (bd (bop prog .lss 3 (gv st24 5) (V.int .i64 ((p22.2).length : Int))) fun v27 =>
 (bv v27 fun b28 => if b28 then
 (bdS (nv (gv st24 5)) fun n29 =>
 (bd (Xa 1 n29 v21) fun p30 =>
 (bd3 (zu hh25 p30) fun cs32 m31 o33 => if (o33 + 1 <= m31 /\ 0 < 1) then
 (bd (cs32)[o33]? fun v34 =>
 (bdS (nv v34) fun n35 =>
 (bd (Xa 2 n35 (V.sl 2 l lb)) fun p36 =>
 (bd (ZN 1 p36) fun p37 =>
 (bd3 (zu hh25 p37) fun cs39 m38 o40 => if (o40 + 1 <= m38 /\ 0 < 1) then
 (bd (cs39)[o40]? fun v41 =>
 (bd (jX prog 27 1 [(0, v41)]) fun p42 =>
 (bd (app 21 1 (S.own 21 1 (lsl (gv st24 2))) p42.2) fun l43 =>
 (cl (call n 227 [(V.ptr c 0)] hh25) (fun r44 h45 =>
 (Zs r44 fun v47 =>
 (bd (jX prog 55 1 [(0, v47)]) fun p48 =>
 (bd (app 3 1 (S.own 3 1 (lsl (gv st24 3))) p48.2) fun l49 =>
 (bdS (nv v34) fun n50 =>
 (if (2 = 2 /\ n50 < ((lsl (gv st24 1))).length /\ (some 56 : Option Nat) ≠ some 7) then
 (bd ((lsl (gv st24 1)))[n50]? fun es51 =>
 (bd (bop prog .add 3 (gv st24 5) (V.int .i64 1)) fun v52 =>
 (next26 [(V.sl 2 (lsl (gv st24 0)) false), (V.sl 2 (((lsl (gv st24 1))).set n50 (setR es51 0 [(V.int .u8 1)])) false), (V.sl 1 l43 false), (V.sl 1 l49 false), (V.bool false), v52] h45))) else none)))))) (fun z46 h45 => some (Res.pan z46, h45)))))) else none))))) else none)))
 else
 (cl (call n 228 [(V.ptr s 0), (V.row (hh25).length 1 0 ((lsl (gv st24 2))).length), (V.row ((hh25 ++ [(HB.row 21 1 (lsl (gv st24 2)) true)])).length 1 0 ((lsl (gv st24 3))).length)] ((hh25 ++ [(HB.row 21 1 (lsl (gv st24 2)) true)]) ++ [(HB.row 3 1 (lsl (gv st24 3)) true)])) (fun r53 h54 =>
 (Zs r53 fun v56 =>
 (bd (zan v5) fun n57 =>
 (bdS (nv v18) fun n58 =>
 (bd (Q7 1 n58 n57 (none : Option Nat) true v5) fun v59 =>
 (bd (Xq h54 v59) fun p60 =>
 (Ze n (Q1 n s l lb v6 v59 p60) [(V.sl 2 (lsl (gv st24 0)) false), (V.sl 2 (lsl (gv st24 1)) false), (V.bool false), (V.int .i64 0)] h54))))))) (fun z55 h54 => some (Res.pan z55, h54)))))
noncomputable def zij (n : Nat) (s : Nat) (c : Nat) (l : List (List V)) (lb : Bool) (h : ze) : Option (Res × ze) :=
 (bdS (nv (V.int .i64 ((l).length : Int))) fun n0 =>
 (bdS (nv (V.int .i64 ((l).length : Int))) fun n1 =>
 (if (n0 <= n1 /\ n1 < lim /\ 2 = 2) then
 (cl (call n 225 [(V.sl 2 l lb)] h) (fun r2 h3 =>
 (bd (r2)[0]? fun v5 =>
 (bd (r2)[1]? fun v6 =>
 (bd (Xq h3 v5) fun p7 =>
 (cl (call n 226 [(V.ptr s 0)] h3) (fun r8 h9 =>
 (Zs r8 fun v11 =>
 (cl (call n 218 [(V.ptr s 0)] h9) (fun r12 h13 =>
 (Zs r12 fun v15 =>
 (bd (bop prog .sub 3 v11 v15) fun v16 =>
 (bd (qO [(some (V.int .i64 ((p7.2).length : Int))), (YR h13 v16)]) fun a17 => bd (mm false a17) fun v18 =>
 (bd (zan v5) fun n19 =>
 (bdS (nv v18) fun n20 =>
 (bd (Q7 1 0 n20 (none : Option Nat) true v5) fun v21 =>
 (bd (Xq h13 v21) fun p22 =>
 (Ze n (Q2 n s c l lb v5 v6 v18 v21 p22) [(V.sl 2 [] false), (V.sl 2 (List.replicate n0 [(V.int .u8 0), (V.int .i32 0)]) false), (V.sl 1 [] false), (V.sl 1 [] false), (V.bool false), (V.int .i64 0)] h13))))))))) (fun z14 h13 => some (Res.pan z14, h13))))) (fun z10 h9 => some (Res.pan z10, h9))))))) (fun z4 h3 => some (Res.pan z4, h3))) else none)))
theorem zik (n : Nat) (s : Nat) (c : Nat) (l : List (List V)) (lb : Bool) (h : ze) : call (n + 1) 222 [(V.ptr s 0), (V.ptr c 0), (V.sl 2 l lb)] h = zij n s c l lb h := by kernel_rfl
noncomputable def QE (n : Nat) (s : Nat) (c : Nat) (l : List (List V)) (lb : Bool) (v5 : V) (v6 : V) (p7 : Nat × List (List V)) (st9 : List V) (hh10 : ze) (next11 : List V -> ze -> Option (Res × ze)) : Option (Res × ze) :=
 (bd (bop prog .lss 3 (gv st9 3) (V.int .i64 ((p7.2).length : Int))) fun v12 =>
 (bv v12 fun b13 => if b13 then
 (bdS (nv (gv st9 3)) fun n14 =>
 (bd (Xa 1 n14 v5) fun p15 =>
 (bd3 (zu hh10 p15) fun cs17 m16 o18 => if (o18 + 1 <= m16 /\ 0 < 1) then
 (bd (cs17)[o18]? fun v19 =>
 (bdS (nv v19) fun n20 =>
 (if (2 = 2 /\ n20 < ((lsl (gv st9 1))).length /\ (some 28 : Option Nat) ≠ some 7) then
 (bd ((lsl (gv st9 1)))[n20]? fun es21 =>
 (cl (call n 218 [(V.ptr s 0)] hh10) (fun r22 h23 =>
 (Zs r22 fun v25 =>
 (cl (call n 226 [(V.ptr s 0)] h23) (fun r26 h27 =>
 (Zs r26 fun v29 =>
 (bd (bop prog .lss 3 v25 v29) fun v30 =>
 (bv v30 fun b31 => if b31 then
 (bdS (nv v19) fun n32 =>
 (bd (Xa 2 n32 (V.sl 2 l lb)) fun p33 =>
 (bd ((esP p33))[1]? fun v34 =>
 (clH (call n 227 [(V.ptr c 0)] h27) fun r35 h36 =>
 (Zs r35 fun v38 =>
 (clH (call n 233 [(V.ptr s 0), v34, v38] h36) fun r39 h40 =>
 (Zs r39 fun v42 =>
 (bdS (nv v19) fun n43 =>
 (if (2 = 2 /\ n43 < ((((lsl (gv st9 1))).set n20 (setR es21 0 [(V.int .u8 3)]))).length /\ (some 46 : Option Nat) ≠ some 7) then
 (bd ((((lsl (gv st9 1))).set n20 (setR es21 0 [(V.int .u8 3)])))[n43]? fun es44 =>
 (bd (bop prog .add 3 (gv st9 3) (V.int .i64 1)) fun v45 =>
 (next11 [(V.sl 2 (lsl (gv st9 0)) false), (V.sl 2 (((((lsl (gv st9 1))).set n20 (setR es21 0 [(V.int .u8 3)]))).set n43 (setR es44 0 [(V.int .u8 1)])) false), (V.bool false), v45] h40))) else none)))))))))
 else
 (bd (bop prog .add 3 (gv st9 3) (V.int .i64 1)) fun v46 =>
 (next11 [(V.sl 2 (lsl (gv st9 0)) false), (V.sl 2 (((lsl (gv st9 1))).set n20 (setR es21 0 [(V.int .u8 3)])) false), (V.bool false), v46] h27)))))) (fun z28 h27 => some (Res.pan z28, h27))))) (fun z24 h23 => some (Res.pan z24, h23)))) else none))) else none)))
 else
 (cl (call n 229 [(V.ptr s 0), (V.sl 2 l lb), v6, (V.row (hh10).length 2 0 ((lsl (gv st9 1))).length)] (hh10 ++ [(HB.row 35 2 (lsl (gv st9 1)) true)])) (fun r47 h48 =>
 (Zs r47 fun v50 =>
 some (Res.ret [v50], h48))) (fun z49 h48 => some (Res.pan z49, h48)))))
noncomputable def zil (n : Nat) (s : Nat) (c : Nat) (l : List (List V)) (lb : Bool) (h : ze) : Option (Res × ze) :=
 (bdS (nv (V.int .i64 ((l).length : Int))) fun n0 =>
 (bdS (nv (V.int .i64 ((l).length : Int))) fun n1 =>
 (if (n0 <= n1 /\ n1 < lim /\ 2 = 2) then
 (cl (call n 225 [(V.sl 2 l lb)] h) (fun r2 h3 =>
 (bd (r2)[0]? fun v5 =>
 (bd (r2)[1]? fun v6 =>
 (bd (Xq h3 v5) fun p7 =>
 (Ze n (QE n s c l lb v5 v6 p7) [(V.sl 2 [] false), (V.sl 2 (List.replicate n0 [(V.int .u8 0), (V.int .i32 0)]) false), (V.bool false), (V.int .i64 0)] h3))))) (fun z4 h3 => some (Res.pan z4, h3))) else none)))
theorem zim (n : Nat) (s : Nat) (c : Nat) (l : List (List V)) (lb : Bool) (h : ze) : call (n + 1) 224 [(V.ptr s 0), (V.ptr c 0), (V.sl 2 l lb)] h = zil n s c l lb h := by kernel_rfl
end Go.Proofs.Tryz
namespace Go.Proofs.Tryz
open Go.L
set_option maxRecDepth 100000
noncomputable def qY (n : Nat) (a : Int) (b : Int) (k : Int) (st1 : List V) (hh2 : ze) (next3 : List V -> ze -> Option (Res × ze)) : Option (Res × ze) :=
 (bd (bop prog .lss 3 (gv st1 1) (V.int .i64 k)) fun v4 =>
 (bv v4 fun b5 => if b5 then
 (bd (bop prog .add 3 (V.int .i64 a) (gv st1 1)) fun v6 =>
 (bd (bop prog .add 3 (V.int .i64 b) (gv st1 1)) fun v7 =>
 (bd (bop prog .add 3 (V.int .i64 b) (gv st1 1)) fun v8 =>
 (bdS (nv v8) fun n9 =>
 (if (1 = 1 /\ n9 < ((lsl (gv st1 0))).length /\ (some 28 : Option Nat) ≠ some 0) then
 (bd ((lsl (gv st1 0)))[n9]? fun es10 =>
 (bd (es10)[0]? fun v11 =>
 (bd (bop prog .add 3 (V.int .i64 a) (gv st1 1)) fun v12 =>
 (bdS (nv v12) fun n13 =>
 (if (1 = 1 /\ n13 < ((lsl (gv st1 0))).length /\ (some 34 : Option Nat) ≠ some 0) then
 (bd ((lsl (gv st1 0)))[n13]? fun es14 =>
 (bd (es14)[0]? fun v15 =>
 (bdS (nv v6) fun n16 =>
 (if (1 = 1 /\ n16 < ((lsl (gv st1 0))).length /\ (some 36 : Option Nat) ≠ some 0) then
 (if ((V.cells v11)).length = 1 then
 (if (1 = 1 /\ 0 < 1 /\ 0 + ((V.cells v11)).length <= 1) then
 (bd ((lsl (gv st1 0)))[n16]? fun es17 =>
 (bdS (nv v7) fun n18 =>
 (if (1 = 1 /\ n18 < ((((lsl (gv st1 0))).set n16 (setR es17 0 (V.cells v11)))).length /\ (some 37 : Option Nat) ≠ some 0) then
 (if ((V.cells v15)).length = 1 then
 (if (1 = 1 /\ 0 < 1 /\ 0 + ((V.cells v15)).length <= 1) then
 (bd ((((lsl (gv st1 0))).set n16 (setR es17 0 (V.cells v11))))[n18]? fun es19 =>
 (bd (bop prog .add 3 (gv st1 1) (V.int .i64 1)) fun v20 =>
 (next3 [(V.sl 1 (((((lsl (gv st1 0))).set n16 (setR es17 0 (V.cells v11)))).set n18 (setR es19 0 (V.cells v15))) false), v20] hh2))) else none) else none) else none))) else none) else none) else none)))) else none))))) else none)))))
 else
 some (Res.ret (V.sl 1 (lsl (gv st1 0)) false :: []), hh2)))
noncomputable def zp0 (n : Nat) (l : List (List V)) (a : Int) (b : Int) (k : Int) (c : V) (h : ze) : Option (Res × ze) :=
 (Ze n (qY n a b k) [(V.sl 1 l false), (V.int .i64 0)] h)
theorem zoe (n : Nat) (l : List (List V)) (a : Int) (b : Int) (k : Int) (c : V) (h : ze) : call (n + 1) 251 [(V.sl 1 l false), (V.int .i64 a), (V.int .i64 b), (V.int .i64 k), c] h = zp0 n l a b k c h := by kernel_rfl
noncomputable def qZ (n : Nat) (m : Int) (c : V) (st1 : List V) (hh2 : ze) (next3 : List V -> ze -> Option (Res × ze)) : Option (Res × ze) :=
 (bd (bop prog .neq 3 (gv st1 1) (gv st1 2)) fun v4 =>
 (bv v4 fun b5 => if b5 then
 (bd (bop prog .gtr 3 (gv st1 1) (gv st1 2)) fun v6 =>
 (bv v6 fun b7 => if b7 then
 (bd (bop prog .sub 3 (V.int .i64 m) (gv st1 1)) fun v8 =>
 (clm (call n 251 (V.sl 1 (lsl (gv st1 0)) false :: [v8, (V.int .i64 m), (gv st1 2), c]) hh2) 1 fun l9 r10 h11 =>
 (bd (bop prog .sub 3 (gv st1 1) (gv st1 2)) fun v12 =>
 (next3 [(V.sl 1 l9 false), v12, (gv st1 2)] h11))))
 else
 (bd (bop prog .sub 3 (V.int .i64 m) (gv st1 1)) fun v13 =>
 (bd (bop prog .add 3 (V.int .i64 m) (gv st1 2)) fun v14 =>
 (bd (bop prog .sub 3 v14 (gv st1 1)) fun v15 =>
 (clm (call n 251 (V.sl 1 (lsl (gv st1 0)) false :: [v13, v15, (gv st1 1), c]) hh2) 1 fun l16 r17 h18 =>
 (bd (bop prog .sub 3 (gv st1 2) (gv st1 1)) fun v19 =>
 (next3 [(V.sl 1 l16 false), (gv st1 1), v19] h18))))))))
 else
 (bd (bop prog .sub 3 (V.int .i64 m) (gv st1 1)) fun v20 =>
 (clm (call n 251 (V.sl 1 (lsl (gv st1 0)) false :: [v20, (V.int .i64 m), (gv st1 1), c]) hh2) 1 fun l21 r22 h23 =>
 some (Res.ret (V.sl 1 l21 false :: []), h23)))))
noncomputable def zqO (n : Nat) (l : List (List V)) (a : Int) (m : Int) (b : Int) (c : V) (h : ze) : Option (Res × ze) :=
 (Ze n (qZ n m c) [(V.sl 1 l false), (V.int .i64 (IntKind.i64.wrap (m - a))), (V.int .i64 (IntKind.i64.wrap (b - m)))] h)
theorem zpd (n : Nat) (l : List (List V)) (a : Int) (m : Int) (b : Int) (c : V) (h : ze) : call (n + 1) 250 [(V.sl 1 l false), (V.int .i64 a), (V.int .i64 m), (V.int .i64 b), c] h = zqO n l a m b c h := by kernel_rfl
noncomputable def K9 (n : Nat) (st1 : List V) (st31 : List V) (hh32 : ze) (next33 : List V -> ze -> Option (Res × ze)) : Option (Res × ze) :=
 (bd (bop prog .sub 3 (gv st1 1) (V.int .i64 1)) fun v34 =>
 (bd (bop prog .lss 3 (gv st31 1) v34) fun v35 =>
 (bv v35 fun b36 => if b36 then
 (bd (bop prog .add 3 (gv st31 1) (V.int .i64 1)) fun v37 =>
 (bd (bop prog .add 3 (gv st31 1) (V.int .i64 1)) fun v38 =>
 (bdS (nv v38) fun n39 =>
 (if (1 = 1 /\ n39 < ((lsl (gv st31 0))).length /\ (some 69 : Option Nat) ≠ some 0) then
 (bd ((lsl (gv st31 0)))[n39]? fun es40 =>
 (bd (es40)[0]? fun v41 =>
 (bdS (nv (gv st31 1)) fun n42 =>
 (if (1 = 1 /\ n42 < ((lsl (gv st31 0))).length /\ (some 73 : Option Nat) ≠ some 0) then
 (bd ((lsl (gv st31 0)))[n42]? fun es43 =>
 (bd (es43)[0]? fun v44 =>
 (bdS (nv (gv st31 1)) fun n45 =>
 (if (1 = 1 /\ n45 < ((lsl (gv st31 0))).length /\ (some 75 : Option Nat) ≠ some 0) then
 (if ((V.cells v41)).length = 1 then
 (if (1 = 1 /\ 0 < 1 /\ 0 + ((V.cells v41)).length <= 1) then
 (bd ((lsl (gv st31 0)))[n45]? fun es46 =>
 (bdS (nv v37) fun n47 =>
 (if (1 = 1 /\ n47 < ((((lsl (gv st31 0))).set n45 (setR es46 0 (V.cells v41)))).length /\ (some 76 : Option Nat) ≠ some 0) then
 (if ((V.cells v44)).length = 1 then
 (if (1 = 1 /\ 0 < 1 /\ 0 + ((V.cells v44)).length <= 1) then
 (bd ((((lsl (gv st31 0))).set n45 (setR es46 0 (V.cells v41))))[n47]? fun es48 =>
 (bd (bop prog .add 3 (gv st31 1) (V.int .i64 1)) fun v49 =>
 (next33 [(V.sl 1 (((((lsl (gv st31 0))).set n45 (setR es46 0 (V.cells v41)))).set n47 (setR es48 0 (V.cells v44))) false), v49] hh32))) else none) else none) else none))) else none) else none) else none)))) else none)))) else none))))
 else
 some (Res.ret (V.sl 1 (lsl (gv st31 0)) false :: []), hh32))))
noncomputable def q6 (n : Nat) (a : Int) (c : V) (st1 : List V) (hh2 : ze) (next3 : List V -> ze -> Option (Res × ze)) : Option (Res × ze) :=
 (bd (bop prog .lss 3 (gv st1 1) (gv st1 2)) fun v4 =>
 (bv v4 fun b5 => if b5 then
 (bd (bop prog .add 3 (gv st1 1) (gv st1 2)) fun v6 =>
 (bd (cvt prog 3 204 v6) fun v7 =>
 (bd (bop prog .shr 204 v7 (V.int .u64 1)) fun v8 =>
 (bd (cvt prog 204 3 v8) fun v9 =>
 (bdS (nv v9) fun n10 =>
 (if (1 = 1 /\ n10 < ((lsl (gv st1 0))).length /\ (some 43 : Option Nat) ≠ some 0) then
 (bd ((lsl (gv st1 0)))[n10]? fun es11 =>
 (bd (es11)[0]? fun v12 =>
 (bdS (nv (V.int .i64 a)) fun n13 =>
 (if (1 = 1 /\ n13 < ((lsl (gv st1 0))).length /\ (some 47 : Option Nat) ≠ some 0) then
 (bd ((lsl (gv st1 0)))[n13]? fun es14 =>
 (bd (es14)[0]? fun v15 =>
 (fnK c fun f16 c17 => if (okV prog 3 f16 = true) then (if X9 f16 then
 (cl (call n f16 ([v12, v15] ++ c17) hh2) (fun r18 h19 =>
 (Zs r18 fun v21 =>
 (bd (bop prog .lss 3 v21 (V.int .i64 0)) fun v22 =>
 (bv v22 fun b23 => if b23 then
 (bd (bop prog .add 3 v9 (V.int .i64 1)) fun v24 =>
 (next3 [(V.sl 1 (lsl (gv st1 0)) false), v24, (gv st1 2)] h19))
 else
 (next3 [(V.sl 1 (lsl (gv st1 0)) false), (gv st1 1), v9] h19))))) (fun z20 h19 => none))
 else if Wr f16 then
 (bd (qO [(YR hh2 v12), (YR hh2 v15)]) fun a25 => cl (call n f16 (a25 ++ c17) hh2) (fun r18 h19 => if V.simple.simpleL r18 then
 (Zs r18 fun v26 =>
 (bd (bop prog .lss 3 v26 (V.int .i64 0)) fun v27 =>
 (bv v27 fun b28 => if b28 then
 (bd (bop prog .add 3 v9 (V.int .i64 1)) fun v29 =>
 (next3 [(V.sl 1 (lsl (gv st1 0)) false), v29, (gv st1 2)] h19))
 else
 (next3 [(V.sl 1 (lsl (gv st1 0)) false), (gv st1 1), v9] h19)))) else none) (fun z20 h19 => if z20.simple then none else none))
 else none) else none))) else none)))) else none))))))
 else
 (Ze n (K9 n st1) [(V.sl 1 (lsl (gv st1 0)) false), (V.int .i64 a)] hh2)))
noncomputable def ja (n : Nat) (st51 : List V) (st83 : List V) (hh84 : ze) (next85 : List V -> ze -> Option (Res × ze)) : Option (Res × ze) :=
 (bd (bop prog .gtr 3 (gv st83 1) (gv st51 1)) fun v86 =>
 (bv v86 fun b87 => if b87 then
 (bd (bop prog .sub 3 (gv st83 1) (V.int .i64 1)) fun v88 =>
 (bd (bop prog .sub 3 (gv st83 1) (V.int .i64 1)) fun v89 =>
 (bdS (nv v89) fun n90 =>
 (if (1 = 1 /\ n90 < ((lsl (gv st83 0))).length /\ (some 121 : Option Nat) ≠ some 0) then
 (bd ((lsl (gv st83 0)))[n90]? fun es91 =>
 (bd (es91)[0]? fun v92 =>
 (bdS (nv (gv st83 1)) fun n93 =>
 (if (1 = 1 /\ n93 < ((lsl (gv st83 0))).length /\ (some 125 : Option Nat) ≠ some 0) then
 (bd ((lsl (gv st83 0)))[n93]? fun es94 =>
 (bd (es94)[0]? fun v95 =>
 (bdS (nv (gv st83 1)) fun n96 =>
 (if (1 = 1 /\ n96 < ((lsl (gv st83 0))).length /\ (some 127 : Option Nat) ≠ some 0) then
 (if ((V.cells v92)).length = 1 then
 (if (1 = 1 /\ 0 < 1 /\ 0 + ((V.cells v92)).length <= 1) then
 (bd ((lsl (gv st83 0)))[n96]? fun es97 =>
 (bdS (nv v88) fun n98 =>
 (if (1 = 1 /\ n98 < ((((lsl (gv st83 0))).set n96 (setR es97 0 (V.cells v92)))).length /\ (some 128 : Option Nat) ≠ some 0) then
 (if ((V.cells v95)).length = 1 then
 (if (1 = 1 /\ 0 < 1 /\ 0 + ((V.cells v95)).length <= 1) then
 (bd ((((lsl (gv st83 0))).set n96 (setR es97 0 (V.cells v92))))[n98]? fun es99 =>
 (bd (bop prog .sub 3 (gv st83 1) (V.int .i64 1)) fun v100 =>
 (next85 [(V.sl 1 (((((lsl (gv st83 0))).set n96 (setR es97 0 (V.cells v92)))).set n98 (setR es99 0 (V.cells v95))) false), v100] hh84))) else none) else none) else none))) else none) else none) else none)))) else none)))) else none))))
 else
 some (Res.ret (V.sl 1 (lsl (gv st83 0)) false :: []), hh84)))
noncomputable def jb (n : Nat) (m : Int) (c : V) (st51 : List V) (hh52 : ze) (next53 : List V -> ze -> Option (Res × ze)) : Option (Res × ze) :=
 (bd (bop prog .lss 3 (gv st51 1) (gv st51 2)) fun v54 =>
 (bv v54 fun b55 => if b55 then
 (bd (bop prog .add 3 (gv st51 1) (gv st51 2)) fun v56 =>
 (bd (cvt prog 3 204 v56) fun v57 =>
 (bd (bop prog .shr 204 v57 (V.int .u64 1)) fun v58 =>
 (bd (cvt prog 204 3 v58) fun v59 =>
 (bdS (nv (V.int .i64 m)) fun n60 =>
 (if (1 = 1 /\ n60 < ((lsl (gv st51 0))).length /\ (some 95 : Option Nat) ≠ some 0) then
 (bd ((lsl (gv st51 0)))[n60]? fun es61 =>
 (bd (es61)[0]? fun v62 =>
 (bdS (nv v59) fun n63 =>
 (if (1 = 1 /\ n63 < ((lsl (gv st51 0))).length /\ (some 99 : Option Nat) ≠ some 0) then
 (bd ((lsl (gv st51 0)))[n63]? fun es64 =>
 (bd (es64)[0]? fun v65 =>
 (fnK c fun f66 c67 => if (okV prog 3 f66 = true) then (if X9 f66 then
 (cl (call n f66 ([v62, v65] ++ c67) hh52) (fun r68 h69 =>
 (Zs r68 fun v71 =>
 (bd (bop prog .lss 3 v71 (V.int .i64 0)) fun v72 =>
 (bd (uop .not v72) fun v73 =>
 (bv v73 fun b74 => if b74 then
 (bd (bop prog .add 3 v59 (V.int .i64 1)) fun v75 =>
 (next53 [(V.sl 1 (lsl (gv st51 0)) false), v75, (gv st51 2)] h69))
 else
 (next53 [(V.sl 1 (lsl (gv st51 0)) false), (gv st51 1), v59] h69)))))) (fun z70 h69 => none))
 else if Wr f66 then
 (bd (qO [(YR hh52 v62), (YR hh52 v65)]) fun a76 => cl (call n f66 (a76 ++ c67) hh52) (fun r68 h69 => if V.simple.simpleL r68 then
 (Zs r68 fun v77 =>
 (bd (bop prog .lss 3 v77 (V.int .i64 0)) fun v78 =>
 (bd (uop .not v78) fun v79 =>
 (bv v79 fun b80 => if b80 then
 (bd (bop prog .add 3 v59 (V.int .i64 1)) fun v81 =>
 (next53 [(V.sl 1 (lsl (gv st51 0)) false), v81, (gv st51 2)] h69))
 else
 (next53 [(V.sl 1 (lsl (gv st51 0)) false), (gv st51 1), v59] h69))))) else none) (fun z70 h69 => if z70.simple then none else none))
 else none) else none))) else none)))) else none))))))
 else
 (Ze n (ja n st51) [(V.sl 1 (lsl (gv st51 0)) false), (V.int .i64 m)] hh52)))
noncomputable def YK (n : Nat) (a : Int) (m : Int) (b : Int) (c : V) (v102 : V) (v103 : V) (v107 : V) (st109 : List V) (hh110 : ze) (next111 : List V -> ze -> Option (Res × ze)) : Option (Res × ze) :=
 (bd (bop prog .lss 3 (gv st109 1) (gv st109 2)) fun v112 =>
 (bv v112 fun b113 => if b113 then
 (bd (bop prog .add 3 (gv st109 1) (gv st109 2)) fun v114 =>
 (bd (cvt prog 3 204 v114) fun v115 =>
 (bd (bop prog .shr 204 v115 (V.int .u64 1)) fun v116 =>
 (bd (cvt prog 204 3 v116) fun v117 =>
 (bd (bop prog .sub 3 v107 v117) fun v118 =>
 (bdS (nv v118) fun n119 =>
 (if (1 = 1 /\ n119 < ((lsl (gv st109 0))).length /\ (some 163 : Option Nat) ≠ some 0) then
 (bd ((lsl (gv st109 0)))[n119]? fun es120 =>
 (bd (es120)[0]? fun v121 =>
 (bdS (nv v117) fun n122 =>
 (if (1 = 1 /\ n122 < ((lsl (gv st109 0))).length /\ (some 167 : Option Nat) ≠ some 0) then
 (bd ((lsl (gv st109 0)))[n122]? fun es123 =>
 (bd (es123)[0]? fun v124 =>
 (fnK c fun f125 c126 => if (okV prog 3 f125 = true) then (if X9 f125 then
 (cl (call n f125 ([v121, v124] ++ c126) hh110) (fun r127 h128 =>
 (Zs r127 fun v130 =>
 (bd (bop prog .lss 3 v130 (V.int .i64 0)) fun v131 =>
 (bd (uop .not v131) fun v132 =>
 (bv v132 fun b133 => if b133 then
 (bd (bop prog .add 3 v117 (V.int .i64 1)) fun v134 =>
 (next111 [(V.sl 1 (lsl (gv st109 0)) false), v134, (gv st109 2)] h128))
 else
 (next111 [(V.sl 1 (lsl (gv st109 0)) false), (gv st109 1), v117] h128)))))) (fun z129 h128 => none))
 else if Wr f125 then
 (bd (qO [(YR hh110 v121), (YR hh110 v124)]) fun a135 => cl (call n f125 (a135 ++ c126) hh110) (fun r127 h128 => if V.simple.simpleL r127 then
 (Zs r127 fun v136 =>
 (bd (bop prog .lss 3 v136 (V.int .i64 0)) fun v137 =>
 (bd (uop .not v137) fun v138 =>
 (bv v138 fun b139 => if b139 then
 (bd (bop prog .add 3 v117 (V.int .i64 1)) fun v140 =>
 (next111 [(V.sl 1 (lsl (gv st109 0)) false), v140, (gv st109 2)] h128))
 else
 (next111 [(V.sl 1 (lsl (gv st109 0)) false), (gv st109 1), v117] h128))))) else none) (fun z129 h128 => if z129.simple then none else none))
 else none) else none))) else none)))) else none)))))))
 else
 (bd (bop prog .sub 3 v103 (gv st109 1)) fun v141 =>
 (bd (bop prog .lss 3 (gv st109 1) (V.int .i64 m)) fun v142 =>
 (bv v142 fun b143 => if b143 then
 (bd (bop prog .lss 3 (V.int .i64 m) v141) fun v144 =>
 (bv v144 fun b145 => if b145 then
 (clm (call n 250 (V.sl 1 (lsl (gv st109 0)) false :: [(gv st109 1), (V.int .i64 m), v141, c]) hh110) 1 fun l146 r147 h148 =>
 (bd (bop prog .lss 3 (V.int .i64 a) (gv st109 1)) fun v149 =>
 (bv v149 fun b150 => if b150 then
 (bd (bop prog .lss 3 (gv st109 1) v102) fun v151 =>
 (bv v151 fun b152 => if b152 then
 (clm (call n 249 (V.sl 1 l146 false :: [(V.int .i64 a), (gv st109 1), v102, c]) h148) 1 fun l153 r154 h155 =>
 (bd (bop prog .lss 3 v102 v141) fun v156 =>
 (bv v156 fun b157 => if b157 then
 (bd (bop prog .lss 3 v141 (V.int .i64 b)) fun v158 =>
 (bv v158 fun b159 => if b159 then
 (clm (call n 249 (V.sl 1 l153 false :: [v102, v141, (V.int .i64 b), c]) h155) 1 fun l160 r161 h162 =>
 some (Res.ret (V.sl 1 l160 false :: []), h162))
 else
 some (Res.ret (V.sl 1 l153 false :: []), h155)))
 else
 some (Res.ret (V.sl 1 l153 false :: []), h155))))
 else
 (bd (bop prog .lss 3 v102 v141) fun v163 =>
 (bv v163 fun b164 => if b164 then
 (bd (bop prog .lss 3 v141 (V.int .i64 b)) fun v165 =>
 (bv v165 fun b166 => if b166 then
 (clm (call n 249 (V.sl 1 l146 false :: [v102, v141, (V.int .i64 b), c]) h148) 1 fun l167 r168 h169 =>
 some (Res.ret (V.sl 1 l167 false :: []), h169))
 else
 some (Res.ret (V.sl 1 l146 false :: []), h148)))
 else
 some (Res.ret (V.sl 1 l146 false :: []), h148)))))
 else
 (bd (bop prog .lss 3 v102 v141) fun v170 =>
 (bv v170 fun b171 => if b171 then
 (bd (bop prog .lss 3 v141 (V.int .i64 b)) fun v172 =>
 (bv v172 fun b173 => if b173 then
 (clm (call n 249 (V.sl 1 l146 false :: [v102, v141, (V.int .i64 b), c]) h148) 1 fun l174 r175 h176 =>
 some (Res.ret (V.sl 1 l174 false :: []), h176))
 else
 some (Res.ret (V.sl 1 l146 false :: []), h148)))
 else
 some (Res.ret (V.sl 1 l146 false :: []), h148))))))
 else
 (bd (bop prog .lss 3 (V.int .i64 a) (gv st109 1)) fun v177 =>
 (bv v177 fun b178 => if b178 then
 (bd (bop prog .lss 3 (gv st109 1) v102) fun v179 =>
 (bv v179 fun b180 => if b180 then
 (clm (call n 249 (V.sl 1 (lsl (gv st109 0)) false :: [(V.int .i64 a), (gv st109 1), v102, c]) hh110) 1 fun l181 r182 h183 =>
 (bd (bop prog .lss 3 v102 v141) fun v184 =>
 (bv v184 fun b185 => if b185 then
 (bd (bop prog .lss 3 v141 (V.int .i64 b)) fun v186 =>
 (bv v186 fun b187 => if b187 then
 (clm (call n 249 (V.sl 1 l181 false :: [v102, v141, (V.int .i64 b), c]) h183) 1 fun l188 r189 h190 =>
 some (Res.ret (V.sl 1 l188 false :: []), h190))
 else
 some (Res.ret (V.sl 1 l181 false :: []), h183)))
 else
 some (Res.ret (V.sl 1 l181 false :: []), h183))))
 else
 (bd (bop prog .lss 3 v102 v141) fun v191 =>
 (bv v191 fun b192 => if b192 then
 (bd (bop prog .lss 3 v141 (V.int .i64 b)) fun v193 =>
 (bv v193 fun b194 => if b194 then
 (clm (call n 249 (V.sl 1 (lsl (gv st109 0)) false :: [v102, v141, (V.int .i64 b), c]) hh110) 1 fun l195 r196 h197 =>
 some (Res.ret (V.sl 1 l195 false :: []), h197))
 else
 some (Res.ret (V.sl 1 (lsl (gv st109 0)) false :: []), hh110)))
 else
 some (Res.ret (V.sl 1 (lsl (gv st109 0)) false :: []), hh110)))))
 else
 (bd (bop prog .lss 3 v102 v141) fun v198 =>
 (bv v198 fun b199 => if b199 then
 (bd (bop prog .lss 3 v141 (V.int .i64 b)) fun v200 =>
 (bv v200 fun b201 => if b201 then
 (clm (call n 249 (V.sl 1 (lsl (gv st109 0)) false :: [v102, v141, (V.int .i64 b), c]) hh110) 1 fun l202 r203 h204 =>
 some (Res.ret (V.sl 1 l202 false :: []), h204))
 else
 some (Res.ret (V.sl 1 (lsl (gv st109 0)) false :: []), hh110)))
 else
 some (Res.ret (V.sl 1 (lsl (gv st109 0)) false :: []), hh110)))))))
 else
 (bd (bop prog .lss 3 (V.int .i64 a) (gv st109 1)) fun v205 =>
 (bv v205 fun b206 => if b206 then
 (bd (bop prog .lss 3 (gv st109 1) v102) fun v207 =>
 (bv v207 fun b208 => if b208 then
 (clm (call n 249 (V.sl 1 (lsl (gv st109 0)) false :: [(V.int .i64 a), (gv st109 1), v102, c]) hh110) 1 fun l209 r210 h211 =>
 (bd (bop prog .lss 3 v102 v141) fun v212 =>
 (bv v212 fun b213 => if b213 then
 (bd (bop prog .lss 3 v141 (V.int .i64 b)) fun v214 =>
 (bv v214 fun b215 => if b215 then
 (clm (call n 249 (V.sl 1 l209 false :: [v102, v141, (V.int .i64 b), c]) h211) 1 fun l216 r217 h218 =>
 some (Res.ret (V.sl 1 l216 false :: []), h218))
 else
 some (Res.ret (V.sl 1 l209 false :: []), h211)))
 else
 some (Res.ret (V.sl 1 l209 false :: []), h211))))
 else
 (bd (bop prog .lss 3 v102 v141) fun v219 =>
 (bv v219 fun b220 => if b220 then
 (bd (bop prog .lss 3 v141 (V.int .i64 b)) fun v221 =>
 (bv v221 fun b222 => if b222 then
 (clm (call n 249 (V.sl 1 (lsl (gv st109 0)) false :: [v102, v141, (V.int .i64 b), c]) hh110) 1 fun l223 r224 h225 =>
 some (Res.ret (V.sl 1 l223 false :: []), h225))
 else
 some (Res.ret (V.sl 1 (lsl (gv st109 0)) false :: []), hh110)))
 else
 some (Res.ret (V.sl 1 (lsl (gv st109 0)) false :: []), hh110)))))
 else
 (bd (bop prog .lss 3 v102 v141) fun v226 =>
 (bv v226 fun b227 => if b227 then
 (bd (bop prog .lss 3 v141 (V.int .i64 b)) fun v228 =>
 (bv v228 fun b229 => if b229 then
 (clm (call n 249 (V.sl 1 (lsl (gv st109 0)) false :: [v102, v141, (V.int .i64 b), c]) hh110) 1 fun l230 r231 h232 =>
 some (Res.ret (V.sl 1 l230 false :: []), h232))
 else
 some (Res.ret (V.sl 1 (lsl (gv st109 0)) false :: []), hh110)))
 else
 some (Res.ret (V.sl 1 (lsl (gv st109 0)) false :: []), hh110))))))))))
noncomputable def zmi (n : Nat) (a : Int) (m : Int) (b : Int) (c : V) (v102 : V) (v103 : V) (v233 : V) (st235 : List V) (hh236 : ze) (next237 : List V -> ze -> Option (Res × ze)) : Option (Res × ze) :=
 (bd (bop prog .lss 3 (gv st235 1) (gv st235 2)) fun v238 =>
 (bv v238 fun b239 => if b239 then
 (bd (bop prog .add 3 (gv st235 1) (gv st235 2)) fun v240 =>
 (bd (cvt prog 3 204 v240) fun v241 =>
 (bd (bop prog .shr 204 v241 (V.int .u64 1)) fun v242 =>
 (bd (cvt prog 204 3 v242) fun v243 =>
 (bd (bop prog .sub 3 v233 v243) fun v244 =>
 (bdS (nv v244) fun n245 =>
 (if (1 = 1 /\ n245 < ((lsl (gv st235 0))).length /\ (some 163 : Option Nat) ≠ some 0) then
 (bd ((lsl (gv st235 0)))[n245]? fun es246 =>
 (bd (es246)[0]? fun v247 =>
 (bdS (nv v243) fun n248 =>
 (if (1 = 1 /\ n248 < ((lsl (gv st235 0))).length /\ (some 167 : Option Nat) ≠ some 0) then
 (bd ((lsl (gv st235 0)))[n248]? fun es249 =>
 (bd (es249)[0]? fun v250 =>
 (fnK c fun f251 c252 => if (okV prog 3 f251 = true) then (if X9 f251 then
 (cl (call n f251 ([v247, v250] ++ c252) hh236) (fun r253 h254 =>
 (Zs r253 fun v256 =>
 (bd (bop prog .lss 3 v256 (V.int .i64 0)) fun v257 =>
 (bd (uop .not v257) fun v258 =>
 (bv v258 fun b259 => if b259 then
 (bd (bop prog .add 3 v243 (V.int .i64 1)) fun v260 =>
 (next237 [(V.sl 1 (lsl (gv st235 0)) false), v260, (gv st235 2)] h254))
 else
 (next237 [(V.sl 1 (lsl (gv st235 0)) false), (gv st235 1), v243] h254)))))) (fun z255 h254 => none))
 else if Wr f251 then
 (bd (qO [(YR hh236 v247), (YR hh236 v250)]) fun a261 => cl (call n f251 (a261 ++ c252) hh236) (fun r253 h254 => if V.simple.simpleL r253 then
 (Zs r253 fun v262 =>
 (bd (bop prog .lss 3 v262 (V.int .i64 0)) fun v263 =>
 (bd (uop .not v263) fun v264 =>
 (bv v264 fun b265 => if b265 then
 (bd (bop prog .add 3 v243 (V.int .i64 1)) fun v266 =>
 (next237 [(V.sl 1 (lsl (gv st235 0)) false), v266, (gv st235 2)] h254))
 else
 (next237 [(V.sl 1 (lsl (gv st235 0)) false), (gv st235 1), v243] h254))))) else none) (fun z255 h254 => if z255.simple then none else none))
 else none) else none))) else none)))) else none)))))))
 else
 (bd (bop prog .sub 3 v103 (gv st235 1)) fun v267 =>
 (bd (bop prog .lss 3 (gv st235 1) (V.int .i64 m)) fun v268 =>
 (bv v268 fun b269 => if b269 then
 (bd (bop prog .lss 3 (V.int .i64 m) v267) fun v270 =>
 (bv v270 fun b271 => if b271 then
 (clm (call n 250 (V.sl 1 (lsl (gv st235 0)) false :: [(gv st235 1), (V.int .i64 m), v267, c]) hh236) 1 fun l272 r273 h274 =>
 (bd (bop prog .lss 3 (V.int .i64 a) (gv st235 1)) fun v275 =>
 (bv v275 fun b276 => if b276 then
 (bd (bop prog .lss 3 (gv st235 1) v102) fun v277 =>
 (bv v277 fun b278 => if b278 then
 (clm (call n 249 (V.sl 1 l272 false :: [(V.int .i64 a), (gv st235 1), v102, c]) h274) 1 fun l279 r280 h281 =>
 (bd (bop prog .lss 3 v102 v267) fun v282 =>
 (bv v282 fun b283 => if b283 then
 (bd (bop prog .lss 3 v267 (V.int .i64 b)) fun v284 =>
 (bv v284 fun b285 => if b285 then
 (clm (call n 249 (V.sl 1 l279 false :: [v102, v267, (V.int .i64 b), c]) h281) 1 fun l286 r287 h288 =>
 some (Res.ret (V.sl 1 l286 false :: []), h288))
 else
 some (Res.ret (V.sl 1 l279 false :: []), h281)))
 else
 some (Res.ret (V.sl 1 l279 false :: []), h281))))
 else
 (bd (bop prog .lss 3 v102 v267) fun v289 =>
 (bv v289 fun b290 => if b290 then
 (bd (bop prog .lss 3 v267 (V.int .i64 b)) fun v291 =>
 (bv v291 fun b292 => if b292 then
 (clm (call n 249 (V.sl 1 l272 false :: [v102, v267, (V.int .i64 b), c]) h274) 1 fun l293 r294 h295 =>
 some (Res.ret (V.sl 1 l293 false :: []), h295))
 else
 some (Res.ret (V.sl 1 l272 false :: []), h274)))
 else
 some (Res.ret (V.sl 1 l272 false :: []), h274)))))
 else
 (bd (bop prog .lss 3 v102 v267) fun v296 =>
 (bv v296 fun b297 => if b297 then
 (bd (bop prog .lss 3 v267 (V.int .i64 b)) fun v298 =>
 (bv v298 fun b299 => if b299 then
 (clm (call n 249 (V.sl 1 l272 false :: [v102, v267, (V.int .i64 b), c]) h274) 1 fun l300 r301 h302 =>
 some (Res.ret (V.sl 1 l300 false :: []), h302))
 else
 some (Res.ret (V.sl 1 l272 false :: []), h274)))
 else
 some (Res.ret (V.sl 1 l272 false :: []), h274))))))
 else
 (bd (bop prog .lss 3 (V.int .i64 a) (gv st235 1)) fun v303 =>
 (bv v303 fun b304 => if b304 then
 (bd (bop prog .lss 3 (gv st235 1) v102) fun v305 =>
 (bv v305 fun b306 => if b306 then
 (clm (call n 249 (V.sl 1 (lsl (gv st235 0)) false :: [(V.int .i64 a), (gv st235 1), v102, c]) hh236) 1 fun l307 r308 h309 =>
 (bd (bop prog .lss 3 v102 v267) fun v310 =>
 (bv v310 fun b311 => if b311 then
 (bd (bop prog .lss 3 v267 (V.int .i64 b)) fun v312 =>
 (bv v312 fun b313 => if b313 then
 (clm (call n 249 (V.sl 1 l307 false :: [v102, v267, (V.int .i64 b), c]) h309) 1 fun l314 r315 h316 =>
 some (Res.ret (V.sl 1 l314 false :: []), h316))
 else
 some (Res.ret (V.sl 1 l307 false :: []), h309)))
 else
 some (Res.ret (V.sl 1 l307 false :: []), h309))))
 else
 (bd (bop prog .lss 3 v102 v267) fun v317 =>
 (bv v317 fun b318 => if b318 then
 (bd (bop prog .lss 3 v267 (V.int .i64 b)) fun v319 =>
 (bv v319 fun b320 => if b320 then
 (clm (call n 249 (V.sl 1 (lsl (gv st235 0)) false :: [v102, v267, (V.int .i64 b), c]) hh236) 1 fun l321 r322 h323 =>
 some (Res.ret (V.sl 1 l321 false :: []), h323))
 else
 some (Res.ret (V.sl 1 (lsl (gv st235 0)) false :: []), hh236)))
 else
 some (Res.ret (V.sl 1 (lsl (gv st235 0)) false :: []), hh236)))))
 else
 (bd (bop prog .lss 3 v102 v267) fun v324 =>
 (bv v324 fun b325 => if b325 then
 (bd (bop prog .lss 3 v267 (V.int .i64 b)) fun v326 =>
 (bv v326 fun b327 => if b327 then
 (clm (call n 249 (V.sl 1 (lsl (gv st235 0)) false :: [v102, v267, (V.int .i64 b), c]) hh236) 1 fun l328 r329 h330 =>
 some (Res.ret (V.sl 1 l328 false :: []), h330))
 else
 some (Res.ret (V.sl 1 (lsl (gv st235 0)) false :: []), hh236)))
 else
 some (Res.ret (V.sl 1 (lsl (gv st235 0)) false :: []), hh236)))))))
 else
 (bd (bop prog .lss 3 (V.int .i64 a) (gv st235 1)) fun v331 =>
 (bv v331 fun b332 => if b332 then
 (bd (bop prog .lss 3 (gv st235 1) v102) fun v333 =>
 (bv v333 fun b334 => if b334 then
 (clm (call n 249 (V.sl 1 (lsl (gv st235 0)) false :: [(V.int .i64 a), (gv st235 1), v102, c]) hh236) 1 fun l335 r336 h337 =>
 (bd (bop prog .lss 3 v102 v267) fun v338 =>
 (bv v338 fun b339 => if b339 then
 (bd (bop prog .lss 3 v267 (V.int .i64 b)) fun v340 =>
 (bv v340 fun b341 => if b341 then
 (clm (call n 249 (V.sl 1 l335 false :: [v102, v267, (V.int .i64 b), c]) h337) 1 fun l342 r343 h344 =>
 some (Res.ret (V.sl 1 l342 false :: []), h344))
 else
 some (Res.ret (V.sl 1 l335 false :: []), h337)))
 else
 some (Res.ret (V.sl 1 l335 false :: []), h337))))
 else
 (bd (bop prog .lss 3 v102 v267) fun v345 =>
 (bv v345 fun b346 => if b346 then
 (bd (bop prog .lss 3 v267 (V.int .i64 b)) fun v347 =>
 (bv v347 fun b348 => if b348 then
 (clm (call n 249 (V.sl 1 (lsl (gv st235 0)) false :: [v102, v267, (V.int .i64 b), c]) hh236) 1 fun l349 r350 h351 =>
 some (Res.ret (V.sl 1 l349 false :: []), h351))
 else
 some (Res.ret (V.sl 1 (lsl (gv st235 0)) false :: []), hh236)))
 else
 some (Res.ret (V.sl 1 (lsl (gv st235 0)) false :: []), hh236)))))
 else
 (bd (bop prog .lss 3 v102 v267) fun v352 =>
 (bv v352 fun b353 => if b353 then
 (bd (bop prog .lss 3 v267 (V.int .i64 b)) fun v354 =>
 (bv v354 fun b355 => if b355 then
 (clm (call n 249 (V.sl 1 (lsl (gv st235 0)) false :: [v102, v267, (V.int .i64 b), c]) hh236) 1 fun l356 r357 h358 =>
 some (Res.ret (V.sl 1 l356 false :: []), h358))
 else
 some (Res.ret (V.sl 1 (lsl (gv st235 0)) false :: []), hh236)))
 else
 some (Res.ret (V.sl 1 (lsl (gv st235 0)) false :: []), hh236))))))))))
noncomputable def zqP (n : Nat) (l : List (List V)) (a : Int) (m : Int) (b : Int) (c : V) (h : ze) : Option (Res × ze) :=
 (if ((IntKind.i64.wrap (m - a)) == 1) then
 (Ze n (q6 n a c) [(V.sl 1 l false), (V.int .i64 m), (V.int .i64 b)] h)
 else
 (if ((IntKind.i64.wrap (b - m)) == 1) then
 (Ze n (jb n m c) [(V.sl 1 l false), (V.int .i64 a), (V.int .i64 m)] h)
 else
 (bd (bop prog .shr 204 (V.int .u64 (IntKind.u64.wrap (IntKind.i64.wrap (a + b)))) (V.int .u64 1)) fun v101 =>
 (bd (cvt prog 204 3 v101) fun v102 =>
 (bd (bop prog .add 3 v102 (V.int .i64 m)) fun v103 =>
 (bd (bop prog .gtr 3 (V.int .i64 m) v102) fun v104 =>
 (bv v104 fun b105 => if b105 then
 (bd (bop prog .sub 3 v103 (V.int .i64 b)) fun v106 =>
 (bd (bop prog .sub 3 v103 (V.int .i64 1)) fun v107 =>
 (Ze n (YK n a m b c v102 v103 v107) [(V.sl 1 l false), v106, v102] h)))
 else
 (bd (bop prog .sub 3 v103 (V.int .i64 1)) fun v233 =>
 (Ze n (zmi n a m b c v102 v103 v233) [(V.sl 1 l false), (V.int .i64 a), (V.int .i64 m)] h)))))))))
theorem zpe (n : Nat) (l : List (List V)) (a : Int) (m : Int) (b : Int) (c : V) (h : ze) : call (n + 1) 249 [(V.sl 1 l false), (V.int .i64 a), (V.int .i64 m), (V.int .i64 b), c] h = zqP n l a m b c h := by kernel_rfl
noncomputable def zbT (n : Nat) (a : Int) (c : V) (st1 : List V) (next3 : List V -> ze -> Option (Res × ze)) (st7 : List V) (hh8 : ze) (next9 : List V -> ze -> Option (Res × ze)) : Option (Res × ze) :=
 (bd (bop prog .gtr 3 (gv st7 1) (V.int .i64 a)) fun v10 =>
 (bv v10 fun b11 => if b11 then
 (bdS (nv (gv st7 1)) fun n12 =>
 (if (1 = 1 /\ n12 < ((lsl (gv st7 0))).length /\ (some 25 : Option Nat) ≠ some 0) then
 (bd ((lsl (gv st7 0)))[n12]? fun es13 =>
 (bd (es13)[0]? fun v14 =>
 (bd (bop prog .sub 3 (gv st7 1) (V.int .i64 1)) fun v15 =>
 (bdS (nv v15) fun n16 =>
 (if (1 = 1 /\ n16 < ((lsl (gv st7 0))).length /\ (some 30 : Option Nat) ≠ some 0) then
 (bd ((lsl (gv st7 0)))[n16]? fun es17 =>
 (bd (es17)[0]? fun v18 =>
 (fnK c fun f19 c20 => if (okV prog 3 f19 = true) then (if X9 f19 then
 (cl (call n f19 ([v14, v18] ++ c20) hh8) (fun r21 h22 =>
 (Zs r21 fun v24 =>
 (bd (bop prog .lss 3 v24 (V.int .i64 0)) fun v25 =>
 (bv v25 fun b26 => if b26 then
 (bd (bop prog .sub 3 (gv st7 1) (V.int .i64 1)) fun v27 =>
 (bd (bop prog .sub 3 (gv st7 1) (V.int .i64 1)) fun v28 =>
 (bdS (nv v28) fun n29 =>
 (if (1 = 1 /\ n29 < ((lsl (gv st7 0))).length /\ (some 45 : Option Nat) ≠ some 0) then
 (bd ((lsl (gv st7 0)))[n29]? fun es30 =>
 (bd (es30)[0]? fun v31 =>
 (bdS (nv (gv st7 1)) fun n32 =>
 (if (1 = 1 /\ n32 < ((lsl (gv st7 0))).length /\ (some 49 : Option Nat) ≠ some 0) then
 (bd ((lsl (gv st7 0)))[n32]? fun es33 =>
 (bd (es33)[0]? fun v34 =>
 (bdS (nv (gv st7 1)) fun n35 =>
 (if (1 = 1 /\ n35 < ((lsl (gv st7 0))).length /\ (some 51 : Option Nat) ≠ some 0) then
 (if ((V.cells v31)).length = 1 then
 (if (1 = 1 /\ 0 < 1 /\ 0 + ((V.cells v31)).length <= 1) then
 (bd ((lsl (gv st7 0)))[n35]? fun es36 =>
 (bdS (nv v27) fun n37 =>
 (if (1 = 1 /\ n37 < ((((lsl (gv st7 0))).set n35 (setR es36 0 (V.cells v31)))).length /\ (some 52 : Option Nat) ≠ some 0) then
 (if ((V.cells v34)).length = 1 then
 (if (1 = 1 /\ 0 < 1 /\ 0 + ((V.cells v34)).length <= 1) then
 (bd ((((lsl (gv st7 0))).set n35 (setR es36 0 (V.cells v31))))[n37]? fun es38 =>
 (bd (bop prog .sub 3 (gv st7 1) (V.int .i64 1)) fun v39 =>
 (next9 [(V.sl 1 (((((lsl (gv st7 0))).set n35 (setR es36 0 (V.cells v31)))).set n37 (setR es38 0 (V.cells v34))) false), v39] h22))) else none) else none) else none))) else none) else none) else none)))) else none)))) else none))))
 else
 (bd (bop prog .add 3 (gv st1 1) (V.int .i64 1)) fun v40 =>
 (next3 [(V.sl 1 (lsl (gv st7 0)) false), v40] h22)))))) (fun z23 h22 => none))
 else if Wr f19 then
 (bd (qO [(YR hh8 v14), (YR hh8 v18)]) fun a41 => cl (call n f19 (a41 ++ c20) hh8) (fun r21 h22 => if V.simple.simpleL r21 then
 (Zs r21 fun v42 =>
 (bd (bop prog .lss 3 v42 (V.int .i64 0)) fun v43 =>
 (bv v43 fun b44 => if b44 then
 (bd (bop prog .sub 3 (gv st7 1) (V.int .i64 1)) fun v45 =>
 (bd (bop prog .sub 3 (gv st7 1) (V.int .i64 1)) fun v46 =>
 (bdS (nv v46) fun n47 =>
 (if (1 = 1 /\ n47 < ((lsl (gv st7 0))).length /\ (some 45 : Option Nat) ≠ some 0) then
 (bd ((lsl (gv st7 0)))[n47]? fun es48 =>
 (bd (es48)[0]? fun v49 =>
 (bdS (nv (gv st7 1)) fun n50 =>
 (if (1 = 1 /\ n50 < ((lsl (gv st7 0))).length /\ (some 49 : Option Nat) ≠ some 0) then
 (bd ((lsl (gv st7 0)))[n50]? fun es51 =>
 (bd (es51)[0]? fun v52 =>
 (bdS (nv (gv st7 1)) fun n53 =>
 (if (1 = 1 /\ n53 < ((lsl (gv st7 0))).length /\ (some 51 : Option Nat) ≠ some 0) then
 (if ((V.cells v49)).length = 1 then
 (if (1 = 1 /\ 0 < 1 /\ 0 + ((V.cells v49)).length <= 1) then
 (bd ((lsl (gv st7 0)))[n53]? fun es54 =>
 (bdS (nv v45) fun n55 =>
 (if (1 = 1 /\ n55 < ((((lsl (gv st7 0))).set n53 (setR es54 0 (V.cells v49)))).length /\ (some 52 : Option Nat) ≠ some 0) then
 (if ((V.cells v52)).length = 1 then
 (if (1 = 1 /\ 0 < 1 /\ 0 + ((V.cells v52)).length <= 1) then
 (bd ((((lsl (gv st7 0))).set n53 (setR es54 0 (V.cells v49))))[n55]? fun es56 =>
 (bd (bop prog .sub 3 (gv st7 1) (V.int .i64 1)) fun v57 =>
 (next9 [(V.sl 1 (((((lsl (gv st7 0))).set n53 (setR es54 0 (V.cells v49)))).set n55 (setR es56 0 (V.cells v52))) false), v57] h22))) else none) else none) else none))) else none) else none) else none)))) else none)))) else none))))
 else
 (bd (bop prog .add 3 (gv st1 1) (V.int .i64 1)) fun v58 =>
 (next3 [(V.sl 1 (lsl (gv st7 0)) false), v58] h22))))) else none) (fun z23 h22 => if z23.simple then none else none))
 else none) else none))) else none))))) else none))
 else
 (bd (bop prog .add 3 (gv st1 1) (V.int .i64 1)) fun v59 =>
 (next3 [(V.sl 1 (lsl (gv st7 0)) false), v59] hh8))))
noncomputable def q7 (n : Nat) (a : Int) (b : Int) (c : V) (st1 : List V) (hh2 : ze) (next3 : List V -> ze -> Option (Res × ze)) : Option (Res × ze) :=
 (bd (bop prog .lss 3 (gv st1 1) (V.int .i64 b)) fun v4 =>
 (bv v4 fun b5 => if b5 then
 (Ze n (zbT n a c st1 next3) [(V.sl 1 (lsl (gv st1 0)) false), (gv st1 1)] hh2)
 else
 some (Res.ret (V.sl 1 (lsl (gv st1 0)) false :: []), hh2)))
noncomputable def zqQ (n : Nat) (l : List (List V)) (a : Int) (b : Int) (c : V) (h : ze) : Option (Res × ze) :=
 (Ze n (q7 n a b c) [(V.sl 1 l false), (V.int .i64 (IntKind.i64.wrap (a + 1)))] h)
theorem zpf (n : Nat) (l : List (List V)) (a : Int) (b : Int) (c : V) (h : ze) : call (n + 1) 248 [(V.sl 1 l false), (V.int .i64 a), (V.int .i64 b), c] h = zqQ n l a b c h := by kernel_rfl
noncomputable def ju (n : Nat) (k : Int) (c : V) (st14 : List V) (next16 : List V -> ze -> Option (Res × ze)) (st21 : List V) (hh22 : ze) (next23 : List V -> ze -> Option (Res × ze)) : Option (Res × ze) :=
 (bd (bop prog .leq 3 (gv st21 2) (V.int .i64 k)) fun v24 =>
 (bv v24 fun b25 => if b25 then
 (bd (bop prog .add 3 (gv st21 1) (gv st14 1)) fun v26 =>
 (clm (call n 249 (V.sl 1 (lsl (gv st21 0)) false :: [(gv st21 1), v26, (gv st21 2), c]) hh22) 1 fun l27 r28 h29 =>
 (bd (bop prog .mul 3 (V.int .i64 2) (gv st14 1)) fun v30 =>
 (bd (bop prog .add 3 (gv st21 2) v30) fun v31 =>
 (next23 [(V.sl 1 l27 false), (gv st21 2), v31] h29)))))
 else
 (bd (bop prog .add 3 (gv st21 1) (gv st14 1)) fun v32 =>
 (bd (bop prog .lss 3 v32 (V.int .i64 k)) fun v33 =>
 (bv v33 fun b34 => if b34 then
 (clm (call n 249 (V.sl 1 (lsl (gv st21 0)) false :: [(gv st21 1), v32, (V.int .i64 k), c]) hh22) 1 fun l35 r36 h37 =>
 (bd (bop prog .mul 3 (gv st14 1) (V.int .i64 2)) fun v38 =>
 (next16 [(V.sl 1 l35 false), v38, (gv st21 1), (gv st21 2)] h37)))
 else
 (bd (bop prog .mul 3 (gv st14 1) (V.int .i64 2)) fun v39 =>
 (next16 [(V.sl 1 (lsl (gv st21 0)) false), v39, (gv st21 1), (gv st21 2)] hh22)))))))
noncomputable def WV (n : Nat) (k : Int) (c : V) (st14 : List V) (hh15 : ze) (next16 : List V -> ze -> Option (Res × ze)) : Option (Res × ze) :=
 (bd (bop prog .lss 3 (gv st14 1) (V.int .i64 k)) fun v17 =>
 (bv v17 fun b18 => if b18 then
 (bd (bop prog .mul 3 (V.int .i64 2) (gv st14 1)) fun v19 =>
 (Ze n (ju n k c st14 next16) [(V.sl 1 (lsl (gv st14 0)) false), (V.int .i64 0), v19] hh15))
 else
 some (Res.ret (V.sl 1 (lsl (gv st14 0)) false :: []), hh15)))
noncomputable def q8 (n : Nat) (k : Int) (c : V) (st1 : List V) (hh2 : ze) (next3 : List V -> ze -> Option (Res × ze)) : Option (Res × ze) :=
 (bd (bop prog .leq 3 (gv st1 2) (V.int .i64 k)) fun v4 =>
 (bv v4 fun b5 => if b5 then
 (clm (call n 248 (V.sl 1 (lsl (gv st1 0)) false :: [(gv st1 1), (gv st1 2), c]) hh2) 1 fun l6 r7 h8 =>
 (bd (bop prog .add 3 (gv st1 2) (V.int .i64 20)) fun v9 =>
 (next3 [(V.sl 1 l6 false), (gv st1 2), v9] h8)))
 else
 (clm (call n 248 (V.sl 1 (lsl (gv st1 0)) false :: [(gv st1 1), (V.int .i64 k), c]) hh2) 1 fun l10 r11 h12 =>
 (Ze n (WV n k c) [(V.sl 1 l10 false), (V.int .i64 20), (gv st1 1), (gv st1 2)] h12))))
noncomputable def zp1 (n : Nat) (l : List (List V)) (k : Int) (c : V) (h : ze) : Option (Res × ze) :=
 (Ze n (q8 n k c) [(V.sl 1 l false), (V.int .i64 0), (V.int .i64 20)] h)
theorem zof (n : Nat) (l : List (List V)) (k : Int) (c : V) (h : ze) : call (n + 1) 246 [(V.sl 1 l false), (V.int .i64 k), c] h = zp1 n l k c h := by kernel_rfl
noncomputable def zp2 (n : Nat) (l : List (List V)) (c : V) (h : ze) : Option (Res × ze) :=
 (clm (call n 246 (V.sl 1 l false :: [(V.int .i64 ((l).length : Int)), c]) h) 1 fun l0 r1 h2 =>
 some (Res.ret (V.sl 1 l0 false :: []), h2))
theorem zog (n : Nat) (l : List (List V)) (c : V) (h : ze) : call (n + 1) 240 [(V.sl 1 l false), c] h = zp2 n l c h := by kernel_rfl
end Go.Proofs.Tryz
namespace Go.Rp
def Ah (K : Int -> Int) (x y : Int) : Prop := K x < K y \/ (K x = K y /\ x < y)
abbrev Sd (K : Int -> Int) (l : List Int) : Prop := l.Pairwise (Ah K)
section
variable {K : Int -> Int}
theorem Ah.trans {x y z : Int} (h : Ah K x y) (k : Ah K y z) : Ah K x z := by unfold Ah at *; omega
theorem Ah.asymm {x y : Int} (h : Ah K x y) (k : Ah K y x) : False := by unfold Ah at *; omega
theorem Ah.lt {x y : Int} (h : K x < K y) : Ah K x y := .inl h
theorem Ah.le {x y : Int} (h : K x <= K y) (k : x < y) : Ah K x y := by unfold Ah; omega
theorem Ah.of {x y : Int} (h : Ah K x y) : K x <= K y := by unfold Ah at h; omega
theorem zeQ : ∀ {l m : List Int}, l.Perm m -> Sd K l -> Sd K m -> l = m
 | [], m, h, _, _ => (h.symm.eq_nil).symm
 | x :: l, [], h, _, _ => absurd h.eq_nil (by simp)
 | x :: l, y :: m, h, hl, hm => by
   obtain ⟨h1, h2⟩ := Z0.1 hl
   obtain ⟨k1, k2⟩ := Z0.1 hm
   have hx : x ∈ y :: m := h.mem_iff.1 (by simp)
   have hy : y ∈ x :: l := h.mem_iff.2 (by simp)
   obtain rfl : x = y := by
    rcases zF.1 hx with e | hx
    · exact e
    · rcases zF.1 hy with e | hy
      · exact e.symm
      · exact absurd (h1 y hy) fun a => (k1 x hx).asymm a
   rw [zeQ (List.perm_cons x |>.1 h) h2 k2]
def zdj (K : Int -> Int) : List Int -> Int -> List Int -> List Int
 | [], x, b => x :: b
 | y :: r, x, b => if K x < K y then zdj K r x (y :: b) else r.reverse ++ y :: x :: b
theorem zeR : ∀ (r : List Int) (x : Int) (b : List Int), (zdj K r x b).Perm (r.reverse ++ x :: b)
 | [], x, b => .refl _
 | y :: r, x, b => by
   unfold zdj
   split
   · refine (zeR r x (y :: b)).trans ?_
     rw [J3, List.append_assoc]
     exact List.Perm.append_left _ (List.Perm.swap y x b)
   · rw [J3, List.append_assoc]; exact .refl _
theorem zk8 : ∀ (r : List Int) (x : Int) (b : List Int), Sd K (r.reverse ++ b) -> (∀ y ∈ r, y < x) -> (∀ y ∈ b, Ah K x y) -> Sd K (zdj K r x b)
 | [], x, b, h, _, hb => Z0.2 ⟨hb, by simpa using h⟩
 | y :: r, x, b, h, hr, hb => by
   rw [J3, List.append_assoc] at h
   unfold zdj
   split
   · rename_i hk
     exact zk8 r x (y :: b) h (fun z hz => hr z (zq _ hz)) (fun z hz => by
      rcases zF.1 hz with rfl | hz
      · exact .lt hk
      · exact hb z hz)
   · rename_i hk
     have hyx : Ah K y x := .le (by omega) (hr y (by simp))
     obtain ⟨h1, h2, h3⟩ := ZI.1 h
     obtain ⟨h4, h5⟩ := Z0.1 (show Sd K (y :: b) from h2)
     refine ZI.2 ⟨h1, Z0.2 ⟨fun z hz => ?_, Z0.2 ⟨hb, h5⟩⟩, fun u hu v hv => ?_⟩
     · rcases zF.1 hz with rfl | hz
       · exact hyx
       · exact hyx.trans (hb z hz)
     · rcases zF.1 hv with rfl | hv
       · exact h3 u hu v (by simp)
       · rcases zF.1 hv with rfl | hv
         · exact (h3 u hu y (by simp)).trans hyx
         · exact h3 u hu v (by simp [hv])
theorem q9 {Q : Int -> Prop} {B : List Int} {k : Nat} (hQ : ∀ y z, Ah K y z -> Q z -> Q y) (hB : Sd K B) (hk : k <= B.length) (h : k = 0 \/ Q (B.getD (k - 1) 0)) : ∀ y ∈ B.take k, Q y := by
 intro y hy
 obtain ⟨i, hi, rfl⟩ := List.mem_iff_getElem.1 hy
 rw [Zg] at hi
 rw [List.getElem_take]
 rcases h with h | h
 · omega
 · rw [zR, zf (by omega), Option.getD_some] at h
   rcases ZQ i (k - 1) with h1 | h1
   · exact hQ _ _ (Xz.1 hB i (k - 1) (by omega) (by omega) h1) h
   · obtain rfl : i = k - 1 := by omega
     exact h
theorem zaa {Q : Int -> Prop} {B : List Int} {k : Nat} (hQ : ∀ y z, Ah K y z -> Q y -> Q z) (hB : Sd K B) (h : B.length <= k \/ Q (B.getD k 0)) : ∀ y ∈ B.drop k, Q y := by
 intro y hy
 obtain ⟨i, hi, rfl⟩ := List.mem_iff_getElem.1 hy
 rw [Xg] at hi
 rw [List.getElem_drop]
 rcases h with h | h
 · omega
 · rw [zR, zf (by omega), Option.getD_some] at h
   rcases JE i with h1 | h1
   · subst h1; exact h
   · exact hQ _ _ (Xz.1 hB k (k + i) (by omega) (by omega) (by omega)) h
theorem zmj {x : Int} {B : List Int} {k : Nat} (hB : Sd K B) (hk : k <= B.length) (hlt : ∀ y ∈ B, x < y) (h1 : k = 0 \/ K (B.getD (k - 1) 0) < K x) (h2 : B.length <= k \/ ¬ K (B.getD k 0) < K x) : Sd K (B.take k ++ x :: B.drop k) := by
 have a1 := q9 (Q := fun y => K y < K x) (fun y z h hz => by have := h.of; omega) hB hk h1
 have a2 := zaa (Q := fun y => ¬ K y < K x) (fun y z h hz => by have := h.of; omega) hB h2
 have hB' := hB
 rw [<- Zx k B] at hB'
 obtain ⟨s1, s2, s3⟩ := ZI.1 hB'
 refine ZI.2 ⟨s1, Z0.2 ⟨fun y hy => ?_, s2⟩, fun u hu v hv => ?_⟩
 · exact .le (by have := a2 y hy; omega) (hlt y (Zk hy))
 · rcases zF.1 hv with rfl | hv
   · exact .lt (a1 u hu)
   · exact s3 u hu v hv
theorem zjV {x : Int} {A : List Int} {k : Nat} (hA : Sd K A) (hk : k <= A.length) (hlt : ∀ y ∈ A, y < x) (h1 : k = 0 \/ ¬ K x < K (A.getD (k - 1) 0)) (h2 : A.length <= k \/ K x < K (A.getD k 0)) : Sd K (A.take k ++ x :: A.drop k) := by
 have a1 := q9 (Q := fun y => ¬ K x < K y) (fun y z h hz => by have := h.of; omega) hA hk h1
 have a2 := zaa (Q := fun y => K x < K y) (fun y z h hz => by have := h.of; omega) hA h2
 have hA' := hA
 rw [<- Zx k A] at hA'
 obtain ⟨s1, s2, s3⟩ := ZI.1 hA'
 refine ZI.2 ⟨s1, Z0.2 ⟨fun y hy => .lt (a2 y hy), s2⟩, fun u hu v hv => ?_⟩
 rcases zF.1 hv with rfl | hv
 · exact .le (by have := a1 u hu; omega) (hlt u (ZA hu))
 · exact s3 u hu v hv
theorem zqR {A B : List Int} {i j : Nat} (hA : Sd K A) (hB : Sd K B) (hi : i <= A.length) (hj : j <= B.length) (hlt : ∀ x ∈ A, ∀ y ∈ B, x < y)
    (h1 : i = 0 \/ B.length <= j \/ ¬ K (B.getD j 0) < K (A.getD (i - 1) 0)) (h2 : j = 0 \/ A.length <= i \/ K (B.getD (j - 1) 0) < K (A.getD i 0)) : ∀ u ∈ A.take i ++ B.take j, ∀ v ∈ A.drop i ++ B.drop j, Ah K u v := by
 have a1 : ∀ u ∈ A.take i, ∀ v ∈ B.drop j, Ah K u v := fun u hu v hv => by
  have h0 : ¬ K v < K u := by
   rcases h1 with h1 | h1 | h1
   · subst h1; simp at hu
   · rw [Zl h1] at hv; cases hv
   · have := zaa (Q := fun y => ¬ K y < K (A.getD (i - 1) 0)) (fun y z h hz => by have := h.of; omega) hB (.inr h1) v hv
     exact q9 (Q := fun y => ¬ K v < K y) (fun y z h hz => by have := h.of; omega) hA hi (.inr this) u hu
  exact .le (by omega) (hlt u (ZA hu) v (Zk hv))
 have a2 : ∀ u ∈ B.take j, ∀ v ∈ A.drop i, Ah K u v := fun u hu v hv => by
  rcases h2 with h2 | h2 | h2
  · subst h2; simp at hu
  · rw [Zl h2] at hv; cases hv
  · have := zaa (Q := fun y => K (B.getD (j - 1) 0) < K y) (fun y z h hz => by have := h.of; omega) hA (.inr h2) v hv
    exact .lt (q9 (Q := fun y => K y < K v) (fun y z h hz => by have := h.of; omega) hB hj (.inr this) u hu)
 have hA' := hA
 have hB' := hB
 rw [<- Zx i A] at hA'
 rw [<- Zx j B] at hB'
 intro u hu v hv
 rcases Zm.1 hu with hu | hu <;> rcases Zm.1 hv with hv | hv
 · exact (ZI.1 hA').2.2 u hu v hv
 · exact a1 u hu v hv
 · exact a2 u hu v hv
 · exact (ZI.1 hB').2.2 u hu v hv
end
end Go.Rp
namespace Go.Rp
def zf1 (p : Nat -> Int) : Prop := ∀ i j, i < j -> p i < p j
def rng (p : Nat -> Int) (lo k : Nat) : List Int := (List.range' lo k).map p
section
variable {p : Nat -> Int}
theorem zdk (lo k : Nat) : rng p lo (k + 1) = rng p lo k ++ [p (lo + k)] := by
 unfold rng; rw [List.range'_concat, ZC]; simp
theorem zin (lo k : Nat) : rng p lo (k + 1) = p lo :: rng p (lo + 1) k := by
 unfold rng; rw [List.range'_succ, zU]
theorem zbU (lo k : Nat) : (rng p lo k).length = k := by simp [rng]
theorem zf2 (lo : Nat) : ∀ (k j : Nat), rng p lo (k + j) = rng p lo k ++ rng p (lo + k) j
 | k, 0 => by simp [rng]
 | k, j + 1 => by rw [<- ZK, zdk, zf2 lo k j, zdk (lo + k) j, List.append_assoc, ZK]
theorem Kk {lo k : Nat} {x : Int} : x ∈ rng p lo k ↔ ∃ i, lo <= i /\ i < lo + k /\ p i = x := by
 unfold rng
 rw [ZF]
 constructor
 · rintro ⟨j, hj, rfl⟩
   have := List.mem_range'_1.1 hj
   exact ⟨j, by omega, by omega, rfl⟩
 · rintro ⟨i, h1, h2, rfl⟩
   exact ⟨i, List.mem_range'_1.2 (by omega), rfl⟩
theorem jv {lo k a l : Nat} {x : Int} (h1 : lo <= a) (h2 : a + l <= lo + k) (h : x ∈ rng p a l) : x ∈ rng p lo k := by
 obtain ⟨i, a1, a2, a3⟩ := Kk.1 h
 exact Kk.2 ⟨i, by omega, by omega, a3⟩
variable {K : Int -> Int}
def sR (K : Int -> Int) (p : Nat -> Int) (lo : Nat) : Nat -> List Int
 | 0 => []
 | k + 1 => zdj K (sR K p lo k).reverse (p (lo + k)) []
theorem Km (lo : Nat) : ∀ k, (sR K p lo k).Perm (rng p lo k)
 | 0 => .refl _
 | k + 1 => by
   unfold sR
   refine (zeR _ _ _).trans ?_
   rw [List.reverse_reverse, zdk]
   exact (Km lo k).append_right _
theorem Ys (lo k : Nat) : (sR K p lo k).length = k := by rw [(Km lo k).length_eq, zbU]
theorem zaM {lo k : Nat} {x : Int} : x ∈ sR K p lo k ↔ ∃ i, lo <= i /\ i < lo + k /\ p i = x := by rw [(Km lo k).mem_iff, Kk]
theorem zqS (hp : zf1 p) {lo i j : Nat} {x y : Int} (hx : x ∈ sR K p lo i) (hy : y ∈ sR K p (lo + i) j) : x < y := by
 obtain ⟨a, a1, a2, rfl⟩ := zaM.1 hx
 obtain ⟨b, b1, b2, rfl⟩ := zaM.1 hy
 exact hp a b (by omega)
theorem zio (hp : zf1 p) (lo : Nat) : ∀ k, Sd K (sR K p lo k)
 | 0 => .nil
 | k + 1 => by
   unfold sR
   refine zk8 _ _ _ (by simpa using zio hp lo k) (fun y hy => ?_) (by simp)
   obtain ⟨i, h1, h2, rfl⟩ := zaM.1 (List.mem_reverse.1 hy)
   exact hp _ _ h2
theorem zmk (hp : zf1 p) {lo k : Nat} {C : List Int} (h : C.Perm (rng p lo k)) (hs : Sd K C) : C = sR K p lo k := zeQ (h.trans (Km lo k).symm) hs (zio hp lo k)
theorem zpg (hp : zf1 p) {lo i j : Nat} {C : List Int} (h : C.Perm (sR K p lo i ++ sR K p (lo + i) j)) (hs : Sd K C) : C = sR K p lo (i + j) := by
 refine zmk hp (h.trans ?_) hs
 rw [zf2]
 exact (Km lo i).append (Km (lo + i) j)
def Q3 (K : Int -> Int) (p : Nat -> Int) (bs : Nat) : Nat -> Nat -> Nat -> List Int
 | 0, _, _ => []
 | f + 1, lo, len => if len <= bs then sR K p lo len else sR K p lo bs ++ Q3 K p bs f (lo + bs) (len - bs)
theorem zbm {bs : Nat} (hb : 0 < bs) : ∀ (f g lo len : Nat), len <= f -> len <= g -> Q3 K p bs f lo len = Q3 K p bs g lo len
 | 0, 0, lo, len, _, _ => rfl
 | 0, g + 1, lo, len, h, _ => by
   obtain rfl : len = 0 := by omega
   simp [Q3, sR]
 | f + 1, 0, lo, len, _, h => by
   obtain rfl : len = 0 := by omega
   simp [Q3, sR]
 | f + 1, g + 1, lo, len, h, k => by
   unfold Q3
   split
   · rfl
   · rw [zbm hb f g _ _ (by omega) (by omega)]
theorem JM {bs : Nat} (f lo len : Nat) (h : len <= bs) (hf : 0 < f) : Q3 K p bs f lo len = sR K p lo len := by
 cases f with
 | zero => omega
 | succ f => unfold Q3; rw [if_pos h]
theorem zml {bs : Nat} (hb : 0 < bs) (f lo len : Nat) (h : bs < len) (hf : len <= f) : Q3 K p bs f lo len = sR K p lo bs ++ Q3 K p bs f (lo + bs) (len - bs) := by
 cases f with
 | zero => omega
 | succ f =>
   have := zbm (K := K) (p := p) hb f (f + 1) (lo + bs) (len - bs) (by omega) (by omega)
   rw [<- this]
   conv => lhs; unfold Q3
   rw [if_neg (by omega)]
def atP (l : List Int) (B : Int) (i : Nat) : Int := match l[i]? with | some x => x | none => B + (i : Int)
theorem ziq {l : List Int} {B : Int} (hl : l.Pairwise (· < ·)) (hB : ∀ x ∈ l, x < B) : zf1 (atP l B) := by
 intro i j hij
 unfold atP
 cases hj : l[j]? with
 | some y =>
   have hjl := (zh.1 hj).1
   rw [zf (show i < l.length by omega)]
   have := Xz.1 hl i j (by omega) hjl hij
   rw [zf hjl] at hj
   rw [<- Option.some.inj hj]
   exact this
 | none =>
   cases hi : l[i]? with
   | some x =>
     have := hB x (zI hi)
     simp only; omega
   | none => simp only; omega
theorem zf3 (l : List Int) (B : Int) : rng (atP l B) 0 l.length = l := by
 apply ZM
 intro i
 unfold rng
 rw [zJ]
 by_cases hi : i < l.length
 · rw [List.getElem?_range' hi, zf hi]
   simp only [ZX, zr, Nat.one_mul]
   unfold atP
   rw [zf hi]
 · rw [Zc (by simp; omega), Zc (by omega)]
   rfl
end
end Go.Rp
