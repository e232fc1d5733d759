/- Reg Fast: what the law needs of these -/
import Derived.Orders
import Derived.Tactics
import Derived.Laws.World
set_option linter.unusedSimpArgs false
set_option linter.unusedVariables false
namespace Go.TR
def Only (Q : Exit -> Act -> World -> Prop) : Exit -> Act -> World -> Prop
  | .normal, a, w => Q .normal a w
  | _, _, _ => False
def WFree {α : Type} (P : Program) (s : Sem α) : Prop := (∃ v, ∀ w, s.run P w = .ok v w) \/ (∀ w, ∃ h w', s.run P w = .halt h w')
def WRead {α : Type} (P : Program) (s : Sem α) : Prop := ∀ w, (∃ v, s.run P w = .ok v w) \/ (∃ h w', s.run P w = .halt h w')
def intT (P : Program) (t : TypeId) : Bool := match P.underlying t with | some (.int _) => true | _ => false
def isTmp : Operand -> Bool | .tmp _ => true | _ => false
def isIntC : Operand -> Bool | .const (.int _ _) => true | _ => false
def asserted (P : Program) : Op -> List Operand
  | .binOp _ t x y _ => if intT P t then [x, y].filter isTmp else []
  | .convert s d x => if intT P s && intT P d then [x].filter isTmp else []
  | .call { callee := .builtin .min, args, .. } | .call { callee := .builtin .max, args, .. } => args.toList.filter isTmp
  | _ => []
def Ev (P : Program) (o : Oper) (ρ : Operand -> Value) : Prop := (∀ v, ρ (.const v) = v) /\ ∀ x ∈ asserted P o.op, ∃ k n, ρ x = .int k n
theorem asserted_sub (P : Program) (op : Op) : ∀ x ∈ asserted P op, x ∈ op.operands := by
  intro x hx
  unfold asserted at hx
  split at hx
  · split at hx
    · have := (List.mem_filter.1 hx).1; simpa [Op.operands] using this
    · cases hx
  · split at hx
    · have := (List.mem_filter.1 hx).1; simpa [Op.operands] using this
    · cases hx
  · have := (List.mem_filter.1 hx).1; simpa [Op.operands, Call.operands] using this
  · have := (List.mem_filter.1 hx).1; simpa [Op.operands, Call.operands] using this
  · cases hx
theorem ev_put {P : Program} {ops : Array Oper} (o : Oper) (a : Act) (d : Option Tmp) (v : Value) (h : ∀ x, d = some x -> x ∉ o.looksAt ops) : Ev P o (a.put d v).eval ↔ Ev P o a.eval := by
  have key : ∀ x ∈ asserted P o.op, (a.put d v).eval x = a.eval x := fun x hx =>
    Act.eval_put fun e he hxe => h e he (by
      subst hxe
      exact List.mem_append_left _ (List.mem_filterMap.2 ⟨.tmp e, by simpa using asserted_sub P o.op _ hx, rfl⟩))
  unfold Ev
  exact ⟨fun hh => ⟨fun v => rfl, fun x hx => by rw [<- key x hx]; exact hh.2 x hx⟩, fun hh => ⟨fun v => by cases d <;> rfl, fun x hx => by rw [key x hx]; exact hh.2 x hx⟩⟩
def FreeOp (P : Program) (o : Oper) : Prop := ∀ ρ, Ev P o ρ -> (∃ v, ∀ w, (execOp ρ o).run P w = .ok (.value v) w) \/ (∀ w, ∃ h w', (execOp ρ o).run P w = .halt h w')
def ReadOp (P : Program) (o : Oper) : Prop := ∀ ρ w, (∃ v, (execOp ρ o).run P w = .ok (.value v) w) \/ (∃ h w', (execOp ρ o).run P w = .halt h w')
def StableOp (P : Program) (o : Oper) : Prop := ∀ ρ w v ob, (execOp ρ o).run P w = .ok (.value v) w -> (execOp ρ o).run P (w.alloc ob) = .ok (.value v) (w.alloc ob)
def NewOp (P : Program) (o : Oper) : Prop := ∀ ρ, (∃ (f : Nat -> Value) (ob : Obj), ∀ w, (execOp ρ o).run P w = .ok (.value (f w.heap.size)) (w.alloc ob)) \/ (∀ w, ∃ h w', (execOp ρ o).run P w = .halt h w')
def Comm (P : Program) (oi oj : Oper) : Prop := FreeOp P oi \/ FreeOp P oj \/ (ReadOp P oi /\ ReadOp P oj) \/ (ReadOp P oi /\ StableOp P oi /\ NewOp P oj)
section
variable {P : Program} {ops : Array Oper} {Q : Exit -> Act -> World -> Prop}
theorem only_lets : ¬ LetsOut (Only Q) := fun ⟨_, _, h⟩ => h
def wpE (P : Program) (ops : Array Oper) (Q : Exit -> Act -> World -> Prop) (i : Nat) (K : Act -> World -> Prop) (a : Act) (w : World) : Prop :=
  match ops[i]? with
  | none => K a w
  | some o => if Region.wanted o (yielded ops a.tmps) then Ev P o a.eval /\ o.wp P a w K (Only Q) else K (a.put o.dst undef) w
theorem wpE_some {i : Nat} {o : Oper} {K : Act -> World -> Prop} {a : Act} {w : World} (hi : ops[i]? = some o) :
    wpE P ops Q i K a w = (if Region.wanted o (yielded ops a.tmps) then Ev P o a.eval /\ o.wp P a w K (Only Q) else K (a.put o.dst undef) w) := by
  unfold wpE; simp only [hi]
theorem wpE_mono {i : Nat} {a : Act} {w : World} {K K' : Act -> World -> Prop} (h : ∀ a w, K a w -> K' a w) (hh : wpE P ops Q i K a w) : wpE P ops Q i K' a w := by
  unfold wpE at *
  split
  · exact h _ _ (by simpa [*] using hh)
  · rename_i o ho
    simp only [ho] at hh
    split
    · rename_i hw; simp only [hw, if_true] at hh; exact ⟨hh.1, Oper.wp_mono h hh.2⟩
    · rename_i hw; simp only [hw] at hh; exact h _ _ hh
theorem wpE_forget {i : Nat} {a : Act} {w : World} {K : Act -> World -> Prop} (hh : wpE P ops Q i K a w) : wpOp P ops (Only Q) i K a w := by
  unfold wpE at hh
  unfold wpOp
  split
  · simpa [*] using hh
  · rename_i o ho
    simp only [ho] at hh
    split
    · rename_i hw; simp only [hw, if_true] at hh; exact .inl hh.2
    · rename_i hw; simp only [hw] at hh; exact hh
def wpEs (P : Program) (ops : Array Oper) (Q : Exit -> Act -> World -> Prop) : List Nat -> Act -> World -> Prop
  | [], a, w => Q .normal a w
  | i :: l, a, w => wpE P ops Q i (wpEs P ops Q l) a w
theorem read_wp {o : Oper} (ho : ReadOp P o) {K : Act -> World -> Prop} {a : Act} {w : World} :
    o.wp P a w K (Only Q) ↔ ∃ v, (execOp a.eval o).run P w = .ok (.value v) w /\ K (a.put o.dst v) w := by
  unfold Oper.wp
  rcases ho a.eval w with ⟨v, h⟩ | ⟨h, w', hr⟩
  · simp only [h, Oper.upon]
    constructor
    · intro hk; exact ⟨v, rfl, hk⟩
    · rintro ⟨v', hv, hk⟩; cases hv; exact hk
  · simp only [hr]
    constructor
    · cases h <;> simp [Oper.upon, Only]
    · rintro ⟨v', hv, _⟩; cases hv
theorem free_wp {o : Oper} (ho : FreeOp P o) {K : Act -> World -> Prop} {a : Act} {w : World} (he : Ev P o a.eval) :
    o.wp P a w K (Only Q) ↔ ∃ v, (∀ w, (execOp a.eval o).run P w = .ok (.value v) w) /\ K (a.put o.dst v) w := by
  unfold Oper.wp
  rcases ho a.eval he with ⟨v, h⟩ | hn
  · simp only [h w, Oper.upon]
    constructor
    · intro hk; exact ⟨v, h, hk⟩
    · rintro ⟨v', hv, hk⟩; have := (h w).symm.trans (hv w); cases this; exact hk
  · obtain ⟨h, w', hr⟩ := hn w
    simp only [hr]
    constructor
    · cases h <;> simp [Oper.upon, Only]
    · rintro ⟨v', hv, _⟩; rw [hv w] at hr; cases hr
theorem wp_and {o : Oper} {a : Act} {w : World} {K : Act -> World -> Prop} {F : Act -> Prop}
    (hput : ∀ u (b : Act), F b -> F (b.put o.dst u)) (hdef : ∀ d (b : Act), F b -> F { b with defers := d :: b.defers }) (hF : F a)
    (h : o.wp P a w K (Only Q)) : o.wp P a w (fun a' w' => F a' /\ K a' w') (Only Q) := by
  unfold Oper.wp at *
  generalize (execOp a.eval o).run P w = r at *
  cases r with
  | ok n w' =>
    cases n <;> simp only [Oper.upon] at h ⊢
    case value u => exact ⟨hput u a hF, h⟩
    case skip => exact ⟨hput _ a hF, h⟩
    case defer d => exact ⟨hput _ _ (hdef d a hF), h⟩
    case enter f args =>
      refine Calls.mono h fun e w'' he => ?_
      cases e with
      | returned u => exact ⟨hput u a hF, he⟩
      | panicked c => exact he
      | outgrown => exact he
    case row row args => exact Rows.mono h fun u w'' he => ⟨hput u a hF, he⟩
  | halt x w' =>
    cases x <;> simp only [Oper.upon] at h ⊢
    case panic u => exact h
theorem wp_some {o : Oper} {a : Act} {w : World} {K : Act -> World -> Prop} (h : o.wp P a w K (Only Q)) : ∃ u b w', (b = a \/ ∃ d, b = { a with defers := d :: a.defers }) /\ K (b.put o.dst u) w' := by
  unfold Oper.wp at *
  generalize (execOp a.eval o).run P w = r at *
  cases r with
  | ok n w' =>
    cases n <;> simp only [Oper.upon] at h
    case value u => exact ⟨u, a, _, .inl rfl, h⟩
    case skip => exact ⟨_, a, _, .inl rfl, h⟩
    case defer d => exact ⟨_, _, _, .inr ⟨d, rfl⟩, h⟩
    case enter f args =>
      obtain ⟨e, w'', fr, hR, _⟩ := h []
      cases e with
      | returned u => exact ⟨u, a, _, .inl rfl, hR⟩
      | panicked c => exact hR.elim
      | outgrown => exact (only_lets hR).elim
    case row row args =>
      obtain ⟨v, w'', hR, _⟩ := h default []
      exact ⟨v, a, _, .inl rfl, hR⟩
  | halt x w' =>
    cases x <;> simp only [Oper.upon] at h
    case panic u => exact h.elim
theorem wp_put {o : Oper} {a : Act} {w : World} {K : Act -> World -> Prop} {d : Option Tmp} {v : Value} (hs : ∀ cs b, o.op ≠ .select cs b)
    (h1 : ∀ x, d = some x -> x ∉ o.looksAt ops) (h2 : ∀ x, d = some x -> o.dst ≠ some x) :
    o.wp P (a.put d v) w K (Only Q) ↔ o.wp P a w (fun a' w' => K (a'.put d v) w') (Only Q) := by
  unfold Oper.wp
  rw [execOp_put (ops := ops) o hs a d v h1]
  generalize (execOp a.eval o).run P w = r
  cases r with
  | ok n w' =>
    cases n <;> simp only [Oper.upon]
    case value u => rw [Act.put_comm a v u h2]
    case skip => rw [Act.put_comm a v undef h2]
    case defer x => rw [Act.put_defers, <- Act.put_comm _ v undef h2]
    case enter f args =>
      constructor
      · intro h; refine Calls.mono h fun e w'' he => ?_
        cases e with
        | returned u => show K _ _; rw [<- Act.put_comm a v u h2]; exact he
        | panicked c => exact he
        | outgrown => exact he
      · intro h; refine Calls.mono h fun e w'' he => ?_
        cases e with
        | returned u => show K _ _; rw [Act.put_comm a v u h2]; exact he
        | panicked c => exact he
        | outgrown => exact he
    case row row args =>
      constructor
      · intro h; exact Rows.mono h fun u w'' he => by rw [<- Act.put_comm a v u h2]; exact he
      · intro h; exact Rows.mono h fun u w'' he => by rw [Act.put_comm a v u h2]; exact he
  | halt x w' =>
    cases x <;> simp only [Oper.upon]
    case panic u => exact Iff.rfl
theorem swap {i j : Nat} {oi oj : Oper} (hi : ops[i]? = some oi) (hj : ops[j]? = some oj) (hap : oi.apart ops oj = true)
    (hsi : ∀ cs b, oi.op ≠ .select cs b) (hsj : ∀ cs b, oj.op ≠ .select cs b)
    (hcls : Comm P oi oj) {K : Act -> World -> Prop} {a : Act} {w : World}
    (h : wpE P ops Q i (wpE P ops Q j K) a w) : wpE P ops Q j (wpE P ops Q i K) a w := by
  obtain ⟨h1, h2, h3⟩ := Oper.apart_spec hap
  have h2' : ∀ d, oj.dst = some d -> oi.dst ≠ some d := fun d hd he => h2 d he hd
  have fi : wpE P ops Q i K = fun a w => (if Region.wanted oi (yielded ops a.tmps) then Ev P oi a.eval /\ oi.wp P a w K (Only Q) else K (a.put oi.dst undef) w) := by
    funext a w; exact wpE_some hi
  have fj : wpE P ops Q j K = fun a w => (if Region.wanted oj (yielded ops a.tmps) then Ev P oj a.eval /\ oj.wp P a w K (Only Q) else K (a.put oj.dst undef) w) := by
    funext a w; exact wpE_some hj
  rw [wpE_some hi, fj] at h
  rw [wpE_some hj, fi]
  have wj : ∀ (b : Act) v, Region.wanted oj (yielded ops (b.put oi.dst v).tmps) = Region.wanted oj (yielded ops b.tmps) := fun b v => wanted_put oj b oi.dst v h1
  have wi : ∀ (b : Act) v, Region.wanted oi (yielded ops (b.put oj.dst v).tmps) = Region.wanted oi (yielded ops b.tmps) := fun b v => wanted_put oi b oj.dst v h3
  by_cases ci : Region.wanted oi (yielded ops a.tmps) = true
  · rw [if_pos ci] at h
    obtain ⟨ei, h⟩ := h
    by_cases cj : Region.wanted oj (yielded ops a.tmps) = true
    · rw [if_pos cj]
      have hh : oi.wp P a w (fun a w => Ev P oj a.eval /\ oj.wp P a w K (Only Q)) (Only Q) := by
        have := wp_and (F := fun b => Region.wanted oj (yielded ops b.tmps) = true) (fun u b hb => by rw [wj]; exact hb) (fun d b hb => hb) cj h
        exact Oper.wp_mono (fun b w' ⟨hb, hk⟩ => by rw [if_pos hb] at hk; exact hk) this
      have ej : Ev P oj a.eval := by
        obtain ⟨u, b, w', hb, hk, _⟩ := wp_some hh
        rw [ev_put (ops := ops) oj b oi.dst u h1] at hk
        rcases hb with rfl | ⟨d, rfl⟩ <;> exact hk
      have hh := Oper.wp_mono (K' := fun a w => oj.wp P a w K (Only Q)) (fun b w' hb => hb.2) hh
      refine ⟨ej, ?_⟩
      have goal : oj.wp P a w (fun a w => oi.wp P a w K (Only Q)) (Only Q) := by
        rcases hcls with hf | hf | ⟨hr, hr'⟩ | ⟨hr, hst, hn⟩
        · rw [free_wp hf ei] at hh
          obtain ⟨v, hv, hk⟩ := hh
          rw [wp_put (ops := ops) hsj h1 h2] at hk
          have key := wp_and (F := fun b => (execOp b.eval oi) = execOp a.eval oi /\ Ev P oi b.eval) (fun u b hb => ⟨by rw [execOp_put (ops := ops) oi hsi b oj.dst u h3]; exact hb.1, (ev_put (ops := ops) oi b oj.dst u h3).2 hb.2⟩) (fun d b hb => hb) ⟨rfl, ei⟩ hk
          refine Oper.wp_mono (fun b w' ⟨⟨hb, he⟩, hk⟩ => ?_) key
          rw [free_wp hf he]
          exact ⟨v, fun w => by rw [hb]; exact hv w, hk⟩
        · have hjv : ∃ v, ∀ w, (execOp a.eval oj).run P w = .ok (.value v) w := by
            obtain ⟨u, b, w', hb, hk⟩ := wp_some hh
            have hbe : execOp b.eval oj = execOp a.eval oj := by rcases hb with rfl | ⟨d, rfl⟩ <;> rfl
            have hev : Ev P oj (b.put oi.dst u).eval := by rw [ev_put (ops := ops) oj b oi.dst u h1]; rcases hb with rfl | ⟨d, rfl⟩ <;> exact ej
            rw [free_wp hf hev] at hk
            obtain ⟨v, hv, _⟩ := hk
            exact ⟨v, fun w => by have := hv w; rwa [execOp_put (ops := ops) oj hsj b oi.dst u h1, hbe] at this⟩
          obtain ⟨v, hv⟩ := hjv
          rw [free_wp hf ej]
          refine ⟨v, hv, ?_⟩
          rw [wp_put (ops := ops) hsi h3 h2']
          have key := wp_and (F := fun b => (execOp b.eval oj) = execOp a.eval oj /\ Ev P oj b.eval) (fun u b hb => ⟨by rw [execOp_put (ops := ops) oj hsj b oi.dst u h1]; exact hb.1, (ev_put (ops := ops) oj b oi.dst u h1).2 hb.2⟩) (fun d b hb => hb) ⟨rfl, ej⟩ hh
          refine Oper.wp_mono (fun b w' ⟨⟨hb, he⟩, hk⟩ => ?_) key
          rw [free_wp hf he] at hk
          obtain ⟨v', hv', hk⟩ := hk
          have := hv' w'
          rw [hb, hv w'] at this
          cases this
          exact hk
        · rw [read_wp hr] at hh
          obtain ⟨v, hv, hk⟩ := hh
          rw [read_wp hr'] at hk
          obtain ⟨u, hu, hk⟩ := hk
          rw [execOp_put (ops := ops) oj hsj a oi.dst v h1] at hu
          rw [read_wp hr']
          refine ⟨u, hu, ?_⟩
          rw [read_wp hr]
          refine ⟨v, by rw [execOp_put (ops := ops) oi hsi a oj.dst u h3]; exact hv, ?_⟩
          rw [<- Act.put_comm a v u h2]
          exact hk
        · rw [read_wp hr] at hh
          obtain ⟨v, hv, hk⟩ := hh
          rw [wp_put (ops := ops) hsj h1 h2] at hk
          rcases hn a.eval with ⟨f, ob, hj'⟩ | hn'
          · unfold Oper.wp at hk ⊢
            rw [hj' w] at hk ⊢
            simp only [Oper.upon] at hk ⊢
            have := (read_wp (Q := Q) hr (K := K) (a := a.put oj.dst (f w.heap.size)) (w := w.alloc ob)).2 ⟨v, by rw [execOp_put (ops := ops) oi hsi a oj.dst _ h3]; exact hst _ _ _ _ hv, hk⟩
            exact this
          · obtain ⟨h, w', e⟩ := hn' w
            unfold Oper.wp at hk
            rw [e] at hk
            cases h <;> simp [Oper.upon, Only] at hk
      have key := wp_and (F := fun b => Region.wanted oi (yielded ops b.tmps) = true /\ Ev P oi b.eval) (fun u b hb => ⟨by rw [wi]; exact hb.1, (ev_put (ops := ops) oi b oj.dst u h3).2 hb.2⟩) (fun d b hb => hb) ⟨ci, ei⟩ goal
      refine Oper.wp_mono (fun b w' ⟨hb, hk⟩ => ?_) key
      rw [if_pos hb.1]; exact ⟨hb.2, hk⟩
    · rw [if_neg cj]
      dsimp only
      rw [if_pos (by rw [wi]; exact ci)]
      refine ⟨(ev_put (ops := ops) oi a oj.dst undef h3).2 ei, ?_⟩
      rw [wp_put (ops := ops) hsi h3 h2']
      have key := wp_and (F := fun b => Region.wanted oj (yielded ops b.tmps) ≠ true) (fun u b hb => by rw [wj]; exact hb) (fun d b hb => hb) cj h
      refine Oper.wp_mono (fun b w' ⟨hb, hk⟩ => ?_) key
      rw [if_neg hb] at hk; exact hk
  · rw [if_neg ci] at h
    by_cases cj : Region.wanted oj (yielded ops a.tmps) = true
    · rw [if_pos cj]
      rw [if_pos (by rw [wj]; exact cj), wp_put (ops := ops) hsj h1 h2, ev_put (ops := ops) oj a oi.dst undef h1] at h
      refine ⟨h.1, ?_⟩
      have key := wp_and (F := fun b => Region.wanted oi (yielded ops b.tmps) ≠ true) (fun u b hb => by rw [wi]; exact hb) (fun d b hb => hb) ci h.2
      refine Oper.wp_mono (fun b w' ⟨hb, hk⟩ => ?_) key
      rw [if_neg hb]; exact hk
    · rw [if_neg cj]
      dsimp only
      rw [if_neg (by rw [wi]; exact ci), <- Act.put_comm a undef undef h2]
      rw [if_neg (by rw [wj]; exact cj)] at h
      exact h
def descs (md : Region.Mode) (p : Nat) : List Oper -> Array Bool -> Array Bool
  | [], acc => acc
  | o :: l, acc => descs md p l (acc.push (o.after.any fun e => Region.binds md e && (e.on == p || acc.getD e.on false)))
theorem descs_spec (md : Region.Mode) (p : Nat) : ∀ (l : List Oper) (acc : Array Bool),
    (∀ j, (descs md p l acc).getD j false = true -> acc.getD j false = true \/ (acc.size <= j /\ ∃ o, l[j - acc.size]? = some o ∧
      ∃ e ∈ o.after, Region.binds md e = true /\ (e.on = p \/ (e.on < j /\ (descs md p l acc).getD e.on false = true)))) ∧
    (∀ j, j < acc.size -> (descs md p l acc).getD j false = acc.getD j false)
  | [], acc => ⟨fun j h => .inl h, fun _ _ => rfl⟩
  | o :: l, acc => by
    obtain ⟨h1, h2⟩ := descs_spec md p l (acc.push (o.after.any fun e => Region.binds md e && (e.on == p || acc.getD e.on false)))
    simp only [Array.size_push] at h1 h2
    have keep : ∀ j, j < acc.size -> (descs md p (o :: l) acc).getD j false = acc.getD j false := fun j hj => by
      show (descs md p l _).getD j false = _
      rw [h2 j (by omega)]
      simp [Array.getElem?_push, Nat.ne_of_lt hj]
    refine ⟨fun j h => ?_, keep⟩
    rcases h1 j h with h | ⟨hj, o', ho', e, he, hb, h⟩
    · by_cases hj : j = acc.size
      · subst hj
        refine .inr ⟨Nat.le_refl _, o, by simp, ?_⟩
        simp only [Array.getD_eq_getD_getElem?, Array.getElem?_push, if_true, Option.getD_some] at h
        obtain ⟨e, he, hb⟩ := Array.any_eq_true'.1 h
        simp only [Bool.and_eq_true, Bool.or_eq_true, beq_iff_eq] at hb
        refine ⟨e, he, hb.1, hb.2.imp id fun hh => ?_⟩
        have hlt : e.on < acc.size := by
          rcases Nat.lt_or_ge e.on acc.size with h' | h'
          · exact h'
          · simp [Array.getElem?_eq_none h'] at hh
        exact ⟨hlt, by rw [keep _ hlt]; simpa using hh⟩
      · left
        simpa [Array.getElem?_push, hj] using h
    · exact .inr ⟨by omega, o', by rw [show j - acc.size = (j - (acc.size + 1)) + 1 from by omega]; simpa using ho', e, he, hb, h⟩
def Closed (md : Region.Mode) (ops : Array Oper) (listed : Array Bool) : Prop :=
  ∀ i o, ops[i]? = some o -> listed.getD i false = true -> ∀ e ∈ o.after, Region.binds md e = true -> listed.getD e.on false = true
theorem descs_listed {md : Region.Mode} {listed : Array Bool} (hc : Closed md ops listed) (p : Nat) : ∀ j oj, ops[j]? = some oj →
    (∀ e ∈ oj.after, Region.binds md e = true -> listed.getD e.on false = true) →
    (descs md p ops.toList #[]).getD j false = true -> listed.getD p false = true := by
  intro j
  induction j using Nat.strongRecOn with
  | _ j ih =>
    intro oj hj hl hd
    rcases (descs_spec md p ops.toList #[]).1 j hd with h | ⟨_, o, ho, e, he, hb, h⟩
    · simp at h
    · have : o = oj := by simpa [hj] using ho.symm
      subst this
      have hle := hl e he hb
      rcases h with rfl | ⟨hlt, h⟩
      · exact hle
      · have hex : ∃ oe, ops[e.on]? = some oe := by
          cases hoe : ops[e.on]? with
          | some oe => exact ⟨oe, rfl⟩
          | none =>
            rcases (descs_spec md p ops.toList #[]).1 e.on h with h' | ⟨_, o', ho', _⟩
            · simp at h'
            · simp [hoe] at ho'
        obtain ⟨oe, hoe⟩ := hex
        exact ih e.on hlt oe hoe (hc e.on oe hoe hle) h
def textB (cls : Op -> Nat) (ops : Array Oper) : Bool :=
  Region.noSelect ops &&
  ops.toList.zipIdx.all fun (oi, i) =>
    let d := descs .any i ops.toList #[]
    ops.toList.zipIdx.all fun (oj, j) =>
      !(decide (i < j)) || d.getD j false ||
        (oi.apart ops oj && (let x := cls oi.op; let y := cls oj.op; x == 0 || y == 0 || (x == 1 && y == 1) || (x == 1 && y == 3)))
def ClsOk (P : Program) (cls : Op -> Nat) : Prop := ∀ o : Oper, (cls o.op = 0 -> FreeOp P o) /\ (cls o.op = 1 -> ReadOp P o /\ StableOp P o) /\ (cls o.op = 3 -> NewOp P o)
theorem textB_spec {cls : Op -> Nat} (hcls : ClsOk P cls) (h : textB cls ops = true) {i j : Nat} {oi oj : Oper} (hi : ops[i]? = some oi) (hj : ops[j]? = some oj) (hij : i < j) :
    (descs .any i ops.toList #[]).getD j false = true \/ (oi.apart ops oj = true /\ Comm P oi oj) := by
  unfold textB at h
  rw [Bool.and_eq_true] at h
  have h1 := List.all_eq_true.1 h.2 (oi, i) (List.mem_zipIdx_iff_getElem?.2 (by simpa using hi))
  have h2 := List.all_eq_true.1 h1 (oj, j) (List.mem_zipIdx_iff_getElem?.2 (by simpa using hj))
  simp only [hij, decide_true, Bool.not_true, Bool.false_or, Bool.or_eq_true, Bool.and_eq_true, beq_iff_eq] at h2
  rcases h2 with h2 | ⟨ha, h2⟩
  · exact .inl h2
  · refine .inr ⟨ha, ?_⟩
    rcases h2 with ((h2 | h2) | ⟨h2, h3⟩) | ⟨h2, h3⟩
    · exact .inl ((hcls oi).1 h2)
    · exact .inr (.inl ((hcls oj).1 h2))
    · exact .inr (.inr (.inl ⟨((hcls oi).2.1 h2).1, ((hcls oj).2.1 h3).1⟩))
    · exact .inr (.inr (.inr ⟨((hcls oi).2.1 h2).1, ((hcls oi).2.1 h2).2, (hcls oj).2.2 h3⟩))
def left (n : Nat) (listed : Array Bool) : List Nat := (List.range n).filter fun i => !listed.getD i true
theorem bubble {i : Nat} {oi : Oper} (hi : ops[i]? = some oi) (hs : Region.noSelect ops = true) : ∀ (pre post : List Nat) (a : Act) (w : World),
    (∀ p ∈ pre, ∃ op, ops[p]? = some op /\ op.apart ops oi = true /\ Comm P op oi) →
    wpEs P ops Q (pre ++ i :: post) a w -> wpE P ops Q i (wpEs P ops Q (pre ++ post)) a w
  | [], post, a, w, _, h => h
  | p :: pre, post, a, w, hp, h => by
    obtain ⟨op, hop, hap, hc⟩ := hp p (List.mem_cons_self ..)
    have h' := wpE_mono (fun a w => bubble hi hs pre post a w (fun q hq => hp q (List.mem_cons_of_mem _ hq))) h
    have := swap hop hi hap (fun cs b => Region.noSelect_spec hs p op cs b hop) (fun cs b => Region.noSelect_spec hs i oi cs b hi) hc h'
    exact this
theorem any_of_text {cls : Op -> Nat} (hcls : ClsOk P cls) (hB : textB cls ops = true) : ∀ (fuel : Nat) (listed : Array Bool) (a : Act) (w : World), listed.size = ops.size →
    (left ops.size listed).length <= fuel -> Closed .any ops listed -> (Region.ready .any ops listed = [] -> left ops.size listed = []) →
    (∀ l : Array Bool, l.size = ops.size -> Closed .any ops l -> Region.ready .any ops l = [] -> left ops.size l = []) →
    wpEs P ops Q (left ops.size listed) a w -> wpAny P .any ops (Only Q) fuel listed a w := by
  have hs : Region.noSelect ops = true := by unfold textB at hB; rw [Bool.and_eq_true] at hB; exact hB.1
  intro fuel
  induction fuel with
  | zero =>
    intro listed a w hsz hlen hcl hend _ h
    have hl : left ops.size listed = [] := List.eq_nil_of_length_eq_zero (by omega)
    rw [hl] at h
    refine ⟨?_, h⟩
    refine List.eq_nil_iff_forall_not_mem.2 fun i hi => ?_
    have hm := mem_ready.1 hi
    obtain ⟨h0, o, ho, _⟩ := hm
    have : i ∈ left ops.size listed := List.mem_filter.2 ⟨List.mem_range.2 (Array.getElem?_eq_some_iff.1 ho).1, by simpa using h0⟩
    rw [hl] at this; cases this
  | succ fuel ih =>
    intro listed a w hsz hlen hcl hend hall h
    refine ⟨fun hr => ?_, fun i hi => ?_⟩
    · rw [hend hr] at h; exact h
    · obtain ⟨h0, oi, hoi, hed⟩ := mem_ready.1 hi
      have hin : i < ops.size := (Array.getElem?_eq_some_iff.1 hoi).1
      have hmem : i ∈ left ops.size listed := List.mem_filter.2 ⟨List.mem_range.2 hin, by simpa using h0⟩
      have hnd : (left ops.size listed).Nodup := List.Sublist.nodup List.filter_sublist List.nodup_range
      have hsorted : (left ops.size listed).Pairwise (· < ·) := List.Pairwise.filter _ List.pairwise_lt_range
      obtain ⟨pre, post, hpp⟩ := List.append_of_mem hmem
      rw [hpp] at h hsorted hnd
      have hpre : ∀ p ∈ pre, p < i := fun p hp => (List.pairwise_append.1 hsorted).2.2 p hp i (List.mem_cons_self ..)
      have hset : left ops.size (listed.setIfInBounds i true) = pre ++ post := by
        have h1 : left ops.size (listed.setIfInBounds i true) = (left ops.size listed).filter (fun k => k != i) := by
          unfold left
          rw [List.filter_filter]
          refine List.filter_congr fun k hk => ?_
          by_cases hki : k = i
          · subst hki
            have : k < listed.size := by omega
            simp [this]
          · rw [getD_set_ne true (fun e => hki e.symm)]
            simp [hki]
        rw [h1, hpp, List.filter_append, List.filter_cons]
        have hni : i ∉ pre /\ i ∉ post := by
          rw [List.nodup_append] at hnd
          refine ⟨fun hc => ?_, fun hc => ?_⟩
          · exact hnd.2.2 i hc i (List.mem_cons_self ..) rfl
          · exact (List.nodup_cons.1 hnd.2.1).1 hc
        rw [List.filter_eq_self.2 (fun k hk => by simp; rintro rfl; exact hni.1 hk), List.filter_eq_self.2 (fun k hk => by simp; rintro rfl; exact hni.2 hk)]
        simp
      have hstep := bubble hoi hs pre post a w (fun p hp => by
        have hpl : p ∈ left ops.size listed := by rw [hpp]; exact List.mem_append_left _ hp
        obtain ⟨hpn, hpu⟩ := List.mem_filter.1 hpl
        have hpn := List.mem_range.1 hpn
        refine ⟨ops[p], Array.getElem?_eq_getElem hpn, ?_⟩
        rcases textB_spec hcls hB (Array.getElem?_eq_getElem hpn) hoi (hpre p hp) with hd | hd
        · have := descs_listed hcl p i oi hoi hed hd
          have hsz' : p < listed.size := by omega
          simp [hsz'] at hpu this
          rw [this] at hpu; cases hpu
        · exact hd) h
      refine wpOp_mono (fun a' w' h' => ?_) (wpE_forget hstep)
      have hcl' : Closed .any ops (listed.setIfInBounds i true) := by
        intro k o hk hl e he hb
        by_cases hki : k = i
        · subst hki
          rw [hoi] at hk; cases hk
          exact getD_set_true (hed e he hb)
        · rw [getD_set_ne false (fun e => hki e.symm)] at hl
          exact getD_set_true (hcl k o hk hl e he hb)
      have hsz2 : (listed.setIfInBounds i true).size = ops.size := by simpa using hsz
      refine ih (listed.setIfInBounds i true) a' w' hsz2 ?_ hcl' (hall _ hsz2 hcl') hall (by rw [hset]; exact h')
      rw [hset]
      rw [hpp] at hlen
      simp at hlen ⊢
      omega
theorem ready_nil {md : Region.Mode} {listed : Array Bool} (hb : ops.toList.zipIdx.all (fun (o, i) => o.after.all fun e => !Region.binds md e || decide (e.on < i)) = true) (hsz : listed.size = ops.size)
    (h : Region.ready md ops listed = []) : left ops.size listed = [] := by
  refine List.eq_nil_iff_forall_not_mem.2 fun i => ?_
  induction i using Nat.strongRecOn with
  | _ i ih =>
    intro hi
    obtain ⟨hin, hiu⟩ := List.mem_filter.1 hi
    have hin := List.mem_range.1 hin
    have hr : i ∈ Region.ready md ops listed := by
      refine mem_ready.2 ⟨by simpa using hiu, ops[i], Array.getElem?_eq_getElem hin, fun e he hbe => ?_⟩
      have h1 := List.all_eq_true.1 hb (ops[i], i) (List.mem_zipIdx_iff_getElem?.2 (by simp [hin]))
      have h2 := Array.all_eq_true_iff_forall_mem.1 h1 e he
      simp only [hbe, Bool.not_true, Bool.false_or, decide_eq_true_eq] at h2
      have h3 := ih e.on h2
      have hel : e.on < listed.size := by omega
      cases hc : listed[e.on] with
      | true => simp [hel, hc]
      | false => exact absurd (List.mem_filter.2 ⟨List.mem_range.2 (by omega), by simp [hel, hc]⟩) h3
    rw [h] at hr; cases hr
def backB (ops : Array Oper) : Bool := ops.toList.zipIdx.all (fun (o, i) => o.after.all fun e => !Region.binds .any e || decide (e.on < i))
def assertOp (o : Oper) (x : Operand) : Oper := { dst := none, op := .unOp .xor 0 x, type := 0, pos := "", after := #[], guard := o.guard }
def withAsserts (P : Program) : List Oper -> List Oper
  | [] => []
  | o :: l => (asserted P o.op).map (assertOp o) ++ o :: withAsserts P l
theorem wpList_only {o : Oper} {rest : List Oper} {a : Act} {w : World} : wpList P ops (Only Q) (o :: rest) a w ↔
    (if Region.wanted o (yielded ops a.tmps) then o.wp P a w (wpList P ops (Only Q) rest) (Only Q) else wpList P ops (Only Q) rest (a.put o.dst undef) w) := by
  rw [wpList]
  split
  · exact ⟨fun h => h.resolve_right (fun h => only_lets h.2), .inl⟩
  · exact Iff.rfl
theorem assert_int {o : Oper} {x : Operand} {a : Act} {w : World} {K : Act -> World -> Prop} (h : (assertOp o x).wp P a w K (Only Q)) : (∃ k n, a.eval x = .int k n) /\ K a w := by
  unfold Oper.wp assertOp execOp at h
  simp only [Sem.run_bind, Op.unary] at h
  cases hx : a.eval x with
  | int k n =>
    refine ⟨⟨k, n, rfl⟩, ?_⟩
    rw [hx] at h
    simp [Op.intBits, Oper.upon, Act.put] at h
    exact h
  | pointer p => cases p <;> simp [hx, Oper.upon, stuck, unsupported] at h
  | _ => simp [hx, Oper.upon, stuck] at h
theorem asserts_spec {o : Oper} : ∀ (xs : List Operand) (rest : List Oper) (a : Act) (w : World), wpList P ops (Only Q) (xs.map (assertOp o) ++ rest) a w →
    (Region.wanted o (yielded ops a.tmps) = true -> ∀ x ∈ xs, ∃ k n, a.eval x = .int k n) /\ wpList P ops (Only Q) rest a w
  | [], rest, a, w, h => ⟨fun _ x hx => (by cases hx), h⟩
  | x :: xs, rest, a, w, h => by
    rw [List.map_cons, List.cons_append, wpList_only] at h
    have hg : Region.wanted (assertOp o x) (yielded ops a.tmps) = Region.wanted o (yielded ops a.tmps) := rfl
    rw [hg] at h
    split at h
    · rename_i hw
      obtain ⟨hx, h⟩ := assert_int h
      obtain ⟨h1, h2⟩ := asserts_spec xs rest a w h
      refine ⟨fun hw y hy => ?_, h2⟩
      rcases List.mem_cons.1 hy with rfl | hy
      · exact hx
      · exact h1 hw y hy
    · rename_i hw
      obtain ⟨h1, h2⟩ := asserts_spec xs rest _ w h
      exact ⟨fun hw' => absurd hw' hw, h2⟩
theorem evs_of_asserts : ∀ (l : List Oper) (k : Nat) (a : Act) (w : World), (∀ j, l[j]? = ops[k + j]?) →
    wpList P ops (Only Q) (withAsserts P l) a w -> wpEs P ops Q (List.range' k l.length) a w
  | [], k, a, w, _, h => h
  | o :: l, k, a, w, hk, h => by
    have h0 : ops[k]? = some o := by simpa using (hk 0).symm
    obtain ⟨h1, h2⟩ := asserts_spec _ _ a w h
    rw [List.length_cons, List.range'_succ]
    show wpE P ops Q k _ a w
    rw [wpE_some h0]
    rw [wpList_only] at h2
    have ih : ∀ a w, wpList P ops (Only Q) (withAsserts P l) a w -> wpEs P ops Q (List.range' (k + 1) l.length) a w := fun a w =>
      evs_of_asserts l (k + 1) a w (fun j => by have := hk (j + 1); simpa [Nat.add_assoc, Nat.add_comm 1 j] using this)
    split
    · rename_i hw
      rw [if_pos hw] at h2
      exact ⟨⟨fun v => rfl, h1 hw⟩, Oper.wp_mono ih h2⟩
    · rename_i hw
      rw [if_neg hw] at h2
      exact ih _ _ h2
def isInt : Value -> Bool | .int _ _ => true | _ => false
theorem wpList_assert {R : Exit -> Act -> World -> Prop} {o : Oper} {x : Operand} {rest : List Oper} {a : Act} {w : World} (he : (isInt (a.eval x) || !Region.wanted o (yielded ops a.tmps)) = true) (h : wpList P ops R rest a w) :
    wpList P ops R (assertOp o x :: rest) a w := by
  unfold wpList
  have hg : Region.wanted (assertOp o x) (yielded ops a.tmps) = Region.wanted o (yielded ops a.tmps) := rfl
  rw [hg]
  split
  · rename_i hw
    left
    simp only [hw, Bool.not_true, Bool.or_false] at he
    cases hv : a.eval x <;> simp [hv, isInt] at he
    unfold Oper.wp assertOp execOp
    simp [Op.unary, hv, Op.intBits, Oper.upon, Act.put]
    exact h
  · exact h
theorem only_then : Only Q = Exit.then (fun a w => Q .normal a w) (fun _ _ _ => False) := by
  funext e a w
  cases e <;> rfl
theorem any_region_text {cls : Op -> Nat} (hcls : ClsOk P cls) {l : List Oper} {a : Act} {w : World}
    (hB : (textB cls l.toArray && backB l.toArray) = true)
    (h : wpList P l.toArray (Exit.then (fun a w => Q .normal a w) (fun _ _ _ => False)) (withAsserts P l) a w) : wpAny P .any l.toArray (Only Q) l.toArray.size (Array.replicate l.toArray.size false) a w := by
  rw [<- only_then] at h
  rw [Bool.and_eq_true] at hB
  have hfull : left l.toArray.size (Array.replicate l.toArray.size false) = List.range l.toArray.size := by
    refine List.filter_eq_self.2 fun k hk => ?_
    have := List.mem_range.1 hk
    simp at this
    simp [this]
  have hcl : Closed .any l.toArray (Array.replicate l.toArray.size false) := by
    intro k o hk hl
    exfalso
    rw [Array.getD_eq_getD_getElem?, Array.getElem?_replicate] at hl
    split at hl <;> simp at hl
  refine any_of_text hcls hB.1 _ _ a _ (by simp) (by rw [hfull]; simp) hcl (ready_nil hB.2 (by simp)) (fun l' hl' _ => ready_nil hB.2 hl') ?_
  rw [hfull, List.range_eq_range', <- Array.length_toList]
  exact evs_of_asserts l.toArray.toList 0 a _ (by simp) h
end
section classes
variable {P : Program}
theorem WFree.pure {α : Type} (a : α) : WFree P (Pure.pure a : Sem α) := .inl ⟨a, fun _ => rfl⟩
theorem WFree.halt {α : Type} (h : Halt) : WFree P (Sem.halt h : Sem α) := .inr fun w => ⟨h, w, rfl⟩
theorem WFree.bind {α β : Type} {s : Sem α} {f : α -> Sem β} (hs : WFree P s) (hf : ∀ a, WFree P (f a)) : WFree P (s >>= f) := by
  rcases hs with ⟨v, hv⟩ | hn
  · rcases hf v with ⟨u, hu⟩ | hn
    · exact .inl ⟨u, fun w => by simp [hv w, hu w]⟩
    · refine .inr fun w => ?_
      obtain ⟨h, w', e⟩ := hn w
      exact ⟨h, w', by simp [hv w, e]⟩
  · refine .inr fun w => ?_
    obtain ⟨h, w', e⟩ := hn w
    exact ⟨h, w', by simp [e]⟩
theorem WFree.ite {α : Type} {c : Prop} [Decidable c] {s t : Sem α} (hs : WFree P s) (ht : WFree P t) : WFree P (if c then s else t) := by split <;> assumption
theorem WFree.program : WFree P (Go.program) := .inl ⟨P, fun _ => rfl⟩
theorem WFree.typeInfo (t : TypeId) : WFree P (Go.typeInfo t) := by
  refine WFree.bind .program fun p => ?_
  cases h : p.info? t
  · exact .halt _
  · exact .pure _
theorem WFree.underlying (t : TypeId) : WFree P (Go.underlying t) := by
  refine WFree.bind .program fun p => ?_
  cases h : p.underlying t
  · exact .halt _
  · exact .pure _
theorem WFree.sizeOf (t : TypeId) : WFree P (Go.sizeOf t) := WFree.bind (.typeInfo t) fun _ => .pure _
theorem WFree.zeroValue (t : TypeId) : WFree P (Go.zeroValue t) := by
  refine WFree.bind (.typeInfo t) fun i => ?_
  cases h : i.zero
  · exact .halt _
  · exact .pure _
theorem WFree.isAgg (t : TypeId) : WFree P (Go.isAgg t) := by
  refine WFree.bind (.underlying t) fun d => ?_
  cases d <;> exact .pure _
theorem WFree.asIntOf (v : Value) : WFree P (Go.asIntOf v) := by
  cases v with
  | int k n => exact .pure _
  | pointer p => cases p <;> exact .halt _
  | _ => exact .halt _
theorem WFree.asBool (v : Value) : WFree P (Go.asBool v) := by cases v <;> first | exact .pure _ | exact .halt _
theorem WFree.sureAddr (v : Value) : WFree P (Instr.sureAddr v) := by
  cases v with
  | pointer p => cases p <;> first | exact .pure _ | exact .halt _
  | _ => exact .halt _
def Never {α : Type} (P : Program) (s : Sem α) : Prop := ∀ w, ∃ h w', s.run P w = .halt h w'
theorem Never.free {α : Type} {s : Sem α} (h : Never P s) : WFree P s := .inr h
theorem Never.halt {α : Type} (h : Halt) : Never P (Sem.halt h : Sem α) := fun w => ⟨h, w, rfl⟩
theorem Never.after {α β : Type} {s : Sem α} {f : α -> Sem β} (hf : ∀ a, Never P (f a)) : Never P (s >>= f) := fun w => by
  rw [Sem.run_bind]
  cases hr : s.run P w with
  | ok a w' => obtain ⟨h, w'', e⟩ := hf a w'; exact ⟨h, w'', by simp [e]⟩
  | halt h w' => exact ⟨h, w', by simp⟩
theorem Never.runtimePanic {α : Type} (e : RuntimeError) : Never P (Go.runtimePanic e : Sem α) := by
  unfold Go.runtimePanic
  refine Never.after fun p => ?_
  cases e <;> simp only [goPanic] <;> first | exact Never.halt _ | exact Never.after fun _ => Never.halt _ | exact Never.after fun _ => Never.after fun _ => Never.halt _
theorem Never.boundsPanic {α : Type} (k : IntKind) (x y : Int) (c : BoundsCode) : Never P (Go.boundsPanic k x y c : Sem α) := by
  unfold Go.boundsPanic
  split <;> exact Never.after fun _ => Never.runtimePanic _
theorem free_value {o : Oper} {s : (Operand -> Value) -> Sem Value} (he : ∀ ρ, execOp ρ o = (do let x ← s ρ; Pure.pure (.value x))) (h : ∀ ρ, Ev P o ρ -> WFree P (s ρ)) : FreeOp P o := fun ρ hev => by
  rw [he]
  rcases h ρ hev with ⟨v, hv⟩ | hn
  · exact .inl ⟨v, fun w => by simp [hv w]⟩
  · refine .inr fun w => ?_
    obtain ⟨x, w', e⟩ := hn w
    exact ⟨x, w', by simp [e]⟩
theorem WFree.indexAt (t : TypeId) (x i : Value) : WFree P (Instr.indexAt t x i) := by
  unfold Instr.indexAt
  refine WFree.bind (.asIntOf i) fun ki => WFree.bind (.underlying t) fun d => ?_
  have tail : ∀ (base : Option Addr) (len elem : Nat) (d : TypeDesc), WFree P (
      let tiny : Bool := decide (len <= 1) && (match d with | .array .. => true | _ => false)
      match base with
      | some a =>
        if 0 <= ki.2 /\ ki.2 < len then (do Pure.pure (Value.pointer (some (a.add (ki.2.toNat * (← Go.sizeOf elem))))))
        else if tiny then unsupported (.noEntry "op/indexAddr.an index out of range at an array of length 0 or 1 (ledger 616)")
        else boundsPanic ki.1 ki.2 len .index
      | none => boundsPanic ki.1 ki.2 0 .index) := fun base len elem d => by
    cases base with
    | none => exact (Never.boundsPanic _ _ _ _).free
    | some a => exact WFree.ite (WFree.bind (.sizeOf _) fun _ => .pure _) (WFree.ite (.halt _) (Never.boundsPanic _ _ _ _).free)
  cases d with
  | array len elem => exact WFree.bind (.sureAddr x) fun a => WFree.bind (.pure _) fun r => WFree.bind (.underlying t) fun d => tail _ _ _ d
  | slice elem => cases x <;> first | exact WFree.bind (.pure _) fun r => WFree.bind (.underlying t) fun d => tail _ _ _ d | exact WFree.bind (.halt _) fun r => WFree.bind (.underlying t) fun d => tail _ _ _ d
  | _ => exact WFree.bind (.halt _) fun r => WFree.bind (.underlying t) fun d => tail _ _ _ d
theorem WFree.sliceBound (x : Value) (y : Nat) (c : BoundsCode) : WFree P (Instr.sliceBound x y c) := by
  unfold Instr.sliceBound
  exact WFree.bind (.asIntOf x) fun ki => WFree.ite (.pure _) (Never.boundsPanic _ _ _ _).free
theorem WFree.sliceBounds (b : Bool) (len cap : Nat) (lo hi mx : Option Value) : WFree P (Instr.sliceBounds b len cap lo hi mx) := by
  unfold Instr.sliceBounds
  have fin : ∀ (m h : Nat), WFree P (do
      let l ← match lo with
        | some v => Instr.sliceBound v h (if mx.isSome then .slice3C else .sliceB)
        | none => Pure.pure 0
      Pure.pure (l, h, m)) := fun m h => by
    cases lo with
    | none => exact WFree.bind (.pure _) fun _ => .pure _
    | some v => exact WFree.bind (.sliceBound _ _ _) fun _ => .pure _
  cases mx with
  | none =>
    refine WFree.bind (.pure _) fun m => ?_
    cases hi with
    | none => exact WFree.bind (.pure _) fun h => fin m h
    | some v => exact WFree.bind (.sliceBound _ _ _) fun h => fin m h
  | some x =>
    refine WFree.bind (.sliceBound _ _ _) fun m => ?_
    cases hi with
    | none => exact WFree.bind (.halt _) fun h => fin m h
    | some v => exact WFree.bind (.sliceBound _ _ _) fun h => fin m h
theorem WFree.sliceAt {t e : TypeId} (ht : P.underlying t = some (.slice e)) (x : Value) (lo hi mx : Option Value) : WFree P (Instr.sliceAt t x lo hi mx) := by
  have hu : ∀ {β : Type} (f : TypeDesc -> Sem β), WFree P (f (.slice e)) -> WFree P (Go.underlying t >>= f) := fun f hf => by
    have : ∀ w, (Go.underlying t).run P w = .ok (.slice e) w := fun w => run_underlying ht w
    rcases hf with ⟨v, hv⟩ | hn
    · exact .inl ⟨v, fun w => by rw [Sem.run_bind, this w]; exact hv w⟩
    · exact .inr fun w => by rw [Sem.run_bind, this w]; exact hn w
  unfold Instr.sliceAt
  refine hu _ ?_
  unfold Instr.slice
  refine hu _ ?_
  cases x <;> first | exact WFree.bind (.sliceBounds _ _ _ _ _ _) fun _ => WFree.bind (.sizeOf _) fun _ => .pure _ | exact .halt _
theorem WFree.fieldAt {s : TypeId} {fs : Array Field} {k : Nat} {f : Field} {i : TypeInfo} (hs : P.underlying s = some (.struct fs)) (hf : fs[k]? = some f) (hi : P.info? f.type = some i) (hz : i.size ≠ 0) (x : Value) : WFree P (Instr.fieldAt s x k) := by
  unfold Instr.fieldAt
  have hu : ∀ {β : Type} (g : TypeDesc -> Sem β), WFree P (g (.struct fs)) -> WFree P (Go.underlying s >>= g) := fun g hg => by
    have : ∀ w, (Go.underlying s).run P w = .ok (.struct fs) w := fun w => run_underlying hs w
    rcases hg with ⟨v, hv⟩ | hn
    · exact .inl ⟨v, fun w => by rw [Sem.run_bind, this w]; exact hv w⟩
    · exact .inr fun w => by rw [Sem.run_bind, this w]; exact hn w
  refine hu _ ?_
  simp only [hf]
  refine WFree.bind (.sureAddr x) fun a => WFree.bind ?_ fun p => .pure _
  unfold fieldPlace
  have hsz : ∀ w, (Go.sizeOf f.type).run P w = .ok i.size w := fun w => by simp [Go.sizeOf, Go.typeInfo, Go.program, Sem.run, hi]
  refine .inl ⟨a.add f.offset, fun w => ?_⟩
  rw [Sem.run_bind, hsz w]
  simp [hz]
theorem WFree.extract (x : Value) (i : Nat) : WFree P (Instr.extract x i) := by
  unfold Instr.extract
  split
  · split
    · exact .pure _
    · exact .halt _
  · exact .halt _
theorem WFree.fill_build (t : TypeId) (ps : Array (Nat × Value)) (hm : ∀ fs : Array Field, WFree P (fs.mapM (m := Sem) fun f => do Pure.pure (f.offset, <- Go.sizeOf f.type))) : WFree P (Instr.build t ps) := by
  unfold Instr.build
  refine WFree.bind (.zeroValue t) fun z => WFree.bind (.underlying t) fun d => ?_
  cases d with
  | struct fs =>
    refine WFree.bind (hm fs) fun places => ?_
    split
    · exact .pure _
    · exact .halt _
  | array n e =>
    refine WFree.bind (.sizeOf e) fun sz => ?_
    split
    · exact .pure _
    · exact .halt _
  | _ => exact .halt _
theorem WFree.listMapM {α β : Type} (g : α -> Sem β) (hg : ∀ x, WFree P (g x)) : ∀ l : List α, WFree P (l.mapM g)
  | [] => by rw [List.mapM_nil]; exact .pure _
  | x :: l => by rw [List.mapM_cons]; exact WFree.bind (hg x) fun y => WFree.bind (WFree.listMapM g hg l) fun ys => .pure _
theorem WFree.build (t : TypeId) (ps : Array (Nat × Value)) : WFree P (Instr.build t ps) := WFree.fill_build t ps fun fs => by
  rw [Array.mapM_eq_mapM_toList]
  exact WFree.bind (WFree.listMapM _ (fun f => WFree.bind (.sizeOf _) fun _ => .pure _) _) fun _ => .pure _
theorem WFree.unary (op : UnOp) (x : Value) : WFree P (Op.unary op x) := by
  unfold Op.unary
  split <;> first | exact .pure _ | exact .halt _ | (unfold Op.intArith; exact .pure _) | (unfold Op.intBits; exact .pure _)
theorem WFree.intBin (op : BinOp) (t : TypeId) (k k' : IntKind) (m n : Int) : WFree P (Go.binOp op t (.int k m) (.int k' n)) := by
  unfold Go.binOp
  have sh : ∀ op k m k' n, WFree P (Op.shift op k m k' n) := fun op k m k' n => by
    unfold Op.shift
    refine WFree.ite (Never.runtimePanic _).free ?_
    split <;> first | exact .pure _ | exact .halt _
  have dv : ∀ op k m n, WFree P (Op.intDiv op k m n) := fun op k m n => by
    unfold Op.intDiv
    refine WFree.ite (Never.runtimePanic _).free ?_
    split <;> first | exact .pure _ | exact .halt _
  cases op <;> simp only [] <;> first
    | exact sh _ _ _ _ _
    | (refine WFree.ite (.halt _) ?_; first | exact dv _ _ _ _ | (unfold Op.intArith; exact .pure _) | (unfold Op.intBits; exact .pure _) | (unfold Op.intCmp; exact .pure _))
theorem WFree.eqGuardInt (op : BinOp) (t : TypeId) (x y : Operand) (k k' : IntKind) (m n : Int) : WFree P (eqGuard op t x y (.int k m) (.int k' n)) := by
  unfold eqGuard
  refine WFree.ite (.pure _) (.pure _)
theorem WFree.loadCells (a : Addr) (w : World) : ∀ (n i : Nat) (acc : Array Value), (∃ v, (loadCellsFrom a i n acc).run P w = .ok v w) \/ (∃ h w', (loadCellsFrom a i n acc).run P w = .halt h w')
  | 0, i, acc => .inl ⟨acc, rfl⟩
  | n + 1, i, acc => by
    show (∃ v, ((load (a.add i)) >>= fun v => loadCellsFrom a (i + 1) n (acc.push v)).run P w = _) \/ (∃ h w', ((load (a.add i)) >>= fun v => loadCellsFrom a (i + 1) n (acc.push v)).run P w = _)
    rw [Sem.run_bind]
    simp only [load, Sem.run]
    cases w.cell? (a.add i) with
    | some v => exact WFree.loadCells a w n (i + 1) (acc.push v)
    | none =>
      dsimp only
      cases w.farLoad P (a.add i) (Mode.plain == Mode.atomic) with
      | error h => exact .inr ⟨h, w, rfl⟩
      | ok r => exact WFree.loadCells a w n (i + 1) (acc.push r.1)
theorem read_load {o : Oper} {t : TypeId} {x : Operand} (ho : o.op = .load t x) : ReadOp P o := fun ρ w => by
  have he : execOp ρ o = (do let v ← Instr.loadAt t (ρ x); Pure.pure (.value v)) := by unfold execOp; rw [ho]
  rw [he]
  have h : (∃ v, (Instr.loadAt t (ρ x)).run P w = .ok v w) \/ (∃ h w', (Instr.loadAt t (ρ x)).run P w = .halt h w') := by
    unfold Instr.loadAt
    rw [Sem.run_bind]
    rcases WFree.sureAddr (P := P) (ρ x) with ⟨a, ha⟩ | hn
    · rw [ha w, Result.andThen_ok]
      unfold loadVar
      rw [Sem.run_bind]
      rcases WFree.isAgg (P := P) t with ⟨b, hb⟩ | hn
      · rw [hb w, Result.andThen_ok]
        cases b with
        | false =>
          simp only [load, Sem.run, Bool.false_eq_true, if_false]
          cases w.cell? a with
          | some v => exact .inl ⟨v, rfl⟩
          | none =>
            dsimp only
            cases w.farLoad P a (Mode.plain == Mode.atomic) with
            | error h => exact .inr ⟨h, w, rfl⟩
            | ok r => exact .inl ⟨r.1, rfl⟩
        | true =>
          simp only [if_true]
          rw [Sem.run_bind]
          rcases WFree.sizeOf (P := P) t with ⟨n, hn⟩ | hn
          · rw [hn w, Result.andThen_ok, Sem.run_bind]
            rcases WFree.loadCells (P := P) a w n 0 #[] with ⟨v, hv⟩ | ⟨h, w', hv⟩
            · left; exact ⟨.agg v, by unfold Go.loadCells; rw [hv]; rfl⟩
            · right; exact ⟨h, w', by unfold Go.loadCells; rw [hv]; rfl⟩
          · obtain ⟨h, w', e⟩ := hn w
            exact .inr ⟨h, w', by rw [e]; rfl⟩
      · obtain ⟨h, w', e⟩ := hn w
        exact .inr ⟨h, w', by rw [e]; rfl⟩
    · obtain ⟨h, w', e⟩ := hn w
      exact .inr ⟨h, w', by rw [e]; rfl⟩
  rw [Sem.run_bind]
  rcases h with ⟨v, hv⟩ | ⟨h, w', hv⟩
  · exact .inl ⟨v, by rw [hv]; rfl⟩
  · exact .inr ⟨h, w', by rw [hv]; rfl⟩
theorem heap_push (w : World) (ob : Obj) (k : Nat) (h : k < w.heap.size) : (w.alloc ob).heap[k]? = w.heap[k]? := by
  show (w.heap.push ob)[k]? = _
  rw [Array.getElem?_push, if_neg (by omega)]
theorem lt_of_some {w : World} {k : Nat} {o : Obj} (h : w.heap[k]? = some o) : k < w.heap.size := (Array.getElem?_eq_some_iff.1 h).1
theorem viewLoad_push {w : World} {at_ : Addr} {u : TypeId} {k : Addr} {b : Bool} {r : Value × List Addr} (ob : Obj) (h : w.viewLoad P at_ u k b = .ok r) : (w.alloc ob).viewLoad P at_ u k b = .ok r := by
  have hs : (w.alloc ob).seen P at_ u k b = w.seen P at_ u k b := by
    rcases Nat.lt_or_ge at_.block w.heap.size with hlt | hge
    · unfold World.seen
      rw [heap_push w ob _ hlt]
    · exfalso
      have hn : w.heap[at_.block]? = none := Array.getElem?_eq_none hge
      have he : ∀ r, w.seen P at_ u k b ≠ .ok r := by
        intro r hr
        unfold World.seen at hr
        rw [hn] at hr
        simp only [bind, Except.bind, throw, throwThe, MonadExceptOf.throw] at hr
        (repeat' split at hr) <;> cases hr
      unfold World.viewLoad at h
      cases hsr : w.seen P at_ u k b with
      | error e => rw [hsr] at h; cases h
      | ok r' => exact he r' hsr
  unfold World.viewLoad at h ⊢
  rw [hs]
  exact h
theorem farLoad_push {w : World} {a : Addr} {b : Bool} {r : Value × List Addr} (ob : Obj) (h : w.farLoad P a b = .ok r) : (w.alloc ob).farLoad P a b = .ok r := by
  unfold World.farLoad at h ⊢
  cases hh : w.heap[a.block]? with
  | none => rw [hh] at h; cases h
  | some o =>
    rw [hh] at h
    rw [heap_push w ob _ (lt_of_some hh), hh]
    cases o <;> first | (cases h; done) | skip
    rename_i at_ u
    dsimp only at h ⊢
    cases hv : w.viewLoad P at_ u a b with
    | error e => rw [hv] at h; cases h
    | ok r' =>
      rw [hv] at h
      cases h
      rw [viewLoad_push ob hv]
theorem load_push {α : Type} {w : World} {a : Addr} {f : Value -> Sem α} {x : α} (ob : Obj) (hf : ∀ v, (f v).run P w = .ok x w -> (f v).run P (w.alloc ob) = .ok x (w.alloc ob))
    (h : (load a >>= f).run P w = .ok x w) : (load a >>= f).run P (w.alloc ob) = .ok x (w.alloc ob) := by
  rw [Sem.run_bind] at h ⊢
  simp only [load, Sem.run] at h ⊢
  cases hc : w.cell? a with
  | some v =>
    have hb : (w.alloc ob).cell? a = some v := by
      unfold World.cell? at hc ⊢
      cases hh : w.heap[a.block]? with
      | none => rw [hh] at hc; cases hc
      | some o => rw [hh] at hc; rw [heap_push w ob _ (lt_of_some hh), hh]; exact hc
    rw [hc] at h
    rw [hb]
    exact hf v h
  | none =>
    rw [hc] at h
    dsimp only at h
    cases hr : w.farLoad P a (Mode.plain == Mode.atomic) with
    | error e => rw [hr] at h; cases h
    | ok r =>
      rw [hr] at h
      have hn : (w.alloc ob).cell? a = none := by
        unfold World.farLoad at hr
        unfold World.cell? at hc ⊢
        cases hh : w.heap[a.block]? with
        | none => rw [hh] at hr; cases hr
        | some o => rw [hh] at hc; rw [heap_push w ob _ (lt_of_some hh), hh]; exact hc
      rw [hn]
      dsimp only
      rw [farLoad_push ob hr]
      exact hf _ h
theorem loadCells_push {w : World} (ob : Obj) (a : Addr) : ∀ (n i : Nat) (acc r : Array Value), (loadCellsFrom a i n acc).run P w = .ok r w -> (loadCellsFrom a i n acc).run P (w.alloc ob) = .ok r (w.alloc ob)
  | 0, i, acc, r, h => by
    have : acc = r := by simpa [loadCellsFrom, Sem.run] using h
    subst this; rfl
  | n + 1, i, acc, r, h => load_push ob (fun v hv => loadCells_push ob a n (i + 1) (acc.push v) r hv) h
theorem stable_load {o : Oper} {t : TypeId} {x : Operand} (ho : o.op = .load t x) : StableOp P o := fun ρ w v ob h => by
  have he : execOp ρ o = (do let v ← Instr.loadAt t (ρ x); Pure.pure (.value v)) := by unfold execOp; rw [ho]
  rw [he] at h ⊢
  have key : ∀ u, (Instr.loadAt t (ρ x)).run P w = .ok u w -> (Instr.loadAt t (ρ x)).run P (w.alloc ob) = .ok u (w.alloc ob) := by
    intro u hu
    unfold Instr.loadAt at hu ⊢
    rw [Sem.run_bind] at hu ⊢
    rcases WFree.sureAddr (P := P) (ρ x) with ⟨a, ha⟩ | hn
    · rw [ha w, Result.andThen_ok] at hu
      rw [ha (w.alloc ob), Result.andThen_ok]
      unfold loadVar at hu ⊢
      rw [Sem.run_bind] at hu ⊢
      rcases WFree.isAgg (P := P) t with ⟨b, hb⟩ | hn
      · rw [hb w, Result.andThen_ok] at hu
        rw [hb (w.alloc ob), Result.andThen_ok]
        cases b with
        | false =>
          simp only [Bool.false_eq_true, if_false] at hu ⊢
          have e : (load a : Sem Value) = (load a >>= fun v => Pure.pure v) := by simp [load, Bind.bind, Sem.bind]; rfl
          rw [e] at hu ⊢
          exact load_push ob (fun v hv => by simp [Sem.run] at hv ⊢; exact hv) hu
        | true =>
          simp only [if_true] at hu ⊢
          rw [Sem.run_bind] at hu ⊢
          rcases WFree.sizeOf (P := P) t with ⟨n, hn⟩ | hn
          · rw [hn w, Result.andThen_ok, Sem.run_bind] at hu
            rw [hn (w.alloc ob), Result.andThen_ok, Sem.run_bind]
            unfold Go.loadCells at hu ⊢
            rcases WFree.loadCells (P := P) a w n 0 #[] with ⟨r, hr⟩ | ⟨h', w', hr⟩
            · rw [hr] at hu
              rw [loadCells_push ob a n 0 #[] r hr]
              simp at hu ⊢
              exact hu
            · rw [hr] at hu; cases hu
          · obtain ⟨h', w', e⟩ := hn w
            rw [e] at hu; cases hu
      · obtain ⟨h', w', e⟩ := hn w
        rw [e] at hu; cases hu
    · obtain ⟨h', w', e⟩ := hn w
      rw [e] at hu; cases hu
  rw [Sem.run_bind] at h ⊢
  cases hr : (Instr.loadAt t (ρ x)).run P w with
  | halt h' w' => rw [hr] at h; cases h
  | ok u w' =>
    rcases read_load (P := P) ho ρ w with ⟨v', hv'⟩ | ⟨h', w'', hv'⟩
    · rw [he, Sem.run_bind, hr] at hv'
      simp at hv'
      obtain ⟨_, rfl⟩ := hv'
      rw [hr] at h
      rw [key u hr]
      simp at h ⊢
      exact h
    · rw [he, Sem.run_bind, hr] at hv'
      cases hv'
theorem new_alloc {o : Oper} {t : TypeId} (ho : o.op = .alloc t) : NewOp P o := fun ρ => by
  have he : execOp ρ o = (do let v ← Instr.alloc t true (.tuple #[]); Pure.pure (.value v)) := by unfold execOp; rw [ho]
  rw [he]
  unfold Instr.alloc
  rcases WFree.zeroValue (P := P) t with ⟨z, hz⟩ | hn
  · refine .inl ⟨fun n => .pointer (some ⟨n, 0, none⟩), .cells z.cells t, fun w => ?_⟩
    rw [Sem.run_bind, Sem.run_bind, hz w, Result.andThen_ok]
    rfl
  · refine .inr fun w => ?_
    obtain ⟨h, w', e⟩ := hn w
    exact ⟨h, w', by rw [Sem.run_bind, Sem.run_bind, e]; rfl⟩
theorem new_box {o : Oper} {t : TypeId} {x : Operand} (ho : o.op = .box t x) : NewOp P o := fun ρ => by
  have he : execOp ρ o = (do let v ← Instr.box t (ρ x); Pure.pure (.value v)) := by unfold execOp; rw [ho]
  rw [he]
  refine .inl ⟨fun n => .pointer (some ⟨n, 0, none⟩), .cells (ρ x).cells t, fun w => ?_⟩
  rfl
def IntV (v : Value) : Prop := ∃ k n, v = .int k n
theorem WFree.min2 {x y : Value} (hx : IntV x) (hy : IntV y) : ∃ z, IntV z /\ Builtin.min2 x y = Pure.pure z := by
  obtain ⟨k, m, rfl⟩ := hx
  obtain ⟨k', n, rfl⟩ := hy
  exact ⟨_, ⟨_, _, rfl⟩, rfl⟩
theorem WFree.max2 {x y : Value} (hx : IntV x) (hy : IntV y) : ∃ z, IntV z /\ Builtin.max2 x y = Pure.pure z := by
  obtain ⟨k, m, rfl⟩ := hx
  obtain ⟨k', n, rfl⟩ := hy
  exact ⟨_, ⟨_, _, rfl⟩, rfl⟩
theorem WFree.fold2 {g : Value -> Value -> Sem Value} (hg : ∀ {x y}, IntV x -> IntV y -> ∃ z, IntV z /\ g x y = Pure.pure z) : ∀ (l : List Value) (x : Value), IntV x -> (∀ v ∈ l, IntV v) -> WFree P (l.foldlM g x)
  | [], x, _, _ => by rw [List.foldlM_nil]; exact .pure _
  | y :: l, x, hx, hl => by
    obtain ⟨z, hz, e⟩ := hg hx (hl y (List.mem_cons_self ..))
    rw [List.foldlM_cons, e]
    exact WFree.fold2 hg l z hz (fun v hv => hl v (List.mem_cons_of_mem _ hv))
def okX (x : Operand) : Bool := isTmp x || isIntC x
def callCls (P : Program) (c : Call) : Nat :=
  match c.callee with
  | .builtin .min | .builtin .max => if c.args.toList.all okX && decide (0 < c.args.size) then 0 else 2
  | .builtin .len => (match c.argTypes.toList, c.args.toList with
    | [t], [_] => (match P.underlying t with | some (.slice _) => 0 | _ => 2)
    | _, _ => 2)
  | _ => 2
def cls (P : Program) : Op -> Nat
  | .move _ | .assign _ | .pick .. | .build .. | .extract .. | .indexAddr .. | .unOp .. => 0
  | .fieldAddr s _ k => match P.underlying s with
    | some (.struct fs) => (match fs[k]? with
      | some f => (match P.info? f.type with
        | some i => if i.size = 0 then 2 else 0
        | none => 2)
      | none => 2)
    | _ => 2
  | .binOp _ t x y _ => if intT P t && okX x && okX y then 0 else 2
  | .convert s d x => if intT P s && intT P d && okX x then 0 else 2
  | .slice t .. => match P.underlying t with | some (.slice _) => 0 | _ => 2
  | .call c => callCls P c
  | .load .. => 1
  | .alloc _ | .box .. => 3
  | _ => 2
theorem ev_int {ρ : Operand -> Value} {x : Operand} (hx : okX x = true) (h : isTmp x = true -> ∃ k n, ρ x = .int k n) (hρ : ∀ v, ρ (.const v) = v) : ∃ k n, ρ x = .int k n := by
  cases x with
  | const v =>
    rw [hρ]
    cases v <;> first | exact ⟨_, _, rfl⟩ | (simp [okX, isTmp, isIntC] at hx)
  | tmp t => exact h rfl
  | _ => simp [okX, isTmp, isIntC] at hx
theorem mem_filter_tmp {x : Operand} {l : List Operand} (h : x ∈ l) (ht : isTmp x = true) : x ∈ l.filter isTmp := List.mem_filter.2 ⟨h, ht⟩
theorem intT_spec {P : Program} {t : TypeId} (h : intT P t = true) : ∃ k, P.underlying t = some (.int k) := by
  unfold intT at h
  split at h
  · exact ⟨_, by assumption⟩
  · cases h
theorem cls_ok (P : Program) : ClsOk P (cls P) := by
  intro o
  constructor
  · intro h
    cases ho : o.op with
    | move x => exact free_value (s := fun ρ => Pure.pure (ρ x)) (fun ρ => by unfold execOp; rw [ho]; rfl) (fun ρ _ => .pure _)
    | assign x => exact free_value (s := fun ρ => Pure.pure (ρ x)) (fun ρ => by unfold execOp; rw [ho]; rfl) (fun ρ _ => .pure _)
    | pick c x y =>
      intro ρ _
      have he : execOp ρ o = (do Pure.pure (.value (if ← asBool (ρ c) then ρ x else ρ y))) := by unfold execOp; rw [ho]
      rw [he]
      rcases WFree.asBool (P := P) (ρ c) with ⟨b, hb⟩ | hn
      · exact .inl ⟨_, fun w => by rw [Sem.run_bind, hb w]; rfl⟩
      · exact .inr fun w => by obtain ⟨h, w', e⟩ := hn w; exact ⟨h, w', by rw [Sem.run_bind, e]; rfl⟩
    | build t ps => exact free_value (s := fun ρ => Instr.build t (ps.map fun (i, x) => (i, ρ x))) (fun ρ => by unfold execOp; rw [ho]) (fun ρ _ => .build _ _)
    | extract x i => exact free_value (s := fun ρ => Instr.extract (ρ x) i) (fun ρ => by unfold execOp; rw [ho]) (fun ρ _ => .extract _ _)
    | indexAddr t x i => exact free_value (s := fun ρ => Instr.indexAt t (ρ x) (ρ i)) (fun ρ => by unfold execOp; rw [ho]) (fun ρ _ => .indexAt _ _ _)
    | unOp op t x => exact free_value (s := fun ρ => Op.unary op (ρ x)) (fun ρ => by unfold execOp; rw [ho]) (fun ρ _ => .unary _ _)
    | fieldAddr st x k =>
      rw [ho] at h
      simp only [cls] at h
      split at h
      · rename_i fs hs
        split at h
        · rename_i f hf
          split at h
          · rename_i i hi
            split at h
            · cases h
            · rename_i hz
              exact free_value (s := fun ρ => Instr.fieldAt st (ρ x) k) (fun ρ => by unfold execOp; rw [ho]) (fun ρ _ => .fieldAt hs hf hi hz _)
          · cases h
        · cases h
      · cases h
    | binOp op t x y yt =>
      rw [ho] at h
      simp only [cls] at h
      split at h
      · rename_i hc
        simp only [Bool.and_eq_true] at hc
        obtain ⟨⟨ht, hx⟩, hy⟩ := hc
        refine free_value (s := fun ρ => (do eqGuard op t x y (ρ x) (ρ y); Go.binOp op t (ρ x) (ρ y))) (fun ρ => by unfold execOp; rw [ho]) (fun ρ hev => ?_)
        have has : asserted P o.op = [x, y].filter isTmp := by rw [ho]; simp [asserted, ht]
        obtain ⟨k, m, e1⟩ := ev_int hx (fun hh => hev.2 x (by rw [has]; exact mem_filter_tmp (by simp) hh)) hev.1
        obtain ⟨k', n, e2⟩ := ev_int hy (fun hh => hev.2 y (by rw [has]; exact mem_filter_tmp (by simp) hh)) hev.1
        rw [e1, e2]
        exact WFree.bind (.eqGuardInt _ _ _ _ _ _ _ _) fun _ => .intBin _ _ _ _ _ _
      · cases h
    | convert st d x =>
      rw [ho] at h
      simp only [cls] at h
      split at h
      · rename_i hc
        simp only [Bool.and_eq_true] at hc
        obtain ⟨⟨hs, hd⟩, hx⟩ := hc
        refine free_value (s := fun ρ => Go.convert st d (ρ x)) (fun ρ => by unfold execOp; rw [ho]) (fun ρ hev => ?_)
        have has : asserted P o.op = [x].filter isTmp := by rw [ho]; simp [asserted, hs, hd]
        obtain ⟨k, m, e1⟩ := ev_int hx (fun hh => hev.2 x (by rw [has]; exact mem_filter_tmp (by simp) hh)) hev.1
        rw [e1]
        obtain ⟨ks, hus⟩ := intT_spec hs
        obtain ⟨kd, hud⟩ := intT_spec hd
        have h1 : ∀ w, (Go.underlying st).run P w = .ok (.int ks) w := fun w => run_underlying hus w
        have h2 : ∀ w, (Go.underlying d).run P w = .ok (.int kd) w := fun w => run_underlying hud w
        unfold Go.convert
        refine .inl ⟨.int kd (kd.wrap m), fun w => ?_⟩
        rw [Sem.run_bind, h1 w, Result.andThen_ok, Sem.run_bind, h2 w, Result.andThen_ok]
        simp [Conv.intToInt]
      · cases h
    | slice t x lo hi mx =>
      rw [ho] at h
      simp only [cls] at h
      split at h
      · rename_i e he
        exact free_value (s := fun ρ => Instr.sliceAt t (ρ x) (lo.map ρ) (hi.map ρ) (mx.map ρ)) (fun ρ => by unfold execOp; rw [ho]) (fun ρ _ => .sliceAt he _ _ _ _)
      · cases h
    | call c =>
      rw [ho] at h
      simp only [cls] at h
      obtain ⟨callee, args, argTypes⟩ := c
      have two : ∀ {bl : Builtin} {g : Value -> Value -> Sem Value} {fb : Array TypeId -> TypeId -> Array Value -> Sem Value}, callee = .builtin bl -> (∀ {x y}, IntV x -> IntV y -> ∃ z, IntV z /\ g x y = Pure.pure z) →
          (∀ ats t (as_ : Array Value), fb ats t as_ = match as_.toList with | [] => fb ats t as_ | x :: rest => rest.foldlM g x) →
          (∀ ats t cs (as_ : Array Value), builtin bl ats t cs as_ = (do let v ← fb ats t as_; Pure.pure (.value v))) -> asserted P o.op = args.toList.filter isTmp →
          (args.toList.all okX && decide (0 < args.size)) = true -> FreeOp P o := by
        intro bl g fb hcal hg hfb hbl has hc
        subst hcal
        rw [Bool.and_eq_true, decide_eq_true_eq] at hc
        refine free_value (s := fun ρ => fb argTypes o.type (args.map ρ)) (fun ρ => ?_) (fun ρ hev => ?_)
        · unfold execOp
          rw [ho]
          show (resolve ρ _ _ >>= fun d => invoke d.target d.args) = _
          exact hbl _ _ _ _
        · have hint : ∀ x ∈ args.toList, IntV (ρ x) := fun x hx => ev_int (List.all_eq_true.1 hc.1 x hx) (fun ht => hev.2 x (by rw [has]; exact mem_filter_tmp hx ht)) hev.1
          rw [hfb]
          have hl : (args.map ρ).toList = args.toList.map ρ := by simp
          rw [hl]
          cases hal : args.toList with
          | nil => exfalso; have : args.size = 0 := by rw [<- Array.length_toList, hal]; rfl
                   omega
          | cons x rest =>
            rw [hal] at hint
            exact WFree.fold2 hg _ _ (hint x (List.mem_cons_self ..)) (fun v hv => by
              obtain ⟨y, hy, rfl⟩ := List.mem_map.1 hv
              exact hint y (List.mem_cons_of_mem _ hy))
      cases callee with
      | value f => simp [callCls] at h
      | invoke r m => simp [callCls] at h
      | builtin b =>
        cases b <;> first | (simp [callCls] at h; done) | skip
        case min =>
          refine two (g := Builtin.min2) (fb := Builtin.min_) rfl (WFree.min2) (fun ats t as_ => by unfold Builtin.min_; cases as_.toList <;> rfl) (fun _ _ _ _ => rfl) (by rw [ho]; rfl) ?_
          simp only [callCls] at h
          split at h
          · assumption
          · cases h
        case max =>
          refine two (g := Builtin.max2) (fb := Builtin.max_) rfl (WFree.max2) (fun ats t as_ => by unfold Builtin.max_; cases as_.toList <;> rfl) (fun _ _ _ _ => rfl) (by rw [ho]; rfl) ?_
          simp only [callCls] at h
          split at h
          · assumption
          · cases h
        case len =>
          simp only [callCls] at h
          split at h
          · rename_i t x h1 h2
            split at h
            · rename_i e he
              intro ρ _
              have ha : argTypes = #[t] := by apply Array.ext'; simpa using h1
              have hx : args = #[x] := by apply Array.ext'; simpa using h2
              subst ha; subst hx
              unfold execOp
              rw [ho]
              simp only [Sem.run_bind, resolve, invoke, builtin, Sem.run_pure, Result.andThen_ok]
              have hu : ∀ w, (Go.underlying t).run P w = .ok (.slice e) w := fun w => run_underlying he w
              cases hv : ρ x with
              | slice a n cp => exact .inl ⟨goInt n, fun w => by simp [Builtin.len_, hv, hu w]⟩
              | _ => exact .inr fun w => ⟨_, w, by simp [Builtin.len_, hv, hu w, stuck]; rfl⟩
            · cases h
          · cases h
    | _ => rw [ho] at h; exact absurd h (by simp [cls])
  · constructor
    · intro h
      cases ho : o.op with
      | load t x => exact ⟨read_load ho, stable_load ho⟩
      | call c =>
        exfalso
        rw [ho] at h
        simp only [cls, callCls] at h
        (repeat' split at h) <;> cases h
      | _ =>
        exfalso
        rw [ho] at h
        simp only [cls] at h <;> (repeat' split at h) <;> cases h
    · intro h
      cases ho : o.op with
      | alloc t => exact new_alloc ho
      | box t x => exact new_box ho
      | call c =>
        exfalso
        rw [ho] at h
        simp only [cls, callCls] at h
        (repeat' split at h) <;> cases h
      | _ =>
        exfalso
        rw [ho] at h
        simp only [cls] at h <;> (repeat' split at h) <;> cases h
end classes
end Go.TR
set_option linter.unusedVariables false
namespace Go.TR
def maskL : List Nat -> Nat
  | [] => 0
  | d :: l => (1 <<< d) ||| maskL l
theorem bit_one (d k : Nat) : (1 <<< d).testBit k = (k == d) := by
  rw [Nat.one_shiftLeft, Nat.testBit_two_pow]
  exact Bool.eq_iff_iff.2 ⟨fun h => by simp at h ⊢; omega, fun h => by simp at h ⊢; omega⟩
theorem maskL_bit : ∀ (l : List Nat) (k : Nat), (maskL l).testBit k = l.contains k
  | [], k => by simp [maskL]
  | d :: l, k => by
    rw [maskL, Nat.testBit_or, bit_one, maskL_bit l k, List.contains_cons]
theorem and_zero {a b : Nat} (h : ((a &&& b) == 0) = true) (k : Nat) (ha : a.testBit k = true) : b.testBit k = false := by
  have h0 : a &&& b = 0 := by simpa using h
  have : (a &&& b).testBit k = false := by rw [h0]; simp
  rw [Nat.testBit_and, ha, Bool.true_and] at this
  exact this
theorem and_ex {a b : Nat} (h : ((a &&& b) == 0) = false) : ∃ k, a.testBit k = true /\ b.testBit k = true := by
  have h0 : a &&& b ≠ 0 := by simpa using h
  obtain ⟨k, hk⟩ := Nat.exists_testBit_of_ne_zero h0
  rw [Nat.testBit_and, Bool.and_eq_true] at hk
  exact ⟨k, hk⟩
def edgeM (o : Oper) : Nat := maskL ((o.after.toList.filter (Region.binds .any)).map (·.on))
theorem edgeM_bit (o : Oper) (k : Nat) : (edgeM o).testBit k = true ↔ ∃ e ∈ o.after, Region.binds .any e = true /\ e.on = k := by
  unfold edgeM
  rw [maskL_bit, List.contains_iff_mem, List.mem_map]
  constructor
  · rintro ⟨e, he, rfl⟩
    obtain ⟨h1, h2⟩ := List.mem_filter.1 he
    exact ⟨e, by simpa using h1, h2, rfl⟩
  · rintro ⟨e, he, hb, rfl⟩
    exact ⟨e, List.mem_filter.2 ⟨by simpa using he, hb⟩, rfl⟩
def descM (p : Nat) : List Oper -> Nat -> Nat -> Nat
  | [], _, acc => acc
  | o :: l, j, acc => descM p l (j + 1) (if ((edgeM o &&& (acc ||| (1 <<< p))) == 0) = true then acc else acc ||| (1 <<< j))
theorem descM_eq (p : Nat) : ∀ (l : List Oper) (j acc : Nat) (arr : Array Bool), arr.size = j -> (∀ k, acc.testBit k = arr.getD k false) -> ∀ k, (descM p l j acc).testBit k = (descs .any p l arr).getD k false
  | [], j, acc, arr, hs, h, k => h k
  | o :: l, j, acc, arr, hs, h, k => by
    unfold descM descs
    refine descM_eq p l (j + 1) _ _ (by simp [hs]) (fun k => ?_) k
    have key : (o.after.any fun e => Region.binds .any e && (e.on == p || arr.getD e.on false)) = !((edgeM o &&& (acc ||| (1 <<< p))) == 0) := by
      cases hz : ((edgeM o &&& (acc ||| (1 <<< p))) == 0) with
      | true =>
        rw [Bool.not_true, Array.any_eq_false]
        intro i hi hh
        rw [Bool.and_eq_true, Bool.or_eq_true, beq_iff_eq] at hh
        have hb := (edgeM_bit o o.after[i].on).2 ⟨o.after[i], Array.getElem_mem hi, hh.1, rfl⟩
        have := and_zero hz _ hb
        rw [Nat.testBit_or, bit_one, h, Bool.or_eq_false_iff] at this
        rcases hh.2 with h1 | h1
        · rw [h1] at this; simp at this
        · rw [h1] at this; simp at this
      | false =>
        rw [Bool.not_false, Array.any_eq_true']
        obtain ⟨d, h1, h2⟩ := and_ex hz
        obtain ⟨e, he, hb, rfl⟩ := (edgeM_bit o d).1 h1
        refine ⟨e, he, ?_⟩
        rw [Nat.testBit_or, bit_one, h, Bool.or_eq_true] at h2
        rw [Bool.and_eq_true, Bool.or_eq_true]
        exact ⟨hb, h2.symm⟩
    rw [key]
    cases hz : ((edgeM o &&& (acc ||| (1 <<< p))) == 0) with
    | true =>
      rw [if_pos rfl, Bool.not_true, h]
      simp only [Array.getD_eq_getD_getElem?, Array.getElem?_push]
      split
      · rename_i hk
        subst hk
        rw [Array.getElem?_eq_none (Nat.le_refl _)]; rfl
      · rfl
    | false =>
      rw [if_neg (by simp), Bool.not_false, Nat.testBit_or, bit_one, h]
      simp only [Array.getD_eq_getD_getElem?, Array.getElem?_push]
      split
      · rename_i hk
        subst hk
        simp [hs]
      · rename_i hk
        have : (k == j) = false := by rw [<- hs]; simpa using hk
        rw [this, Bool.or_false]
theorem descM_bit (p : Nat) (l : List Oper) (k : Nat) : (descM p l 0 0).testBit k = (descs .any p l #[]).getD k false := descM_eq p l 0 0 #[] rfl (fun k => by simp) k
def summ (cl : Op -> Nat) (ops : Array Oper) (o : Oper) : Nat × Nat × Nat := (match o.dst with | some d => 1 <<< d | none => 0, maskL (o.looksAt ops), cl o.op)
def okC (x y : Nat) : Bool := x == 0 || y == 0 || (x == 1 && y == 1) || (x == 1 && y == 3)
def fastRow (s : Nat × Nat × Nat) (dsc : Nat) : Nat -> List (Nat × Nat × Nat) -> Bool
  | _, [] => true
  | j, t :: l => ((okC s.2.2 t.2.2 && ((s.1 &&& (t.2.1 ||| t.1)) == 0) && ((t.1 &&& s.2.1) == 0)) || dsc.testBit j) && fastRow s dsc (j + 1) l
def fastAll (l : List Oper) : Nat -> List (Nat × Nat × Nat) -> Bool
  | _, [] => true
  | i, s :: t => fastRow s (descM i l 0 0) (i + 1) t && fastAll l (i + 1) t
def fastB (cl : Op -> Nat) (ops : Array Oper) : Bool := Region.noSelect ops && fastAll ops.toList 0 (ops.toList.map (summ cl ops))
theorem apart_of {cl : Op -> Nat} {ops : Array Oper} {x y : Oper} (h1 : (((summ cl ops x).1 &&& ((summ cl ops y).2.1 ||| (summ cl ops y).1)) == 0) = true) (h2 : (((summ cl ops y).1 &&& (summ cl ops x).2.1) == 0) = true) : x.apart ops y = true := by
  unfold summ at h1 h2
  unfold Oper.apart
  have key : ∀ d, y.dst = some d -> (x.looksAt ops).contains d = false := fun d hd => by
    rw [hd] at h2
    have := and_zero h2 d (by rw [bit_one]; simp)
    rwa [maskL_bit] at this
  have key2 : ∀ d, x.dst = some d -> (y.looksAt ops).contains d = false /\ y.dst ≠ some d := fun d hd => by
    rw [hd] at h1
    have := and_zero h1 d (by rw [bit_one]; simp)
    rw [Nat.testBit_or, Bool.or_eq_false_iff, maskL_bit] at this
    refine ⟨this.1, fun hy => ?_⟩
    rw [hy] at this
    have := this.2
    rw [bit_one] at this
    simp at this
  rw [Bool.and_eq_true]
  refine ⟨?_, ?_⟩
  · split
    · rename_i d hd
      rw [Bool.and_eq_true, (key2 d hd).1]
      exact ⟨rfl, bne_iff_ne.2 (key2 d hd).2⟩
    · rfl
  · split
    · rename_i d hd
      rw [key d hd]; rfl
    · rfl
theorem fastRow_spec {s : Nat × Nat × Nat} {dsc : Nat} : ∀ {l : List (Nat × Nat × Nat)} {j : Nat}, fastRow s dsc j l = true -> ∀ (k : Nat) t, l[k]? = some t -> (okC s.2.2 t.2.2 && ((s.1 &&& (t.2.1 ||| t.1)) == 0) && ((t.1 &&& s.2.1) == 0)) = true \/ dsc.testBit (j + k) = true
  | [], j, h, k, t, hk => by simp at hk
  | u :: l, j, h, k, t, hk => by
    unfold fastRow at h
    rw [Bool.and_eq_true] at h
    cases k with
    | zero =>
      simp at hk; subst hk
      have h1 := h.1
      rwa [Bool.or_eq_true] at h1
    | succ k =>
      rw [show j + (k + 1) = j + 1 + k by omega]
      exact fastRow_spec h.2 k t (by simpa using hk)
theorem fastAll_spec {L : List Oper} : ∀ {l : List (Nat × Nat × Nat)} {i : Nat}, fastAll L i l = true -> ∀ (a b : Nat) s t, l[a]? = some s -> l[b]? = some t -> a < b -> (okC s.2.2 t.2.2 && ((s.1 &&& (t.2.1 ||| t.1)) == 0) && ((t.1 &&& s.2.1) == 0)) = true \/ (descM (i + a) L 0 0).testBit (i + b) = true
  | [], i, h, a, b, s, t, ha, hb, hab => by simp at ha
  | u :: l, i, h, a, b, s, t, ha, hb, hab => by
    unfold fastAll at h
    rw [Bool.and_eq_true] at h
    obtain ⟨b, rfl⟩ : ∃ b', b = b' + 1 := ⟨b - 1, by omega⟩
    cases a with
    | zero =>
      simp at ha hb; subst ha
      have := fastRow_spec h.1 b t (by simpa using hb)
      rwa [show i + 1 + b = i + (b + 1) by omega] at this
    | succ a =>
      have := fastAll_spec h.2 a b s t (by simpa using ha) (by simpa using hb) (by omega)
      rwa [show i + 1 + a = i + (a + 1) by omega, show i + 1 + b = i + (b + 1) by omega] at this
theorem fastB_ok {cl : Op -> Nat} {ops : Array Oper} (h : fastB cl ops = true) : textB cl ops = true := by
  unfold fastB at h
  rw [Bool.and_eq_true] at h
  unfold textB
  rw [h.1, Bool.true_and, List.all_eq_true]
  rintro ⟨oi, i⟩ hi
  have hi : ops.toList[i]? = some oi := by simpa using List.mem_zipIdx_iff_getElem?.1 hi
  simp only
  rw [List.all_eq_true]
  rintro ⟨oj, j⟩ hj
  have hj : ops.toList[j]? = some oj := by simpa using List.mem_zipIdx_iff_getElem?.1 hj
  simp only
  by_cases hij : i < j
  case neg => simp [hij]
  have := fastAll_spec h.2 i j (summ cl ops oi) (summ cl ops oj) (by rw [List.getElem?_map, hi]; rfl) (by rw [List.getElem?_map, hj]; rfl) hij
  rw [Nat.zero_add, Nat.zero_add, descM_bit] at this
  rcases this with h1 | h1
  · rw [Bool.and_eq_true, Bool.and_eq_true] at h1
    rw [apart_of h1.1.2 h1.2]
    have : okC (cl oi.op) (cl oj.op) = true := h1.1.1
    unfold okC at this
    simp only [Bool.true_and]
    rw [this, Bool.or_true]
  · rw [h1, Bool.or_true, Bool.true_or]
end Go.TR
