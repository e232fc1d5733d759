import Derived.Test.YtodgpfffnnlbhaaMem
/-! the data of the program, and what its small functions come to -/
namespace Go.Rp
/-- an operation -/
structure O where
  k : Int
  v : Int
  deriving DecidableEq
/-- what it is told -/
structure R where
  c : Int
  v : Int
  deriving DecidableEq
/-- a span -/
structure Sp where
  th : Int
  sq : Int
  op : O
  res : R
  fr : Int
  to : Int
  deriving DecidableEq
/-- one of a log -/
structure Ap where
  th : Int
  sq : Int
  op : O
  res : R
  b : Int
  deriving DecidableEq

def i64c (n : Int) : List Value := [.int .i64 n]
def i32c (n : Int) : List Value := [.int .i32 n]
def u8c (n : Int) : List Value := [.int .u8 n]
def O.cs (o : O) : List Value := [.int .u8 o.k, .int .i32 o.v]
def R.cs (r : R) : List Value := [.int .u8 r.c, .int .i32 r.v]
def Sp.cs (s : Sp) : List Value := [.int .i64 s.th, .int .i64 s.sq, .int .u8 s.op.k, .int .i32 s.op.v, .int .u8 s.res.c, .int .i32 s.res.v, .int .i64 s.fr, .int .i64 s.to]
def Ap.cs (s : Ap) : List Value := [.int .i64 s.th, .int .i64 s.sq, .int .u8 s.op.k, .int .i32 s.op.v, .int .u8 s.res.c, .int .i32 s.res.v, .int .i64 s.b]

/-- was it told ahead? -/
def before (a b : Sp) : Bool := decide (0 ≤ a.to) && decide (a.to < b.fr)
/-- how many there may be -/
def most (n : Int) : Int := max 0 (min n 1000)
/-- an operation of choices -/
def opOf (kinds x : Int) : O := ⟨1 + x % kinds, x / 8 - 9⟩
def ops (c : List Int) (kinds : Int) : List O := (c.take 80).map (opOf kinds)
/-- the place of a number; below 0: it is not there -/
def place (l : List Int) (n : Int) : Int := match l.findIdx? (· == n) with | some k => k | none => -1

/-- a stack -/
def do4 (m : Int) (s : List Int) (o : O) : List Int × R :=
  if o.k = 1 then (if most m ≤ s.length then (s, ⟨3, 0⟩) else (s ++ [o.v], ⟨1, 0⟩))
  else if o.k = 2 then (if s.length = 0 then (s, ⟨4, 0⟩) else (s.take (s.length - 1), ⟨2, s.getD (s.length - 1) 0⟩))
  else (s, ⟨5, 0⟩)

/-- a deque -/
def do5 (m : Int) (s : List Int) (o : O) : List Int × R :=
  if o.k < 1 ∨ 4 < o.k then (s, ⟨5, 0⟩)
  else if o.k ≤ 2 ∧ most m ≤ s.length then (s, ⟨3, 0⟩)
  else if 3 ≤ o.k ∧ s.length = 0 then (s, ⟨4, 0⟩)
  else if o.k = 1 then (o.v :: s, ⟨1, 0⟩)
  else if o.k = 2 then (s ++ [o.v], ⟨1, 0⟩)
  else if o.k = 3 then (s.drop 1, ⟨2, s.getD 0 0⟩)
  else (s.take (s.length - 1), ⟨2, s.getD (s.length - 1) 0⟩)

/-- how many ahead are no greater -/
def upto (v : Int) : List Int → Nat
  | [] => 0
  | x :: s => if x ≤ v then upto v s + 1 else 0
/-- a heap -/
def do8 (m : Int) (s : List Int) (o : O) : List Int × R :=
  if o.k = 1 then (if most m ≤ s.length then (s, ⟨3, 0⟩) else (s.take (upto o.v s) ++ [o.v] ++ s.drop (upto o.v s), ⟨1, 0⟩))
  else if o.k = 2 then (if s.length = 0 then (s, ⟨4, 0⟩) else (s.drop 1, ⟨2, s.getD 0 0⟩))
  else (s, ⟨5, 0⟩)

/-- an operation of any object -/
def apply (object m : Int) (s : List Int) (o : O) : List Int × R :=
  if object = 1 then do4 m s o else if object = 2 then do5 m s o else if object = 3 then do8 m s o else (s, ⟨5, 0⟩)

/-- some, one behind the other -/
def run (object m : Int) : List Int → List O → List Int × List R
  | s, [] => (s, [])
  | s, o :: l => let x := apply object m s o; let y := run object m x.1 l; (y.1, x.2 :: y.2)

theorem upto_le (v : Int) : ∀ s : List Int, upto v s ≤ s.length
  | [] => Nat.le_refl _
  | x :: s => by
    have := upto_le v s
    unfold upto
    split <;> simp <;> omega
theorem upto_lt {v : Int} : ∀ {s : List Int} {k : Nat}, k < upto v s → ∃ x, s[k]? = some x ∧ x ≤ v
  | [], k, h => by simp [upto] at h
  | x :: s, k, h => by
    unfold upto at h
    split at h
    · rename_i hx
      cases k with
      | zero => exact ⟨x, rfl, hx⟩
      | succ k => simpa using upto_lt (s := s) (k := k) (by omega)
    · omega
theorem upto_at {v : Int} : ∀ {s : List Int}, upto v s < s.length → ∃ x, s[upto v s]? = some x ∧ v < x
  | [], h => by simp [upto] at h
  | x :: s, h => by
    unfold upto at h ⊢
    split
    · rename_i hx
      rw [if_pos hx] at h
      simpa using upto_at (s := s) (by simpa using h)
    · rename_i hx
      exact ⟨x, rfl, by omega⟩

theorem i64c_len (x : Int) : (i64c x).length = 1 := rfl
theorem i32c_len (x : Int) : (i32c x).length = 1 := rfl
theorem u8c_len (x : Int) : (u8c x).length = 1 := rfl
theorem O.cs_len (x : O) : x.cs.length = 2 := rfl
theorem R.cs_len (x : R) : x.cs.length = 2 := rfl
theorem Sp.cs_len (x : Sp) : x.cs.length = 8 := rfl
theorem Ap.cs_len (x : Ap) : x.cs.length = 7 := rfl
theorem i64c_one (x : Int) : ∀ u ∈ i64c x, u.oneCell' = true := by simp [i64c, Value.oneCell']
theorem i32c_one (x : Int) : ∀ u ∈ i32c x, u.oneCell' = true := by simp [i32c, Value.oneCell']
theorem u8c_one (x : Int) : ∀ u ∈ u8c x, u.oneCell' = true := by simp [u8c, Value.oneCell']
theorem O.cs_one (x : O) : ∀ u ∈ x.cs, u.oneCell' = true := by simp [O.cs, Value.oneCell']
theorem R.cs_one (x : R) : ∀ u ∈ x.cs, u.oneCell' = true := by simp [R.cs, Value.oneCell']
theorem Sp.cs_one (x : Sp) : ∀ u ∈ x.cs, u.oneCell' = true := by simp [Sp.cs, Value.oneCell']
theorem Ap.cs_one (x : Ap) : ∀ u ∈ x.cs, u.oneCell' = true := by simp [Ap.cs, Value.oneCell']
end Go.Rp
