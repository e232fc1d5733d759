/- Ints Plain Mem2: what the law needs of these -/
import Derived.Test.YtodgpfffnnlbhaaProg
import Derived.KernelRfl
import Derived.Test.YtodgpfffnnlbhaaZdoe6
namespace Go.Proofs.Try
theorem intT0 : TR.intT prog 0 = false := by kernel_rfl
theorem intT1 : TR.intT prog 1 = false := by kernel_rfl
theorem intT2 : TR.intT prog 2 = true := by kernel_rfl
theorem intT3 : TR.intT prog 3 = true := by kernel_rfl
theorem intT4 : TR.intT prog 4 = false := by kernel_rfl
theorem intT5 : TR.intT prog 5 = true := by kernel_rfl
theorem intT6 : TR.intT prog 6 = true := by kernel_rfl
theorem intT7 : TR.intT prog 7 = false := by kernel_rfl
theorem intT8 : TR.intT prog 8 = false := by kernel_rfl
theorem intT9 : TR.intT prog 9 = false := by kernel_rfl
theorem intT10 : TR.intT prog 10 = false := by kernel_rfl
theorem intT11 : TR.intT prog 11 = false := by kernel_rfl
theorem intT12 : TR.intT prog 12 = true := by kernel_rfl
theorem intT13 : TR.intT prog 13 = false := by kernel_rfl
theorem intT14 : TR.intT prog 14 = false := by kernel_rfl
theorem intT15 : TR.intT prog 15 = false := by kernel_rfl
theorem intT16 : TR.intT prog 16 = false := by kernel_rfl
theorem intT17 : TR.intT prog 17 = false := by kernel_rfl
theorem intT18 : TR.intT prog 18 = false := by kernel_rfl
theorem intT19 : TR.intT prog 19 = false := by kernel_rfl
theorem intT20 : TR.intT prog 20 = false := by kernel_rfl
theorem intT21 : TR.intT prog 21 = true := by kernel_rfl
theorem intT22 : TR.intT prog 22 = false := by kernel_rfl
theorem intT23 : TR.intT prog 23 = false := by kernel_rfl
theorem intT24 : TR.intT prog 24 = false := by kernel_rfl
theorem intT25 : TR.intT prog 25 = false := by kernel_rfl
theorem intT26 : TR.intT prog 26 = false := by kernel_rfl
theorem intT27 : TR.intT prog 27 = false := by kernel_rfl
theorem intT28 : TR.intT prog 28 = false := by kernel_rfl
theorem intT29 : TR.intT prog 29 = false := by kernel_rfl
theorem intT30 : TR.intT prog 30 = false := by kernel_rfl
theorem intT31 : TR.intT prog 31 = false := by kernel_rfl
theorem intT32 : TR.intT prog 32 = false := by kernel_rfl
theorem intT33 : TR.intT prog 33 = false := by kernel_rfl
theorem intT34 : TR.intT prog 34 = false := by kernel_rfl
theorem intT35 : TR.intT prog 35 = false := by kernel_rfl
theorem intT36 : TR.intT prog 36 = false := by kernel_rfl
theorem intT37 : TR.intT prog 37 = false := by kernel_rfl
theorem intT38 : TR.intT prog 38 = false := by kernel_rfl
theorem intT39 : TR.intT prog 39 = false := by kernel_rfl
theorem intT40 : TR.intT prog 40 = false := by kernel_rfl
theorem intT41 : TR.intT prog 41 = false := by kernel_rfl
theorem intT42 : TR.intT prog 42 = false := by kernel_rfl
theorem intT43 : TR.intT prog 43 = false := by kernel_rfl
theorem intT44 : TR.intT prog 44 = false := by kernel_rfl
theorem intT45 : TR.intT prog 45 = false := by kernel_rfl
theorem intT46 : TR.intT prog 46 = false := by kernel_rfl
theorem intT47 : TR.intT prog 47 = false := by kernel_rfl
theorem intT48 : TR.intT prog 48 = false := by kernel_rfl
theorem intT49 : TR.intT prog 49 = false := by kernel_rfl
theorem intT50 : TR.intT prog 50 = false := by kernel_rfl
theorem intT51 : TR.intT prog 51 = false := by kernel_rfl
theorem intT52 : TR.intT prog 52 = false := by kernel_rfl
theorem intT53 : TR.intT prog 53 = false := by kernel_rfl
theorem intT54 : TR.intT prog 54 = false := by kernel_rfl
theorem intT55 : TR.intT prog 55 = true := by kernel_rfl
theorem intT56 : TR.intT prog 56 = true := by kernel_rfl
theorem intT57 : TR.intT prog 57 = false := by kernel_rfl
theorem intT58 : TR.intT prog 58 = false := by kernel_rfl
theorem intT59 : TR.intT prog 59 = false := by kernel_rfl
theorem intT60 : TR.intT prog 60 = false := by kernel_rfl
theorem intT61 : TR.intT prog 61 = false := by kernel_rfl
theorem intT62 : TR.intT prog 62 = false := by kernel_rfl
theorem intT63 : TR.intT prog 63 = false := by kernel_rfl
theorem intT64 : TR.intT prog 64 = false := by kernel_rfl
theorem intT65 : TR.intT prog 65 = false := by kernel_rfl
theorem intT66 : TR.intT prog 66 = false := by kernel_rfl
theorem intT67 : TR.intT prog 67 = false := by kernel_rfl
theorem intT68 : TR.intT prog 68 = false := by kernel_rfl
theorem intT69 : TR.intT prog 69 = false := by kernel_rfl
theorem intT70 : TR.intT prog 70 = false := by kernel_rfl
theorem intT71 : TR.intT prog 71 = false := by kernel_rfl
theorem intT72 : TR.intT prog 72 = false := by kernel_rfl
theorem intT73 : TR.intT prog 73 = false := by kernel_rfl
theorem intT74 : TR.intT prog 74 = false := by kernel_rfl
theorem intT75 : TR.intT prog 75 = false := by kernel_rfl
theorem intT76 : TR.intT prog 76 = false := by kernel_rfl
theorem intT77 : TR.intT prog 77 = false := by kernel_rfl
theorem intT78 : TR.intT prog 78 = false := by kernel_rfl
theorem intT79 : TR.intT prog 79 = false := by kernel_rfl
theorem intT80 : TR.intT prog 80 = false := by kernel_rfl
theorem intT81 : TR.intT prog 81 = false := by kernel_rfl
theorem intT82 : TR.intT prog 82 = false := by kernel_rfl
theorem intT83 : TR.intT prog 83 = false := by kernel_rfl
theorem intT84 : TR.intT prog 84 = false := by kernel_rfl
theorem intT85 : TR.intT prog 85 = false := by kernel_rfl
theorem intT86 : TR.intT prog 86 = false := by kernel_rfl
theorem intT87 : TR.intT prog 87 = false := by kernel_rfl
theorem intT88 : TR.intT prog 88 = false := by kernel_rfl
theorem intT89 : TR.intT prog 89 = false := by kernel_rfl
theorem intT90 : TR.intT prog 90 = false := by kernel_rfl
theorem intT91 : TR.intT prog 91 = false := by kernel_rfl
theorem intT92 : TR.intT prog 92 = false := by kernel_rfl
theorem intT93 : TR.intT prog 93 = false := by kernel_rfl
theorem intT94 : TR.intT prog 94 = false := by kernel_rfl
theorem intT95 : TR.intT prog 95 = false := by kernel_rfl
theorem intT96 : TR.intT prog 96 = false := by kernel_rfl
theorem intT97 : TR.intT prog 97 = false := by kernel_rfl
theorem intT98 : TR.intT prog 98 = false := by kernel_rfl
theorem intT99 : TR.intT prog 99 = false := by kernel_rfl
theorem intT100 : TR.intT prog 100 = false := by kernel_rfl
theorem intT101 : TR.intT prog 101 = false := by kernel_rfl
theorem intT102 : TR.intT prog 102 = false := by kernel_rfl
theorem intT103 : TR.intT prog 103 = false := by kernel_rfl
theorem intT104 : TR.intT prog 104 = false := by kernel_rfl
theorem intT105 : TR.intT prog 105 = false := by kernel_rfl
theorem intT106 : TR.intT prog 106 = false := by kernel_rfl
theorem intT107 : TR.intT prog 107 = false := by kernel_rfl
theorem intT108 : TR.intT prog 108 = false := by kernel_rfl
theorem intT109 : TR.intT prog 109 = false := by kernel_rfl
theorem intT110 : TR.intT prog 110 = false := by kernel_rfl
theorem intT111 : TR.intT prog 111 = false := by kernel_rfl
theorem intT112 : TR.intT prog 112 = false := by kernel_rfl
theorem intT113 : TR.intT prog 113 = false := by kernel_rfl
theorem intT114 : TR.intT prog 114 = false := by kernel_rfl
theorem intT115 : TR.intT prog 115 = false := by kernel_rfl
theorem intT116 : TR.intT prog 116 = false := by kernel_rfl
theorem intT117 : TR.intT prog 117 = false := by kernel_rfl
theorem intT118 : TR.intT prog 118 = false := by kernel_rfl
theorem intT119 : TR.intT prog 119 = false := by kernel_rfl
theorem intT120 : TR.intT prog 120 = false := by kernel_rfl
theorem intT121 : TR.intT prog 121 = false := by kernel_rfl
theorem intT122 : TR.intT prog 122 = false := by kernel_rfl
theorem intT123 : TR.intT prog 123 = false := by kernel_rfl
theorem intT124 : TR.intT prog 124 = true := by kernel_rfl
theorem intT125 : TR.intT prog 125 = false := by kernel_rfl
theorem intT126 : TR.intT prog 126 = false := by kernel_rfl
theorem intT127 : TR.intT prog 127 = false := by kernel_rfl
theorem intT128 : TR.intT prog 128 = false := by kernel_rfl
theorem intT129 : TR.intT prog 129 = false := by kernel_rfl
theorem intT130 : TR.intT prog 130 = false := by kernel_rfl
theorem intT131 : TR.intT prog 131 = false := by kernel_rfl
theorem intT132 : TR.intT prog 132 = false := by kernel_rfl
theorem intT133 : TR.intT prog 133 = false := by kernel_rfl
theorem intT134 : TR.intT prog 134 = false := by kernel_rfl
theorem intT135 : TR.intT prog 135 = false := by kernel_rfl
theorem intT136 : TR.intT prog 136 = false := by kernel_rfl
theorem intT137 : TR.intT prog 137 = false := by kernel_rfl
theorem intT138 : TR.intT prog 138 = false := by kernel_rfl
theorem intT139 : TR.intT prog 139 = false := by kernel_rfl
theorem intT140 : TR.intT prog 140 = false := by kernel_rfl
theorem intT141 : TR.intT prog 141 = false := by kernel_rfl
theorem intT142 : TR.intT prog 142 = false := by kernel_rfl
theorem intT143 : TR.intT prog 143 = false := by kernel_rfl
theorem intT144 : TR.intT prog 144 = false := by kernel_rfl
theorem intT145 : TR.intT prog 145 = false := by kernel_rfl
theorem intT146 : TR.intT prog 146 = false := by kernel_rfl
theorem intT147 : TR.intT prog 147 = false := by kernel_rfl
theorem intT148 : TR.intT prog 148 = false := by kernel_rfl
theorem intT149 : TR.intT prog 149 = false := by kernel_rfl
theorem intT150 : TR.intT prog 150 = false := by kernel_rfl
theorem intT151 : TR.intT prog 151 = false := by kernel_rfl
theorem intT152 : TR.intT prog 152 = false := by kernel_rfl
theorem intT153 : TR.intT prog 153 = false := by kernel_rfl
theorem intT154 : TR.intT prog 154 = false := by kernel_rfl
theorem intT155 : TR.intT prog 155 = false := by kernel_rfl
theorem intT156 : TR.intT prog 156 = false := by kernel_rfl
theorem intT157 : TR.intT prog 157 = false := by kernel_rfl
theorem intT158 : TR.intT prog 158 = false := by kernel_rfl
theorem intT159 : TR.intT prog 159 = false := by kernel_rfl
theorem intT160 : TR.intT prog 160 = false := by kernel_rfl
theorem intT161 : TR.intT prog 161 = false := by kernel_rfl
theorem intT162 : TR.intT prog 162 = false := by kernel_rfl
theorem intT163 : TR.intT prog 163 = false := by kernel_rfl
theorem intT164 : TR.intT prog 164 = false := by kernel_rfl
theorem intT165 : TR.intT prog 165 = false := by kernel_rfl
theorem intT166 : TR.intT prog 166 = false := by kernel_rfl
theorem intT167 : TR.intT prog 167 = false := by kernel_rfl
theorem intT168 : TR.intT prog 168 = false := by kernel_rfl
theorem intT169 : TR.intT prog 169 = false := by kernel_rfl
theorem intT170 : TR.intT prog 170 = false := by kernel_rfl
theorem intT171 : TR.intT prog 171 = false := by kernel_rfl
theorem intT172 : TR.intT prog 172 = false := by kernel_rfl
theorem intT173 : TR.intT prog 173 = false := by kernel_rfl
theorem intT174 : TR.intT prog 174 = false := by kernel_rfl
theorem intT175 : TR.intT prog 175 = true := by kernel_rfl
theorem intT176 : TR.intT prog 176 = true := by kernel_rfl
theorem intT177 : TR.intT prog 177 = true := by kernel_rfl
theorem intT178 : TR.intT prog 178 = false := by kernel_rfl
theorem intT179 : TR.intT prog 179 = false := by kernel_rfl
theorem intT180 : TR.intT prog 180 = true := by kernel_rfl
theorem intT181 : TR.intT prog 181 = true := by kernel_rfl
theorem intT182 : TR.intT prog 182 = false := by kernel_rfl
theorem intT183 : TR.intT prog 183 = false := by kernel_rfl
theorem intT184 : TR.intT prog 184 = false := by kernel_rfl
end Go.Proofs.Try
namespace Go.Rp
structure O where
  k : Int
  v : Int
  deriving DecidableEq
structure R where
  c : Int
  v : Int
  deriving DecidableEq
structure Sp where
  th : Int
  sq : Int
  op : O
  res : R
  fr : Int
  to : Int
  deriving DecidableEq
structure Ap where
  th : Int
  sq : Int
  op : O
  res : R
  b : Int
  deriving DecidableEq
def O.cs (o : O) : List Value := [.int .u8 o.k, .int .i32 o.v]
def R.cs (r : R) : List Value := [.int .u8 r.c, .int .i32 r.v]
def Sp.cs (s : Sp) : List Value := [.int .i64 s.th, .int .i64 s.sq, .int .u8 s.op.k, .int .i32 s.op.v, .int .u8 s.res.c, .int .i32 s.res.v, .int .i64 s.fr, .int .i64 s.to]
def Ap.cs (s : Ap) : List Value := [.int .i64 s.th, .int .i64 s.sq, .int .u8 s.op.k, .int .i32 s.op.v, .int .u8 s.res.c, .int .i32 s.res.v, .int .i64 s.b]
def before (a b : Sp) : Bool := decide (0 <= a.to) && decide (a.to < b.fr)
def most (n : Int) : Int := max 0 (min n 1000)
def opOf (kinds x : Int) : O := ⟨1 + x % kinds, x / 8 - 9⟩
def ops (c : List Int) (kinds : Int) : List O := (c.take 80).map (opOf kinds)
def place (l : List Int) (n : Int) : Int := match l.findIdx? (· == n) with | some k => k | none => -1
def do4 (m : Int) (s : List Int) (o : O) : List Int × R :=
  if o.k = 1 then (if most m <= s.length then (s, ⟨3, 0⟩) else (s ++ [o.v], ⟨1, 0⟩))
  else if o.k = 2 then (if s.length = 0 then (s, ⟨4, 0⟩) else (s.take (s.length - 1), ⟨2, s.getD (s.length - 1) 0⟩))
  else (s, ⟨5, 0⟩)
def do5 (m : Int) (s : List Int) (o : O) : List Int × R :=
  if o.k < 1 \/ 4 < o.k then (s, ⟨5, 0⟩)
  else if o.k <= 2 /\ most m <= s.length then (s, ⟨3, 0⟩)
  else if 3 <= o.k /\ s.length = 0 then (s, ⟨4, 0⟩)
  else if o.k = 1 then (o.v :: s, ⟨1, 0⟩)
  else if o.k = 2 then (s ++ [o.v], ⟨1, 0⟩)
  else if o.k = 3 then (s.drop 1, ⟨2, s.getD 0 0⟩)
  else (s.take (s.length - 1), ⟨2, s.getD (s.length - 1) 0⟩)
def upto (v : Int) : List Int -> Nat
  | [] => 0
  | x :: s => if x <= v then upto v s + 1 else 0
def do8 (m : Int) (s : List Int) (o : O) : List Int × R :=
  if o.k = 1 then (if most m <= s.length then (s, ⟨3, 0⟩) else (s.take (upto o.v s) ++ [o.v] ++ s.drop (upto o.v s), ⟨1, 0⟩))
  else if o.k = 2 then (if s.length = 0 then (s, ⟨4, 0⟩) else (s.drop 1, ⟨2, s.getD 0 0⟩))
  else (s, ⟨5, 0⟩)
def apply (object m : Int) (s : List Int) (o : O) : List Int × R :=
  if object = 1 then do4 m s o else if object = 2 then do5 m s o else if object = 3 then do8 m s o else (s, ⟨5, 0⟩)
def run (object m : Int) : List Int -> List O -> List Int × List R
  | s, [] => (s, [])
  | s, o :: l => let x := apply object m s o; let y := run object m x.1 l; (y.1, x.2 :: y.2)
end Go.Rp
namespace Go.TR
open Go.RowKit
theorem RdL.cell {α : Type} {w : World} {B size : Nat} {c : α -> List Value} {A : Option Addr} {l : List α} (h : RdL w B c size A l) {k : Nat} {x : α} (hx : l[k]? = some x) :
    ∃ ad, A = some ad /\ ad.block < B /\ ∀ j u, (c x)[j]? = some u -> w.cell? (ad.add (k * size + j)) = some u := h k x hx
theorem RdL.cells {α : Type} {w : World} {B size : Nat} {c : α -> List Value} {A : Option Addr} {l : List α} (h : RdL w B c size A l) {k : Nat} {x : α} (hx : l[k]? = some x) :
    ∃ ad, A = some ad /\ ad.block < B /\ (∀ u, (c x)[0]? = some u -> w.cell? (ad.add (k * size)) = some u) ∧
      ∀ j u, j ≠ 0 -> (c x)[j]? = some u -> w.cell? ⟨(ad.add (k * size)).block, (ad.add (k * size)).off + j, none⟩ = some u := by
  obtain ⟨ad, e, hb, hc⟩ := h k x hx
  refine ⟨ad, e, hb, fun u hu => by simpa using hc 0 u hu, fun j u hj hu => ?_⟩
  have := hc j u hu
  rw [<- add_add] at this
  have he : (ad.add (k * size)).add j = ⟨(ad.add (k * size)).block, (ad.add (k * size)).off + j, none⟩ := by
    generalize ad.add (k * size) = q
    unfold Addr.add
    rw [if_neg hj]
  rwa [he] at this
theorem SlT.nil {α : Type} {w : World} {B T size : Nat} {c : α -> List Value} : SlT w B T c size (.slice none 0 0) ([] : List α) := ⟨none, 0, rfl, Nat.le_refl _, Nat.zero_le _, RdT.nil⟩
end Go.TR
namespace Go.Rp
end Go.Rp
namespace Go.TR
open Go.RowKit
theorem own_base {w : World} {base base' e size n : Nat} {v : Value} {xs : List Value} (h : w.ownsRow base e size v n xs) (hb : base' <= base) : w.ownsRow base' e size v n xs := by
  obtain ⟨h1, h2⟩ := h
  refine ⟨h1, ?_⟩
  rcases h2 with h2 | ⟨g, cap, cur, hv, hg, r⟩
  · exact .inl h2
  · exact .inr ⟨g, cap, cur, hv, by omega, r⟩
theorem cell_lt {w : World} {p : Addr} {v : Value} (h : w.cell? p = some v) : p.block < w.heap.size := by
  unfold World.cell? at h
  rcases Nat.lt_or_ge p.block w.heap.size with hlt | hge
  · exact hlt
  · rw [Array.getElem?_eq_none hge] at h; cases h
end Go.TR
