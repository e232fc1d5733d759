/- Ints Plain Mem2: what the law needs of these -/import Derived.Test.YtclhmdhdpejhhaaGreatProg
import Derived.KernelRfl
import Derived.Test.YtclhmdhdpejhhaaGreatJsv6
namespace Go.Proofs.Tryz
end Go.Proofs.Tryz
namespace Go.Rp
structure O where
 k:Int
 v:Int
 deriving DecidableEq
structure R where
 c:Int
 v:Int
 deriving DecidableEq
def most(n:Int):Int:=max 0 (min n 1000)
def opOf(kinds x:Int):O:=⟨1+x % kinds,x / 8 - 9⟩
def ops(c:List Int)(kinds:Int):List O:=(c.take 80).map (opOf kinds)
def place(l:List Int)(n:Int):Int:=match l.findIdx? (· == n) with|some k=>k|none=>-1
end Go.Rp
namespace Go.TR
open Go.RowKit
end Go.TR
namespace Go.Rp
end Go.Rp
namespace Go.TR
open Go.RowKit
theorem own_base{w:World}{base base' e size n:Nat}{v:Value}{xs:List Value}(h:w.ownsRow base e size v n xs)(hb:base'<=base):w.ownsRow base' e size v n xs:=by
 obtain⟨h1,h2⟩:=h;refine⟨h1,?_⟩;rcases h2 with h2|⟨g,cap,cur,hv,hg,r⟩
 . exact .inl h2
 . exact .inr ⟨g,cap,cur,hv,by omega,r⟩
theorem cell_lt{w:World}{p:Addr}{v:Value}(h:w.cell? p=some v):p.block < w.heap.size:=by
 unfold World.cell? at h;rcases ZX p.block w.heap.size with hlt|hge
 . exact hlt
 . rw[X2 hge] at h;cases h
end Go.TR
