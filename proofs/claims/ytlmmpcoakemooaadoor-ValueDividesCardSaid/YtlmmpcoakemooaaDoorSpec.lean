/-
  What each function of the values gives, and of the reference's. No conditions.
-/
import Derived.Test.YtlmmpcoakemooaaDoorFns
namespace Go.Proofs.YtlmmpcoakemooaaDoor
open Go.RowKit

def binR (g : ByteArray) (t1 n1 : Int) (s1 : ByteArray) (t2 n2 : Int) (s2 : ByteArray) : R :=
  if t1 = t2 ∧ 1 ≤ t1 ∧ t1 ≤ 4 then
    if (g.toList == [61, 61]) = true then boolR (decide (n1 = n2) && s1.toList == s2.toList)
    else if (g.toList == [33, 61]) = true then boolR (!(decide (n1 = n2) && s1.toList == s2.toList))
    else if t1 = 1 then numR g n1 n2 else if t1 = 2 then bothR g (n1 == 1) (n2 == 1) else if t1 = 3 then textR g s1 s2 else noR
  else noR
def signR (g : ByteArray) (t n : Int) : R :=
  if (g.toList == [45]) = true ∧ t = 1 then ⟨1, wrap64 (-n), E, 0⟩ else if (g.toList == [33]) = true ∧ t = 2 then boolR (!decide (n = 1)) else noR
def R.u (r : R) : Value := V r.t r.n r.s
def mayB (t n : Int) (s : ByteArray) : Bool :=
  if t = 3 then decide (n = 0) && decide (s.size ≤ 40) else if t = 2 then decide (0 ≤ n) && decide (n ≤ 1) && s.toList == [] else if t = 4 then decide (0 ≤ n) && s.toList == [] else if t = 1 then s.toList == [] else false

end Go.Proofs.YtlmmpcoakemooaaDoor
