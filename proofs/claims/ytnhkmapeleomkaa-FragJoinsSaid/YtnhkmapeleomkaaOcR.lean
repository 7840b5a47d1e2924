/- Contracts of octet.Reader. Conditions: each names its blocks and the bounds. -/
import Derived.Test.YtnhkmapeleomkaaSl
namespace Go.Proofs.Ytnhkmapeleomkaa.Octet
open Go.RowKit Go.Proofs.Ytnhkmapeleomkaa.Mem
set_option linter.unusedVariables false
set_option linter.unusedSimpArgs false
attribute [local go_sem] max2_mx min2_mn max_two min_two

/-- What is left of bytes behind a take of n. -/
def tk (bs : List Int) (n : Int) : List Int := if n < 0 ∨ (bs.length : Int) < n then [] else bs.take n.toNat
def lf (bs : List Int) (n : Int) : List Int := if n < 0 ∨ (bs.length : Int) < n then [] else bs.drop n.toNat
def bd (bs : List Int) (bad : Bool) (n : Int) : Bool := if n < 0 ∨ (bs.length : Int) < n then true else bad

/-- What End says: 40 bad, 41 bytes left, 0 else. -/
def endOf (bs : List Int) (bad : Bool) : Int := if bad then 40 else if 0 < bs.length then 41 else 0
end Go.Proofs.Ytnhkmapeleomkaa.Octet
