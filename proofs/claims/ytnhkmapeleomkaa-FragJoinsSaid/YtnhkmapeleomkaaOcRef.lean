/- Contracts of flumeref04's Pad and Text. Conditions: each names its blocks and the bounds. -/
import Derived.Test.YtnhkmapeleomkaaOcN
namespace Go.Proofs.Ytnhkmapeleomkaa.Octet
open Go.RowKit Go.Proofs.Ytnhkmapeleomkaa.Mem
set_option linter.unusedVariables false
set_option linter.unusedSimpArgs false

/-- How many noughts. -/
def padTo (k : Nat) (n : Int) : Nat := if n ≤ 0 then 0 else ((n.toNat - k % n.toNat) % n.toNat)
/-- The bytes of a number, the greatest first. -/
def txt (v : Int) (n : Nat) : List Int := (List.range n).map fun j => v / 256 ^ (n - 1 - j) % 256
theorem txt_len (v : Int) (n : Nat) : (txt v n).length = n := by simp [txt]
theorem txt_snoc (v : Int) (n r : Nat) (hr : r < n) : (txt v n).take (n - (r + 1)) ++ [v / 256 ^ r % 256] = (txt v n).take (n - r) := by
  rw [show n - r = n - (r + 1) + 1 by omega, List.take_add_one]
  congr 1
  simp [txt, List.getElem?_range, show n - (r + 1) < n by omega, show n - 1 - (n - (r + 1)) = r by omega]
end Go.Proofs.Ytnhkmapeleomkaa.Octet

