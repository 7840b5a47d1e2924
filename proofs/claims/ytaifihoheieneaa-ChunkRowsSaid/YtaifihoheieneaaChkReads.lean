/- What the chunk's reader reads, whatever the kind. Conditions: each names its blocks. -/
import Derived.Test.YtaifihoheieneaaChkRead
import Derived.Test.YtaifihoheieneaaChkRead2
import Derived.Test.YtaifihoheieneaaChkRead3
import Derived.Test.YtaifihoheieneaaChkRead4
import Derived.Test.YtaifihoheieneaaChkRead7
import Derived.Test.YtaifihoheieneaaChkRead9
import Derived.Test.YtaifihoheieneaaChkRead5
import Derived.Test.YtaifihoheieneaaChkRead6
import Derived.Test.YtaifihoheieneaaChkRead8
namespace Go.Proofs.Ytaifihoheieneaa.Chk
open Go.RowKit Go.Proofs.Ytaifihoheieneaa.Mem Go.Proofs.Ytaifihoheieneaa.Octet Go.Proofs.Ytaifihoheieneaa.Prm
set_option linter.unusedVariables false
theorem read_calls (gX gR gC lo hi : Nat) (k f : Int) (xs : List Int) (w : World) (H0 : Rg w w gX gR gC lo hi xs false false (z19 k)) (S : Sp w gX gR gC lo hi) (hB : IsB xs) (hl : xs.length ≤ 100000) (hf : 0 ≤ f ∧ f < 256) (hk : kn k = true) :
    Calls Try.prog 42 #[.pointer (some ⟨gX, 0, none⟩), .pointer (some ⟨gC, 0, none⟩), .int .u8 f] w (ReadP w gX gR gC k f xs) := by
  simp [kn] at hk
  rcases hk with rfl | rfl | rfl | rfl | rfl | rfl | rfl | rfl | rfl | rfl | rfl | rfl | rfl | rfl | rfl | rfl | rfl
  · exact read_0 gX gR gC lo hi f xs w H0 S hB hl hf
  · exact read_1 gX gR gC lo hi f xs w H0 S hB hl hf
  · exact read_2 gX gR gC lo hi f xs w H0 S hB hl hf
  · exact read_3 gX gR gC lo hi f xs w H0 S hB hl hf
  · exact read_4 gX gR gC lo hi f xs w H0 S hB hl hf
  · exact read_5 gX gR gC lo hi f xs w H0 S hB hl hf
  · exact read_6 gX gR gC lo hi f xs w H0 S hB hl hf
  · exact read_7 gX gR gC lo hi f xs w H0 S hB hl hf
  · exact read_8 gX gR gC lo hi f xs w H0 S hB hl hf
  · exact read_9 gX gR gC lo hi f xs w H0 S hB hl hf
  · exact read_10 gX gR gC lo hi f xs w H0 S hB hl hf
  · exact read_11 gX gR gC lo hi f xs w H0 S hB hl hf
  · exact read_14 gX gR gC lo hi f xs w H0 S hB hl hf
  · exact read_64 gX gR gC lo hi f xs w H0 S hB hl hf
  · exact read_130 gX gR gC lo hi f xs w H0 S hB hl hf
  · exact read_192 gX gR gC lo hi f xs w H0 S hB hl hf
  · exact read_194 gX gR gC lo hi f xs w H0 S hB hl hf
end Go.Proofs.Ytaifihoheieneaa.Chk
