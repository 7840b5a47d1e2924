/- What the laws on chunks share: rows of one's own, stored into; flags' bits. Conditions: each names its blocks. -/
import Derived.Test.YtaifihoheieneaaChkLaw6
import Derived.Test.YtaifihoheieneaaChkFirst
import Derived.Test.YtaifihoheieneaaChkSee
import Derived.Test.YtaifihoheieneaaChkSize
import Derived.IntWalk
namespace Go.Proofs.Ytaifihoheieneaa.Chk
open Go.RowKit Go.Proofs.Ytaifihoheieneaa.Mem Go.Proofs.Ytaifihoheieneaa.Octet Go.Proofs.Ytaifihoheieneaa.Prm
set_option linter.unusedVariables false
set_option linter.unusedSimpArgs false
/-- A row of its own: its cells, stored into. -/
theorem own_row {w : World} {m : Nat} {A : Option Addr} {n cap : Nat} {bs : List Int} (h : OwnB w m 5 (.slice A n cap) bs) (h0 : 0 < bs.length) :
    ∃ g, A = some ⟨g, 0, none⟩ ∧ m ≤ g ∧ n = bs.length ∧ ∀ k (hk : k < bs.length), w.cell? ⟨g, k, none⟩ = some (.int .u8 bs[k]) ∧ w.frozen? ⟨g, k, none⟩ = false ∧
      ∀ x, OwnB (w.setCell ⟨g, k, none⟩ (.int .u8 x)) m 5 (.slice (some ⟨g, 0, none⟩) n cap) (bs.set k x) := by
  rcases h.2 with ⟨e, h1⟩ | ⟨g, cap', cur, e, hb, hg, hn, hm, hs, ht⟩
  · omega
  · injection e with e1 e2 e3
    subst e1; subst e2; subst e3
    have h' : w.ownsRow m 5 1 (.slice (some ⟨g, 0, none⟩) bs.length cap) bs.length (byts bs) := h
    refine ⟨g, rfl, hb, rfl, fun k hk => ⟨?_, h'.frozenAt k, fun x => ?_⟩⟩
    · rw [h'.cellAt k (by omega)]; simp [byts, hk]
    · have s := (h'.stored k (.int .u8 x)).1
      unfold OwnB
      rw [List.length_set]
      simpa [byts, List.map_set] using s
theorem f_bits (F : Fin 256) : (bits .and .u8 ((F.val : Nat) : Int) 1 != 0) = flE (F.val : Nat) ∧ (bits .and .u8 ((F.val : Nat) : Int) 2 != 0) = flB (F.val : Nat) ∧ (bits .and .u8 ((F.val : Nat) : Int) 4 != 0) = flL (F.val : Nat) := by
  revert F; decide +kernel
theorem f_bits' {f : Int} (h : 0 ≤ f ∧ f < 256) : (bits .and .u8 f 1 != 0) = flE f ∧ (bits .and .u8 f 2 != 0) = flB f ∧ (bits .and .u8 f 4 != 0) = flL f := by
  have := f_bits ⟨f.toNat, by omega⟩
  rwa [show ((f.toNat : Nat) : Int) = f by omega] at this
end Go.Proofs.Ytaifihoheieneaa.Chk
