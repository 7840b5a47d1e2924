/- How a law's arguments read: slices of whole numbers as lists, and how long they may be. Conditions: the row's own. -/
import Derived.SizedLaws
import Derived.ChangeSlices
import Derived.Test.YtpjlnnebknekcaaMem
namespace Go.Proofs.Ytpjlnnebknekcaa.Mem
set_option linter.unusedVariables false
set_option linter.unusedSimpArgs false
open Go.ChangeShapes Go.WideShapes Go.RowKit

/-- A slice of whole numbers, as a list. -/
def ReadsI (w : World) (k : IntKind) (A : Option Addr) (xs : List Int) : Prop :=
  xs = [] ∨ ∃ ad, A = some ad ∧ ∀ i (hi : i < xs.length), w.cell? (ad.add i) = some (.int k xs[i])
theorem ReadsI.at_ {w : World} {k : IntKind} {A : Option Addr} {xs : List Int} (h : ReadsI w k A xs) (i : Nat) (hi : i < xs.length) :
    ∃ ad, A = some ad ∧ w.cell? (ad.add i) = some (.int k xs[i]) := by
  rcases h with h | ⟨ad, e, h⟩
  · subst h; simp at hi
  · exact ⟨ad, e, h i hi⟩
theorem ReadsI.keep {w w' : World} {k : IntKind} {A : Option Addr} {xs : List Int} (h : ReadsI w k A xs)
    (hk : ∀ ad i v, A = some ad → w.cell? (ad.add i) = some v → w'.cell? (ad.add i) = some v) : ReadsI w' k A xs := by
  rcases h with h | ⟨ad, e, h⟩
  · exact .inl h
  · exact .inr ⟨ad, e, fun i hi => hk ad i _ e (h i hi)⟩
theorem ReadsI.below {w w' : World} {k : IntKind} {A : Option Addr} {xs : List Int} (h : ReadsI w k A xs) (hb : Below w.heap.size w w') : ReadsI w' k A xs :=
  h.keep fun ad i v _ hc => (hb.cell (World.block_lt_of_cell? w _ hc)).trans hc

theorem reads_of_row {k : IntKind} {w : World} {a : Option Addr} {len cap : Nat} {zs : List Int}
    (h : (a = none ∧ len = 0 ∧ cap = 0 ∧ zs = []) ∨ ∃ x, a = some x ∧ len ≤ cap ∧ cap ≤ maxLen ∧ zs.length = cap ∧ (∀ i, i < zs.length → w.cell? (x.add i) = some (.int k (zs.getD i 0))) ∧ ∀ n ∈ zs, (Lit.int k n).wf = true) :
    ∃ l : List Int, len = l.length ∧ ReadsI w k a l ∧ l.length ≤ cap ∧ cap ≤ maxLen ∧ ∀ x ∈ l, (Lit.int k x).wf = true := by
  rcases h with ⟨rfl, rfl, rfl, rfl⟩ | ⟨x, rfl, h1, h2, h3, h4, h5⟩
  · exact ⟨[], rfl, .inl rfl, Nat.le_refl _, Nat.zero_le _, fun x hx => by simp at hx⟩
  · have hl : (zs.take len).length = len := by rw [List.length_take]; omega
    refine ⟨zs.take len, hl.symm, .inr ⟨x, rfl, fun i hi => ?_⟩, by omega, h2, fun x hx => h5 x (List.mem_of_mem_take hx)⟩
    rw [hl] at hi
    rw [h4 i (by omega)]
    simp [h3 ▸ (show i < cap by omega)]

theorem sized_ints {H : Type} {enc : TypeId × Value → H} {P : Program} {W : World} {base : Nat} {spare : Nat → Bool} {held : Bool} {t e : TypeId} {k : IntKind} {a : Option Addr} {len cap : Nat} {d : DataW H} {ps : List MemPlace} {ts : List TypeId} {ds : List (DataW H)} {j : Nat}
    (hsz : (DataW.weightsEach P ts ds).all (· ≤ reachBytes) = true) (ht : ts[j]? = some t) (hd : ds[j]? = some d) (hu : P.underlying t = some (.slice e)) (he : P.underlying e = some (.int k)) (hc : P.cellsOf e = 1) {B : Nat} (hB : P.bytesOf e = B)
    (h : DataW.Trod enc P W base spare held t (.slice a len cap) d ps) : len * B ≤ 140737488351232 := by
  obtain ⟨fuel, hf⟩ := h
  rcases open_ints hu he hc hf with ⟨hcs, _⟩ | ⟨x, l, c, zs, hcs, _, hl, _, hz, hx, _, _⟩
  · simp [Value.cells] at hcs
    obtain ⟨rfl, rfl, rfl⟩ := hcs
    simp
  · simp [Value.cells] at hcs
    obtain ⟨rfl, rfl, rfl⟩ := hcs
    obtain ⟨hx, _⟩ := Prod.mk.inj hx
    subst hx
    have z := sized_slice hsz ht hd hu
    rw [hB] at z
    have hl2 : len ≤ zs.length := by
      rw [hz]
      split
      · exact hl
      · exact Nat.le_refl _
    have h1 : (lits (H := H) k (zs.take len)).length + (lits (H := H) k (zs.drop len)).length = zs.length := by
      simp [lits]
      omega
    rw [h1] at z
    exact Nat.le_trans (Nat.mul_le_mul_right _ hl2) z

end Go.Proofs.Ytpjlnnebknekcaa.Mem
