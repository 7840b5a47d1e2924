/- Cells of a row of bytes of one's own, read and written. Plain facts. -/
import Derived.Test.YtdbndinnakkloaaDoorSl
import Derived.Laws.BitsAllLaws
namespace Go.Proofs.YtdbndinnakkloaaDoor.Octet
open Go.RowKit Go.Proofs.YtdbndinnakkloaaDoor.Mem
set_option linter.unusedVariables false
set_option linter.unusedSimpArgs false
/-- A cell of a row of its own, and the row behind a store, exactly. -/
theorem own_put {w : World} {m : Nat} {A : Option Addr} {n cap : Nat} {bs : List Int} (h : OwnB w m 5 (.slice A n cap) bs) (k : Nat) (hk : k < n) :
    ∃ ad, A = some ad ∧ (∀ g, (ad.add k).block = g → (Value.slice A n cap).ownBlock = some g) ∧ (∃ x, w.cell? (ad.add k) = some (.int .u8 x)) ∧ w.frozen? (ad.add k) = false ∧ m ≤ (ad.add k).block ∧
      ∀ x, OwnB (w.setCell (ad.add k) (.int .u8 x)) m 5 (.slice A n cap) (bs.set k x) := by
  rcases h.2 with ⟨e, h1⟩ | ⟨g, cap', cur, e, hb, hg, hn, hm, hs, ht⟩
  · injection e with e1 e2 e3; omega
  · injection e with e1 e2 e3
    subst e1; subst e2; subst e3
    have ea : (⟨g, 0, none⟩ : Addr).add k = ⟨g, k, none⟩ := by
      by_cases h : k = 0
      · subst h; rfl
      · simp [Addr.add, h]
    have h' : w.ownsRow m 5 1 (.slice (some ⟨g, 0, none⟩) bs.length cap) bs.length (byts bs) := h
    have hc : w.cell? ⟨g, k, none⟩ = some (.int .u8 (bs[k]'(by omega))) := by rw [h'.cellAt k (by omega)]; simp [byts, hk]
    refine ⟨_, rfl, by rw [ea]; rintro g' rfl; rfl, ⟨bs[k]'(by omega), by rw [ea, hc]⟩, by rw [ea]; exact h'.frozenAt k, by rw [ea]; exact hb, fun x => ?_⟩
    rw [ea]
    have s := (h'.stored k (.int .u8 x)).1
    unfold OwnB
    rw [List.length_set]
    simpa [byts, List.map_set] using s
/-- A cell of a row of its own, what stands in it, and the row behind a store. -/
theorem own_upd {w : World} {m : Nat} {A : Option Addr} {n cap : Nat} {bs : List Int} (h : OwnB w m 5 (.slice A n cap) bs) (k : Nat) (hk : k < n) :
    ∃ ad, A = some ad ∧ w.cell? (ad.add k) = some (.int .u8 (bs.getD k 0)) ∧ w.frozen? (ad.add k) = false ∧ m ≤ (ad.add k).block ∧
      ∀ x, OwnB (w.setCell (ad.add k) (.int .u8 x)) m 5 (.slice A n cap) (bs.set k x) := by
  have h' := RdB.of_own h
  obtain ⟨ad, e, -, ⟨x, hx⟩, h3, h4, h5⟩ := own_put h k hk
  refine ⟨ad, e, ?_, h3, h4, h5⟩
  obtain ⟨A', c', e2, -, -, hr⟩ := h'
  injection e2 with e3 e4 _
  subst e3; subst e4
  obtain ⟨ad', e5, hc⟩ := hr.at_ k hk
  rw [e] at e5; injection e5 with e5; subst e5
  rw [hc]
  simp [hk]
theorem xor_b (x y : Int) (hx : 0 ≤ x ∧ x < 256) (hy : 0 ≤ y ∧ y < 256) : bits .xor .u8 x y = ((x.toNat ^^^ y.toNat : Nat) : Int) := by
  have := u8_xor_nat x.toNat y.toNat (by omega) (by omega)
  rwa [show ((x.toNat : Nat) : Int) = x by omega, show ((y.toNat : Nat) : Int) = y by omega] at this
theorem isb_getD {xs : List Int} (h : IsB xs) (i : Nat) : 0 ≤ xs.getD i 0 ∧ xs.getD i 0 < 256 := by
  by_cases hi : i < xs.length
  · have := h _ (List.getElem_mem hi); simpa [hi] using this
  · simp [Nat.not_lt.1 hi]
theorem isb_xor {xs : List Int} (h : IsB xs) (k : Nat) (t : Int) (ht : 0 ≤ t ∧ t < 256) : IsB (xs.set k (((xs.getD k 0).toNat ^^^ t.toNat : Nat) : Int)) := by
  intro x hx
  rcases List.mem_or_eq_of_mem_set hx with hx | rfl
  · exact h x hx
  · have h1 := isb_getD h k
    have := Nat.xor_lt_two_pow (n := 8) (x := (xs.getD k 0).toNat) (y := t.toNat) (by omega) (by omega)
    omega
theorem set_xor_ne {xs : List Int} (hb : IsB xs) {k : Nat} (hk : k < xs.length) {t : Int} (ht : 0 ≤ t) (h0 : t ≠ 0) : xs.set k (((xs.getD k 0).toNat ^^^ t.toNat : Nat) : Int) ≠ xs := by
  intro e
  have e2 := congrArg (fun l : List Int => l.getD k 0) e
  simp only [List.getD, List.getElem?_set, if_pos hk, if_true, Option.getD_some] at e2
  have hx := isb_getD hb k
  have e3 : xs[k]?.getD 0 = xs.getD k 0 := by simp [List.getD]
  rw [e3] at e2
  generalize xs.getD k 0 = x at *
  have e4 : x.toNat ^^^ t.toNat = x.toNat := by omega
  have e5 : t.toNat = 0 := by
    have := congrArg (x.toNat ^^^ ·) e4
    simpa [← Nat.xor_assoc] using this
  omega
end Go.Proofs.YtdbndinnakkloaaDoor.Octet
