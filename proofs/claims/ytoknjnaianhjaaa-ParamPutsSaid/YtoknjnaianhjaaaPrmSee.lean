/- How an argument of parameters reads. Conditions: the row's own. -/
import Derived.Test.YtoknjnaianhjaaaPrmFirst
namespace Go.Proofs.Ytoknjnaianhjaaa.Mem
set_option linter.unusedVariables false
open Go.RowKit
/-- A slice of whole numbers within the data of an argument. -/
theorem sees_ints {P : Program} {w : World} {t e : TypeId} {k : IntKind} {A : Option Addr} {len cap : Nat} (ht : P.underlying t = some (.slice e)) (he : P.underlying e = some (.int k)) (hc : P.cellsOf e = 1) (h : Sees P w t [.slice A len cap]) :
    ∃ l : List Int, len = l.length ∧ ReadsI w k A l ∧ l.length ≤ cap ∧ cap ≤ maxLen ∧ (∀ x ∈ l, (Lit.int k x).wf = true) ∧ (A = none → cap = 0) := by
  rcases sees_slice ht h with h | ⟨a, len', cap', h, hl, hm, hx⟩
  · injection h with h _
    injection h with h1 h2 h3
    subst h1; subst h2; subst h3
    exact ⟨[], rfl, .inl rfl, Nat.le_refl _, Nat.zero_le _, (fun x hx => by simp at hx), fun _ => rfl⟩
  · injection h with h _
    injection h with h1 h2 h3
    subst h1; subst h2; subst h3
    have key : ∀ i, i < len → ∃ x : Int, w.cell? (a.add i) = some (.int k x) ∧ (Lit.int k x).wf = true := by
      intro i hi
      obtain ⟨cs, h1, h2, h3⟩ := hx i hi
      obtain ⟨n, rfl, hn⟩ := sees_int he h3
      have d := h2 0 _ rfl
      rw [add_zero_, hc, Nat.mul_one] at d
      exact ⟨n, d, hn⟩
    obtain ⟨l, e1, hl2⟩ := list_of key
    refine ⟨l, e1.symm, .inr ⟨a, rfl, fun i hi => (hl2 i hi).1⟩, by omega, hm, fun x hx => ?_, fun h => by cases h⟩
    obtain ⟨i, hi, rfl⟩ := List.getElem_of_mem hx
    exact (hl2 i hi).2
end Go.Proofs.Ytoknjnaianhjaaa.Mem
namespace Go.Proofs.Ytoknjnaianhjaaa.Prm
open Go.RowKit Go.Proofs.Ytoknjnaianhjaaa.Mem Go.Proofs.Ytoknjnaianhjaaa.Octet
set_option linter.unusedVariables false
set_option linter.unusedSimpArgs false
theorem pm_of_see {w : World} {A : Option Addr} {len cap : Nat} (h : Sees Try.prog w 22 [.slice A len cap]) :
    ∃ ps : List Pm, len = ps.length ∧ PmC w 0 w.heap.size A ps ∧ (∀ p ∈ ps, InB p) ∧ len ≤ cap ∧ cap ≤ maxLen := by
  rcases sees_slice Try.underlying22 h with h | ⟨a, len', cap', h, hl, hm, hx⟩
  · injection h with h _
    injection h with h1 h2 h3
    subst h1; subst h2; subst h3
    exact ⟨[], rfl, (fun i hi => by simp at hi), (fun p hp => by simp at hp), Nat.le_refl _, Nat.zero_le _⟩
  · injection h with h _
    injection h with h1 h2 h3
    subst h1; subst h2; subst h3
    have c2 : Try.prog.cellsOf 43 = 2 := by kernel_rfl
    have c1 : Try.prog.cellsOf 41 = 1 := by kernel_rfl
    have c3 : Try.prog.cellsOf 26 = 1 := by kernel_rfl
    have key : ∀ i, i < len → ∃ x : Pm, (a.block < w.heap.size ∧ ∃ s, w.cell? (a.add (i * 2)) = some (.int .u16 x.1) ∧ w.cell? ((a.add (i * 2)).add 1) = some s ∧ SlB w 0 w.heap.size s x.2) ∧ InB x := by
      intro i hi
      obtain ⟨cs, h1, h2, h3⟩ := hx i hi
      obtain ⟨g1, g2⟩ := sees_struct Try.underlying43 h3
      rw [c2] at h1 h2
      match cs, h1 with
      | [v0, v1], _ =>
        have f0 := g2 _ (List.Mem.head _)
        have f1 := g2 _ (List.Mem.tail _ (List.Mem.head _))
        simp only [c1, c3, List.drop, List.take] at f0 f1
        obtain ⟨n0, e0, z0⟩ := sees_int Try.underlying41 f0
        simp only [List.cons.injEq, and_true] at e0
        have e3 : ∃ A3 n3 p3, v1 = .slice A3 n3 p3 := by
          rcases sees_slice Try.underlying26 f1 with h | ⟨_, _, _, h, _⟩
          · injection h with h _; exact ⟨_, _, _, h⟩
          · injection h with h _; exact ⟨_, _, _, h⟩
        obtain ⟨A3, n3, p3, rfl⟩ := e3
        obtain ⟨l, rfl, hr, hlc, hm3, hwf, hnil⟩ := sees_ints Try.underlying26 Try.underlying5 (by kernel_rfl) f1
        subst e0
        have d0 := h2 0 _ rfl
        have d1 := h2 1 _ rfl
        rw [add_zero_] at d0
        have r0 : 0 ≤ n0 ∧ n0 < 65536 := by simp [Lit.wf, IntKind.min, IntKind.max, IntKind.bits, IntKind.signed] at z0; omega
        have hb := World.block_lt_of_cell? w _ d0
        rw [add_block] at hb
        exact ⟨(n0, l), ⟨hb, _, d0, d1, A3, p3, rfl, hlc, hm3, hnil, rdb_of hr⟩, r0.1, r0.2, (fun x hx => range_u8 x (hwf x hx))⟩
    obtain ⟨l, e, hl2⟩ := list_of key
    refine ⟨l, e.symm, fun i hi => ?_, fun p hp => ?_, hl, hm⟩
    · obtain ⟨⟨hb, s, d0, d1, d2⟩, _⟩ := hl2 i hi
      exact ⟨a, s, rfl, Nat.zero_le _, hb, d0, d1, d2⟩
    · obtain ⟨i, hi, rfl⟩ := List.getElem_of_mem hp
      exact (hl2 i hi).2
end Go.Proofs.Ytoknjnaianhjaaa.Prm
