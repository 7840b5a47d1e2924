/- How a message reads that is an argument. Conditions: the row's own. -/
import Derived.Test.YtnhkmapeleomkaaFragFirst
import Derived.Test.YtnhkmapeleomkaaArgs
namespace Go.Proofs.Ytnhkmapeleomkaa.Mem
set_option linter.unusedVariables false
set_option linter.unusedSimpArgs false
open Go.RowKit
/-- A slice of whole numbers within the data of an argument. -/
theorem sees_ints {P : Program} {w : World} {t e : TypeId} {k : IntKind} {A : Option Addr} {len cap : Nat} (ht : P.underlying t = some (.slice e)) (he : P.underlying e = some (.int k)) (hc : P.cellsOf e = 1) (h : Sees P w t [.slice A len cap]) :
    ∃ l : List Int, len = l.length ∧ ReadsI w k A l ∧ l.length ≤ cap ∧ cap ≤ maxLen ∧ (∀ x ∈ l, (Lit.int k x).wf = true) ∧ (A = none → cap = 0) := by
  rcases sees_slice ht h with h | ⟨a, len', cap', h, hl, hm, hx⟩
  · injection h with h _
    injection h with h1 h2 h3
    subst h1; subst h2; subst h3
    exact ⟨[], rfl, .inl rfl, Nat.le_refl _, Nat.zero_le _, (fun x hx => by simp at hx), fun _ => rfl⟩
  · injection h with h _
    injection h with h1 h2 h3
    subst h1; subst h2; subst h3
    have key : ∀ i, i < len → ∃ x : Int, w.cell? (a.add i) = some (.int k x) ∧ (Lit.int k x).wf = true := by
      intro i hi
      obtain ⟨cs, h1, h2, h3⟩ := hx i hi
      obtain ⟨n, rfl, hn⟩ := sees_int he h3
      have d := h2 0 _ rfl
      rw [add_zero_, hc, Nat.mul_one] at d
      exact ⟨n, d, hn⟩
    obtain ⟨l, e1, hl2⟩ := list_of key
    refine ⟨l, e1.symm, .inr ⟨a, rfl, fun i hi => (hl2 i hi).1⟩, by omega, hm, fun x hx => ?_, fun h => by cases h⟩
    obtain ⟨i, hi, rfl⟩ := List.getElem_of_mem hx
    exact (hl2 i hi).2
end Go.Proofs.Ytnhkmapeleomkaa.Mem
namespace Go.Proofs.Ytnhkmapeleomkaa.Frag
open Go.RowKit Go.Proofs.Ytnhkmapeleomkaa.Mem Go.Proofs.Ytnhkmapeleomkaa.Octet
set_option linter.unusedVariables false
theorem msg_of_see {w : World} {cs : List Value} (h : Sees Try.prog w 26 cs) :
    ∃ (st mid pp : Int) (ls : Bool) (A : Option Addr) (c : Nat) (bs : List Int), (.agg ⟨cs⟩ : Value) = msg st ls mid pp A bs.length c ∧ SlB w 0 w.heap.size (.slice A bs.length c) bs ∧ (0 ≤ mid ∧ mid < 4294967296) ∧ bs.length ≤ 9223372036854775807 := by
  obtain ⟨g1, g2⟩ := sees_struct Try.underlying26 h
  have c5 : Try.prog.cellsOf 26 = 5 := by kernel_rfl
  have n1 : Try.prog.cellsOf 22 = 1 := by kernel_rfl
  have n2 : Try.prog.cellsOf 4 = 1 := by kernel_rfl
  have n3 : Try.prog.cellsOf 23 = 1 := by kernel_rfl
  have n4 : Try.prog.cellsOf 24 = 1 := by kernel_rfl
  have n5 : Try.prog.cellsOf 5 = 1 := by kernel_rfl
  rw [c5] at g1
  match cs, g1 with
  | [v0, v1, v2, v3, v4], _ =>
    have f0 := g2 _ (List.Mem.head _)
    have f1 := g2 _ (List.Mem.tail _ (List.Mem.head _))
    have f2 := g2 _ (List.Mem.tail _ (List.Mem.tail _ (List.Mem.head _)))
    have f3 := g2 _ (List.Mem.tail _ (List.Mem.tail _ (List.Mem.tail _ (List.Mem.head _))))
    have f4 := g2 _ (List.Mem.tail _ (List.Mem.tail _ (List.Mem.tail _ (List.Mem.tail _ (List.Mem.head _)))))
    simp only [n1, n2, n3, n4, List.drop, List.take] at f0 f1 f2 f3 f4
    obtain ⟨st, e0, z0⟩ := sees_int Try.underlying22 f0
    obtain ⟨ls, e1⟩ := sees_bool Try.underlying4 f1
    obtain ⟨mid, e2, z2⟩ := sees_int Try.underlying23 f2
    obtain ⟨pp, e3, z3⟩ := sees_int Try.underlying23 f3
    simp only [List.cons.injEq, and_true] at e0 e1 e2 e3
    have e4 : ∃ A3 l3 p3, v4 = .slice A3 l3 p3 := by
      rcases sees_slice Try.underlying24 f4 with h | ⟨_, _, _, h, _⟩
      · injection h with h _; exact ⟨_, _, _, h⟩
      · injection h with h _; exact ⟨_, _, _, h⟩
    obtain ⟨A3, l3, p3, rfl⟩ := e4
    obtain ⟨l, rfl, hr, hc, hm, hw, hn⟩ := sees_ints Try.underlying24 Try.underlying5 n5 f4
    subst e0; subst e1; subst e2; subst e3
    refine ⟨st, mid, pp, ls, A3, p3, l, rfl, ⟨A3, p3, rfl, hc, hm, hn, rdb_of hr⟩, ?_, by unfold maxLen at hm; omega⟩
    simp [Lit.wf] at z2
    rw [show IntKind.u32.min = 0 by rfl, show IntKind.u32.max = 4294967295 by rfl] at z2
    omega
end Go.Proofs.Ytnhkmapeleomkaa.Frag
