/- Lists of chunks in memory, as arguments. Conditions: what the model sees of the argument. -/
import Derived.Test.YtaifihoheieneaaChkSee
import Derived.Test.YtaifihoheieneaaOpr
import Derived.Test.YtaifihoheieneaaChkGet
namespace Go.Proofs.Ytaifihoheieneaa.Chk
open Go.RowKit Go.Proofs.Ytaifihoheieneaa.Mem Go.Proofs.Ytaifihoheieneaa.Octet Go.Proofs.Ytaifihoheieneaa.Prm
set_option linter.unusedVariables false
set_option linter.unusedSimpArgs false
section
variable {P : Program}
/-- A load of a struct at an address within a row. -/
theorem oper_load_in {o : Oper} {a : Act} {w : World} {K : Act → World → Prop} {Q : Exit → Act → World → Prop} {t : TypeId} {x : Operand} {ad : Addr} {cs : List Value} {fs : Array Field} (ho : o.op = .load t x) (hx : a.eval x = .pointer (some ad))
    (hc : ∀ j v, cs[j]? = some v → w.cell? (ad.add j) = some v) (hu : P.underlying t = some (.struct fs)) (hi : (P.info? t).map (·.size) = some cs.length) (h : K (a.put o.dst (.agg cs.toArray)) w) : o.wp P a w K Q := by
  have hl := run_loadCells_list (P := P) (w := w) ad cs hc
  have hr : (loadVar t ad).run P w = .ok (.agg cs.toArray) w := by
    cases hq : P.info? t with
    | none => simp [hq] at hi
    | some i =>
      have hs : i.size = cs.length := by simpa [hq] using hi
      have hagg : (isAgg t).run P w = .ok true w := by
        unfold isAgg
        rw [Sem.run_bind, run_underlying hu w]
        rfl
      unfold loadVar
      rw [Sem.run_bind, hagg]
      simp [sizeOf, typeInfo, hq, hs, hl]
  unfold Oper.wp execOp
  simp only [ho, hx, Instr.loadAt, Instr.sureAddr, Sem.run_bind, Sem.run_pure, Result.andThen_ok, hr]
  exact h
end
/-- Chunks that lie one behind the other. -/
def ChsC (w : World) (lo hi : Nat) (A : Option Addr) (cs : List Ck) : Prop :=
  ∀ i (h : i < cs.length), ∃ (ad : Addr) (X : List Value), A = some ad ∧ lo ≤ ad.block ∧ ad.block < hi ∧ X.length = 19 ∧ (∀ (j : Nat) v, X[j]? = some v → w.cell? ((ad.add (i * 19)).add j) = some v) ∧ CkV w lo hi X.toArray cs[i]
theorem ChsC.fr {w w' : World} {lo hi : Nat} {A : Option Addr} {cs : List Ck} {S : Nat → Prop} (h : ChsC w lo hi A cs) (f : Fr S w w') (hs : ∀ k, lo ≤ k → k < hi → ¬ S k) : ChsC w' lo hi A cs := by
  intro i hi'
  obtain ⟨ad, X, e, h1, h2, h3, h4, h5⟩ := h i hi'
  exact ⟨ad, X, e, h1, h2, h3, fun j v hv => cell_fr f (h4 j v hv) (by rw [add_block, add_block]; exact hs _ h1 h2), h5.fr f hs⟩
theorem ChsC.bl {w w' : World} {lo hi base : Nat} {A : Option Addr} {cs : List Ck} (h : ChsC w lo hi A cs) (f : Below base w w') (hb : hi ≤ base) : ChsC w' lo hi A cs := h.fr (Bl.fr f) (fun k _ h2 h3 => by omega)
theorem ChsC.more {w : World} {lo hi lo' hi' : Nat} {A : Option Addr} {cs : List Ck} (h : ChsC w lo hi A cs) (h1 : lo' ≤ lo) (h2 : hi ≤ hi') : ChsC w lo' hi' A cs := by
  intro i hi9
  obtain ⟨ad, X, e, g1, g2, g3, g4, g5⟩ := h i hi9
  exact ⟨ad, X, e, by omega, by omega, g3, g4, g5.more h1 h2⟩
theorem cks_of_see {w : World} {A : Option Addr} {len cap : Nat} (h : Sees Try.prog w 53 [.slice A len cap]) :
    ∃ cs : List Ck, len = cs.length ∧ ChsC w 0 w.heap.size A cs ∧ (∀ c ∈ cs, CkB c ∧ c.ps.length ≤ maxLen) ∧ len ≤ maxLen := by
  rcases sees_slice Try.underlying53 h with h | ⟨a, len', cap', h, hl, hm, hx⟩
  · injection h with h _
    injection h with h1 h2 h3
    subst h1; subst h2; subst h3
    exact ⟨[], rfl, (fun i hi => by simp at hi), (fun p hp => by simp at hp), Nat.zero_le _⟩
  · injection h with h _
    injection h with h1 h2 h3
    subst h1; subst h2; subst h3
    have c19 : Try.prog.cellsOf 31 = 19 := by kernel_rfl
    have key : ∀ i, i < len → ∃ x : Ck, (∃ X : List Value, a.block < w.heap.size ∧ X.length = 19 ∧ (∀ (j : Nat) v, X[j]? = some v → w.cell? ((a.add (i * 19)).add j) = some v) ∧ CkV w 0 w.heap.size X.toArray x) ∧ CkB x ∧ x.ps.length ≤ maxLen := by
      intro i hi
      obtain ⟨cs, h1, h2, h3⟩ := hx i hi
      rw [c19] at h1 h2
      obtain ⟨c, hC, hB, -, -, -, hp, -⟩ := ck_of_see h3
      refine ⟨c, ⟨cs, ?_, h1, h2, hC⟩, hB, hp⟩
      have h0 := h2 0 _ (List.getElem?_eq_getElem (by omega))
      have hb := World.block_lt_of_cell? w _ h0
      rw [add_block, add_block] at hb
      exact hb
    have inst : Inhabited Ck := ⟨zC 0⟩
    obtain ⟨l, e, hl2⟩ := list_of key
    refine ⟨l, e.symm, fun i hi => ?_, fun p hp => ?_, Nat.le_trans hl hm⟩
    · obtain ⟨⟨X, g1, g2, g3, g4⟩, _⟩ := hl2 i hi
      exact ⟨a, X, rfl, Nat.zero_le _, g1, g2, g3, g4⟩
    · obtain ⟨i, hi, rfl⟩ := List.getElem_of_mem hp
      exact (hl2 i hi).2
end Go.Proofs.Ytaifihoheieneaa.Chk
