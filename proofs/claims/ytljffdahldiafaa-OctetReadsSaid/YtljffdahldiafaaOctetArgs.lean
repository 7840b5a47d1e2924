/- How a script of octet's laws reads. Conditions: the row's own. -/
import Derived.Test.YtljffdahldiafaaOctetBad
namespace Go.Proofs.Ytljffdahldiafaa.Mem
set_option linter.unusedVariables false
open Go.RowKit
/-- A slice of whole numbers within the data of an argument. -/
theorem sees_ints {P : Program} {w : World} {t e : TypeId} {k : IntKind} {A : Option Addr} {len cap : Nat} (ht : P.underlying t = some (.slice e)) (he : P.underlying e = some (.int k)) (hc : P.cellsOf e = 1) (h : Sees P w t [.slice A len cap]) :
    ∃ l : List Int, len = l.length ∧ ReadsI w k A l ∧ l.length ≤ cap ∧ cap ≤ maxLen ∧ (∀ x ∈ l, (Lit.int k x).wf = true) ∧ (A = none → cap = 0) := by
  rcases sees_slice ht h with h | ⟨a, len', cap', h, hl, hm, hx⟩
  · injection h with h _
    injection h with h1 h2 h3
    subst h1; subst h2; subst h3
    exact ⟨[], rfl, .inl rfl, Nat.le_refl _, Nat.zero_le _, (fun x hx => by simp at hx), fun _ => rfl⟩
  · injection h with h _
    injection h with h1 h2 h3
    subst h1; subst h2; subst h3
    have key : ∀ i, i < len → ∃ x : Int, w.cell? (a.add i) = some (.int k x) ∧ (Lit.int k x).wf = true := by
      intro i hi
      obtain ⟨cs, h1, h2, h3⟩ := hx i hi
      obtain ⟨n, rfl, hn⟩ := sees_int he h3
      have d := h2 0 _ rfl
      rw [add_zero_, hc, Nat.mul_one] at d
      exact ⟨n, d, hn⟩
    obtain ⟨l, e1, hl2⟩ := list_of key
    refine ⟨l, e1.symm, .inr ⟨a, rfl, fun i hi => (hl2 i hi).1⟩, by omega, hm, fun x hx => ?_, fun h => by cases h⟩
    obtain ⟨i, hi, rfl⟩ := List.getElem_of_mem hx
    exact (hl2 i hi).2
end Go.Proofs.Ytljffdahldiafaa.Mem
namespace Go.Proofs.Ytljffdahldiafaa.Octet
open Go.RowKit Go.Proofs.Ytljffdahldiafaa.Mem Go.Proofs.Ytljffdahldiafaa.OctetBad
set_option linter.unusedVariables false
set_option linter.unusedSimpArgs false
structure OpW where
  kind : Int
  n : Int
  v : Int
  A : Option Addr
  cap : Nat
  bs : List Int
instance : Inhabited OpW := ⟨⟨0, 0, 0, none, 0, []⟩⟩
/-- An operation of a script, in memory below hi. -/
structure OpAt (w : World) (hi : Nat) (b : Addr) (o : OpW) : Prop where
  c0 : w.cell? b = some (.int .i64 o.kind)
  c1 : w.cell? ⟨b.block, b.off + 1, none⟩ = some (.int .i64 o.n)
  c2 : w.cell? ⟨b.block, b.off + 2, none⟩ = some (.int .u32 o.v)
  c3 : w.cell? ⟨b.block, b.off + 3, none⟩ = some (.slice o.A o.bs.length o.cap)
  sl : SlB w 0 hi (.slice o.A o.bs.length o.cap) o.bs
  isb : IsB o.bs
  v0 : 0 ≤ o.v
  v1 : o.v < 4294967296
  n0 : -9223372036854775808 ≤ o.n
  n1 : o.n < 9223372036854775808
theorem OpAt.below {w w' : World} {b : Addr} {o : OpW} (h : OpAt w w.heap.size b o) (hb : Below w.heap.size w w') : OpAt w' w.heap.size b o :=
  have k : ∀ {p : Addr} {v : Value}, w.cell? p = some v → w'.cell? p = some v := fun hc => (hb.cell (World.block_lt_of_cell? w _ hc)).trans hc
  ⟨k h.c0, k h.c1, k h.c2, k h.c3, SlB.bl h.sl hb (Nat.le_refl _), h.isb, h.v0, h.v1, h.n0, h.n1⟩
def ReadsOps (w : World) (A : Option Addr) (os : List OpW) : Prop :=
  os = [] ∨ ∃ ad, A = some ad ∧ ∀ i (hi : i < os.length), OpAt w w.heap.size (ad.add (i * 4)) os[i]
theorem ReadsOps.at_ {w w' : World} {A : Option Addr} {os : List OpW} (h : ReadsOps w A os) (hb : Below w.heap.size w w') (i : Nat) (hi : i < os.length) :
    ∃ ad, A = some ad ∧ OpAt w' w.heap.size (ad.add (i * 4)) os[i] := by
  rcases h with h | ⟨ad, e, h⟩
  · subst h; simp at hi
  · exact ⟨ad, e, (h i hi).below hb⟩
theorem reads_ops {w : World} {A : Option Addr} {len cap : Nat} (h : Sees Try.prog w 33 [.slice A len cap]) :
    ∃ os : List OpW, len = os.length ∧ ReadsOps w A os ∧ len ≤ cap ∧ cap ≤ maxLen := by
  rcases sees_slice Try.underlying33 h with h | ⟨a, len', cap', h, hl, hm, hx⟩
  · injection h with h _
    injection h with h1 h2 h3
    subst h1; subst h2; subst h3
    exact ⟨[], rfl, .inl rfl, Nat.le_refl _, Nat.zero_le _⟩
  · injection h with h _
    injection h with h1 h2 h3
    subst h1; subst h2; subst h3
    have c4 : Try.prog.cellsOf 41 = 4 := by kernel_rfl
    have c1 : Try.prog.cellsOf 3 = 1 := by kernel_rfl
    have c2 : Try.prog.cellsOf 39 = 1 := by kernel_rfl
    have c3 : Try.prog.cellsOf 22 = 1 := by kernel_rfl
    have key : ∀ i, i < len → ∃ x : OpW, OpAt w w.heap.size (a.add (i * 4)) x := by
      intro i hi
      obtain ⟨cs, h1, h2, h3⟩ := hx i hi
      obtain ⟨g1, g2⟩ := sees_struct Try.underlying41 h3
      rw [c4] at h1 h2
      match cs, h1 with
      | [v0, v1, v2, v3], _ =>
        have f0 := g2 _ (List.Mem.head _)
        have f1 := g2 _ (List.Mem.tail _ (List.Mem.head _))
        have f2 := g2 _ (List.Mem.tail _ (List.Mem.tail _ (List.Mem.head _)))
        have f3 := g2 _ (List.Mem.tail _ (List.Mem.tail _ (List.Mem.tail _ (List.Mem.head _))))
        simp only [c1, c2, c3, List.drop, List.take] at f0 f1 f2 f3
        obtain ⟨n0, e0, _⟩ := sees_int Try.underlying3 f0
        obtain ⟨n1, e1, z1⟩ := sees_int Try.underlying3 f1
        obtain ⟨n2, e2, z2⟩ := sees_int Try.underlying39 f2
        simp only [List.cons.injEq, and_true] at e0 e1 e2
        have e3 : ∃ A3 n3 p3, v3 = .slice A3 n3 p3 := by
          rcases sees_slice Try.underlying22 f3 with h | ⟨_, _, _, h, _⟩
          · injection h with h _; exact ⟨_, _, _, h⟩
          · injection h with h _; exact ⟨_, _, _, h⟩
        obtain ⟨A3, n3, p3, rfl⟩ := e3
        obtain ⟨l, rfl, hr, hlc, hm3, hwf, hnil⟩ := sees_ints Try.underlying22 Try.underlying5 (by kernel_rfl) f3
        subst e0; subst e1; subst e2
        have d0 := h2 0 _ rfl
        have d1 := h2 1 _ rfl
        have d2 := h2 2 _ rfl
        have d3 := h2 3 _ rfl
        rw [add_zero_] at d0
        rw [add_add_ _ _ _ (by decide)] at d1 d2 d3
        have r2 : 0 ≤ n2 ∧ n2 < 4294967296 := by simp [Lit.wf, IntKind.min, IntKind.max, IntKind.bits, IntKind.signed] at z2; omega
        have r1 : -9223372036854775808 ≤ n1 ∧ n1 < 9223372036854775808 := by simp [Lit.wf, IntKind.min, IntKind.max, IntKind.bits, IntKind.signed] at z1; omega
        exact ⟨⟨n0, n1, n2, A3, p3, l⟩, d0, d1, d2, d3, ⟨A3, p3, rfl, hlc, hm3, hnil, rdb_of hr⟩, (fun x hx => range_u8 x (hwf x hx)), r2.1, r2.2, r1.1, r1.2⟩
    obtain ⟨l, e, hl2⟩ := list_of key
    exact ⟨l, e.symm, .inr ⟨a, rfl, hl2⟩, hl, hm⟩
end Go.Proofs.Ytljffdahldiafaa.Octet
