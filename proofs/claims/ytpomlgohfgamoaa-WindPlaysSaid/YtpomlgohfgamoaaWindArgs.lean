/- How a script of acts reads. Conditions: the row's own. -/
import Derived.Test.YtpomlgohfgamoaaWind
import Derived.Test.YtpomlgohfgamoaaArgs
namespace Go.Proofs.Ytpomlgohfgamoaa.Wind
open Go.RowKit Go.Proofs.Ytpomlgohfgamoaa.Mem
set_option linter.unusedVariables false
set_option linter.unusedSimpArgs false

structure ActW where
  kind : Int
  n : Int
  fl : Int
  on : Bool
instance : Inhabited ActW := ⟨⟨0, 0, 0, false⟩⟩
def At4 (w : World) (b : Addr) (a : ActW) : Prop :=
  w.cell? b = some (.int .i64 a.kind) ∧ w.cell? ⟨b.block, b.off + 1, none⟩ = some (.int .i64 a.n) ∧ w.cell? ⟨b.block, b.off + 2, none⟩ = some (.int .i64 a.fl) ∧ w.cell? ⟨b.block, b.off + 3, none⟩ = some (.bool a.on)
theorem At4.below {w w' : World} {b : Addr} {a : ActW} (h : At4 w b a) (hb : Below w.heap.size w w') : At4 w' b a :=
  have k : ∀ {p : Addr} {v : Value}, w.cell? p = some v → w'.cell? p = some v := fun hc => (hb.cell (World.block_lt_of_cell? w _ hc)).trans hc
  ⟨k h.1, k h.2.1, k h.2.2.1, k h.2.2.2⟩
def ReadsAct (w : World) (A : Option Addr) (acts : List ActW) : Prop :=
  acts = [] ∨ ∃ ad, A = some ad ∧ ∀ i (hi : i < acts.length), At4 w (ad.add (i * 4)) acts[i]
theorem ReadsAct.at_ {w w' : World} {A : Option Addr} {acts : List ActW} (h : ReadsAct w A acts) (hb : Below w.heap.size w w') (i : Nat) (hi : i < acts.length) :
    ∃ ad, A = some ad ∧ At4 w' (ad.add (i * 4)) acts[i] := by
  rcases h with h | ⟨ad, e, h⟩
  · subst h; simp at hi
  · exact ⟨ad, e, (h i hi).below hb⟩
theorem reads_acts {w : World} {A : Option Addr} {len cap : Nat} (h : Sees Try.prog w 22 [.slice A len cap]) :
    ∃ acts : List ActW, len = acts.length ∧ ReadsAct w A acts ∧ len ≤ cap ∧ cap ≤ maxLen := by
  rcases sees_slice Try.underlying22 h with h | ⟨a, len', cap', h, hl, hm, hx⟩
  · injection h with h _
    injection h with h1 h2 h3
    subst h1; subst h2; subst h3
    exact ⟨[], rfl, .inl rfl, Nat.le_refl _, Nat.zero_le _⟩
  · injection h with h _
    injection h with h1 h2 h3
    subst h1; subst h2; subst h3
    have c4 : Try.prog.cellsOf 27 = 4 := by kernel_rfl
    have c1 : Try.prog.cellsOf 3 = 1 := by kernel_rfl
    have c2 : Try.prog.cellsOf 4 = 1 := by kernel_rfl
    have key : ∀ i, i < len → ∃ x : ActW, At4 w (a.add (i * 4)) x := by
      intro i hi
      obtain ⟨cs, h1, h2, h3⟩ := hx i hi
      obtain ⟨g1, g2⟩ := sees_struct Try.underlying27 h3
      rw [c4] at h1 h2
      match cs, h1 with
      | [v0, v1, v2, v3], _ =>
        have f0 := g2 _ (List.Mem.head _)
        have f1 := g2 _ (List.Mem.tail _ (List.Mem.head _))
        have f2 := g2 _ (List.Mem.tail _ (List.Mem.tail _ (List.Mem.head _)))
        have f3 := g2 _ (List.Mem.tail _ (List.Mem.tail _ (List.Mem.tail _ (List.Mem.head _))))
        simp only [c1, c2, List.drop, List.take] at f0 f1 f2 f3
        obtain ⟨n0, e0, _⟩ := sees_int Try.underlying3 f0
        obtain ⟨n1, e1, _⟩ := sees_int Try.underlying3 f1
        obtain ⟨n2, e2, _⟩ := sees_int Try.underlying3 f2
        obtain ⟨b3, e3⟩ := sees_bool Try.underlying4 f3
        simp only [List.cons.injEq, and_true] at e0 e1 e2 e3
        subst e0; subst e1; subst e2; subst e3
        have d0 := h2 0 _ rfl
        have d1 := h2 1 _ rfl
        have d2 := h2 2 _ rfl
        have d3 := h2 3 _ rfl
        rw [add_zero_] at d0
        rw [add_add_ _ _ _ (by decide)] at d1 d2 d3
        exact ⟨⟨n0, n1, n2, b3⟩, d0, d1, d2, d3⟩
    obtain ⟨l, e, hl2⟩ := list_of key
    exact ⟨l, e.symm, .inr ⟨a, rfl, hl2⟩, hl, hm⟩
end Go.Proofs.Ytpomlgohfgamoaa.Wind
