/- How a law's arguments read: slices of whole numbers as lists, and how long they may be. Conditions: the row's own. -/
import Derived.SizedLaws
import Derived.ChangeSlices
import Derived.Deep.Slices
import Derived.DataReads
import Derived.Test.YtaifihoheieneaaMem
namespace Go.Proofs.Ytaifihoheieneaa.Mem
set_option linter.unusedVariables false
set_option linter.unusedSimpArgs false
open Go.ChangeShapes Go.WideShapes Go.RowKit

/-- A slice of whole numbers, as a list. -/
def ReadsI (w : World) (k : IntKind) (A : Option Addr) (xs : List Int) : Prop :=
  xs = [] ∨ ∃ ad, A = some ad ∧ ∀ i (hi : i < xs.length), w.cell? (ad.add i) = some (.int k xs[i])
theorem ReadsI.at_ {w : World} {k : IntKind} {A : Option Addr} {xs : List Int} (h : ReadsI w k A xs) (i : Nat) (hi : i < xs.length) :
    ∃ ad, A = some ad ∧ w.cell? (ad.add i) = some (.int k xs[i]) := by
  rcases h with h | ⟨ad, e, h⟩
  · subst h; simp at hi
  · exact ⟨ad, e, h i hi⟩
theorem ReadsI.keep {w w' : World} {k : IntKind} {A : Option Addr} {xs : List Int} (h : ReadsI w k A xs)
    (hk : ∀ ad i v, A = some ad → w.cell? (ad.add i) = some v → w'.cell? (ad.add i) = some v) : ReadsI w' k A xs := by
  rcases h with h | ⟨ad, e, h⟩
  · exact .inl h
  · exact .inr ⟨ad, e, fun i hi => hk ad i _ e (h i hi)⟩
theorem ReadsI.below {w w' : World} {k : IntKind} {A : Option Addr} {xs : List Int} (h : ReadsI w k A xs) (hb : Below w.heap.size w w') : ReadsI w' k A xs :=
  h.keep fun ad i v _ hc => (hb.cell (World.block_lt_of_cell? w _ hc)).trans hc

theorem reads_of_row {k : IntKind} {w : World} {a : Option Addr} {len cap : Nat} {zs : List Int}
    (h : (a = none ∧ len = 0 ∧ cap = 0 ∧ zs = []) ∨ ∃ x, a = some x ∧ len ≤ cap ∧ cap ≤ maxLen ∧ zs.length = cap ∧ (∀ i, i < zs.length → w.cell? (x.add i) = some (.int k (zs.getD i 0))) ∧ ∀ n ∈ zs, (Lit.int k n).wf = true) :
    ∃ l : List Int, len = l.length ∧ ReadsI w k a l ∧ l.length ≤ cap ∧ cap ≤ maxLen ∧ ∀ x ∈ l, (Lit.int k x).wf = true := by
  rcases h with ⟨rfl, rfl, rfl, rfl⟩ | ⟨x, rfl, h1, h2, h3, h4, h5⟩
  · exact ⟨[], rfl, .inl rfl, Nat.le_refl _, Nat.zero_le _, fun x hx => by simp at hx⟩
  · have hl : (zs.take len).length = len := by rw [List.length_take]; omega
    refine ⟨zs.take len, hl.symm, .inr ⟨x, rfl, fun i hi => ?_⟩, by omega, h2, fun x hx => h5 x (List.mem_of_mem_take hx)⟩
    rw [hl] at hi
    rw [h4 i (by omega)]
    simp [h3 ▸ (show i < cap by omega)]

theorem reads_of_row2 {k : IntKind} {w : World} {a : Option Addr} {len cap : Nat} {zs : List Int}
    (h : (a = none ∧ len = 0 ∧ cap = 0 ∧ zs = []) ∨ ∃ x, a = some x ∧ len ≤ cap ∧ cap ≤ maxLen ∧ zs.length = cap ∧ (∀ i, i < zs.length → w.cell? (x.add i) = some (.int k (zs.getD i 0))) ∧ ∀ n ∈ zs, (Lit.int k n).wf = true) :
    ∃ l : List Int, len = l.length ∧ ReadsI w k a l ∧ l.length ≤ cap ∧ cap ≤ maxLen ∧ (∀ x ∈ l, (Lit.int k x).wf = true) ∧ (a = none → cap = 0) := by
  have hn : a = none → cap = 0 := by
    rcases h with ⟨_, _, h, _⟩ | ⟨x, rfl, _⟩
    · exact fun _ => h
    · exact fun e => by cases e
  obtain ⟨l, h1, h2, h3, h4, h5⟩ := reads_of_row h
  exact ⟨l, h1, h2, h3, h4, h5, hn⟩

theorem sized_ints {H : Type} {enc : TypeId × Value → H} {P : Program} {W : World} {base : Nat} {spare : Nat → Bool} {held : Bool} {t e : TypeId} {k : IntKind} {a : Option Addr} {len cap : Nat} {d : DataW H} {ps : List MemPlace} {ts : List TypeId} {ds : List (DataW H)} {j : Nat}
    (hsz : (DataW.weightsEach P ts ds).all (· ≤ reachBytes) = true) (ht : ts[j]? = some t) (hd : ds[j]? = some d) (hu : P.underlying t = some (.slice e)) (he : P.underlying e = some (.int k)) (hc : P.cellsOf e = 1) {B : Nat} (hB : P.bytesOf e = B)
    (h : DataW.Trod enc P W base spare held t (.slice a len cap) d ps) : len * B ≤ 140737488351232 := by
  obtain ⟨fuel, hf⟩ := h
  rcases open_ints hu he hc hf with ⟨hcs, _⟩ | ⟨x, l, c, zs, hcs, _, hl, _, hz, hx, _, _⟩
  · simp [Value.cells] at hcs
    obtain ⟨rfl, rfl, rfl⟩ := hcs
    simp
  · simp [Value.cells] at hcs
    obtain ⟨rfl, rfl, rfl⟩ := hcs
    obtain ⟨hx, _⟩ := Prod.mk.inj hx
    subst hx
    have z := sized_slice hsz ht hd hu
    rw [hB] at z
    have hl2 : len ≤ zs.length := by
      rw [hz]
      split
      · exact hl
      · exact Nat.le_refl _
    have h1 : (lits (H := H) k (zs.take len)).length + (lits (H := H) k (zs.drop len)).length = zs.length := by
      simp [lits]
      omega
    rw [h1] at z
    exact Nat.le_trans (Nat.mul_le_mul_right _ hl2) z

/-- Cells that read as data of a type, somehow. -/
def Sees (P : Program) (w : World) (t : TypeId) (cs : List Value) : Prop :=
  ∃ (H : Type) (enc : TypeId × Value → H) (base : Nat) (spare : Nat → Bool) (held : Bool) (fuel : Nat) (x : DataW H × List MemPlace), DataW.trod enc P w base spare held fuel t cs = some x
theorem sees_of {H : Type} {enc : TypeId × Value → H} {P : Program} {w : World} {base : Nat} {spare : Nat → Bool} {held : Bool} {t : TypeId} {v : Value} {d : DataW H} {ps : List MemPlace}
    (h : DataW.Trod enc P w base spare held t v d ps) : Sees P w t v.cells.toList := by
  obtain ⟨fuel, h⟩ := h
  exact ⟨H, enc, base, spare, held, fuel, _, h⟩
theorem sees_int {P : Program} {w : World} {t : TypeId} {k : IntKind} {cs : List Value} (ht : P.underlying t = some (.int k)) (h : Sees P w t cs) :
    ∃ n, cs = [.int k n] ∧ (Lit.int k n).wf = true := by
  obtain ⟨H, enc, base, spare, held, fuel, x, h⟩ := h
  cases fuel with
  | zero => simp [DataW.trod] at h
  | succ fuel =>
    unfold DataW.trod at h
    simp only [ht] at h
    split at h <;> simp_all
theorem sees_bool {P : Program} {w : World} {t : TypeId} {cs : List Value} (ht : P.underlying t = some .bool) (h : Sees P w t cs) : ∃ b, cs = [.bool b] := by
  obtain ⟨H, enc, base, spare, held, fuel, x, h⟩ := h
  cases fuel with
  | zero => simp [DataW.trod] at h
  | succ fuel =>
    unfold DataW.trod at h
    simp only [ht] at h
    split at h <;> simp_all
theorem sees_string {P : Program} {w : World} {t : TypeId} {cs : List Value} (ht : P.underlying t = some .string) (h : Sees P w t cs) : ∃ s, cs = [.string s] ∧ s.size ≤ maxLen := by
  obtain ⟨H, enc, base, spare, held, fuel, x, h⟩ := h
  cases fuel with
  | zero => simp [DataW.trod] at h
  | succ fuel =>
    unfold DataW.trod at h
    simp only [ht] at h
    split at h <;> simp_all
theorem sees_slice {P : Program} {w : World} {t e : TypeId} {cs : List Value} (ht : P.underlying t = some (.slice e)) (h : Sees P w t cs) :
    cs = [.slice none 0 0] ∨ ∃ (a : Addr) (len cap : Nat), cs = [.slice (some a) len cap] ∧ len ≤ cap ∧ cap ≤ maxLen ∧
      ∀ i, i < len → ∃ cs', cs'.length = P.cellsOf e ∧ (∀ j v, cs'[j]? = some v → w.cell? ((a.add (i * P.cellsOf e)).add j) = some v) ∧ Sees P w e cs' := by
  obtain ⟨H, enc, base, spare, held, fuel, x, h⟩ := h
  rcases Go.Deep.open_slice ht h with ⟨h1, _⟩ | ⟨a, len, cap, m, n, D, Pl, h1, _, hl, hm, hmm, _, hx⟩
  · exact .inl h1
  · refine .inr ⟨a, len, cap, h1, hl, hm, fun i hi => ?_⟩
    obtain ⟨cs', h2, h3⟩ := hx i (by rw [hmm]; split <;> omega)
    obtain ⟨_, g1, g2⟩ := World.cells?_some h2
    refine ⟨cs', g1, fun j v hv => ?_, ⟨H, enc, base, spare, held, n, _, h3⟩⟩
    have hj : j < cs'.length := by
      rcases Nat.lt_or_ge j cs'.length with h | h
      · exact h
      · rw [List.getElem?_eq_none h] at hv; cases hv
    rw [g2 j (by omega), hv]
theorem sees_struct {P : Program} {w : World} {t : TypeId} {fs : Array Field} {cs : List Value} (ht : P.underlying t = some (.struct fs)) (h : Sees P w t cs) :
    cs.length = P.cellsOf t ∧ ∀ f ∈ fs.toList, Sees P w f.type ((cs.drop f.offset).take (P.cellsOf f.type)) := by
  obtain ⟨H, enc, base, spare, held, fuel, x, h⟩ := h
  cases fuel with
  | zero => simp [DataW.trod] at h
  | succ fuel =>
    unfold DataW.trod at h
    simp only [ht] at h
    split at h
    · rename_i hl
      refine ⟨hl, fun f hf => ?_⟩
      obtain ⟨xs, hxs, _⟩ := Option.map_eq_some_iff.1 h
      have : ∀ (l : List Field) (ys : List (DataW H × List MemPlace)), l.mapM (fun f => DataW.trod enc P w base spare held fuel f.type ((cs.drop f.offset).take (P.cellsOf f.type))) = some ys → ∀ f ∈ l, ∃ y, DataW.trod enc P w base spare held fuel f.type ((cs.drop f.offset).take (P.cellsOf f.type)) = some y := by
        intro l
        induction l with
        | nil => intro ys _ f hf; simp at hf
        | cons g l ih =>
          intro ys hys f hf
          simp only [List.mapM_cons, Option.bind_eq_bind, Option.bind_eq_some_iff] at hys
          obtain ⟨y, hy, zs, hzs, _⟩ := hys
          rcases List.mem_cons.1 hf with rfl | hf
          · exact ⟨y, hy⟩
          · exact ih zs hzs f hf
      obtain ⟨y, hy⟩ := this _ _ hxs f hf
      exact ⟨H, enc, base, spare, held, fuel, y, hy⟩
    · cases h
theorem list_of {α : Type} [Inhabited α] {len : Nat} {p : Nat → α → Prop} (h : ∀ i, i < len → ∃ x, p i x) : ∃ l : List α, l.length = len ∧ ∀ i (hi : i < l.length), p i l[i] := by
  refine ⟨(List.range len).map fun i => if hi : i < len then Classical.choose (h i hi) else default, by simp, fun i hi => ?_⟩
  have hi' : i < len := by simpa using hi
  simp only [List.getElem_map, List.getElem_range, dif_pos hi']
  exact Classical.choose_spec (h i hi')
theorem add_add_ (a : Addr) (m j : Nat) (hj : 0 < j) : (a.add m).add j = ⟨(a.add m).block, (a.add m).off + j, none⟩ := by
  unfold Addr.add
  rw [if_neg (by omega)]
theorem add_zero_ (a : Addr) : a.add 0 = a := by simp [Addr.add]

end Go.Proofs.Ytaifihoheieneaa.Mem
