/- Slices of bytes: how they read, how they are cut, what an append leaves. Plain facts on worlds. -/
import Derived.Test.YtaifihoheieneaaMem
import Derived.Maps.AppendAt
import Derived.Deep.AppendLies
import Derived.RegionTactic
import Derived.OwnWalk
namespace Go.Proofs.Ytaifihoheieneaa.Mem
open Go.RowKit
set_option linter.unusedVariables false
set_option linter.unusedSimpArgs false

/-- Cells of a slice of bytes that lies in blocks from lo on, below hi. -/
def RdB (w : World) (lo hi : Nat) (A : Option Addr) (xs : List Int) : Prop :=
  xs = [] ∨ ∃ ad, A = some ad ∧ lo ≤ ad.block ∧ ad.block < hi ∧ ∀ i (h : i < xs.length), w.cell? (ad.add i) = some (.int .u8 xs[i])
theorem add_block (a : Addr) (n : Nat) : (a.add n).block = a.block := by unfold Addr.add; split <;> rfl
theorem add_add' (a : Addr) (i j : Nat) : (a.add i).add j = a.add (i + j) := by
  unfold Addr.add
  by_cases hi : i = 0 <;> by_cases hj : j = 0 <;> simp [hi, hj, Nat.add_assoc]
theorem RdB.nil (w : World) (lo hi : Nat) (A : Option Addr) : RdB w lo hi A [] := .inl rfl
theorem RdB.at_ {w : World} {lo hi : Nat} {A : Option Addr} {xs : List Int} (h : RdB w lo hi A xs) (i : Nat) (hi' : i < xs.length) :
    ∃ ad, A = some ad ∧ w.cell? (ad.add i) = some (.int .u8 xs[i]) := by
  rcases h with h | ⟨ad, e, _, _, h⟩
  · subst h; simp at hi'
  · exact ⟨ad, e, h i hi'⟩
theorem RdB.fr {w w' : World} {lo hi : Nat} {A : Option Addr} {xs : List Int} {S : Nat → Prop} (h : RdB w lo hi A xs) (f : Fr S w w') (hs : ∀ k, lo ≤ k → k < hi → ¬ S k) : RdB w' lo hi A xs := by
  rcases h with h | ⟨ad, e, h1, h2, h⟩
  · exact .inl h
  · refine .inr ⟨ad, e, h1, h2, fun i hi' => ?_⟩
    have hc := h i hi'
    have hb := World.block_lt_of_cell? w _ hc
    rw [add_block] at hb
    exact (World.cell?_of_block (a := ad.add i) (by rw [add_block]; exact f.block _ hb (hs _ h1 h2))).trans hc
theorem RdB.more {w : World} {lo hi lo' hi' : Nat} {A : Option Addr} {xs : List Int} (h : RdB w lo hi A xs) (h1 : lo' ≤ lo) (h2 : hi ≤ hi') : RdB w lo' hi' A xs := by
  rcases h with h | ⟨ad, e, g1, g2, h⟩
  · exact .inl h
  · exact .inr ⟨ad, e, by omega, by omega, h⟩
theorem RdB.take {w : World} {lo hi : Nat} {A : Option Addr} {xs : List Int} (h : RdB w lo hi A xs) (n : Nat) : RdB w lo hi A (xs.take n) := by
  rcases h with h | ⟨ad, e, g1, g2, h⟩
  · subst h; exact .inl (by simp)
  · refine .inr ⟨ad, e, g1, g2, fun i hi' => ?_⟩
    have : i < xs.length := by simp at hi'; omega
    rw [h i this]
    simp
theorem RdB.drop {w : World} {lo hi : Nat} {A : Option Addr} {xs : List Int} {n cap : Nat} (h : RdB w lo hi A xs) (hn : n ≤ xs.length) (hc : xs.length ≤ cap) :
    RdB w lo hi (if cap = n then A else A.map (·.add n)) (xs.drop n) := by
  rcases h with h | ⟨ad, rfl, g1, g2, h⟩
  · subst h; exact .inl (by simp)
  · by_cases e : n = xs.length
    · exact .inl (by simp [e])
    · rw [if_neg (by omega)]
      refine .inr ⟨ad.add n, rfl, by rw [add_block]; exact g1, by rw [add_block]; exact g2, fun i hi' => ?_⟩
      rw [add_add']
      have : n + i < xs.length := by simp at hi'; omega
      rw [h _ this]
      simp
/-- A row of bytes of the call's own. -/
abbrev byts (xs : List Int) : List Value := xs.map (Value.int .u8)
theorem byts_one (xs : List Int) : ∀ u ∈ byts xs, u.oneCell' = true := by
  intro u hu
  obtain ⟨x, _, rfl⟩ := List.mem_map.1 hu
  rfl
theorem RdB.of_own {w : World} {base : Nat} {e : TypeId} {v : Value} {xs : List Int} (h : w.ownsRow base e 1 v xs.length (byts xs)) :
    ∃ A cap, v = .slice A xs.length cap ∧ xs.length ≤ cap ∧ cap ≤ maxLen ∧ RdB w base w.heap.size A xs := by
  rcases h.2 with ⟨rfl, h0⟩ | ⟨g, cap, cur, rfl, hb, hg, hn, hm, hs, ht⟩
  · exact ⟨none, 0, by rw [h0], by omega, Nat.zero_le _, .inl (List.eq_nil_of_length_eq_zero h0)⟩
  · refine ⟨_, cap, rfl, hn, hm, .inr ⟨⟨g, 0, none⟩, rfl, hb, (Array.getElem?_eq_some_iff.1 hg).1, fun i hi => ?_⟩⟩
    rw [h.cells (g := g) rfl i (.int .u8 xs[i]) (by simp [hi])]

/-- A row of bytes of the call's own (closed to simp). -/
def OwnB (w : World) (base : Nat) (e : TypeId) (v : Value) (xs : List Int) : Prop := w.ownsRow base e 1 v xs.length (byts xs)
section
variable {P : Program} (w : World)
/-- append of bytes onto a row of the call's own, whatever the source. -/
theorem run_append_b (base : Nat) (t ty e : TypeId) (i : TypeInfo) (ht : P.underlying t = some (.slice e)) (hi : P.info? e = some i) (hz : i.zero = some (.int .u8 0)) (hsize : i.size = 1) (hby : i.bytes = 1)
    (v : Value) (xs : List Int) (hown : w.ownsRow base e 1 v xs.length (byts xs)) (lo hi' : Nat) (A : Option Addr) (c : Nat) (ys : List Int) (hr : RdB w lo hi' A ys)
    (hlen : xs.length + ys.length ≤ 140737488355328) (hbase : base ≤ w.heap.size) :
    ∃ v' w', (Builtin.append_ #[t, t] ty #[v, .slice A ys.length c]).run P w = .ok v' w' ∧ w'.ownsRow base e 1 v' (xs ++ ys).length (byts (xs ++ ys)) ∧ w.grownBy w' v.ownBlock ∧
      (v'.ownBlock = v.ownBlock ∨ v'.ownBlock = some w.heap.size) := by
  have key : ∀ ad, A = some ad → (∀ j u, (byts ys)[j]? = some u → w.cell? (ad.add j) = some u) →
      ∃ v' w', (Builtin.append_ #[t, t] ty #[v, .slice A ys.length c]).run P w = .ok v' w' ∧ w'.ownsRow base e 1 v' (xs ++ ys).length (byts (xs ++ ys)) ∧ w.grownBy w' v.ownBlock ∧
        (v'.ownBlock = v.ownBlock ∨ v'.ownBlock = some w.heap.size) := by
    rintro ad rfl hcells
    obtain ⟨v', w', hrun, h2, h3, _, h5⟩ := run_append_own_at (P := P) w base t ty e i (.int .u8 0) 1 1 ht hi hz hsize hby rfl (by decide) v xs.length (byts xs) hown ad ys.length c (byts ys) (by simp) hcells (byts_one ys)
      (by simp only [maxLen]; omega) (by omega) hbase
    refine ⟨v', w', hrun, ?_, h3, h5⟩
    have e1 : (xs ++ ys).length = xs.length + ys.length := by simp
    rw [e1]
    simpa [byts] using h2
  have hnil : ys = [] → A = none → ∃ v' w', (Builtin.append_ #[t, t] ty #[v, .slice A ys.length c]).run P w = .ok v' w' ∧ w'.ownsRow base e 1 v' (xs ++ ys).length (byts (xs ++ ys)) ∧ w.grownBy w' v.ownBlock ∧
        (v'.ownBlock = v.ownBlock ∨ v'.ownBlock = some w.heap.size) := by
    rintro rfl rfl
    refine ⟨v, w, ?_, by simpa [byts] using hown, ⟨rfl, rfl, rfl, Nat.le_refl _, fun _ _ _ => rfl⟩, .inl rfl⟩
    rcases hown.2 with ⟨rfl, h0⟩ | ⟨g, cap, cur, rfl, _, _, hnc, _⟩
    · simp [Builtin.append_, run_underlying ht, sizeOf, typeInfo, hi, Builtin.lenOf, Builtin.firstCells]
    · simp [Builtin.append_, run_underlying ht, sizeOf, typeInfo, hi, Builtin.lenOf, Builtin.firstCells, hnc, storeCells]
  rcases hr with hy | ⟨ad, e1, _, _, hc⟩
  · cases A with
    | none => exact hnil hy rfl
    | some ad => exact key ad rfl (by subst hy; intro j u hu; simp [byts] at hu)
  · refine key ad e1 fun j u hu => ?_
    have hj : j < ys.length := by
      rcases Nat.lt_or_ge j ys.length with h | h
      · exact h
      · rw [List.getElem?_eq_none (by simpa [byts] using h)] at hu; cases hu
    rw [hc j hj]
    simpa [byts, hj] using hu

theorem wpList_append_b {ops : Array Oper} {rest : List Oper} {o : Oper} {a : Act} {Q : Exit → Act → World → Prop} (hgd : o.guard = none) (s x : Operand) (t : TypeId)
    (ho : o.op = .call { callee := .builtin .append, args := #[s, x], argTypes := #[t, t] })
    (base : Nat) (e : TypeId) (i : TypeInfo) (ht : P.underlying t = some (.slice e)) (hi : P.info? e = some i) (hz : i.zero = some (.int .u8 0)) (hsize : i.size = 1) (hby : i.bytes = 1)
    (v : Value) (xs : List Int) (hs : a.eval s = v) (hown : w.ownsRow base e 1 v xs.length (byts xs))
    (lo hi' : Nat) (A : Option Addr) (n c : Nat) (ys : List Int) (hx : a.eval x = .slice A n c) (hn : n = ys.length) (hr : RdB w lo hi' A ys)
    (hlen : xs.length + ys.length ≤ 140737488355328) (hbase : base ≤ w.heap.size)
    (h : ∀ v' w', w'.ownsRow base e 1 v' (xs ++ ys).length (byts (xs ++ ys)) → w.grownBy w' v.ownBlock → (v'.ownBlock = v.ownBlock ∨ v'.ownBlock = some w.heap.size) → wpList P ops Q rest (a.put o.dst v') w') : wpList P ops Q (o :: rest) a w := by
  subst hn
  refine wpList_plain hgd fun K hK => ?_
  obtain ⟨v', w', hrun, h2, h3, h4⟩ := run_append_b (P := P) w base t o.type e i ht hi hz hsize hby v xs hown lo hi' A c ys hr hlen hbase
  unfold Oper.wp execOp
  simp only [ho, resolve, invoke, builtin, Sem.run_bind, Sem.run_pure, Result.andThen_ok, List.map_toArray, List.map_cons, List.map_nil, hs, hx, hrun]
  exact hK _ _ (h v' w' h2 h3 h4)
end
end Go.Proofs.Ytaifihoheieneaa.Mem
