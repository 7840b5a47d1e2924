/- Frames: what a call may have changed ('Fr S w w''), and blocks of cells known whole; plain facts on worlds, without conditions. -/
import Derived.Below
import Derived.Deep.Draws
import Derived.WalkKit
import Derived.Maps.AppendAt
import Derived.Deep.AppendLies
import Derived.RegionTactic
import Derived.OwnWalk
import Derived.SizedLaws
import Derived.ChangeSlices
import Derived.Deep.Slices
import Derived.DataReads
import Derived.Test.YtaifihoheieneaaProg
import Derived.Laws.BytesString
import Derived.Lib.BufferRead
import Derived.Lib.SlBytesConst
import Derived.Laws.BytesArg
import Derived.Laws.MakeOwn
import Derived.Laws.OwnMore
import Derived.Deep.OwnRows
import Derived.Tactics
import Derived.Lib.ConvBytes
import Derived.Laws.Slices
import Derived.KernelRfl
import Derived.RowKit3
import Derived.Deep.LoopGhost
import Derived.Deep.QuietTactic
import Derived.BigQuiet
import Derived.WideLaws
import Derived.Deep.DeepCutAuto
import Derived.Deep.CutBlock
import Derived.Deep.RegionHeld3
import Derived.Laws.Rows
import Derived.Lib.AppendStr
import Derived.ArgAppend
import Derived.Laws.IdiomCopy
import Derived.OrdersHeld
import Derived.Laws.BitsLemmas
import Derived.RowKit
import Derived.Lib.Hide
import Derived.IntWalk
import Derived.WalkSpells
import Derived.Outline
import Derived.Lib.SlicesS
import Derived.Laws.ResultCell
namespace Go.Proofs.Ytaifihoheieneaa.Mem
open Go.RowKit

/-- Of what was there, only blocks of S may have changed. -/
structure Fr (S : Nat → Prop) (w w' : World) : Prop where
  os : w'.os = w.os
  tape : w'.tape = w.tape
  output : w'.output = w.output
  size : w.heap.size ≤ w'.heap.size
  block : ∀ k, k < w.heap.size → ¬ S k → w'.heap[k]? = w.heap[k]?

theorem Fr.refl (S : Nat → Prop) (w : World) : Fr S w w := ⟨rfl, rfl, rfl, Nat.le_refl _, fun _ _ _ => rfl⟩
theorem Fr.mono {S S' : Nat → Prop} {w w' : World} (h : Fr S w w') (hs : ∀ k, k < w.heap.size → S k → S' k) : Fr S' w w' :=
  ⟨h.os, h.tape, h.output, h.size, fun k hk hn => h.block k hk (fun hS => hn (hs k hk hS))⟩
theorem Fr.trans {S S' : Nat → Prop} {w w1 w2 : World} (h : Fr S w w1) (k : Fr S' w1 w2) (hs : ∀ k, k < w.heap.size → S' k → S k) : Fr S w w2 :=
  ⟨k.os.trans h.os, k.tape.trans h.tape, k.output.trans h.output, Nat.le_trans h.size k.size,
    fun i hi hn => (k.block i (Nat.lt_of_lt_of_le hi h.size) (fun hS => hn (hs i hi hS))).trans (h.block i hi hn)⟩
theorem Fr.drew {S : Nat → Prop} {w w1 : World} (h : Fr S w w1) : Fr S w w1.drew := ⟨h.os, h.tape, h.output, h.size, h.block⟩
theorem Fr.drewN {S : Nat → Prop} {w w1 : World} (h : Fr S w w1) (n : Nat) : Fr S w (w1.drewN n) := ⟨h.os, h.tape, h.output, h.size, h.block⟩
theorem Fr.alloc {S : Nat → Prop} {w w1 : World} (h : Fr S w w1) (o : Obj) : Fr S w (w1.alloc o) :=
  h.trans (S' := S) ⟨rfl, rfl, rfl, by simp, fun k hk _ => Below.heap_alloc _ _ _ hk⟩ (fun _ _ h => h)
theorem Fr.setCell {S : Nat → Prop} {w w1 : World} (h : Fr S w w1) {p : Addr} (hp : S p.block ∨ w.heap.size ≤ p.block) (u : Value) : Fr S w (w1.setCell p u) :=
  ⟨h.os, h.tape, h.output, by have := h.size; simpa [World.setCell] using this,
    fun k hk hn => (Below.heap_setCell w1 p u k (fun e => hp.elim (fun hp => hn (e ▸ hp)) (fun hp => by omega))).trans (h.block k hk hn)⟩
theorem Fr.grown {S : Nat → Prop} {w w1 w2 : World} {row : Option Nat} (h : Fr S w w1) (hg : w1.grownBy w2 row) (hr : ∀ k, row = some k → S k ∨ w.heap.size ≤ k) : Fr S w w2 :=
  ⟨hg.os.trans h.os, hg.tape.trans h.tape, hg.output.trans h.output, Nat.le_trans h.size hg.size,
    fun k hk hn => (hg.block k (Nat.lt_of_lt_of_le hk h.size) (fun e => (hr k e.symm).elim hn (fun h' => by omega))).trans (h.block k hk hn)⟩
theorem Fr.of_below {S : Nat → Prop} {w w' : World} (h : Below w.heap.size w w') : Fr S w w' := ⟨h.os, h.tape, h.output, h.size, fun k hk _ => h.block k hk⟩
theorem Fr.below {S : Nat → Prop} {w w' : World} (h : Fr S w w') (hs : ∀ k, k < w.heap.size → ¬ S k) : Below w.heap.size w w' :=
  ⟨h.os, h.tape, h.output, h.size, fun k hk => h.block k hk (hs k hk)⟩
/-- The frame of a piece of a call, seen from the call's begin: what the piece may change is of the call's own. -/
theorem Fr.below_then {S : Nat → Prop} {w w1 w2 : World} (h : Below w.heap.size w w1) (k : Fr S w1 w2) (hs : ∀ k, k < w.heap.size → ¬ S k) : Below w.heap.size w w2 :=
  ⟨k.os.trans h.os, k.tape.trans h.tape, k.output.trans h.output, Nat.le_trans h.size k.size, fun i hi => (k.block i (Nat.lt_of_lt_of_le hi h.size) (hs i hi)).trans (h.block i hi)⟩

abbrev nothing : Nat → Prop := fun _ => False
abbrev only (g : Nat) : Nat → Prop := fun k => k = g
theorem Fr.set_only {g : Nat} {w w1 : World} (h : Fr (only g) w w1) (i : Nat) (s : Option Nat) (u : Value) : Fr (only g) w (w1.setCell ⟨g, i, s⟩ u) := h.setCell (.inl rfl) u

/-- A block of cells, known whole. -/
def Blk (w : World) (g : Nat) (t : TypeId) (cs : Array Value) : Prop := w.heap[g]? = some (.cells cs t (0, 0))
theorem Blk.lt {w : World} {g : Nat} {t : TypeId} {cs : Array Value} (h : Blk w g t cs) : g < w.heap.size := (Array.getElem?_eq_some_iff.1 h).1
theorem Blk.cell {w : World} {g : Nat} {t : TypeId} {cs : Array Value} (h : Blk w g t cs) (i : Nat) : w.cell? ⟨g, i, none⟩ = cs[i]? := cell_of_row w g i cs t (0, 0) h
theorem Blk.frozen {w : World} {g : Nat} {t : TypeId} {cs : Array Value} (h : Blk w g t cs) (i : Nat) : w.frozen? ⟨g, i, none⟩ = false := by
  have h' : w.heap[g]? = some (.cells cs t (0, 0)) := h
  simp [World.frozen?, h']
theorem Blk.fr {S : Nat → Prop} {w w' : World} {g : Nat} {t : TypeId} {cs : Array Value} (h : Blk w g t cs) (f : Fr S w w') (hn : ¬ S g) : Blk w' g t cs :=
  (f.block g h.lt hn).trans h
theorem Blk.drewN {w : World} {g : Nat} {t : TypeId} {cs : Array Value} (h : Blk w g t cs) (n : Nat) : Blk (w.drewN n) g t cs := h
theorem Blk.drew {w : World} {g : Nat} {t : TypeId} {cs : Array Value} (h : Blk w g t cs) : Blk w.drew g t cs := h
theorem Blk.alloc {w : World} {g : Nat} {t : TypeId} {cs : Array Value} (h : Blk w g t cs) (o : Obj) : Blk (w.alloc o) g t cs := (Below.heap_alloc w o g h.lt).trans h
theorem Blk.new (w : World) (cs : Array Value) (t : TypeId) : Blk (w.alloc (.cells cs t (0, 0))) w.heap.size t cs := heap_alloc_new w _
theorem Blk.set {w : World} {g : Nat} {t : TypeId} {cs : Array Value} (h : Blk w g t cs) (i : Nat) (u : Value) : Blk (w.setCell ⟨g, i, none⟩ u) g t (cs.setIfInBounds i u) := by
  have h' : w.heap[g]? = some (.cells cs t (0, 0)) := h
  unfold Blk
  simp [World.setCell, Array.getElem?_modify, h']
theorem Blk.cast {w : World} {g : Nat} {t : TypeId} {cs cs' : Array Value} (h : Blk w g t cs) (e : cs = cs') : Blk w g t cs' := e ▸ h
theorem Blk.far {w : World} {g : Nat} {t : TypeId} {cs : Array Value} (h : Blk w g t cs) {p : Addr} (hp : g ≠ p.block) (u : Value) : Blk (w.setCell p u) g t cs := (Below.heap_setCell w p u g hp).trans h
theorem Blk.ne {w : World} {g g' : Nat} {t t' : TypeId} {cs cs' : Array Value} (h : Blk w g t cs) (h' : Blk w g' t' cs') (hne : t ≠ t') : g ≠ g' := by
  intro e; subst e
  have h1 : w.heap[g]? = some (.cells cs t (0, 0)) := h
  have h2 : w.heap[g]? = some (.cells cs' t' (0, 0)) := h'
  rw [h1] at h2
  injection h2 with h2
  injection h2 with _ h3 _
  exact hne h3

theorem max2_int (k k' : IntKind) (x y : Int) : Builtin.max2 (.int k x) (.int k' y) = pure (.int k (if x < y then y else x)) := by simp only [Builtin.max2, gt_iff_lt]
theorem min2_int (k k' : IntKind) (x y : Int) : Builtin.min2 (.int k x) (.int k' y) = pure (.int k (if y < x then y else x)) := by simp only [Builtin.min2]
theorem max_two (ats : Array TypeId) (ty : TypeId) (a b : Value) : Builtin.max_ ats ty #[a, b] = (Builtin.max2 a b >>= fun s => pure s) := by simp only [Builtin.max_, List.foldlM_cons, List.foldlM_nil]
theorem min_two (ats : Array TypeId) (ty : TypeId) (a b : Value) : Builtin.min_ ats ty #[a, b] = (Builtin.min2 a b >>= fun s => pure s) := by simp only [Builtin.min_, List.foldlM_cons, List.foldlM_nil]
def mx (a b : Int) : Int := if a < b then b else a
def mn (a b : Int) : Int := if b < a then b else a
theorem max2_mx (k k' : IntKind) (x y : Int) : Builtin.max2 (.int k x) (.int k' y) = pure (.int k (mx x y)) := by rw [max2_int]; rfl
theorem min2_mn (k k' : IntKind) (x y : Int) : Builtin.min2 (.int k x) (.int k' y) = pure (.int k (mn x y)) := by rw [min2_int]; rfl

end Go.Proofs.Ytaifihoheieneaa.Mem
namespace Go.Proofs.Ytaifihoheieneaa.Mem
open Go.RowKit
set_option linter.unusedVariables false
set_option linter.unusedSimpArgs false

/-- Cells of a slice of bytes that lies in blocks from lo on, below hi. -/
def RdB (w : World) (lo hi : Nat) (A : Option Addr) (xs : List Int) : Prop :=
  xs = [] ∨ ∃ ad, A = some ad ∧ lo ≤ ad.block ∧ ad.block < hi ∧ ∀ i (h : i < xs.length), w.cell? (ad.add i) = some (.int .u8 xs[i])
theorem add_block (a : Addr) (n : Nat) : (a.add n).block = a.block := by unfold Addr.add; split <;> rfl
theorem add_add' (a : Addr) (i j : Nat) : (a.add i).add j = a.add (i + j) := by
  unfold Addr.add
  by_cases hi : i = 0 <;> by_cases hj : j = 0 <;> simp [hi, hj, Nat.add_assoc]
theorem RdB.nil (w : World) (lo hi : Nat) (A : Option Addr) : RdB w lo hi A [] := .inl rfl
theorem RdB.at_ {w : World} {lo hi : Nat} {A : Option Addr} {xs : List Int} (h : RdB w lo hi A xs) (i : Nat) (hi' : i < xs.length) :
    ∃ ad, A = some ad ∧ w.cell? (ad.add i) = some (.int .u8 xs[i]) := by
  rcases h with h | ⟨ad, e, _, _, h⟩
  · subst h; simp at hi'
  · exact ⟨ad, e, h i hi'⟩
theorem RdB.fr {w w' : World} {lo hi : Nat} {A : Option Addr} {xs : List Int} {S : Nat → Prop} (h : RdB w lo hi A xs) (f : Fr S w w') (hs : ∀ k, lo ≤ k → k < hi → ¬ S k) : RdB w' lo hi A xs := by
  rcases h with h | ⟨ad, e, h1, h2, h⟩
  · exact .inl h
  · refine .inr ⟨ad, e, h1, h2, fun i hi' => ?_⟩
    have hc := h i hi'
    have hb := World.block_lt_of_cell? w _ hc
    rw [add_block] at hb
    exact (World.cell?_of_block (a := ad.add i) (by rw [add_block]; exact f.block _ hb (hs _ h1 h2))).trans hc
theorem RdB.more {w : World} {lo hi lo' hi' : Nat} {A : Option Addr} {xs : List Int} (h : RdB w lo hi A xs) (h1 : lo' ≤ lo) (h2 : hi ≤ hi') : RdB w lo' hi' A xs := by
  rcases h with h | ⟨ad, e, g1, g2, h⟩
  · exact .inl h
  · exact .inr ⟨ad, e, by omega, by omega, h⟩
theorem RdB.take {w : World} {lo hi : Nat} {A : Option Addr} {xs : List Int} (h : RdB w lo hi A xs) (n : Nat) : RdB w lo hi A (xs.take n) := by
  rcases h with h | ⟨ad, e, g1, g2, h⟩
  · subst h; exact .inl (by simp)
  · refine .inr ⟨ad, e, g1, g2, fun i hi' => ?_⟩
    have : i < xs.length := by simp at hi'; omega
    rw [h i this]
    simp
theorem RdB.drop {w : World} {lo hi : Nat} {A : Option Addr} {xs : List Int} {n cap : Nat} (h : RdB w lo hi A xs) (hn : n ≤ xs.length) (hc : xs.length ≤ cap) :
    RdB w lo hi (if cap = n then A else A.map (·.add n)) (xs.drop n) := by
  rcases h with h | ⟨ad, rfl, g1, g2, h⟩
  · subst h; exact .inl (by simp)
  · by_cases e : n = xs.length
    · exact .inl (by simp [e])
    · rw [if_neg (by omega)]
      refine .inr ⟨ad.add n, rfl, by rw [add_block]; exact g1, by rw [add_block]; exact g2, fun i hi' => ?_⟩
      rw [add_add']
      have : n + i < xs.length := by simp at hi'; omega
      rw [h _ this]
      simp
/-- A row of bytes of the call's own. -/
abbrev byts (xs : List Int) : List Value := xs.map (Value.int .u8)
theorem byts_one (xs : List Int) : ∀ u ∈ byts xs, u.oneCell' = true := by
  intro u hu
  obtain ⟨x, _, rfl⟩ := List.mem_map.1 hu
  rfl
theorem RdB.of_own {w : World} {base : Nat} {e : TypeId} {v : Value} {xs : List Int} (h : w.ownsRow base e 1 v xs.length (byts xs)) :
    ∃ A cap, v = .slice A xs.length cap ∧ xs.length ≤ cap ∧ cap ≤ maxLen ∧ RdB w base w.heap.size A xs := by
  rcases h.2 with ⟨rfl, h0⟩ | ⟨g, cap, cur, rfl, hb, hg, hn, hm, hs, ht⟩
  · exact ⟨none, 0, by rw [h0], by omega, Nat.zero_le _, .inl (List.eq_nil_of_length_eq_zero h0)⟩
  · refine ⟨_, cap, rfl, hn, hm, .inr ⟨⟨g, 0, none⟩, rfl, hb, (Array.getElem?_eq_some_iff.1 hg).1, fun i hi => ?_⟩⟩
    rw [h.cells (g := g) rfl i (.int .u8 xs[i]) (by simp [hi])]

/-- A row of bytes of the call's own (closed to simp). -/
def OwnB (w : World) (base : Nat) (e : TypeId) (v : Value) (xs : List Int) : Prop := w.ownsRow base e 1 v xs.length (byts xs)
section
variable {P : Program} (w : World)
/-- append of bytes onto a row of the call's own, whatever the source. -/
theorem run_append_b (base : Nat) (t ty e : TypeId) (i : TypeInfo) (ht : P.underlying t = some (.slice e)) (hi : P.info? e = some i) (hz : i.zero = some (.int .u8 0)) (hsize : i.size = 1) (hby : i.bytes = 1)
    (v : Value) (xs : List Int) (hown : w.ownsRow base e 1 v xs.length (byts xs)) (lo hi' : Nat) (A : Option Addr) (c : Nat) (ys : List Int) (hr : RdB w lo hi' A ys)
    (hlen : xs.length + ys.length ≤ 140737488355328) (hbase : base ≤ w.heap.size) :
    ∃ v' w', (Builtin.append_ #[t, t] ty #[v, .slice A ys.length c]).run P w = .ok v' w' ∧ w'.ownsRow base e 1 v' (xs ++ ys).length (byts (xs ++ ys)) ∧ w.grownBy w' v.ownBlock ∧
      (v'.ownBlock = v.ownBlock ∨ v'.ownBlock = some w.heap.size) := by
  have key : ∀ ad, A = some ad → (∀ j u, (byts ys)[j]? = some u → w.cell? (ad.add j) = some u) →
      ∃ v' w', (Builtin.append_ #[t, t] ty #[v, .slice A ys.length c]).run P w = .ok v' w' ∧ w'.ownsRow base e 1 v' (xs ++ ys).length (byts (xs ++ ys)) ∧ w.grownBy w' v.ownBlock ∧
        (v'.ownBlock = v.ownBlock ∨ v'.ownBlock = some w.heap.size) := by
    rintro ad rfl hcells
    obtain ⟨v', w', hrun, h2, h3, _, h5⟩ := run_append_own_at (P := P) w base t ty e i (.int .u8 0) 1 1 ht hi hz hsize hby rfl (by decide) v xs.length (byts xs) hown ad ys.length c (byts ys) (by simp) hcells (byts_one ys)
      (by simp only [maxLen]; omega) (by omega) hbase
    refine ⟨v', w', hrun, ?_, h3, h5⟩
    have e1 : (xs ++ ys).length = xs.length + ys.length := by simp
    rw [e1]
    simpa [byts] using h2
  have hnil : ys = [] → A = none → ∃ v' w', (Builtin.append_ #[t, t] ty #[v, .slice A ys.length c]).run P w = .ok v' w' ∧ w'.ownsRow base e 1 v' (xs ++ ys).length (byts (xs ++ ys)) ∧ w.grownBy w' v.ownBlock ∧
        (v'.ownBlock = v.ownBlock ∨ v'.ownBlock = some w.heap.size) := by
    rintro rfl rfl
    refine ⟨v, w, ?_, by simpa [byts] using hown, ⟨rfl, rfl, rfl, Nat.le_refl _, fun _ _ _ => rfl⟩, .inl rfl⟩
    rcases hown.2 with ⟨rfl, h0⟩ | ⟨g, cap, cur, rfl, _, _, hnc, _⟩
    · simp [Builtin.append_, run_underlying ht, sizeOf, typeInfo, hi, Builtin.lenOf, Builtin.firstCells]
    · simp [Builtin.append_, run_underlying ht, sizeOf, typeInfo, hi, Builtin.lenOf, Builtin.firstCells, hnc, storeCells]
  rcases hr with hy | ⟨ad, e1, _, _, hc⟩
  · cases A with
    | none => exact hnil hy rfl
    | some ad => exact key ad rfl (by subst hy; intro j u hu; simp [byts] at hu)
  · refine key ad e1 fun j u hu => ?_
    have hj : j < ys.length := by
      rcases Nat.lt_or_ge j ys.length with h | h
      · exact h
      · rw [List.getElem?_eq_none (by simpa [byts] using h)] at hu; cases hu
    rw [hc j hj]
    simpa [byts, hj] using hu

theorem wpList_append_b {ops : Array Oper} {rest : List Oper} {o : Oper} {a : Act} {Q : Exit → Act → World → Prop} (hgd : o.guard = none) (s x : Operand) (t : TypeId)
    (ho : o.op = .call { callee := .builtin .append, args := #[s, x], argTypes := #[t, t] })
    (base : Nat) (e : TypeId) (i : TypeInfo) (ht : P.underlying t = some (.slice e)) (hi : P.info? e = some i) (hz : i.zero = some (.int .u8 0)) (hsize : i.size = 1) (hby : i.bytes = 1)
    (v : Value) (xs : List Int) (hs : a.eval s = v) (hown : w.ownsRow base e 1 v xs.length (byts xs))
    (lo hi' : Nat) (A : Option Addr) (n c : Nat) (ys : List Int) (hx : a.eval x = .slice A n c) (hn : n = ys.length) (hr : RdB w lo hi' A ys)
    (hlen : xs.length + ys.length ≤ 140737488355328) (hbase : base ≤ w.heap.size)
    (h : ∀ v' w', w'.ownsRow base e 1 v' (xs ++ ys).length (byts (xs ++ ys)) → w.grownBy w' v.ownBlock → (v'.ownBlock = v.ownBlock ∨ v'.ownBlock = some w.heap.size) → wpList P ops Q rest (a.put o.dst v') w') : wpList P ops Q (o :: rest) a w := by
  subst hn
  refine wpList_plain hgd fun K hK => ?_
  obtain ⟨v', w', hrun, h2, h3, h4⟩ := run_append_b (P := P) w base t o.type e i ht hi hz hsize hby v xs hown lo hi' A c ys hr hlen hbase
  unfold Oper.wp execOp
  simp only [ho, resolve, invoke, builtin, Sem.run_bind, Sem.run_pure, Result.andThen_ok, List.map_toArray, List.map_cons, List.map_nil, hs, hx, hrun]
  exact hK _ _ (h v' w' h2 h3 h4)
end
end Go.Proofs.Ytaifihoheieneaa.Mem
namespace Go.Proofs.Ytaifihoheieneaa.Mem
set_option linter.unusedVariables false
set_option linter.unusedSimpArgs false
open Go.ChangeShapes Go.WideShapes Go.RowKit

/-- A slice of whole numbers, as a list. -/
def ReadsI (w : World) (k : IntKind) (A : Option Addr) (xs : List Int) : Prop :=
  xs = [] ∨ ∃ ad, A = some ad ∧ ∀ i (hi : i < xs.length), w.cell? (ad.add i) = some (.int k xs[i])
theorem ReadsI.at_ {w : World} {k : IntKind} {A : Option Addr} {xs : List Int} (h : ReadsI w k A xs) (i : Nat) (hi : i < xs.length) :
    ∃ ad, A = some ad ∧ w.cell? (ad.add i) = some (.int k xs[i]) := by
  rcases h with h | ⟨ad, e, h⟩
  · subst h; simp at hi
  · exact ⟨ad, e, h i hi⟩
theorem ReadsI.keep {w w' : World} {k : IntKind} {A : Option Addr} {xs : List Int} (h : ReadsI w k A xs)
    (hk : ∀ ad i v, A = some ad → w.cell? (ad.add i) = some v → w'.cell? (ad.add i) = some v) : ReadsI w' k A xs := by
  rcases h with h | ⟨ad, e, h⟩
  · exact .inl h
  · exact .inr ⟨ad, e, fun i hi => hk ad i _ e (h i hi)⟩
theorem ReadsI.below {w w' : World} {k : IntKind} {A : Option Addr} {xs : List Int} (h : ReadsI w k A xs) (hb : Below w.heap.size w w') : ReadsI w' k A xs :=
  h.keep fun ad i v _ hc => (hb.cell (World.block_lt_of_cell? w _ hc)).trans hc

theorem reads_of_row {k : IntKind} {w : World} {a : Option Addr} {len cap : Nat} {zs : List Int}
    (h : (a = none ∧ len = 0 ∧ cap = 0 ∧ zs = []) ∨ ∃ x, a = some x ∧ len ≤ cap ∧ cap ≤ maxLen ∧ zs.length = cap ∧ (∀ i, i < zs.length → w.cell? (x.add i) = some (.int k (zs.getD i 0))) ∧ ∀ n ∈ zs, (Lit.int k n).wf = true) :
    ∃ l : List Int, len = l.length ∧ ReadsI w k a l ∧ l.length ≤ cap ∧ cap ≤ maxLen ∧ ∀ x ∈ l, (Lit.int k x).wf = true := by
  rcases h with ⟨rfl, rfl, rfl, rfl⟩ | ⟨x, rfl, h1, h2, h3, h4, h5⟩
  · exact ⟨[], rfl, .inl rfl, Nat.le_refl _, Nat.zero_le _, fun x hx => by simp at hx⟩
  · have hl : (zs.take len).length = len := by rw [List.length_take]; omega
    refine ⟨zs.take len, hl.symm, .inr ⟨x, rfl, fun i hi => ?_⟩, by omega, h2, fun x hx => h5 x (List.mem_of_mem_take hx)⟩
    rw [hl] at hi
    rw [h4 i (by omega)]
    simp [h3 ▸ (show i < cap by omega)]

theorem reads_of_row2 {k : IntKind} {w : World} {a : Option Addr} {len cap : Nat} {zs : List Int}
    (h : (a = none ∧ len = 0 ∧ cap = 0 ∧ zs = []) ∨ ∃ x, a = some x ∧ len ≤ cap ∧ cap ≤ maxLen ∧ zs.length = cap ∧ (∀ i, i < zs.length → w.cell? (x.add i) = some (.int k (zs.getD i 0))) ∧ ∀ n ∈ zs, (Lit.int k n).wf = true) :
    ∃ l : List Int, len = l.length ∧ ReadsI w k a l ∧ l.length ≤ cap ∧ cap ≤ maxLen ∧ (∀ x ∈ l, (Lit.int k x).wf = true) ∧ (a = none → cap = 0) := by
  have hn : a = none → cap = 0 := by
    rcases h with ⟨_, _, h, _⟩ | ⟨x, rfl, _⟩
    · exact fun _ => h
    · exact fun e => by cases e
  obtain ⟨l, h1, h2, h3, h4, h5⟩ := reads_of_row h
  exact ⟨l, h1, h2, h3, h4, h5, hn⟩

theorem sized_ints {H : Type} {enc : TypeId × Value → H} {P : Program} {W : World} {base : Nat} {spare : Nat → Bool} {held : Bool} {t e : TypeId} {k : IntKind} {a : Option Addr} {len cap : Nat} {d : DataW H} {ps : List MemPlace} {ts : List TypeId} {ds : List (DataW H)} {j : Nat}
    (hsz : (DataW.weightsEach P ts ds).all (· ≤ reachBytes) = true) (ht : ts[j]? = some t) (hd : ds[j]? = some d) (hu : P.underlying t = some (.slice e)) (he : P.underlying e = some (.int k)) (hc : P.cellsOf e = 1) {B : Nat} (hB : P.bytesOf e = B)
    (h : DataW.Trod enc P W base spare held t (.slice a len cap) d ps) : len * B ≤ 140737488351232 := by
  obtain ⟨fuel, hf⟩ := h
  rcases open_ints hu he hc hf with ⟨hcs, _⟩ | ⟨x, l, c, zs, hcs, _, hl, _, hz, hx, _, _⟩
  · simp [Value.cells] at hcs
    obtain ⟨rfl, rfl, rfl⟩ := hcs
    simp
  · simp [Value.cells] at hcs
    obtain ⟨rfl, rfl, rfl⟩ := hcs
    obtain ⟨hx, _⟩ := Prod.mk.inj hx
    subst hx
    have z := sized_slice hsz ht hd hu
    rw [hB] at z
    have hl2 : len ≤ zs.length := by
      rw [hz]
      split
      · exact hl
      · exact Nat.le_refl _
    have h1 : (lits (H := H) k (zs.take len)).length + (lits (H := H) k (zs.drop len)).length = zs.length := by
      simp [lits]
      omega
    rw [h1] at z
    exact Nat.le_trans (Nat.mul_le_mul_right _ hl2) z

/-- Cells that read as data of a type, somehow. -/
def Sees (P : Program) (w : World) (t : TypeId) (cs : List Value) : Prop :=
  ∃ (H : Type) (enc : TypeId × Value → H) (base : Nat) (spare : Nat → Bool) (held : Bool) (fuel : Nat) (x : DataW H × List MemPlace), DataW.trod enc P w base spare held fuel t cs = some x
theorem sees_of {H : Type} {enc : TypeId × Value → H} {P : Program} {w : World} {base : Nat} {spare : Nat → Bool} {held : Bool} {t : TypeId} {v : Value} {d : DataW H} {ps : List MemPlace}
    (h : DataW.Trod enc P w base spare held t v d ps) : Sees P w t v.cells.toList := by
  obtain ⟨fuel, h⟩ := h
  exact ⟨H, enc, base, spare, held, fuel, _, h⟩
theorem sees_int {P : Program} {w : World} {t : TypeId} {k : IntKind} {cs : List Value} (ht : P.underlying t = some (.int k)) (h : Sees P w t cs) :
    ∃ n, cs = [.int k n] ∧ (Lit.int k n).wf = true := by
  obtain ⟨H, enc, base, spare, held, fuel, x, h⟩ := h
  cases fuel with
  | zero => simp [DataW.trod] at h
  | succ fuel =>
    unfold DataW.trod at h
    simp only [ht] at h
    split at h <;> simp_all
theorem sees_bool {P : Program} {w : World} {t : TypeId} {cs : List Value} (ht : P.underlying t = some .bool) (h : Sees P w t cs) : ∃ b, cs = [.bool b] := by
  obtain ⟨H, enc, base, spare, held, fuel, x, h⟩ := h
  cases fuel with
  | zero => simp [DataW.trod] at h
  | succ fuel =>
    unfold DataW.trod at h
    simp only [ht] at h
    split at h <;> simp_all
theorem sees_string {P : Program} {w : World} {t : TypeId} {cs : List Value} (ht : P.underlying t = some .string) (h : Sees P w t cs) : ∃ s, cs = [.string s] ∧ s.size ≤ maxLen := by
  obtain ⟨H, enc, base, spare, held, fuel, x, h⟩ := h
  cases fuel with
  | zero => simp [DataW.trod] at h
  | succ fuel =>
    unfold DataW.trod at h
    simp only [ht] at h
    split at h <;> simp_all
theorem sees_slice {P : Program} {w : World} {t e : TypeId} {cs : List Value} (ht : P.underlying t = some (.slice e)) (h : Sees P w t cs) :
    cs = [.slice none 0 0] ∨ ∃ (a : Addr) (len cap : Nat), cs = [.slice (some a) len cap] ∧ len ≤ cap ∧ cap ≤ maxLen ∧
      ∀ i, i < len → ∃ cs', cs'.length = P.cellsOf e ∧ (∀ j v, cs'[j]? = some v → w.cell? ((a.add (i * P.cellsOf e)).add j) = some v) ∧ Sees P w e cs' := by
  obtain ⟨H, enc, base, spare, held, fuel, x, h⟩ := h
  rcases Go.Deep.open_slice ht h with ⟨h1, _⟩ | ⟨a, len, cap, m, n, D, Pl, h1, _, hl, hm, hmm, _, hx⟩
  · exact .inl h1
  · refine .inr ⟨a, len, cap, h1, hl, hm, fun i hi => ?_⟩
    obtain ⟨cs', h2, h3⟩ := hx i (by rw [hmm]; split <;> omega)
    obtain ⟨_, g1, g2⟩ := World.cells?_some h2
    refine ⟨cs', g1, fun j v hv => ?_, ⟨H, enc, base, spare, held, n, _, h3⟩⟩
    have hj : j < cs'.length := by
      rcases Nat.lt_or_ge j cs'.length with h | h
      · exact h
      · rw [List.getElem?_eq_none h] at hv; cases hv
    rw [g2 j (by omega), hv]
theorem sees_struct {P : Program} {w : World} {t : TypeId} {fs : Array Field} {cs : List Value} (ht : P.underlying t = some (.struct fs)) (h : Sees P w t cs) :
    cs.length = P.cellsOf t ∧ ∀ f ∈ fs.toList, Sees P w f.type ((cs.drop f.offset).take (P.cellsOf f.type)) := by
  obtain ⟨H, enc, base, spare, held, fuel, x, h⟩ := h
  cases fuel with
  | zero => simp [DataW.trod] at h
  | succ fuel =>
    unfold DataW.trod at h
    simp only [ht] at h
    split at h
    · rename_i hl
      refine ⟨hl, fun f hf => ?_⟩
      obtain ⟨xs, hxs, _⟩ := Option.map_eq_some_iff.1 h
      have : ∀ (l : List Field) (ys : List (DataW H × List MemPlace)), l.mapM (fun f => DataW.trod enc P w base spare held fuel f.type ((cs.drop f.offset).take (P.cellsOf f.type))) = some ys → ∀ f ∈ l, ∃ y, DataW.trod enc P w base spare held fuel f.type ((cs.drop f.offset).take (P.cellsOf f.type)) = some y := by
        intro l
        induction l with
        | nil => intro ys _ f hf; simp at hf
        | cons g l ih =>
          intro ys hys f hf
          simp only [List.mapM_cons, Option.bind_eq_bind, Option.bind_eq_some_iff] at hys
          obtain ⟨y, hy, zs, hzs, _⟩ := hys
          rcases List.mem_cons.1 hf with rfl | hf
          · exact ⟨y, hy⟩
          · exact ih zs hzs f hf
      obtain ⟨y, hy⟩ := this _ _ hxs f hf
      exact ⟨H, enc, base, spare, held, fuel, y, hy⟩
    · cases h
theorem list_of {α : Type} [Inhabited α] {len : Nat} {p : Nat → α → Prop} (h : ∀ i, i < len → ∃ x, p i x) : ∃ l : List α, l.length = len ∧ ∀ i (hi : i < l.length), p i l[i] := by
  refine ⟨(List.range len).map fun i => if hi : i < len then Classical.choose (h i hi) else default, by simp, fun i hi => ?_⟩
  have hi' : i < len := by simpa using hi
  simp only [List.getElem_map, List.getElem_range, dif_pos hi']
  exact Classical.choose_spec (h i hi')
theorem add_add_ (a : Addr) (m j : Nat) (hj : 0 < j) : (a.add m).add j = ⟨(a.add m).block, (a.add m).off + j, none⟩ := by
  unfold Addr.add
  rw [if_neg (by omega)]
theorem add_zero_ (a : Addr) : a.add 0 = a := by simp [Addr.add]

end Go.Proofs.Ytaifihoheieneaa.Mem
namespace Go.Proofs.Ytaifihoheieneaa.Mem
open Go.RowKit
set_option linter.unusedVariables false
theorem OwnB.slice {w : World} {base : Nat} {e : TypeId} {v : Value} {xs : List Int} (h : OwnB w base e v xs) : ∃ A cap, v = .slice A xs.length cap ∧ xs.length ≤ cap ∧ (A = none → cap = 0) := by
  rcases h.2 with ⟨rfl, h0⟩ | ⟨g, cap, cur, rfl, hb, hg, hn, hm, hs, ht⟩
  · exact ⟨none, 0, by rw [h0], by omega, fun _ => rfl⟩
  · exact ⟨_, cap, rfl, hn, fun h => by cases h⟩
theorem OwnB.lt {w : World} {base : Nat} {e : TypeId} {v : Value} {xs : List Int} (h : OwnB w base e v xs) (k : Nat) (hk : v.ownBlock = some k) : k < w.heap.size := by
  rcases h.2 with ⟨rfl, h0⟩ | ⟨g, cap, cur, rfl, hb, hg, hn, hm, hs, ht⟩
  · cases hk
  · have hk' : some g = some k := hk
    injection hk' with hk'
    subst hk'
    exact (Array.getElem?_eq_some_iff.1 hg).1
theorem OwnB.ge {w : World} {base : Nat} {e : TypeId} {v : Value} {xs : List Int} (h : OwnB w base e v xs) (k : Nat) (hk : v.ownBlock = some k) : base ≤ k := by
  rcases h.2 with ⟨rfl, h0⟩ | ⟨g, cap, cur, rfl, hb, hg, hn, hm, hs, ht⟩
  · cases hk
  · have hk' : some g = some k := hk
    injection hk' with hk'
    omega
theorem OwnB.fr {w w' : World} {base : Nat} {e : TypeId} {v : Value} {xs : List Int} {S : Nat → Prop} (h : OwnB w base e v xs) (f : Fr S w w') (hs : ∀ k, v.ownBlock = some k → ¬ S k) : OwnB w' base e v xs := by
  rcases h.2 with h0 | ⟨g, cap, cur, rfl, hb, hg, rest⟩
  · exact ⟨h.1, .inl h0⟩
  · exact ⟨h.1, .inr ⟨g, cap, cur, rfl, hb, (f.block g (Array.getElem?_eq_some_iff.1 hg).1 (hs g rfl)).trans hg, rest⟩⟩
theorem OwnB.low {w : World} {base base' : Nat} {e : TypeId} {v : Value} {xs : List Int} (h : OwnB w base e v xs) (hb : base' ≤ base) : OwnB w base' e v xs := by
  rcases h.2 with h0 | ⟨g, cap, cur, rfl, hb', hg, rest⟩
  · exact ⟨h.1, .inl h0⟩
  · exact ⟨h.1, .inr ⟨g, cap, cur, rfl, by omega, hg, rest⟩⟩
/-- A row of bytes lies in no block of another element type. -/
theorem OwnB.ne {w : World} {base : Nat} {e t : TypeId} {v : Value} {xs : List Int} {g : Nat} {cs : Array Value} (h : OwnB w base e v xs) (hb : Blk w g t cs) (hne : e ≠ t) : v.ownBlock ≠ some g := by
  rcases h.2 with ⟨rfl, h0⟩ | ⟨g', cap, cur, rfl, hb', hg, rest⟩
  · intro hk; cases hk
  · intro hk
    have hk' : some g' = some g := hk
    injection hk' with hk'
    subst hk'
    exact (Blk.ne (t := e) hg hb hne) rfl
end Go.Proofs.Ytaifihoheieneaa.Mem
namespace Go.Proofs.Ytaifihoheieneaa.Octet
open Go.RowKit Go.Proofs.Ytaifihoheieneaa.Mem
set_option linter.unusedVariables false
set_option linter.unusedSimpArgs false
attribute [local go_sem] max2_mx min2_mn max_two min_two

theorem info_b : (Try.prog.info? 5).map (fun i => (i.zero, i.size, i.bytes)) = some (some (.int .u8 0), 1, 1) := by kernel_rfl
/-- A slice of bytes, as a value. -/
def SlB (w : World) (lo hi : Nat) (v : Value) (xs : List Int) : Prop :=
  ∃ A cap, v = .slice A xs.length cap ∧ xs.length ≤ cap ∧ cap ≤ maxLen ∧ (A = none → cap = 0) ∧ RdB w lo hi A xs

set_option maxHeartbeats 1000000 in
theorem clone_calls (lo hi : Nat) (v : Value) (xs : List Int) (w : World) (h : SlB w lo hi v xs) (hlen : xs.length ≤ 140737488355328) :
    Calls Try.prog 50 #[v] w fun e w' => ∃ v', e = .returned v' ∧ OwnB w' w.heap.size 5 v' xs ∧ Below w.heap.size w w' := by
  obtain ⟨A, cap, rfl, h1, h2, h3, h4⟩ := h
  unfold maxLen at h2
  obtain ⟨i0, hi0, hz0, hz1, hz2⟩ := info_parts info_b
  rcases A with _ | ad
  · have hx : xs = [] := by have := h3 rfl; exact List.eq_nil_of_length_eq_zero (by omega)
    subst hx
    obtain rfl : cap = 0 := h3 rfl
    have hnn := fun (w : World) => Lib.run_eql_slice_nil (P := Try.prog) w 29 5 none 0 0 0 0 Try.underlying29
    go_enter Try.func50, Try.ntmps50
    go_wp2
    go_ret
    exact ⟨_, rfl, ⟨rfl, .inl ⟨rfl, rfl⟩⟩, Below.refl _ _⟩
  · have hnn := fun (w : World) (n c : Nat) => Lib.run_eql_slice_nil (P := Try.prog) w 29 5 (some ad) n c 0 0 Try.underlying29
    have own0 : (w.alloc (.cells #[] 5)).ownsRow w.heap.size 5 1 (.slice (some ⟨w.heap.size, 0, none⟩) 0 0) ([] : List Int).length (byts []) :=
      ⟨rfl, .inr ⟨w.heap.size, 0, #[], rfl, Nat.le_refl _, heap_alloc_new w _, Nat.le_refl _, Nat.zero_le _, rfl, rfl⟩⟩
    have r0 : RdB (w.alloc (.cells #[] 5)) lo hi (some ad) xs := h4.fr ((Fr.refl nothing w).alloc _) (fun _ _ _ h => h)
    go_enter Try.func50, Try.ntmps50
    go_wp2_with (at_builtin; refine wpList_append_b _ rfl (.tmp 5) (.tmp 6) _ rfl w.heap.size 5 i0 Try.underlying29 hi0 hz0 hz1 hz2 _ [] rfl own0 lo hi (some ad) _ cap xs rfl rfl r0 (by simpa using hlen) (by simp) ?_; intro v' w' hown hg hat)
    go_ret
    refine ⟨v', rfl, hown, ((Below.refl _ _).alloc (Nat.le_refl _) _).grown hg (by simp) (fun k hk => by have hk' : some w.heap.size = some k := hk; injection hk' with hk'; omega)⟩

theorem SlB.fr {w w' : World} {lo hi : Nat} {v : Value} {xs : List Int} {S : Nat → Prop} (h : SlB w lo hi v xs) (f : Fr S w w') (hs : ∀ k, lo ≤ k → k < hi → ¬ S k) : SlB w' lo hi v xs := by
  obtain ⟨A, cap, e, h1, h2, h3, h4⟩ := h
  exact ⟨A, cap, e, h1, h2, h3, h4.fr f hs⟩
theorem SlB.of_own {w : World} {base : Nat} {e : TypeId} {v : Value} {xs : List Int} (h : OwnB w base e v xs) : SlB w base w.heap.size v xs := by
  rcases h.2 with ⟨rfl, h0⟩ | ⟨g, cap, cur, rfl, hb, hg, hn, hm, hs, ht⟩
  · exact ⟨none, 0, by rw [h0], by omega, Nat.zero_le _, fun _ => rfl, .inl (List.eq_nil_of_length_eq_zero h0)⟩
  · obtain ⟨A, cap', e1, h1, h2, h3⟩ := RdB.of_own h
    injection e1 with e1 e2 e3
    subst e1; subst e3
    exact ⟨_, _, rfl, hn, hm, (fun h => by cases h), h3⟩

theorem OwnB.nil (w : World) (base : Nat) (e : TypeId) : OwnB w base e (.slice none 0 0) [] := ⟨rfl, .inl ⟨rfl, rfl⟩⟩
def IsB (xs : List Int) : Prop := ∀ x ∈ xs, 0 ≤ x ∧ x < 256
/-- The string of bytes. -/
def bstr (xs : List Int) : ByteArray := xs.foldl (fun r n => r.push (UInt8.ofNat n.toNat)) ByteArray.empty
theorem string_rd (w : World) (lo hi : Nat) (A : Option Addr) (c : Nat) (xs : List Int) (h : RdB w lo hi A xs) (hn : A = none → c = 0 ∧ xs = []) :
    (convert 29 9 (.slice A xs.length c)).run Try.prog w = .ok (.string (bstr xs)) w := by
  rcases A with _ | ad
  · obtain ⟨rfl, rfl⟩ := hn rfl
    exact Lib.run_convert_nil_bytes w 29 9 5 0 Try.underlying29 Try.underlying5 Try.underlying9
  · rw [run_convert_bytes_string w 29 9 5 _ _ _ Try.underlying29 Try.underlying5 Try.underlying9]
    refine run_bytesToString w ad _ _ xs ?_
    have := run_loadCells_list (P := Try.prog) w ad (xs.map (Value.int .u8)) (fun j v hj => by
      rcases h with rfl | ⟨ad', e, _, _, h⟩
      · simp at hj
      · injection e with e
        subst e
        have hl : j < xs.length := by
          rcases Nat.lt_or_ge j xs.length with h' | h'
          · exact h'
          · rw [List.getElem?_eq_none (by simpa using h')] at hj; cases hj
        rw [h j hl]
        simpa [hl] using hj)
    simpa using this
theorem OwnB.str {w : World} {base : Nat} {v : Value} {xs : List Int} (h : OwnB w base 5 v xs) :
    ∃ A n cap, v = .slice A n cap ∧ n = xs.length ∧ (convert 29 9 (.slice A n cap)).run Try.prog w = .ok (.string (bstr xs)) w := by
  obtain ⟨A, cap, rfl, h1, h2, h3, h4⟩ := SlB.of_own h
  exact ⟨A, _, cap, rfl, rfl, string_rd w _ _ A cap xs h4 (fun e => ⟨h3 e, List.eq_nil_of_length_eq_zero (by have := h3 e; omega)⟩)⟩
/-- A literal of bytes, converted. -/
theorem lit_slb (w : World) (cs : Array Value) (f : Nat × Nat) (ys : List Int) (hn : ys ≠ []) (hl : ys.length ≤ maxLen) (hcs : ∀ i (hi : i < ys.length), cs[i]? = some (.int .u8 ys[i])) :
    SlB (w.alloc (.cells cs 5 f)) 0 (w.heap.size + 1) (.slice (some ⟨w.heap.size, 0, none⟩) ys.length ys.length) ys := by
  refine ⟨_, _, rfl, Nat.le_refl _, hl, (fun h => by cases h), .inr ⟨_, rfl, Nat.zero_le _, Nat.lt_succ_self _, fun i hi => ?_⟩⟩
  have hc := cell_of_row (w.alloc (.cells cs 5 f)) w.heap.size i cs 5 f (heap_alloc_new w _)
  rw [hcs i hi] at hc
  rw [← hc]
  by_cases h0 : i = 0
  · subst h0; rfl
  · simp [Addr.add, h0]

theorem OwnB.rise {w : World} {b0 base : Nat} {e : TypeId} {v : Value} {xs : List Int} (h : OwnB w b0 e v xs) (hb : ∀ k, v.ownBlock = some k → base ≤ k) : OwnB w base e v xs := by
  rcases h.2 with h0 | ⟨g, cap, cur, rfl, hb', hg, rest⟩
  · exact ⟨h.1, .inl h0⟩
  · exact ⟨h.1, .inr ⟨g, cap, cur, rfl, hb g rfl, hg, rest⟩⟩
theorem Bl.trans {b : Nat} {w w1 w2 : World} (h : Below b w w1) (k : Below b w1 w2) : Below b w w2 :=
  ⟨k.os.trans h.os, k.tape.trans h.tape, k.output.trans h.output, Nat.le_trans h.size k.size, fun i hi => (k.block i hi).trans (h.block i hi)⟩
theorem Bl.low {b b' : Nat} {w w1 : World} (h : Below b w w1) (hb : b' ≤ b) : Below b' w w1 := ⟨h.os, h.tape, h.output, h.size, fun i hi => h.block i (by omega)⟩
theorem Bl.of_fr {b : Nat} {w w1 : World} {S : Nat → Prop} (f : Fr S w w1) (hb : b ≤ w.heap.size) (hs : ∀ k, S k → b ≤ k) : Below b w w1 :=
  ⟨f.os, f.tape, f.output, f.size, fun i hi => f.block i (by omega) (fun h => by have := hs i h; omega)⟩
theorem Bl.fr {b : Nat} {w w1 : World} (f : Below b w w1) : Fr (fun k => b ≤ k) w w1 := ⟨f.os, f.tape, f.output, f.size, fun i _ hn => f.block i (by omega)⟩
theorem rdb_of {w : World} {A : Option Addr} {xs : List Int} (h : ReadsI w .u8 A xs) : RdB w 0 w.heap.size A xs := by
  rcases h with h | ⟨ad, e, h⟩
  · exact .inl h
  · rcases Nat.eq_zero_or_pos xs.length with h0 | h0
    · exact .inl (List.eq_nil_of_length_eq_zero h0)
    · refine .inr ⟨ad, e, Nat.zero_le _, ?_, h⟩
      have := World.block_lt_of_cell? w _ (h 0 h0)
      rwa [add_block] at this
theorem slb_cut {w : World} {A : Option Addr} {xs : List Int} {cap : Nat} (h : ReadsI w .u8 A xs) (hc : xs.length ≤ cap) (hm : cap ≤ maxLen) (hn : A = none → cap = 0) (K : Nat) (hK : K ≤ xs.length) :
    SlB w 0 w.heap.size (.slice A K cap) (xs.take K) := by
  have e : (xs.take K).length = K := by simp; omega
  exact ⟨A, cap, by rw [e], by omega, hm, hn, (rdb_of h).take K⟩
theorem SlB.bl {w w' : World} {lo hi base : Nat} {v : Value} {xs : List Int} (h : SlB w lo hi v xs) (f : Below base w w') (hb : hi ≤ base) : SlB w' lo hi v xs := by
  exact h.fr (Bl.fr f) (fun k _ h2 h3 => by omega)

def um (x m : Int) : Int := wrap64 ((IntKind.u64.wrap x).tmod m)
theorem um_range (x m : Int) (h0 : 0 < m) (h1 : m ≤ 1000000) : 0 ≤ um x m ∧ um x m < m := by
  have e : IntKind.u64.wrap x = x % 18446744073709551616 := by simp [IntKind.wrap, IntKind.bits, IntKind.signed]
  unfold um
  rw [e, Int.tmod_eq_emod_of_nonneg (by omega)]
  have h2 := Int.emod_nonneg (x % 18446744073709551616) (show m ≠ 0 by omega)
  have h3 := Int.emod_lt_of_pos (x % 18446744073709551616) h0
  unfold wrap64
  omega
theorem range_u8 (x : Int) (h : (Lit.int .u8 x).wf = true) : 0 ≤ x ∧ x < 256 := by
  simp [Lit.wf, IntKind.min, IntKind.max, IntKind.bits, IntKind.signed] at h
  omega
set_option maxRecDepth 100000 in
theorem slb_str {w : World} {lo hi : Nat} {A : Option Addr} {n cap : Nat} {xs : List Int} (h : SlB w lo hi (.slice A n cap) xs) :
    (convert 29 9 (.slice A n cap)).run Try.prog w = .ok (.string (bstr xs)) w := by
  obtain ⟨A', cap', e, h1, h2, h3, h4⟩ := h
  injection e with e1 e2 e3
  subst e1; subst e2; subst e3
  exact string_rd w _ _ A cap xs h4 (fun e => ⟨h3 e, List.eq_nil_of_length_eq_zero (by have := h3 e; omega)⟩)
/-- A cell of a row of its own: it reads, it is written. -/
theorem own_at {w : World} {m : Nat} {A : Option Addr} {n cap : Nat} {bs : List Int} (h : OwnB w m 5 (.slice A n cap) bs) (k : Nat) (hk : k < n) :
    ∃ ad, A = some ad ∧ (∃ x, w.cell? (ad.add k) = some (.int .u8 x)) ∧ w.frozen? (ad.add k) = false ∧ m ≤ (ad.add k).block ∧ (∀ g, (ad.add k).block = g → (Value.slice A n cap).ownBlock = some g) ∧
      ∀ x, ∃ bs', OwnB (w.setCell (ad.add k) (.int .u8 x)) m 5 (.slice A n cap) bs' := by
  have h0 := h
  rcases h.2 with ⟨e, h1⟩ | ⟨g, cap', cur, e, hb, hg, hn, hm, hs, ht⟩
  · injection e with e1 e2 e3; omega
  · injection e with e1 e2 e3
    subst e1; subst e2; subst e3
    have ea : (⟨g, 0, none⟩ : Addr).add k = ⟨g, k, none⟩ := by
      by_cases h : k = 0
      · subst h; rfl
      · simp [Addr.add, h]
    have h' : w.ownsRow m 5 1 (.slice (some ⟨g, 0, none⟩) bs.length cap) bs.length (byts bs) := h
    refine ⟨_, rfl, ⟨bs[k]'(by omega), ?_⟩, ?_, ?_, ?_, fun x => ⟨bs.set k x, ?_⟩⟩
    · rw [ea, h'.cellAt k (by omega)]; simp [byts, hk]
    · rw [ea]; exact h'.frozenAt k
    · rw [ea]; exact hb
    · rw [ea]; rintro g' rfl; rfl
    · rw [ea]
      have s := (h'.stored k (.int .u8 x)).1
      unfold OwnB
      rw [List.length_set]
      simpa [byts, List.map_set] using s
/-- Where the row lies behind a method. -/
def At (w w' : World) (v v' : Value) : Prop := v'.ownBlock = v.ownBlock ∨ ∃ b, v'.ownBlock = some b ∧ w.heap.size ≤ b ∧ b < w'.heap.size
/-- What an append to a row may change. -/
def OfV (v : Value) : Nat → Prop := fun k => v.ownBlock = some k
/-- A row behind appends that began with v at w. -/
def AppP (w : World) (v : Value) (zs : List Int) (v' : Value) (w' : World) : Prop := OwnB w' 0 5 v' zs ∧ At w w' v v' ∧ Fr (OfV v) w w'
theorem At.trans {w w1 w2 : World} {v v1 v2 : Value} (h : At w w1 v v1) (f : w.heap.size ≤ w1.heap.size) (h2 : At w1 w2 v1 v2) (f2 : w1.heap.size ≤ w2.heap.size) : At w w2 v v2 := by
  rcases h2 with e | ⟨b, e, e2, e3⟩
  · rcases h with e' | ⟨b', e1', e2', e3'⟩
    · exact .inl (e.trans e')
    · exact .inr ⟨b', e.trans e1', e2', Nat.lt_of_lt_of_le e3' f2⟩
  · exact .inr ⟨b, e, Nat.le_trans f e2, e3⟩
theorem At.fr {w w1 w2 : World} {v v1 : Value} (h : At w w1 v v1) (f : Fr (OfV v) w w1) (f2 : Fr (OfV v1) w1 w2) : Fr (OfV v) w w2 :=
  f.trans f2 (fun k hk hS => by
    rcases h with e' | ⟨b', e1', e2', _⟩
    · exact (e' ▸ hS : v.ownBlock = some k)
    · have hS' : v1.ownBlock = some k := hS
      rw [e1'] at hS'; injection hS' with e; omega)
theorem AppP.refl {w : World} {v : Value} {zs : List Int} (h : OwnB w 0 5 v zs) : AppP w v zs v w := ⟨h, .inl rfl, Fr.refl _ _⟩
theorem AppP.trans {w w1 w2 : World} {v v1 v2 : Value} {zs zs2 : List Int} (h : AppP w v zs v1 w1) (h2 : AppP w1 v1 zs2 v2 w2) : AppP w v zs2 v2 w2 :=
  ⟨h2.1, h.2.1.trans h.2.2.size h2.2.1 h2.2.2.size, h.2.1.fr h.2.2 h2.2.2⟩
theorem AppP.alloc {w w1 : World} {v v1 : Value} {zs : List Int} (h : AppP w v zs v1 w1) (o : Obj) : AppP w v zs v1 (w1.alloc o) :=
  h.trans ⟨OwnB.fr h.1 (S := nothing) ((Fr.refl _ _).alloc o) (fun _ _ h => h), .inl rfl, (Fr.refl _ _).alloc o⟩
theorem AppP.of_grown {w w' : World} {v v' : Value} {zs : List Int} (hown : w'.ownsRow 0 5 1 v' zs.length (byts zs)) (hg : w.grownBy w' v.ownBlock) (hat : v'.ownBlock = v.ownBlock ∨ v'.ownBlock = some w.heap.size) : AppP w v zs v' w' := by
  have hown' : OwnB w' 0 5 v' zs := hown
  refine ⟨hown', ?_, (Fr.refl _ w).grown hg fun k hk => .inl hk⟩
  rcases hat with e | e
  · exact .inl e
  · exact .inr ⟨_, e, Nat.le_refl _, OwnB.lt hown' _ e⟩
theorem AppP.shape {w w1 : World} {v v1 : Value} {zs : List Int} (h : AppP w v zs v1 w1) : ∃ A cap, v1 = .slice A zs.length cap := by
  obtain ⟨A, cap, e, _⟩ := OwnB.slice h.1; exact ⟨A, cap, e⟩
/-- A row from nothing on lies in new memory. -/
theorem AppP.new {w w1 : World} {v1 : Value} {zs : List Int} (h : AppP w (.slice none 0 0) zs v1 w1) : OwnB w1 w.heap.size 5 v1 zs ∧ Below w.heap.size w w1 := by
  refine ⟨OwnB.rise h.1 (fun k hk => ?_), h.2.2.below (fun k _ hS => by cases hS)⟩
  rcases h.2.1 with e | ⟨b, e, h1, _⟩
  · rw [e] at hk; cases hk
  · rw [e] at hk; injection hk with hk; omega
/-- A literal of bytes reads. -/
theorem lit_rd (w : World) (cs : Array Value) (f : Nat × Nat) (ys : List Int) (hcs : ∀ i (hi : i < ys.length), cs[i]? = some (.int .u8 ys[i])) :
    RdB (w.alloc (.cells cs 5 f)) 0 (w.heap.size + 1) (some ⟨w.heap.size, 0, none⟩) ys := by
  refine .inr ⟨_, rfl, Nat.zero_le _, Nat.lt_succ_self _, fun i hi => ?_⟩
  have hc := cell_of_row (w.alloc (.cells cs 5 f)) w.heap.size i cs 5 f (heap_alloc_new w _)
  rw [hcs i hi] at hc
  rw [← hc]
  by_cases h0 : i = 0
  · subst h0; rfl
  · simp [Addr.add, h0]
def lenV : Value → Nat
  | .slice _ n _ => n
  | _ => 0

end Go.Proofs.Ytaifihoheieneaa.Octet
namespace Go.Proofs.Ytaifihoheieneaa.Zer
open Go Go.RowKit
set_option linter.unusedVariables false
set_option linter.unusedSimpArgs false
section
variable {P : Program}
theorem add_plain (g j : Nat) : (⟨g, 0, none⟩ : Addr).add j = ⟨g, j, none⟩ := by unfold Addr.add; split <;> simp_all

theorem setCells_far {g : Nat} : ∀ (vs : List Value) (o : Nat) {w : World} (k : Nat), k ≠ g → (w.setCells g o vs).heap[k]? = w.heap[k]?
  | [], _, _, _, _ => rfl
  | v :: r, o, w, k, hk => by
    rw [World.setCells, setCells_far r (o + 1) k hk]
    exact Below.heap_setCell w ⟨g, o, none⟩ v k hk
theorem blk_frozen {w : World} {g : Nat} {t : TypeId} {cs : Array Value} (h : w.heap[g]? = some (.cells cs t (0, 0))) (i : Nat) : w.frozen? ⟨g, i, none⟩ = false := by simp [World.frozen?, h]
theorem setCells_same (g : Nat) : ∀ (vs : List Value) (o : Nat) (w : World), (w.setCells g o vs).os = w.os ∧ (w.setCells g o vs).tape = w.tape ∧ (w.setCells g o vs).output = w.output ∧ (w.setCells g o vs).heap.size = w.heap.size
  | [], _, _ => ⟨rfl, rfl, rfl, rfl⟩
  | v :: r, o, w => by
    obtain ⟨h1, h2, h3, h4⟩ := setCells_same g r (o + 1) (w.setCell ⟨g, o, none⟩ v)
    rw [World.setCells]
    exact ⟨h1, h2, h3, by rw [h4]; simp [World.setCell]⟩
theorem blk_set {w : World} {g : Nat} {t : TypeId} {cs : Array Value} (h : w.heap[g]? = some (.cells cs t (0, 0))) (i : Nat) (u : Value) : (w.setCell ⟨g, i, none⟩ u).heap[g]? = some (.cells (cs.setIfInBounds i u) t (0, 0)) := by
  simp [World.setCell, Array.getElem?_modify, h]
theorem setCells_row {g : Nat} {e : TypeId} : ∀ (vs : List Value) (o : Nat) (w : World) (cur : Array Value), w.heap[g]? = some (.cells cur e (0, 0)) → o + vs.length ≤ cur.size →
    ∃ cur', (w.setCells g o vs).heap[g]? = some (.cells cur' e (0, 0)) ∧ cur'.size = cur.size ∧ cur'.toList = cur.toList.take o ++ vs ++ cur.toList.drop (o + vs.length)
  | [], o, w, cur, h, _ => ⟨cur, h, rfl, by simp⟩
  | v :: r, o, w, cur, h, hl => by
    have h2 := blk_set h o v
    simp only [List.length_cons] at hl
    obtain ⟨cur', h3, h4, h5⟩ := setCells_row r (o + 1) (w.setCell ⟨g, o, none⟩ v) _ h2 (by simp; omega)
    refine ⟨cur', h3, by rw [h4]; simp, ?_⟩
    rw [h5, Array.toList_setIfInBounds]
    have ho : o < cur.toList.length := by rw [Array.length_toList]; omega
    rw [List.take_set, List.drop_set_of_lt (by omega)]
    simp only [List.length_cons]
    rw [show o + 1 + r.length = o + (r.length + 1) by omega]
    congr 1
    rw [List.take_succ_eq_append_getElem ho, List.set_append_right _ _ (by rw [List.length_take]; omega)]
    have ho' : o < cur.size := by omega
    simp [Nat.min_eq_left (Nat.le_of_lt ho')]
theorem run_append_zeros (w : World) (base : Nat) (t ti ty e : TypeId) (i : TypeInfo) (z : Value) (size bytes : Nat) (ht : P.underlying t = some (.slice e)) {k : IntKind} (hti : P.underlying ti = some (.int k)) (hi : P.info? e = some i) (hz : i.zero = some z)
    (hsize : i.size = size) (hby : i.bytes = bytes) (hzs : z.cells.size = size) (hsz : 0 < size) (hb0 : 0 < bytes)
    (v : Value) (n : Nat) (xs : List Value) (hown : w.ownsRow base e size v n xs) (kx : IntKind) (m : Nat) (h1 : ∀ u ∈ (Builtin.zeroCells z.cells m).toList, u.oneCell' = true)
    (hbytes : (n + m) * bytes ≤ 140737488355328) (hbase : base ≤ w.heap.size) :
    ∃ v' w', (Builtin.append_ #[t, ti] ty #[v, .int kx m]).run P w = .ok v' w' ∧ w'.ownsRow base e size v' (n + m) (xs ++ (Builtin.zeroCells z.cells m).toList) ∧ w.grownBy w' v.ownBlock ∧
      (v'.ownBlock = v.ownBlock ∨ v'.ownBlock = some w.heap.size) := by
  subst hsize
  subst hby
  have hle : n + m ≤ 140737488355328 := Nat.le_trans (Nat.le_mul_of_pos_right _ hb0) hbytes
  have h63 : n + m ≤ maxLen := by simp only [maxLen]; omega
  have hw : IntKind.i64.wrap (m : Int) = m := by rw [IntKind.wrap_i64]; omega
  have hw0 : IntKind.i64.wrap 0 = 0 := by rw [IntKind.wrap_i64]; rfl
  have hneg : ¬ ((m : Int) < 0) := by omega
  have hmb : m * i.bytes ≤ 140737488355328 := Nat.le_trans (Nat.mul_le_mul_right _ (Nat.le_add_left m n)) hbytes
  have hbig : ¬ (281474976710656 < (m : Int) * (i.bytes : Int)) := by
    rw [← Int.natCast_mul]
    omega
  have hsn : i.size ≠ 0 := by omega
  obtain ⟨news, hnews⟩ : ∃ news, news = (Builtin.zeroCells z.cells m).toList := ⟨_, rfl⟩
  rw [← hnews] at h1 ⊢
  have hl : news.length = m * i.size := by rw [hnews, Array.length_toList, size_zeroCells, hzs]
  have hna : Builtin.zeroCells z.cells m = news.toArray := by rw [hnews]
  have hlen : (xs ++ news).length = (n + m) * i.size := by rw [List.length_append, hown.1, hl, Nat.add_mul]
  have hnil : m = 0 → news = [] := fun h => List.eq_nil_of_length_eq_zero (by rw [hl, h, Nat.zero_mul])
  have grown : ∀ (old : Nat), old < n + m → ∀ (row : Option Nat),
      (w.drew.alloc (.cells (xs.toArray ++ news.toArray ++ Builtin.zeroCells z.cells (grownCap w (n + m) old e - (n + m))) e)).ownsRow base e i.size
        (.slice (some ⟨w.heap.size, 0, none⟩) (n + m) (grownCap w (n + m) old e)) (n + m) (xs ++ news) ∧
      w.grownBy (w.drew.alloc (.cells (xs.toArray ++ news.toArray ++ Builtin.zeroCells z.cells (grownCap w (n + m) old e - (n + m))) e)) row := by
    intro old ho row
    have hge := grownCap_ge w (n + m) old e
    have hcm : grownCap w (n + m) old e ≤ maxLen := grownCap_le_maxLen w (n + m) old e h63
    refine ⟨⟨hlen, .inr ⟨w.heap.size, _, _, rfl, hbase, heap_alloc_new w.drew _, hge, hcm, ?_, ?_⟩⟩, ⟨rfl, rfl, rfl, by simp, fun k hk _ => heap_alloc_old w.drew _ hk⟩⟩
    · simp only [Array.size_append, List.size_toArray, size_zeroCells, hzs, hown.1, hl, ← Nat.add_mul]
      congr 1
      omega
    · simp only [Array.toList_append, List.append_assoc]
      rw [← List.append_assoc, ← hlen]
      exact List.take_left
  have runs : ∀ (A : Option Addr) (cap : Nat), cap < n + m → (Builtin.firstCells i.size n (.slice A n cap)).run P w.drew = .ok xs.toArray w.drew → (Builtin.append_ #[t, ti] ty #[.slice A n cap, .int kx m]).run P w =
      .ok (.slice (some ⟨w.heap.size, 0, none⟩) (n + m) (grownCap w (n + m) cap e)) (w.drew.alloc (.cells (xs.toArray ++ news.toArray ++ Builtin.zeroCells z.cells (grownCap w (n + m) cap e - (n + m))) e)) := by
    intro A cap hcap hfo
    have hn : ¬ (n + m ≤ cap) := by omega
    have h63' : ¬ (9223372036854775807 < ((n : Int) + (m : Int))) := by omega
    have hfit := growslice_fits hcap hbytes
    have h48' : ¬ (281474976710656 < Builtin.nextslicecap (n + m) cap * i.bytes) := by omega
    by_cases hm : m = 0
    · have hnl := hnil hm
      subst hm
      rw [hnl]
      simp only [Nat.add_zero] at hn h63' h48' ⊢
      have h63'' : ¬ (9223372036854775807 < (n : Int)) := by omega
      simp [Builtin.append_, run_underlying ht, run_underlying hti, sizeOf, typeInfo, zeroValue, hi, hz, asInt, asIntOf, hw0, hn, h63'', h48', Question.forced, hfo, newRow, grownCap]
    · have hmz : ¬ (m * i.size = 0) := Nat.mul_ne_zero hm hsn
      simp [Builtin.append_, run_underlying ht, run_underlying hti, sizeOf, typeInfo, zeroValue, hi, hz, asInt, asIntOf, hw, hneg, hbig, hn, h63', h48', Question.forced, hfo, newRow, grownCap, hmz, hna]
      congr 2
      apply Array.ext'
      simp [List.append_assoc]
  rcases hown.2 with ⟨rfl, rfl⟩ | ⟨g, cap, cur, rfl, hbg, hg, hnc, hcm, hcs, htake⟩
  · have hx : xs = [] := List.eq_nil_of_length_eq_zero (by simpa using hown.1)
    subst hx
    by_cases hm : m = 0
    · have hnl := hnil hm
      subst hm
      rw [hnl]
      refine ⟨.slice none 0 0, w, ?_, World.ownsRow_nil w base e i.size, ⟨rfl, rfl, rfl, Nat.le_refl _, fun _ _ _ => rfl⟩, Or.inl rfl⟩
      simp [Builtin.append_, run_underlying ht, run_underlying hti, sizeOf, typeInfo, hi, asInt, asIntOf, hw0]
    · have hgr := grown 0 (by omega) (Value.ownBlock (.slice none 0 0))
      exact ⟨_, _, runs none 0 (by omega) (by simp [Builtin.firstCells]), hgr.1, hgr.2, Or.inr rfl⟩
  · by_cases hroom : n + m ≤ cap
    · have hfit : n * i.size + news.length ≤ cur.size := by rw [hl, hcs, ← Nat.add_mul]; exact Nat.mul_le_mul_right _ hroom
      obtain ⟨cur', h3, h4, h5⟩ := setCells_row news (n * i.size) w cur hg hfit
      obtain ⟨s1, s2, s3, s4⟩ := setCells_same g news (n * i.size) w
      have hst := run_storeCells_cells (P := P) g (n * i.size) news 0 w (fun j hj => by rw [cell_of_row w g _ cur e (0, 0) hg]; simp; omega) (fun j _ => blk_frozen hg _) h1
      simp only [Nat.add_zero] at hst
      refine ⟨.slice (some ⟨g, 0, none⟩) (n + m) cap, w.setCells g (n * i.size) news, ?_, ⟨hlen, .inr ⟨g, cap, cur', rfl, hbg, h3, hroom, hcm, by rw [h4, hcs], ?_⟩⟩, ⟨s1, s2, s3, by rw [s4]; exact Nat.le_refl _, fun k _ hk => setCells_far news _ k (fun e => hk (by simp [Value.ownBlock, e]))⟩, Or.inl rfl⟩
      · by_cases hm : m = 0
        · have hnl := hnil hm
          subst hm
          rw [hnl] at hst ⊢
          simp [Builtin.append_, run_underlying ht, run_underlying hti, sizeOf, typeInfo, hi, asInt, asIntOf, hw0, hnc, add_plain, hst]
        · have hmz : ¬ (m * i.size = 0) := Nat.mul_ne_zero hm hsn
          simp [Builtin.append_, run_underlying ht, run_underlying hti, sizeOf, typeInfo, zeroValue, hi, hz, asInt, asIntOf, hw, hneg, hbig, hroom, hmz, hna, add_plain, hst]
      · rw [h5]
        have h6 : cur.toList.take (n * i.size) = xs := htake
        rw [h6, ← hlen]
        exact List.take_left
    · have holds : ∀ j u, xs[j]? = some u → w.cell? ((⟨g, 0, none⟩ : Addr).add j) = some u := hown.cells (g := g) rfl
      have hgr := grown cap (by omega) (Value.ownBlock (.slice (some ⟨g, 0, none⟩) n cap))
      exact ⟨_, _, runs (some ⟨g, 0, none⟩) cap (by omega) (run_firstCells_some (P := P) w.drew i.size n _ n cap xs hown.1 (by simpa using holds)), hgr.1, hgr.2, Or.inr rfl⟩
end
end Go.Proofs.Ytaifihoheieneaa.Zer
namespace Go.Proofs.Ytaifihoheieneaa.Octet
set_option linter.unusedVariables false
set_option linter.unusedSimpArgs false
def u8s (xs : List Int) : List UInt8 := xs.map fun n => UInt8.ofNat n.toNat
theorem foldl_push (xs : List Int) (r : ByteArray) : (xs.foldl (fun r n => r.push (UInt8.ofNat n.toNat)) r).data.toList = r.data.toList ++ u8s xs := by
  induction xs generalizing r with
  | nil => simp [u8s]
  | cons x xs ih =>
    rw [List.foldl_cons, ih]
    simp [u8s, ByteArray.push]
theorem bstr_data (xs : List Int) : (bstr xs).data.toList = u8s xs := by
  unfold bstr
  rw [foldl_push]
  rw [show ByteArray.empty.data.toList = [] from rfl, List.nil_append]
theorem bstr_list (xs : List Int) : (bstr xs).toList = u8s xs := by rw [ByteArray.toList_eq]; exact bstr_data xs
theorem u8s_inj {xs ys : List Int} (hx : IsB xs) (hy : IsB ys) (h : u8s xs = u8s ys) : xs = ys := by
  induction xs generalizing ys with
  | nil => cases ys with
    | nil => rfl
    | cons y ys => simp [u8s] at h
  | cons x xs ih => cases ys with
    | nil => simp [u8s] at h
    | cons y ys =>
      simp only [u8s, List.map_cons, List.cons.injEq] at h
      have h1 := hx x (by simp)
      have h2 := hy y (by simp)
      have e : x.toNat = y.toNat := by
        have := congrArg UInt8.toNat h.1
        simp at this
        omega
      rw [ih (fun z hz => hx z (List.mem_cons_of_mem _ hz)) (fun z hz => hy z (List.mem_cons_of_mem _ hz)) h.2, show x = y by omega]
theorem bstr_inj {xs ys : List Int} (hx : IsB xs) (hy : IsB ys) (h : bstr xs = bstr ys) : xs = ys :=
  u8s_inj hx hy (by rw [← bstr_list, ← bstr_list, h])
/-- Two strings of bytes, as a walk holds them against one another. -/
theorem bstr_beq {xs ys : List Int} (hx : IsB xs) (hy : IsB ys) : ((bstr xs).toList == (bstr ys).toList) = decide (xs = ys) := by
  rw [bstr_list, bstr_list]
  by_cases h : xs = ys
  · subst h; simp
  · have : ¬ u8s xs = u8s ys := fun e => h (u8s_inj hx hy e)
    simp [h, this]
theorem bstr_size (xs : List Int) : (bstr xs).size = xs.length := by
  have := congrArg List.length (bstr_data xs)
  simpa [u8s] using this
theorem bstr_app (xs ys : List Int) : bstr xs ++ bstr ys = bstr (xs ++ ys) := by
  apply ByteArray.ext
  apply Array.toList_inj.1
  rw [bstr_data]
  simp [u8s, bstr_data]
end Go.Proofs.Ytaifihoheieneaa.Octet
namespace Go.Proofs.Ytaifihoheieneaa.Mem
open Go.RowKit
set_option linter.unusedVariables false
set_option linter.unusedSimpArgs false
section
variable {P : Program}
/-- A store of a whole struct into its block. -/
theorem oper_store {o : Oper} {a : Act} {w : World} {K : Act → World → Prop} {Q : Exit → Act → World → Prop} {t : TypeId} {x v : Operand} {g : Nat} {cs0 cs : Array Value} (ho : o.op = .store t x v) (hx : a.eval x = .pointer (some ⟨g, 0, none⟩)) (hv : a.eval v = .agg cs)
    (hb : Blk w g t cs0) (hi : (P.info? t).map (·.size) = some cs.size) (hs : cs0.size = cs.size) (h1 : cs.all (·.oneCell') = true) (h : K (a.put o.dst undef) (w.setRow g cs)) : o.wp P a w K Q := by
  have hr := run_storeVar_row (P := P) w g t t cs0 cs hb hi hs h1
  unfold Oper.wp execOp
  simp only [ho, hx, hv, Instr.storeAt, Instr.sureAddr, Sem.run_bind, Sem.run_pure, Result.andThen_ok, hr]
  exact h
/-- A load of a whole struct out of its block. -/
theorem oper_load {o : Oper} {a : Act} {w : World} {K : Act → World → Prop} {Q : Exit → Act → World → Prop} {t : TypeId} {x : Operand} {g : Nat} {cs : Array Value} {d : TypeDesc} (ho : o.op = .load t x) (hx : a.eval x = .pointer (some ⟨g, 0, none⟩))
    (hb : Blk w g t cs) (hu : P.underlying t = some d) (hd : (match d with | .struct _ | .array _ _ => true | _ => false) = true) (hi : (P.info? t).map (·.size) = some cs.size) (h : K (a.put o.dst (.agg cs)) w) : o.wp P a w K Q := by
  have hr := run_loadVar_row (P := P) w g t t cs (0, 0) d hb hu hd hi
  unfold Oper.wp execOp
  simp only [ho, hx, Instr.loadAt, Instr.sureAddr, Sem.run_bind, Sem.run_pure, Result.andThen_ok, hr]
  exact h
theorem blk_row {w : World} {g : Nat} {t : TypeId} {cs0 : Array Value} (cs : Array Value) (hb : Blk w g t cs0) : Blk (w.setRow g cs) g t cs := by
  obtain ⟨hlt, hv⟩ := Array.getElem?_eq_some_iff.1 hb
  show (w.heap.modify g _)[g]? = _
  rw [Array.getElem?_eq_getElem (by rw [Array.size_modify]; exact hlt), Array.getElem_modify_self, hv]
theorem fr_row {w : World} (g : Nat) (cs : Array Value) : Fr (only g) w (w.setRow g cs) := by
  refine ⟨rfl, rfl, rfl, by simp [World.setRow], fun k hk hn => ?_⟩
  have hn' : ¬ g = k := fun e => hn e.symm
  show (w.heap.modify g _)[k]? = _
  rw [Array.getElem?_modify, if_neg hn']
theorem results_blk {fn : Func} {p u : Tmp} {ty : TypeId} (h : fn.results = #[.cell p ty, .tmp u]) (tmps : Array Value) {w : World} {g : Nat} {t : TypeId} {cs : Array Value} {d : TypeDesc}
    (hp : tmps.getD p undef = .pointer (some ⟨g, 0, none⟩)) (hb : Blk w g t cs) (hu : P.underlying ty = some d) (hd : (match d with | .struct _ | .array _ _ => true | _ => false) = true) (hi : (P.info? ty).map (·.size) = some cs.size) :
    (results fn tmps).run P w = .ok (.tuple #[.agg cs, tmps.getD u undef]) w := by
  rw [results_cell_tmp h, hp]
  simp [asAddr, run_loadVar_row (P := P) w g t ty cs (0, 0) d hb hu hd hi]
end
end Go.Proofs.Ytaifihoheieneaa.Mem
namespace Go.Proofs.Ytaifihoheieneaa.Reg
open Go
set_option linter.unusedVariables false
variable {P : Program} {ops : Array Oper} {Q : Exit → Act → World → Prop} {md : Region.Mode}
/-- Each edge that binds goes to an operation of a smaller number. -/
def topo (md : Region.Mode) (ops : Array Oper) : Bool := (List.range ops.size).all fun i => ((ops[i]?).map fun o => o.after.all fun e => !Region.binds md e || decide (e.on < i)).getD true
theorem all_of_done (ht : topo md ops = true) {listed : Array Bool} (hs : listed.size = ops.size) (hr : Region.ready md ops listed = []) : ∀ i, i < ops.size → listed.getD i false = true := by
  intro i
  induction i using Nat.strongRecOn with
  | _ i ih =>
    intro hi
    have hn : i ∉ Region.ready md ops listed := by rw [hr]; simp
    rw [mem_ready] at hn
    have ho : ops[i]? = some ops[i] := Array.getElem?_eq_getElem hi
    have hlt : i < listed.size := by omega
    have e1 : ∀ d, listed.getD i d = listed[i] := fun d => by simp [hlt]
    cases hb : listed[i] with
    | true => rw [e1, hb]
    | false =>
      exfalso
      apply hn
      refine ⟨by rw [e1, hb], ops[i], ho, fun e he hbd => ?_⟩
      have h1 := List.all_eq_true.1 ht i (List.mem_range.2 hi)
      rw [ho] at h1
      have h2 := Array.all_eq_true_iff_forall_mem.1 h1 e he
      simp only [hbd, Bool.not_true, Bool.false_or, decide_eq_true_eq] at h2
      exact ih e.on h2 (by omega)
def left (listed : Array Bool) : Nat := listed.toList.count false
theorem count_set : ∀ (l : List Bool) (i : Nat), l[i]? = some false → (l.set i true).count false + 1 = l.count false
  | [], i, h => by simp at h
  | x :: l, 0, h => by simp at h; subst h; simp
  | x :: l, i + 1, h => by
    have := count_set l i (by simpa using h)
    rw [List.set_cons_succ, List.count_cons, List.count_cons]
    omega
theorem left_set {listed : Array Bool} {i : Nat} (h : listed.getD i true = false) : left (listed.setIfInBounds i true) + 1 = left listed := by
  have hi : i < listed.size := by
    rcases Nat.lt_or_ge i listed.size with h' | h'
    · exact h'
    · simp [Array.getElem?_eq_none h'] at h
  unfold left
  rw [Array.toList_setIfInBounds]
  refine count_set _ _ ?_
  rw [Array.getElem?_toList, Array.getElem?_eq_getElem hi]
  simpa [hi] using h
theorem wpAny_inv {I : Array Bool → Act → World → Prop}
    (hstep : ∀ i o listed a w, ops[i]? = some o → I listed a w → listed.getD i true = false → (∀ e ∈ o.after, Region.binds md e = true → listed.getD e.on false = true) →
      ∀ K : Act → World → Prop, (∀ a' w', I (listed.setIfInBounds i true) a' w' → K a' w') → if Region.wanted o (yielded ops a.tmps) = true then o.wp P a w K Q else K (a.put o.dst undef) w)
    (hdone : ∀ listed a w, I listed a w → Region.ready md ops listed = [] → Q .normal a w) :
    ∀ (fuel : Nat) (listed : Array Bool) (a : Act) (w : World), left listed ≤ fuel → I listed a w → wpAny P md ops Q fuel listed a w := by
  intro fuel
  induction fuel with
  | zero =>
    intro listed a w hl hI
    have hr : Region.ready md ops listed = [] := by
      cases hr : Region.ready md ops listed with
      | nil => rfl
      | cons i rs =>
        have hi : i ∈ Region.ready md ops listed := by rw [hr]; simp
        have := left_set (mem_ready.1 hi).1
        omega
    exact ⟨hr, hdone _ _ _ hI hr⟩
  | succ fuel ih =>
    intro listed a w hl hI
    refine ⟨fun hr => hdone _ _ _ hI hr, fun i hi => ?_⟩
    obtain ⟨hun, o, ho, hdeps⟩ := mem_ready.1 hi
    have := left_set hun
    exact wpOp_step ho (fun K hK => hstep i o listed a w ho hI hun hdeps K (fun a' w' h => hK a' w' (ih _ a' w' (by omega) h)))
end Go.Proofs.Ytaifihoheieneaa.Reg
