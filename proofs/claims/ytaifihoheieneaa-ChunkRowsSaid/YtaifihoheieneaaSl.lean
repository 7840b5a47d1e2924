/- Slices of bytes as values: how they read, are cloned, are strings; rows of one's own. Conditions: each names its blocks and the bounds. -/
import Derived.Test.YtaifihoheieneaaProg
import Derived.Test.YtaifihoheieneaaBytes
import Derived.Test.YtaifihoheieneaaArgs
import Derived.Laws.BytesString
import Derived.Lib.BufferRead
import Derived.Lib.SlBytesConst
import Derived.Below
import Derived.Deep.Draws
import Derived.Deep.AppendLies
import Derived.Maps.AppendAt
import Derived.OwnWalk
import Derived.Laws.BytesArg
import Derived.Laws.MakeOwn
import Derived.Laws.OwnMore
import Derived.Deep.OwnRows
import Derived.Tactics
import Derived.Lib.ConvBytes
import Derived.Laws.Slices
import Derived.WalkKit
import Derived.KernelRfl
import Derived.RowKit3
import Derived.Deep.LoopGhost
import Derived.Deep.QuietTactic
import Derived.BigQuiet
import Derived.WideLaws
import Derived.Deep.DeepCutAuto
import Derived.Deep.CutBlock
import Derived.Deep.RegionHeld3
import Derived.Laws.Rows
import Derived.Lib.AppendStr
import Derived.ArgAppend
import Derived.Laws.IdiomCopy
import Derived.OrdersHeld
import Derived.Laws.BitsLemmas
import Derived.RowKit
import Derived.RegionTactic
import Derived.Lib.Hide
import Derived.IntWalk
import Derived.WalkSpells
import Derived.Outline
namespace Go.Proofs.Ytaifihoheieneaa.Mem
open Go.RowKit
set_option linter.unusedVariables false
theorem OwnB.slice {w : World} {base : Nat} {e : TypeId} {v : Value} {xs : List Int} (h : OwnB w base e v xs) : ∃ A cap, v = .slice A xs.length cap ∧ xs.length ≤ cap ∧ (A = none → cap = 0) := by
  rcases h.2 with ⟨rfl, h0⟩ | ⟨g, cap, cur, rfl, hb, hg, hn, hm, hs, ht⟩
  · exact ⟨none, 0, by rw [h0], by omega, fun _ => rfl⟩
  · exact ⟨_, cap, rfl, hn, fun h => by cases h⟩
theorem OwnB.lt {w : World} {base : Nat} {e : TypeId} {v : Value} {xs : List Int} (h : OwnB w base e v xs) (k : Nat) (hk : v.ownBlock = some k) : k < w.heap.size := by
  rcases h.2 with ⟨rfl, h0⟩ | ⟨g, cap, cur, rfl, hb, hg, hn, hm, hs, ht⟩
  · cases hk
  · have hk' : some g = some k := hk
    injection hk' with hk'
    subst hk'
    exact (Array.getElem?_eq_some_iff.1 hg).1
theorem OwnB.ge {w : World} {base : Nat} {e : TypeId} {v : Value} {xs : List Int} (h : OwnB w base e v xs) (k : Nat) (hk : v.ownBlock = some k) : base ≤ k := by
  rcases h.2 with ⟨rfl, h0⟩ | ⟨g, cap, cur, rfl, hb, hg, hn, hm, hs, ht⟩
  · cases hk
  · have hk' : some g = some k := hk
    injection hk' with hk'
    omega
theorem OwnB.fr {w w' : World} {base : Nat} {e : TypeId} {v : Value} {xs : List Int} {S : Nat → Prop} (h : OwnB w base e v xs) (f : Fr S w w') (hs : ∀ k, v.ownBlock = some k → ¬ S k) : OwnB w' base e v xs := by
  rcases h.2 with h0 | ⟨g, cap, cur, rfl, hb, hg, rest⟩
  · exact ⟨h.1, .inl h0⟩
  · exact ⟨h.1, .inr ⟨g, cap, cur, rfl, hb, (f.block g (Array.getElem?_eq_some_iff.1 hg).1 (hs g rfl)).trans hg, rest⟩⟩
theorem OwnB.low {w : World} {base base' : Nat} {e : TypeId} {v : Value} {xs : List Int} (h : OwnB w base e v xs) (hb : base' ≤ base) : OwnB w base' e v xs := by
  rcases h.2 with h0 | ⟨g, cap, cur, rfl, hb', hg, rest⟩
  · exact ⟨h.1, .inl h0⟩
  · exact ⟨h.1, .inr ⟨g, cap, cur, rfl, by omega, hg, rest⟩⟩
/-- A row of bytes lies in no block of another element type. -/
theorem OwnB.ne {w : World} {base : Nat} {e t : TypeId} {v : Value} {xs : List Int} {g : Nat} {cs : Array Value} (h : OwnB w base e v xs) (hb : Blk w g t cs) (hne : e ≠ t) : v.ownBlock ≠ some g := by
  rcases h.2 with ⟨rfl, h0⟩ | ⟨g', cap, cur, rfl, hb', hg, rest⟩
  · intro hk; cases hk
  · intro hk
    have hk' : some g' = some g := hk
    injection hk' with hk'
    subst hk'
    exact (Blk.ne (t := e) hg hb hne) rfl
end Go.Proofs.Ytaifihoheieneaa.Mem
namespace Go.Proofs.Ytaifihoheieneaa.Octet
open Go.RowKit Go.Proofs.Ytaifihoheieneaa.Mem
set_option linter.unusedVariables false
set_option linter.unusedSimpArgs false
attribute [local go_sem] max2_mx min2_mn max_two min_two

theorem info_b : (Try.prog.info? 5).map (fun i => (i.zero, i.size, i.bytes)) = some (some (.int .u8 0), 1, 1) := by kernel_rfl
/-- A slice of bytes, as a value. -/
def SlB (w : World) (lo hi : Nat) (v : Value) (xs : List Int) : Prop :=
  ∃ A cap, v = .slice A xs.length cap ∧ xs.length ≤ cap ∧ cap ≤ maxLen ∧ (A = none → cap = 0) ∧ RdB w lo hi A xs

set_option maxHeartbeats 1000000 in
theorem clone_calls (lo hi : Nat) (v : Value) (xs : List Int) (w : World) (h : SlB w lo hi v xs) (hlen : xs.length ≤ 140737488355328) :
    Calls Try.prog 50 #[v] w fun e w' => ∃ v', e = .returned v' ∧ OwnB w' w.heap.size 5 v' xs ∧ Below w.heap.size w w' := by
  obtain ⟨A, cap, rfl, h1, h2, h3, h4⟩ := h
  unfold maxLen at h2
  obtain ⟨i0, hi0, hz0, hz1, hz2⟩ := info_parts info_b
  rcases A with _ | ad
  · have hx : xs = [] := by have := h3 rfl; exact List.eq_nil_of_length_eq_zero (by omega)
    subst hx
    obtain rfl : cap = 0 := h3 rfl
    have hnn := fun (w : World) => Lib.run_eql_slice_nil (P := Try.prog) w 29 5 none 0 0 0 0 Try.underlying29
    go_enter Try.func50, Try.ntmps50
    go_wp2
    go_ret
    exact ⟨_, rfl, ⟨rfl, .inl ⟨rfl, rfl⟩⟩, Below.refl _ _⟩
  · have hnn := fun (w : World) (n c : Nat) => Lib.run_eql_slice_nil (P := Try.prog) w 29 5 (some ad) n c 0 0 Try.underlying29
    have own0 : (w.alloc (.cells #[] 5)).ownsRow w.heap.size 5 1 (.slice (some ⟨w.heap.size, 0, none⟩) 0 0) ([] : List Int).length (byts []) :=
      ⟨rfl, .inr ⟨w.heap.size, 0, #[], rfl, Nat.le_refl _, heap_alloc_new w _, Nat.le_refl _, Nat.zero_le _, rfl, rfl⟩⟩
    have r0 : RdB (w.alloc (.cells #[] 5)) lo hi (some ad) xs := h4.fr ((Fr.refl nothing w).alloc _) (fun _ _ _ h => h)
    go_enter Try.func50, Try.ntmps50
    go_wp2_with (at_builtin; refine wpList_append_b _ rfl (.tmp 5) (.tmp 6) _ rfl w.heap.size 5 i0 Try.underlying29 hi0 hz0 hz1 hz2 _ [] rfl own0 lo hi (some ad) _ cap xs rfl rfl r0 (by simpa using hlen) (by simp) ?_; intro v' w' hown hg hat)
    go_ret
    refine ⟨v', rfl, hown, ((Below.refl _ _).alloc (Nat.le_refl _) _).grown hg (by simp) (fun k hk => by have hk' : some w.heap.size = some k := hk; injection hk' with hk'; omega)⟩

theorem SlB.fr {w w' : World} {lo hi : Nat} {v : Value} {xs : List Int} {S : Nat → Prop} (h : SlB w lo hi v xs) (f : Fr S w w') (hs : ∀ k, lo ≤ k → k < hi → ¬ S k) : SlB w' lo hi v xs := by
  obtain ⟨A, cap, e, h1, h2, h3, h4⟩ := h
  exact ⟨A, cap, e, h1, h2, h3, h4.fr f hs⟩
theorem SlB.of_own {w : World} {base : Nat} {e : TypeId} {v : Value} {xs : List Int} (h : OwnB w base e v xs) : SlB w base w.heap.size v xs := by
  rcases h.2 with ⟨rfl, h0⟩ | ⟨g, cap, cur, rfl, hb, hg, hn, hm, hs, ht⟩
  · exact ⟨none, 0, by rw [h0], by omega, Nat.zero_le _, fun _ => rfl, .inl (List.eq_nil_of_length_eq_zero h0)⟩
  · obtain ⟨A, cap', e1, h1, h2, h3⟩ := RdB.of_own h
    injection e1 with e1 e2 e3
    subst e1; subst e3
    exact ⟨_, _, rfl, hn, hm, (fun h => by cases h), h3⟩

theorem OwnB.nil (w : World) (base : Nat) (e : TypeId) : OwnB w base e (.slice none 0 0) [] := ⟨rfl, .inl ⟨rfl, rfl⟩⟩
def IsB (xs : List Int) : Prop := ∀ x ∈ xs, 0 ≤ x ∧ x < 256
/-- The string of bytes. -/
def bstr (xs : List Int) : ByteArray := xs.foldl (fun r n => r.push (UInt8.ofNat n.toNat)) ByteArray.empty
theorem string_rd (w : World) (lo hi : Nat) (A : Option Addr) (c : Nat) (xs : List Int) (h : RdB w lo hi A xs) (hn : A = none → c = 0 ∧ xs = []) :
    (convert 29 9 (.slice A xs.length c)).run Try.prog w = .ok (.string (bstr xs)) w := by
  rcases A with _ | ad
  · obtain ⟨rfl, rfl⟩ := hn rfl
    exact Lib.run_convert_nil_bytes w 29 9 5 0 Try.underlying29 Try.underlying5 Try.underlying9
  · rw [run_convert_bytes_string w 29 9 5 _ _ _ Try.underlying29 Try.underlying5 Try.underlying9]
    refine run_bytesToString w ad _ _ xs ?_
    have := run_loadCells_list (P := Try.prog) w ad (xs.map (Value.int .u8)) (fun j v hj => by
      rcases h with rfl | ⟨ad', e, _, _, h⟩
      · simp at hj
      · injection e with e
        subst e
        have hl : j < xs.length := by
          rcases Nat.lt_or_ge j xs.length with h' | h'
          · exact h'
          · rw [List.getElem?_eq_none (by simpa using h')] at hj; cases hj
        rw [h j hl]
        simpa [hl] using hj)
    simpa using this
theorem OwnB.str {w : World} {base : Nat} {v : Value} {xs : List Int} (h : OwnB w base 5 v xs) :
    ∃ A n cap, v = .slice A n cap ∧ n = xs.length ∧ (convert 29 9 (.slice A n cap)).run Try.prog w = .ok (.string (bstr xs)) w := by
  obtain ⟨A, cap, rfl, h1, h2, h3, h4⟩ := SlB.of_own h
  exact ⟨A, _, cap, rfl, rfl, string_rd w _ _ A cap xs h4 (fun e => ⟨h3 e, List.eq_nil_of_length_eq_zero (by have := h3 e; omega)⟩)⟩
/-- A literal of bytes, converted. -/
theorem lit_slb (w : World) (cs : Array Value) (f : Nat × Nat) (ys : List Int) (hn : ys ≠ []) (hl : ys.length ≤ maxLen) (hcs : ∀ i (hi : i < ys.length), cs[i]? = some (.int .u8 ys[i])) :
    SlB (w.alloc (.cells cs 5 f)) 0 (w.heap.size + 1) (.slice (some ⟨w.heap.size, 0, none⟩) ys.length ys.length) ys := by
  refine ⟨_, _, rfl, Nat.le_refl _, hl, (fun h => by cases h), .inr ⟨_, rfl, Nat.zero_le _, Nat.lt_succ_self _, fun i hi => ?_⟩⟩
  have hc := cell_of_row (w.alloc (.cells cs 5 f)) w.heap.size i cs 5 f (heap_alloc_new w _)
  rw [hcs i hi] at hc
  rw [← hc]
  by_cases h0 : i = 0
  · subst h0; rfl
  · simp [Addr.add, h0]

theorem OwnB.rise {w : World} {b0 base : Nat} {e : TypeId} {v : Value} {xs : List Int} (h : OwnB w b0 e v xs) (hb : ∀ k, v.ownBlock = some k → base ≤ k) : OwnB w base e v xs := by
  rcases h.2 with h0 | ⟨g, cap, cur, rfl, hb', hg, rest⟩
  · exact ⟨h.1, .inl h0⟩
  · exact ⟨h.1, .inr ⟨g, cap, cur, rfl, hb g rfl, hg, rest⟩⟩
theorem Bl.trans {b : Nat} {w w1 w2 : World} (h : Below b w w1) (k : Below b w1 w2) : Below b w w2 :=
  ⟨k.os.trans h.os, k.tape.trans h.tape, k.output.trans h.output, Nat.le_trans h.size k.size, fun i hi => (k.block i hi).trans (h.block i hi)⟩
theorem Bl.low {b b' : Nat} {w w1 : World} (h : Below b w w1) (hb : b' ≤ b) : Below b' w w1 := ⟨h.os, h.tape, h.output, h.size, fun i hi => h.block i (by omega)⟩
theorem Bl.of_fr {b : Nat} {w w1 : World} {S : Nat → Prop} (f : Fr S w w1) (hb : b ≤ w.heap.size) (hs : ∀ k, S k → b ≤ k) : Below b w w1 :=
  ⟨f.os, f.tape, f.output, f.size, fun i hi => f.block i (by omega) (fun h => by have := hs i h; omega)⟩
theorem Bl.fr {b : Nat} {w w1 : World} (f : Below b w w1) : Fr (fun k => b ≤ k) w w1 := ⟨f.os, f.tape, f.output, f.size, fun i _ hn => f.block i (by omega)⟩
theorem rdb_of {w : World} {A : Option Addr} {xs : List Int} (h : ReadsI w .u8 A xs) : RdB w 0 w.heap.size A xs := by
  rcases h with h | ⟨ad, e, h⟩
  · exact .inl h
  · rcases Nat.eq_zero_or_pos xs.length with h0 | h0
    · exact .inl (List.eq_nil_of_length_eq_zero h0)
    · refine .inr ⟨ad, e, Nat.zero_le _, ?_, h⟩
      have := World.block_lt_of_cell? w _ (h 0 h0)
      rwa [add_block] at this
theorem slb_cut {w : World} {A : Option Addr} {xs : List Int} {cap : Nat} (h : ReadsI w .u8 A xs) (hc : xs.length ≤ cap) (hm : cap ≤ maxLen) (hn : A = none → cap = 0) (K : Nat) (hK : K ≤ xs.length) :
    SlB w 0 w.heap.size (.slice A K cap) (xs.take K) := by
  have e : (xs.take K).length = K := by simp; omega
  exact ⟨A, cap, by rw [e], by omega, hm, hn, (rdb_of h).take K⟩
theorem SlB.bl {w w' : World} {lo hi base : Nat} {v : Value} {xs : List Int} (h : SlB w lo hi v xs) (f : Below base w w') (hb : hi ≤ base) : SlB w' lo hi v xs := by
  exact h.fr (Bl.fr f) (fun k _ h2 h3 => by omega)

def um (x m : Int) : Int := wrap64 ((IntKind.u64.wrap x).tmod m)
theorem um_range (x m : Int) (h0 : 0 < m) (h1 : m ≤ 1000000) : 0 ≤ um x m ∧ um x m < m := by
  have e : IntKind.u64.wrap x = x % 18446744073709551616 := by simp [IntKind.wrap, IntKind.bits, IntKind.signed]
  unfold um
  rw [e, Int.tmod_eq_emod_of_nonneg (by omega)]
  have h2 := Int.emod_nonneg (x % 18446744073709551616) (show m ≠ 0 by omega)
  have h3 := Int.emod_lt_of_pos (x % 18446744073709551616) h0
  unfold wrap64
  omega
theorem range_u8 (x : Int) (h : (Lit.int .u8 x).wf = true) : 0 ≤ x ∧ x < 256 := by
  simp [Lit.wf, IntKind.min, IntKind.max, IntKind.bits, IntKind.signed] at h
  omega
set_option maxRecDepth 100000 in
theorem slb_str {w : World} {lo hi : Nat} {A : Option Addr} {n cap : Nat} {xs : List Int} (h : SlB w lo hi (.slice A n cap) xs) :
    (convert 29 9 (.slice A n cap)).run Try.prog w = .ok (.string (bstr xs)) w := by
  obtain ⟨A', cap', e, h1, h2, h3, h4⟩ := h
  injection e with e1 e2 e3
  subst e1; subst e2; subst e3
  exact string_rd w _ _ A cap xs h4 (fun e => ⟨h3 e, List.eq_nil_of_length_eq_zero (by have := h3 e; omega)⟩)
/-- A cell of a row of its own: it reads, it is written. -/
theorem own_at {w : World} {m : Nat} {A : Option Addr} {n cap : Nat} {bs : List Int} (h : OwnB w m 5 (.slice A n cap) bs) (k : Nat) (hk : k < n) :
    ∃ ad, A = some ad ∧ (∃ x, w.cell? (ad.add k) = some (.int .u8 x)) ∧ w.frozen? (ad.add k) = false ∧ m ≤ (ad.add k).block ∧ (∀ g, (ad.add k).block = g → (Value.slice A n cap).ownBlock = some g) ∧
      ∀ x, ∃ bs', OwnB (w.setCell (ad.add k) (.int .u8 x)) m 5 (.slice A n cap) bs' := by
  have h0 := h
  rcases h.2 with ⟨e, h1⟩ | ⟨g, cap', cur, e, hb, hg, hn, hm, hs, ht⟩
  · injection e with e1 e2 e3; omega
  · injection e with e1 e2 e3
    subst e1; subst e2; subst e3
    have ea : (⟨g, 0, none⟩ : Addr).add k = ⟨g, k, none⟩ := by
      by_cases h : k = 0
      · subst h; rfl
      · simp [Addr.add, h]
    have h' : w.ownsRow m 5 1 (.slice (some ⟨g, 0, none⟩) bs.length cap) bs.length (byts bs) := h
    refine ⟨_, rfl, ⟨bs[k]'(by omega), ?_⟩, ?_, ?_, ?_, fun x => ⟨bs.set k x, ?_⟩⟩
    · rw [ea, h'.cellAt k (by omega)]; simp [byts, hk]
    · rw [ea]; exact h'.frozenAt k
    · rw [ea]; exact hb
    · rw [ea]; rintro g' rfl; rfl
    · rw [ea]
      have s := (h'.stored k (.int .u8 x)).1
      unfold OwnB
      rw [List.length_set]
      simpa [byts, List.map_set] using s
/-- Where the row lies behind a method. -/
def At (w w' : World) (v v' : Value) : Prop := v'.ownBlock = v.ownBlock ∨ ∃ b, v'.ownBlock = some b ∧ w.heap.size ≤ b ∧ b < w'.heap.size
/-- What an append to a row may change. -/
def OfV (v : Value) : Nat → Prop := fun k => v.ownBlock = some k
/-- A row behind appends that began with v at w. -/
def AppP (w : World) (v : Value) (zs : List Int) (v' : Value) (w' : World) : Prop := OwnB w' 0 5 v' zs ∧ At w w' v v' ∧ Fr (OfV v) w w'
theorem At.trans {w w1 w2 : World} {v v1 v2 : Value} (h : At w w1 v v1) (f : w.heap.size ≤ w1.heap.size) (h2 : At w1 w2 v1 v2) (f2 : w1.heap.size ≤ w2.heap.size) : At w w2 v v2 := by
  rcases h2 with e | ⟨b, e, e2, e3⟩
  · rcases h with e' | ⟨b', e1', e2', e3'⟩
    · exact .inl (e.trans e')
    · exact .inr ⟨b', e.trans e1', e2', Nat.lt_of_lt_of_le e3' f2⟩
  · exact .inr ⟨b, e, Nat.le_trans f e2, e3⟩
theorem At.fr {w w1 w2 : World} {v v1 : Value} (h : At w w1 v v1) (f : Fr (OfV v) w w1) (f2 : Fr (OfV v1) w1 w2) : Fr (OfV v) w w2 :=
  f.trans f2 (fun k hk hS => by
    rcases h with e' | ⟨b', e1', e2', _⟩
    · exact (e' ▸ hS : v.ownBlock = some k)
    · have hS' : v1.ownBlock = some k := hS
      rw [e1'] at hS'; injection hS' with e; omega)
theorem AppP.refl {w : World} {v : Value} {zs : List Int} (h : OwnB w 0 5 v zs) : AppP w v zs v w := ⟨h, .inl rfl, Fr.refl _ _⟩
theorem AppP.trans {w w1 w2 : World} {v v1 v2 : Value} {zs zs2 : List Int} (h : AppP w v zs v1 w1) (h2 : AppP w1 v1 zs2 v2 w2) : AppP w v zs2 v2 w2 :=
  ⟨h2.1, h.2.1.trans h.2.2.size h2.2.1 h2.2.2.size, h.2.1.fr h.2.2 h2.2.2⟩
theorem AppP.alloc {w w1 : World} {v v1 : Value} {zs : List Int} (h : AppP w v zs v1 w1) (o : Obj) : AppP w v zs v1 (w1.alloc o) :=
  h.trans ⟨OwnB.fr h.1 (S := nothing) ((Fr.refl _ _).alloc o) (fun _ _ h => h), .inl rfl, (Fr.refl _ _).alloc o⟩
theorem AppP.of_grown {w w' : World} {v v' : Value} {zs : List Int} (hown : w'.ownsRow 0 5 1 v' zs.length (byts zs)) (hg : w.grownBy w' v.ownBlock) (hat : v'.ownBlock = v.ownBlock ∨ v'.ownBlock = some w.heap.size) : AppP w v zs v' w' := by
  have hown' : OwnB w' 0 5 v' zs := hown
  refine ⟨hown', ?_, (Fr.refl _ w).grown hg fun k hk => .inl hk⟩
  rcases hat with e | e
  · exact .inl e
  · exact .inr ⟨_, e, Nat.le_refl _, OwnB.lt hown' _ e⟩
theorem AppP.shape {w w1 : World} {v v1 : Value} {zs : List Int} (h : AppP w v zs v1 w1) : ∃ A cap, v1 = .slice A zs.length cap := by
  obtain ⟨A, cap, e, _⟩ := OwnB.slice h.1; exact ⟨A, cap, e⟩
/-- A row from nothing on lies in new memory. -/
theorem AppP.new {w w1 : World} {v1 : Value} {zs : List Int} (h : AppP w (.slice none 0 0) zs v1 w1) : OwnB w1 w.heap.size 5 v1 zs ∧ Below w.heap.size w w1 := by
  refine ⟨OwnB.rise h.1 (fun k hk => ?_), h.2.2.below (fun k _ hS => by cases hS)⟩
  rcases h.2.1 with e | ⟨b, e, h1, _⟩
  · rw [e] at hk; cases hk
  · rw [e] at hk; injection hk with hk; omega
/-- A literal of bytes reads. -/
theorem lit_rd (w : World) (cs : Array Value) (f : Nat × Nat) (ys : List Int) (hcs : ∀ i (hi : i < ys.length), cs[i]? = some (.int .u8 ys[i])) :
    RdB (w.alloc (.cells cs 5 f)) 0 (w.heap.size + 1) (some ⟨w.heap.size, 0, none⟩) ys := by
  refine .inr ⟨_, rfl, Nat.zero_le _, Nat.lt_succ_self _, fun i hi => ?_⟩
  have hc := cell_of_row (w.alloc (.cells cs 5 f)) w.heap.size i cs 5 f (heap_alloc_new w _)
  rw [hcs i hi] at hc
  rw [← hc]
  by_cases h0 : i = 0
  · subst h0; rfl
  · simp [Addr.add, h0]
def lenV : Value → Nat
  | .slice _ n _ => n
  | _ => 0

end Go.Proofs.Ytaifihoheieneaa.Octet
