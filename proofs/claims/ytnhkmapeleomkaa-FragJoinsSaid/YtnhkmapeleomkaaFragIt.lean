/- The iterator of slices.Chunk over bytes: its contract. Conditions: each names its blocks and the bounds. -/
import Derived.RangeFuncNested
import Derived.RangeFuncBound
import Derived.RangeFuncCalls
import Derived.RangeFuncLeaves
import Derived.RangeFuncBox
import Derived.Shelf.Abstract
import Derived.Shelf.RegionOpen
import Derived.OwnWalkIn
import Derived.TacticsInMore
import Derived.LoopNIn
import Derived.LoopIn
import Derived.BigRegionIn
import Derived.Test.YtnhkmapeleomkaaBstr
namespace Go.Proofs.Ytnhkmapeleomkaa.Frag
open Go.RowKit Go.Shelf Go.Proofs.Ytnhkmapeleomkaa.Mem Go.Proofs.Ytnhkmapeleomkaa.Octet
set_option linter.unusedVariables false
set_option linter.unusedSimpArgs false
attribute [local go_sem] Oper.semAt_some max2_mx min2_mn max_two min_two
/-- Where a piece begins. -/
def pAt (ad : Addr) (p : Nat) : Option Addr := some (ad.add p)
/-- A piece's number. -/
abbrev Pk (m len : Nat) : Type := { k : Nat // k * m < len }
def nums {m len : Nat} (l : List (Pk m len)) : List Nat := l.map fun x => x.1
theorem nums_len {m len : Nat} {l : List (Pk m len)} {k : Nat} (h : nums l = List.range k) : l.length = k := by
  have := congrArg List.length h
  simpa [nums] using this
theorem nums_snoc {m len : Nat} {l : List (Pk m len)} {k : Nat} (h : nums l = List.range k) (h2 : k * m < len) : nums (l ++ [⟨k, h2⟩]) = List.range (k + 1) := by
  have e : nums (l ++ [⟨k, h2⟩]) = nums l ++ [k] := by simp [nums]
  rw [e, h, List.range_succ]
theorem pk_lt {m len k : Nat} (hm : 0 < m) (h : k * m < len) : k < (len + m - 1) / m := by
  rw [Nat.lt_iff_add_one_le, Nat.le_div_iff_mul_le hm, Nat.add_mul]
  omega
theorem pk_ge {m len k : Nat} (hm : 0 < m) (h : ¬ k * m < len) : (len + m - 1) / m ≤ k := by
  apply Nat.le_of_lt_succ
  rw [Nat.div_lt_iff_lt_mul hm, Nat.succ_mul]
  omega
/-- How long a piece is. -/
def pLen (m len k : Nat) : Nat := if m ≤ len - k * m then m else len - k * m
def encP (ad : Addr) (m len : Nat) (x : Pk m len) : Array Value := #[.slice (pAt ad (x.1 * m)) (pLen m len x.1) (pLen m len x.1)]
/-- What a round keeps: whatever lay below n₀, and the two boxes of the iterator. -/
def Kp (n₀ b1 b2 : Nat) (A B : World) : Prop := Below n₀ A B ∧ (b1 < A.heap.size → B.heap[b1]? = A.heap[b1]?) ∧ (b2 < A.heap.size → B.heap[b2]? = A.heap[b2]?)
theorem kp_t {n₀ b1 b2 : Nat} {A B C : World} (h : Kp n₀ b1 b2 A B) (k : Kp n₀ b1 b2 B C) : Kp n₀ b1 b2 A C :=
  ⟨h.1.trans k.1, fun hl => (k.2.1 (Nat.lt_of_lt_of_le hl h.1.size)).trans (h.2.1 hl), fun hl => (k.2.2 (Nat.lt_of_lt_of_le hl h.1.size)).trans (h.2.2 hl)⟩
theorem kp_refl (n₀ b1 b2 : Nat) (A : World) : Kp n₀ b1 b2 A A := ⟨Below.refl _ _, fun _ => rfl, fun _ => rfl⟩
theorem kp_drew {n₀ b1 b2 : Nat} {A B : World} (h : Kp n₀ b1 b2 A B) : Kp n₀ b1 b2 A B.drew := ⟨h.1.drew, h.2.1, h.2.2⟩
theorem kp_b {n₀ b1 b2 : Nat} {w : World} (hn : n₀ ≤ w.heap.size) (h1 : b1 < w.heap.size) (h2 : b2 < w.heap.size) (W : World) (l : Nat) (o o' : Obj) (hl : w.heap.size ≤ l) (h : W.heap[l]? = some o) (hc : o.isCells = false) (hw : o.isWalk = false) : Kp n₀ b1 b2 W (W.putObj l o') :=
  ⟨belowK_b hn W l o o' hl h hc hw, fun _ => World.putObj_heap_other (by omega), fun _ => World.putObj_heap_other (by omega)⟩
theorem Kp.cell {n₀ b1 b2 : Nat} {A B : World} (h : Kp n₀ b1 b2 A B) {v : Value} : (A.cell? ⟨b1, 0, none⟩ = some v → B.cell? ⟨b1, 0, none⟩ = some v) ∧ (A.cell? ⟨b2, 0, none⟩ = some v → B.cell? ⟨b2, 0, none⟩ = some v) :=
  ⟨fun hv => (World.cell?_of_block (h.2.1 (World.block_lt_of_cell? A _ hv))).trans hv, fun hv => (World.cell?_of_block (h.2.2 (World.block_lt_of_cell? A _ hv))).trans hv⟩
theorem meas3 (len m p : Nat) (h : p < len) (hm : 0 < m) : (len + m) - (intOf (.int .i64 ((p + m : Nat) : Int))).toNat < (len + m) - (intOf (.int .i64 (p : Int))).toNat := by
  show len + m - (p + m) < len + m - p
  omega
theorem drew_grown (W : World) : W.grownBy W.drew none := ⟨rfl, rfl, rfl, Nat.le_refl _, fun _ _ _ => rfl⟩
set_option maxRecDepth 100000 in
set_option maxHeartbeats 2000000 in
/-- slices.Chunk's function value: pieces of m bytes, in order. -/
theorem chunk1_in (F : Fence) (n : Nat) (hF : F.fn 25) (hro : F.round = none) (hn : 1 ≤ n) (l b1 b2 n₀ : Nat) (ad : Addr) (len cap m : Nat) (hm : 0 < m) (hm2 : m ≤ 1000000) (hlc : len ≤ cap) (hcm : cap ≤ 9223372036854775807) (hlb : len ≤ 1000000) (hne : 0 < len)
    (J Jx : List (Pk m len) → World → Prop) (B0 : Nat) (hJ : AbidesFrom B0 J)
    (hY : ∀ pre x W, J pre W → pre.length < (len + m - 1) / m → YieldAt F (n - 1) Try.prog l (encP ad m len x) W fun e W' =>
      (e = .returned (.bool true) ∧ J (pre ++ [x]) W' ∧ Kp n₀ b1 b2 W W') ∨ (e = .returned (.bool false) ∧ Jx (pre ++ [x]) W'))
    (W : World) (hB1 : W.cell? ⟨b1, 0, none⟩ = some (.slice (some ad) len cap)) (hB2 : W.cell? ⟨b2, 0, none⟩ = some (.int .i64 m)) (h0 : J [] W) :
    CallsIn F n Try.prog 25 #[.func (.yield l) #[] #[], .pointer (some ⟨b1, 0, none⟩), .pointer (some ⟨b2, 0, none⟩)] W fun e W' => (∃ v, e = .returned v) ∧
      ((∃ ys, nums ys = List.range ((len + m - 1) / m) ∧ J ys W') ∨ (∃ pre, True ∧ Jx pre W')) := by
  refine callsIn_of_wp Try.func25 rfl hF ?_ hro
  simp only [Try.ntmps25, List.size_toArray, List.length_cons, List.length_nil, Nat.reduceAdd, Nat.reduceSub, Array.replicate_succ, Array.replicate_zero, List.push_toArray, List.append_toArray, List.nil_append, List.cons_append]
  gi_wp2
  gi_loopw [4] (fun i wr => ∃ (k : Nat) (pre : List (Pk m len)), k ≤ (len + m - 1) / m ∧ i = .int .i64 ((k * m : Nat) : Int) ∧ nums pre = List.range k ∧ J pre wr ∧ Kp n₀ b1 b2 W wr)
    (fun i _ => (len + m) - (intOf i).toNat)
  case atStart => exact ⟨0, [], Nat.zero_le _, by simp, rfl, h0, kp_refl _ _ _ _⟩
  case round =>
    obtain ⟨k, pre, hk, rfl, hpre, hJs, hK⟩ := hrel
    have c1 := hK.cell.1 hB1
    have c2 := hK.cell.2 hB2
    have hkm : k * m ≤ len + m := by
      have := Nat.mul_le_mul_right m hk
      have h2 := Nat.div_mul_le_self (len + m - 1) m
      omega
    by_cases hlt : k * m < len
    · have HKN := Lib.hid (pk_lt hm hlt)
      obtain ⟨fn, tmps, assign, body, hy, hR⟩ := hY pre ⟨k, hlt⟩ wr.drew (hJ _ _ _ none hJs (drew_grown _) (fun r e => by cases e)) (by rw [nums_len hpre]; exact HKN.out)
      have hns := nums_snoc hpre hlt
      obtain ⟨x, hx⟩ : ∃ x : Pk m len, (⟨k, hlt⟩ : Pk m len) = x := ⟨_, rfl⟩
      rw [hx] at hR hns
      have HS := Lib.hid hns
      obtain ⟨q, hq⟩ : ∃ q, pLen m len k = q := ⟨_, rfl⟩
      have hq2 : (if m ≤ len - k * m then m else len - k * m) = q := hq
      replace hy : (Instr.yield l #[.slice (pAt ad (k * m)) q q]).run Try.prog wr.drew = .ok (.round l fn tmps assign body) wr.drew := by rw [← hq]; exact hy
      obtain ⟨E, hE⟩ : ∃ E, (if cap = k * m then some ad else some (ad.add (k * m))) = E := ⟨_, rfl⟩
      have HMUL := Lib.hid (show (k + 1) * m = k * m + m from Nat.succ_mul k m)
      clear hq hpre hx hns
      generalize hp : k * m = p at *
      have HP := Lib.hid hp
      clear hp
      have hmn : mn (m : Int) ((len - p : Nat) : Int) = (q : Int) := by unfold mn; split at hq2 <;> split <;> omega
      obtain ⟨z, hz⟩ : ∃ z, z = p + q := ⟨_, rfl⟩
      have hqz : q = z - p := by omega
      have hzl : z ≤ len := by split at hq2 <;> omega
      have hzp1 : p < z := by split at hq2 <;> omega
      obtain ⟨E4, hE4⟩ : ∃ E4, (if z = p then some ad else some (ad.add p)) = E4 := ⟨_, rfl⟩
      rw [hqz, show pAt ad p = E4 by rw [← hE4, if_neg (by omega)]; rfl] at hy
      have hpl : (p : Int) < len := by omega
      have hpl2 : p < len := hlt
      have hpc : (p : Int) ≤ cap := by omega
      have hzc : (z : Int) ≤ cap := by omega
      have hzp : (p : Int) ≤ z := by omega
      have hzp2 : p ≤ z := by omega
      clear hzp1
      have HW := Lib.hid (show wrap64 ((p : Int) + (q : Int)) = (z : Int) by unfold wrap64; omega)
      have HWM := Lib.hid (show wrap64 ((p : Int) + (m : Int)) = ((p + m : Nat) : Int) by unfold wrap64; omega)
      have HQ := Lib.hid hq2
      have HZ := Lib.hid hz
      clear hq2 hz hqz hkm hk hne
      have hw := HW.out
      have hwm := HWM.out
      gi_wp2
      refine Go.wpIn_mono (Q := fun e a W9 => e = .normal ∧ W9 = wr.drew ∧ ∃ v13 v14 v15 v16 v17 v18, a = { tmps := #[.func (.yield l) #[] #[], .pointer (some ⟨b1, 0, none⟩), .pointer (some ⟨b2, 0, none⟩), undef, .int .i64 p, .int .i64 q, .int .i64 p, .slice (some ad) len cap, .int .i64 len, .bool true, u10, u11, u12, v13, v14, v15, v16, v17, v18, u19, u20, u21, u22, u23, u24, u25, u26, u27, u28, u29, u30], defers := [] }) ?_ ?_
      · gi_region
        all_goals exact ⟨rfl, rfl, _, _, _, _, _, _, rfl⟩
      · rintro e a W9 ⟨rfl, rfl, v13, v14, v15, v16, v17, v18, rfl⟩
        clear hmn hE
        gi_wp2
        refine hR.mono ?_
        rintro e W3 (⟨rfl, hJ3, hk3⟩ | ⟨rfl, hJx3⟩)
        · have hK3 := kp_t (kp_drew hK) hk3
          have c3 := hK3.cell.2 hB2
          gi_wp2
          go_roundw
          case rel => exact ⟨k + 1, pre ++ [x], HKN.out, by rw [HMUL.out, Int.natCast_add], HS.out, hJ3, hK3⟩
          case measure =>
            clear hw hwm
            exact meas3 _ _ _ hpl2 hm
        · gi_wp2
          refine bodyPost_ret (results_none rfl _ _ _) rfl ?_
          exact ⟨⟨_, rfl⟩, .inr ⟨pre ++ [x], trivial, hJx3⟩⟩
    · have hkn := Lib.hid (show k = (len + m - 1) / m from Nat.le_antisymm hk (pk_ge hm hlt))
      have hpl : ¬ ((k * m : Nat) : Int) < len := by omega
      generalize k * m = p at *
      gi_wp2
      go_end0
      exact ⟨⟨_, rfl⟩, .inl ⟨pre, by rw [hpre, hkn.out], hJs⟩⟩
/-- slices.Chunk: what it hands back. -/
theorem chunk_calls (A : Option Addr) (nn c : Nat) (m : Int) (hm : 0 < m) (w : World) :
    Calls Try.prog 14 #[.slice A nn c, .int .i64 m] w fun e w' => e = .returned (.func (.func 25) #[] #[.pointer (some ⟨w.heap.size, 0, none⟩), .pointer (some ⟨w.heap.size + 1, 0, none⟩)]) ∧ w' = (w.alloc (.cells #[.slice A nn c] 24)).alloc (.cells #[.int .i64 m] 3) := by
  have hd : ¬ m < 1 := by omega
  go_enter Try.func14, Try.ntmps14
  go_wp2
  go_ret
  exact ⟨rfl, rfl⟩
theorem chunk_stops (F : Fence) (n : Nat) (hF : F.fn 25) (hro : F.round = none) (hn : 1 ≤ n) (b1 b2 n₀ : Nat) (ad : Addr) (len cap m : Nat) (hm : 0 < m) (hm2 : m ≤ 1000000) (hlc : len ≤ cap) (hcm : cap ≤ 9223372036854775807) (hlb : len ≤ 1000000) (hne : 0 < len)
    (w : World) (h1 : b1 < w.heap.size) (h2 : b2 < w.heap.size) (hB1 : w.cell? ⟨b1, 0, none⟩ = some (.slice (some ad) len cap)) (hB2 : w.cell? ⟨b2, 0, none⟩ = some (.int .i64 m)) :
    SeqStopsK F n Try.prog 25 #[.pointer (some ⟨b1, 0, none⟩), .pointer (some ⟨b2, 0, none⟩)] (encP ad m len) (Kp n₀ b1 b2) (fun ys => nums ys = List.range ((len + m - 1) / m)) (fun _ => True) ((len + m - 1) / m) w :=
  fun l J Jx W hW hJ hJx hY h0 => chunk1_in F n hF hro hn l b1 b2 n₀ ad len cap m hm hm2 hlc hcm hlb hne J Jx W.heap.size hJ hY W ((hW.cell (p := ⟨b1, 0, none⟩) h1).trans hB1) ((hW.cell (p := ⟨b2, 0, none⟩) h2).trans hB2) h0
end Go.Proofs.Ytnhkmapeleomkaa.Frag
