/- Contracts of the reference's pool. Conditions: each names its blocks and the bounds. -/
import Derived.Test.YticlgonbbaodpaaIdent
import Derived.Deep.MidRow
namespace Go.Proofs.Yticlgonbbaodpaa.Ident
open Go.RowKit Go.Maps Go.Proofs.Yticlgonbbaodpaa.Mem
set_option linter.unusedVariables false
set_option linter.unusedSimpArgs false

/-- A new pool's cells. -/
@[irreducible] def poolCells (c : Bool) : Array Value := #[.bool c] ++ Array.replicate 1024 (.bool false)
/-- The reference's pool at block x: which numbers are used. -/
def Rf (w : World) (x : Nat) (c : Bool) (L : List Int) : Prop :=
  ∃ cs : Array Value, Blk w x 29 cs ∧ cs.size = 1025 ∧ cs[0]? = some (.bool c) ∧ ∀ i : Nat, i < 1024 → cs[i + 1]? = some (.bool (decide ((i : Int) ∈ L)))
theorem Rf.fr {S : Nat → Prop} {w w' : World} {x : Nat} {c : Bool} {L : List Int} (h : Rf w x c L) (f : Fr S w w') (hx : ¬ S x) : Rf w' x c L := by
  obtain ⟨cs, h1, r⟩ := h; exact ⟨cs, h1.fr f hx, r⟩
theorem Rf.lt {w : World} {x : Nat} {c : Bool} {L : List Int} (h : Rf w x c L) : x < w.heap.size := by obtain ⟨cs, h1, r⟩ := h; exact h1.lt
theorem cells_gen (c : Bool) (n : Nat) : (#[Value.bool c] ++ Array.replicate n (Value.bool false)).size = n + 1 ∧ (#[Value.bool c] ++ Array.replicate n (Value.bool false))[0]? = some (.bool c) ∧ ∀ i : Nat, i < n → (#[Value.bool c] ++ Array.replicate n (Value.bool false))[i + 1]? = some (.bool false) :=
  ⟨by simp; omega, by simp [Array.getElem?_append], fun i hi => by simp [Array.getElem?_append, hi]⟩
theorem Rf.new (w : World) (c : Bool) : Rf (w.alloc (.cells (poolCells c) 29)) w.heap.size c [] := by
  obtain ⟨g1, g2, g3⟩ := cells_gen c 1024
  refine ⟨_, Blk.new w _ _, by unfold poolCells; exact g1, by unfold poolCells; exact g2, fun i hi => ?_⟩
  rw [show decide ((i : Int) ∈ ([] : List Int)) = false by simp]
  unfold poolCells
  exact g3 i hi
theorem Rf.c0 {w : World} {x : Nat} {c : Bool} {L : List Int} (h : Rf w x c L) : w.cell? ⟨x, 0, none⟩ = some (.bool c) := by
  obtain ⟨cs, h1, _, h3, _⟩ := h; rw [h1.cell 0, h3]
theorem Rf.cu {w : World} {x : Nat} {c : Bool} {L : List Int} (h : Rf w x c L) (i : Nat) (hi : i < 1024) : w.cell? ⟨x, 1 + i, none⟩ = some (.bool (decide ((i : Int) ∈ L))) ∧ w.frozen? ⟨x, 1 + i, none⟩ = false := by
  obtain ⟨cs, h1, _, _, h4⟩ := h; exact ⟨by rw [h1.cell, Nat.add_comm, h4 i hi], h1.frozen _⟩
theorem Rf.set {w : World} {x : Nat} {c : Bool} {L L' : List Int} (h : Rf w x c L) (i : Nat) (hi : i < 1024) (b : Bool) (h1 : ∀ k : Nat, k ≠ i → ((k : Int) ∈ L' ↔ (k : Int) ∈ L)) (h2 : decide ((i : Int) ∈ L') = b) : Rf (w.setCell ⟨x, 1 + i, none⟩ (.bool b)) x c L' := by
  obtain ⟨cs, k1, k2, k3, k4⟩ := h
  rw [Nat.add_comm 1 i]
  refine ⟨_, k1.set (i + 1) (.bool b), by simpa using k2, by rw [Array.getElem?_setIfInBounds_ne (by omega)]; exact k3, fun k hk => ?_⟩
  by_cases e : k = i
  · subst e
    rw [Array.getElem?_setIfInBounds_self_of_lt (by omega), h2]
  · rw [Array.getElem?_setIfInBounds_ne (by omega), k4 k hk]
    simp [h1 k e]
def fst (c : Bool) : Int := if c then 0 else 1
set_option maxHeartbeats 1000000 in
theorem rmine_calls (x : Nat) (c : Bool) (L : List Int) (id : Int) (w : World) (h : Rf w x c L) :
    Calls Try.prog 15 #[.pointer (some ⟨x, 0, none⟩), .int .i64 id] w fun e w' => e = .returned (.bool (mine (fst c) id)) ∧ w' = w := by
  have c0 := h.c0
  have hut := Try.underlying29
  rcases (show ¬ 0 ≤ id ∨ 0 ≤ id by omega) with hn | hn
  · rw [show mine (fst c) id = false by simp [mine]; omega]
    go_enter Try.func15, Try.ntmps15
    go_wp2
    go_ret
    exact ⟨rfl, rfl⟩
  · rcases (show ¬ id < 1024 ∨ id < 1024 by omega) with hm | hm
    · rw [show mine (fst c) id = false by simp [mine]; omega]
      go_enter Try.func15, Try.ntmps15
      go_wp2
      go_ret
      exact ⟨rfl, rfl⟩
    · have e : mine (fst c) id = (c == (id % 2 == 0)) := by
        rcases (show id % 2 = 0 ∨ id % 2 = 1 by omega) with he | he <;> clear h c0 <;> cases c <;> simp [mine, fst, he, hn, hm]
      rw [e]
      clear e
      go_enter Try.func15, Try.ntmps15
      go_wp2
      go_ret
      exact ⟨rfl, rfl⟩
def RUse (w : World) (x : Nat) (c : Bool) (L : List Int) (id : Int) (e : Ending) (w' : World) : Prop :=
  e = .returned (.int .i64 (useOf (fst c) L id)) ∧ Rf w' x c (useL (fst c) L id) ∧ Fr (only x) w w'
set_option maxHeartbeats 2000000 in
set_option maxRecDepth 100000 in
theorem ruse_calls (x : Nat) (c : Bool) (L : List Int) (id : Int) (w : World) (h : Rf w x c L) :
    Calls Try.prog 11 #[.pointer (some ⟨x, 0, none⟩), .int .i64 id] w (RUse w x c L id) := by
  have hut := Try.underlying29
  have hua := Try.underlying27
  by_cases hid : 0 ≤ id ∧ id < 1024
  · obtain ⟨n, rfl⟩ : ∃ n : Nat, id = n := ⟨id.toNat, by omega⟩
    have hn : n < 1024 := by omega
    have h0' : ¬ (n : Int) < 0 := by omega
    have h1' : ¬ (1023 : Int) < n := by omega
    have h2' : (n : Int) < 1024 := by omega
    have h3' : (0 : Int) ≤ n := by omega
    rcases hm : mine (fst c) n with _ | _
    · obtain ⟨cu, fu⟩ := h.cu n hn
      by_cases hin : (n : Int) ∈ L
      · have e1 : useOf (fst c) L n = 170 := by simp [useOf, h2', h3', hm, hin]
        have e2 : useL (fst c) L n = L := by simp [useL, hin]
        unfold RUse
        rw [e1, e2]
        clear e1 e2
        rw [show decide ((n : Int) ∈ L) = true by simpa using hin] at cu
        clear h0' h1' h2' h3' hid
        have h0' : decide ((n : Int) < 0) = false := by simp
        have h1' : decide ((1023 : Int) < n) = false := by simp; omega
        go_enter Try.func11, Try.ntmps11
        go_wp2_with fail
        refine (rmine_calls x c L n w h).mono ?_
        rintro e w1 ⟨rfl, rfl⟩
        rw [hm]
        go_wp2
        go_ret
        exact ⟨rfl, h, Fr.refl _ _⟩
      · have e1 : useOf (fst c) L n = 0 := by simp [useOf, h2', h3', hm, hin]
        have e2 : useL (fst c) L n = (n : Int) :: L := by simp [useL, h2', h3', hm, hin]
        unfold RUse
        rw [e1, e2]
        clear e1 e2
        rw [show decide ((n : Int) ∈ L) = false by simpa using hin] at cu
        clear h0' h1' h2' h3' hid
        have h0' : decide ((n : Int) < 0) = false := by simp
        have h1' : decide ((1023 : Int) < n) = false := by simp; omega
        have fin := h.set (L' := (n : Int) :: L) n hn true (fun k hk => by simp; intro e; omega) (by simp)
        go_enter Try.func11, Try.ntmps11
        go_wp2_with fail
        refine (rmine_calls x c L n w h).mono ?_
        rintro e w1 ⟨rfl, rfl⟩
        rw [hm]
        go_wp2
        go_ret
        exact ⟨rfl, fin, (Fr.refl _ _).set_only _ none _⟩
    · have e1 : useOf (fst c) L n = 2 := by simp [useOf, hm]
      have e2 : useL (fst c) L n = L := by simp [useL, hm]
      unfold RUse
      rw [e1, e2]
      clear e1 e2 h0' h1' h2' h3' hid
      have h0' : decide ((n : Int) < 0) = false := by simp
      have h1' : decide ((1023 : Int) < n) = false := by simp; omega
      go_enter Try.func11, Try.ntmps11
      go_wp2_with fail
      refine (rmine_calls x c L n w h).mono ?_
      rintro e w1 ⟨rfl, rfl⟩
      rw [hm]
      go_wp2
      go_ret
      exact ⟨rfl, h, Fr.refl _ _⟩
  · have e1 : useOf (fst c) L id = 2 := by unfold useOf; rw [if_neg (by omega)]
    have e2 : useL (fst c) L id = L := by unfold useL; rw [if_neg (by omega)]
    unfold RUse
    rw [e1, e2]
    clear e1 e2
    rcases (show id < 0 ∨ (¬ id < 0 ∧ 1023 < id) by omega) with hid | ⟨hid, hid2⟩
    · go_enter Try.func11, Try.ntmps11
      go_wp2
      go_ret
      exact ⟨rfl, h, Fr.refl _ _⟩
    · go_enter Try.func11, Try.ntmps11
      go_wp2
      go_ret
      exact ⟨rfl, h, Fr.refl _ _⟩
def RTake (w : World) (x : Nat) (c : Bool) (L : List Int) (e : Ending) (w' : World) : Prop :=
  ((∃ n : Nat, n < 1024 ∧ mine (fst c) n = true ∧ (∀ i : Nat, i < n → mine (fst c) i = true → (i : Int) ∈ L) ∧ (n : Int) ∉ L ∧ e = .returned (.int .i64 n) ∧ Rf w' x c ((n : Int) :: L)) ∨
    ((∀ i : Nat, i < 1024 → mine (fst c) i = true → (i : Int) ∈ L) ∧ e = .returned (.int .i64 (-1)) ∧ Rf w' x c L)) ∧ Fr (only x) w w'
set_option maxHeartbeats 2000000 in
set_option maxRecDepth 100000 in
theorem rtake_calls (x : Nat) (c : Bool) (L : List Int) (w : World) (h : Rf w x c L) :
    Calls Try.prog 9 #[.pointer (some ⟨x, 0, none⟩)] w (RTake w x c L) := by
  have hut := Try.underlying29
  have hua := Try.underlying27
  go_enter Try.func9, Try.ntmps9
  go_wp2_with fail
  go_loopw [3] (fun i wr => ∃ n : Nat, n ≤ 1024 ∧ i = .int .i64 n ∧ (∀ i : Nat, i < n → mine (fst c) i = true → (i : Int) ∈ L) ∧ wr = w) (fun i _ => 1024 - (intOf i).toNat)
  case atStart => exact ⟨0, Nat.zero_le _, rfl, fun i hi => by omega, rfl⟩
  case round =>
    obtain ⟨n, hn, rfl, hall, rfl⟩ := hrel
    have HA := Lib.hid hall
    clear hall
    by_cases hlt : n < 1024
    · obtain ⟨cu, fu⟩ := h.cu n hlt
      have hd : decide ((n : Int) < 1024) = true := by simp; omega
      go_wp2_with fail
      refine (rmine_calls x c L n _ h).mono ?_
      rintro e w1 ⟨rfl, rfl⟩
      have NX : (mine (fst c) n = true → (n : Int) ∈ L) → ∀ i : Nat, i < n + 1 → mine (fst c) i = true → (i : Int) ∈ L := fun hi i h1 h2 => by
        rcases Nat.lt_succ_iff_lt_or_eq.1 h1 with h | rfl
        · exact HA.out i h h2
        · exact hi h2
      rcases hm : mine (fst c) n with _ | _
      · go_wp2
        go_roundw
        case rel => exact ⟨n + 1, by omega, by go_num, NX (fun h => by rw [hm] at h; cases h), by first | rfl | trivial⟩
        case measure => simp [intOf]; omega
      · by_cases hin : (n : Int) ∈ L
        · rw [show decide ((n : Int) ∈ L) = true by simpa using hin] at cu
          go_wp2
          go_roundw
          case rel => exact ⟨n + 1, by omega, by go_num, NX (fun _ => hin), by first | rfl | trivial⟩
          case measure => simp [intOf]; omega
        · rw [show decide ((n : Int) ∈ L) = false by simpa using hin] at cu
          have fin := h.set (L' := (n : Int) :: L) n hlt true (fun k hk => by simp; intro e; omega) (by simp)
          have HM := Lib.hid hm
          clear NX hm
          go_wp2
          go_ret
          exact ⟨.inl ⟨n, hlt, HM.out, HA.out, hin, rfl, fin⟩, (Fr.refl _ _).set_only _ none _⟩
    · have hd : decide ((n : Int) < 1024) = false := by simp; omega
      go_wp2
      go_ret
      exact ⟨.inr ⟨fun i hi => HA.out i (by omega), rfl, h⟩, Fr.refl _ _⟩
theorem run_idx (vs : List Value) (k : Nat) (hk : k < 1024) (b : Bool) (hg : vs[k]? = some (.bool b)) (w : World) : (Instr.index 27 (.agg vs.toArray) (.int .i64 k)).run Try.prog w = .ok (.bool b) w := by
  have hu := Try.underlying27
  have hs : (Try.prog.info? 4).map (fun i => (i.size)) = some 1 := by kernel_rfl
  cases hq : Try.prog.info? 4 with
  | none => simp [hq] at hs
  | some i =>
    have hs : i.size = 1 := by simpa [hq] using hs
    have hag : (isAgg 4).run Try.prog w = .ok false w := by
      unfold isAgg
      rw [Sem.run_bind, run_underlying Try.underlying4 w]
      rfl
    simp [Instr.index, asIntOf, run_underlying hu, hk, Go.part, sizeOf, typeInfo, hq, hs, hag, hg]
/-- How many of the first k are used. -/
def cnt (L : List Int) : Nat → Nat
  | 0 => 0
  | k + 1 => cnt L k + (if (k : Int) ∈ L then 1 else 0)
theorem cnt_le (L : List Int) (k : Nat) : cnt L k ≤ k := by induction k with | zero => simp [cnt] | succ k ih => simp only [cnt]; split <;> omega
set_option maxHeartbeats 2000000 in
set_option maxRecDepth 100000 in
theorem rlen_calls (x : Nat) (c : Bool) (L : List Int) (w : World) (h : Rf w x c L) :
    Calls Try.prog 17 #[.pointer (some ⟨x, 0, none⟩)] w fun e w' => e = .returned (.int .i64 (cnt L 1024)) ∧ w' = w := by
  have hut := Try.underlying29
  obtain ⟨vs, hvl, hvr, hvg⟩ : ∃ vs : List Value, vs.length = 1024 ∧ w.rangeAt x 1 vs ∧ ∀ i : Nat, i < 1024 → vs[i]? = some (.bool (decide ((i : Int) ∈ L))) := by
    obtain ⟨cs, h1, h2, h3, h4⟩ := h
    refine ⟨cs.toList.drop 1, by simp [h2], fun j v hv => ?_, fun i hi => ?_⟩
    · rw [h1.cell, Nat.add_comm]
      rw [List.getElem?_drop] at hv
      simpa [Nat.add_comm] using hv
    · rw [List.getElem?_drop, Nat.add_comm]
      simpa using h4 i hi
  go_enter Try.func17, Try.ntmps17
  go_wp2_with (refine wpList_load_mid rfl 27 (.tmp 8) rfl x 1 rfl vs _ hvr Try.underlying27 rfl (by rw [hvl]; kernel_rfl) ?_)
  go_loopw [3, 10] (fun n i wr => ∃ k : Nat, k ≤ 1024 ∧ i = .int .i64 k ∧ n = .int .i64 (cnt L k) ∧ wr = w) (fun _ i _ => 1024 - (intOf i).toNat)
  case atStart => exact ⟨0, Nat.zero_le _, rfl, rfl, rfl⟩
  case round =>
    obtain ⟨k, hk, rfl, rfl, rfl⟩ := hrel
    have hcl := cnt_le L k
    by_cases hlt : k < 1024
    · have hd : decide ((k : Int) < 1024) = true := by simp; omega
      have hg := hvg k hlt
      by_cases hin : (k : Int) ∈ L
      · rw [show decide ((k : Int) ∈ L) = true by simpa using hin] at hg
        have hrun := run_idx vs k hlt true hg
        clear hg hvg hvr hvl
        go_wp2
        go_roundw
        case rel => exact ⟨k + 1, by omega, by go_num, by simp [cnt, hin, wrap64], by first | rfl | trivial⟩
        case measure => simp [intOf]; omega
      · rw [show decide ((k : Int) ∈ L) = false by simpa using hin] at hg
        have hrun := run_idx vs k hlt false hg
        clear hg hvg hvr hvl
        go_wp2
        go_roundw
        case rel => exact ⟨k + 1, by omega, by go_num, by simp [cnt, hin], by first | rfl | trivial⟩
        case measure => simp [intOf]; omega
    · have hd : decide ((k : Int) < 1024) = false := by simp; omega
      have hk' : cnt L k = cnt L 1024 := by rw [show k = 1024 by omega]
      have HK := Lib.hid hk'
      clear hk'
      go_wp2
      go_ret
      exact ⟨by rw [← HK.out]; rfl, rfl⟩
theorem build_pool (c : Bool) (w : World) : (Instr.build 29 #[(0, .bool c)]).run Try.prog w = .ok (.agg (poolCells c)) w := by
  unfold poolCells
  cases c <;> kernel_rfl
theorem wpList_build {P : Program} (w : World) {ops : Array Oper} {rest : List Oper} {o : Oper} {a : Act} {Q : Exit → Act → World → Prop} (hg : o.guard = none) (t : TypeId) (parts : Array (Nat × Operand)) (hop : o.op = Op.build t parts) (v : Value) (ps : Array (Nat × Value)) (hps : (parts.map fun (i, x) => (i, a.eval x)) = ps)
    (hr : (Instr.build t ps).run P w = .ok v w) (hK : wpList P ops Q rest (a.put o.dst v) w) : wpList P ops Q (o :: rest) a w := by
  refine wpList_plain hg fun K' hK' => ?_
  unfold Oper.wp execOp
  simp only [hop, hps, Sem.run_bind, Sem.run_pure, hr, Result.andThen_ok]
  exact hK' _ _ hK
end Go.Proofs.Yticlgonbbaodpaa.Ident
