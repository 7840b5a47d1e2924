/- crc.sum: the sum of a packet with noughts at a place. Conditions: each names its blocks and the bounds. -/
import Derived.Test.YtdapcjeofgimgaaCrcFirst
import Derived.Deep.RegionHeldLaw
namespace Go.Proofs.Ytdapcjeofgimgaa.Crc
open Go.RowKit Go.Proofs.Ytdapcjeofgimgaa.Mem Go.Proofs.Ytdapcjeofgimgaa.Octet
set_option linter.unusedVariables false
set_option linter.unusedSimpArgs false
/-- A packet with noughts at a place. -/
def zeroed (xs : List Int) (q : Nat) : List Int := xs.take q ++ ([0, 0, 0, 0] ++ xs.drop (q + 4))
set_option maxHeartbeats 2000000 in
set_option maxRecDepth 100000 in
theorem psum_calls (lo hi : Nat) (A : Option Addr) (c : Nat) (xs : List Int) (q : Nat) (w : World) (h : RdB w lo hi A xs) (hc : xs.length ≤ c) (hcm : c ≤ 9223372036854775807) (hb : IsB xs) (hq : q + 4 ≤ xs.length) :
    Calls Try.prog 17 #[.slice A xs.length c, .int .i64 q] w fun e w' => e = .returned (.int .u32 (crcS (zeroed xs q))) ∧ Below w.heap.size w w' := by
  obtain ⟨T, hT⟩ : ∃ T, ((q : Int) + 4).toNat = T := ⟨_, rfl⟩
  have en : T = q + 4 := by omega
  have hdr := h.drop (n := T) (by omega) hc
  obtain ⟨E, hE⟩ : ∃ E, (if c = T then A else A.map (fun x => x.add T)) = E := ⟨_, rfl⟩
  rw [hE] at hdr
  have HBL := Lib.hid (((Below.refl w.heap.size w).alloc (Nat.le_refl _) (.cells #[.int .u8 0, .int .u8 0, .int .u8 0, .int .u8 0] 5)).alloc (by simp) (.cells #[.slice A q c, .slice (some ⟨w.heap.size, 0, none⟩) 4 4, .slice E (xs.length - T) (c - T)] 22))
  have HZ := Lib.hid (show crcS [xs.take q, [0, 0, 0, 0], xs.drop T].flatten = crcS (zeroed xs q) by rw [en]; simp [zeroed])
  have HB := Lib.hid (show ∀ ys ∈ [xs.take q, [0, 0, 0, 0], xs.drop T], IsB ys ∧ ys.length ≤ 9223372036854775807 by
    intro ys hy
    simp only [List.mem_cons, List.not_mem_nil, or_false] at hy
    rcases hy with rfl | rfl | rfl
    · exact ⟨fun x hx => hb x (List.mem_of_mem_take hx), by rw [List.length_take]; omega⟩
    · exact ⟨by intro x hx; simp at hx; omega, by decide⟩
    · exact ⟨fun x hx => hb x (List.mem_of_mem_drop hx), by rw [List.length_drop]; omega⟩)
  have HP := Lib.hid (show Parts (((w.alloc (.cells #[.int .u8 0, .int .u8 0, .int .u8 0, .int .u8 0] 5)).alloc (.cells #[.slice A q c, .slice (some ⟨w.heap.size, 0, none⟩) 4 4, .slice E (xs.length - T) (c - T)] 22)).drew) 0 (hi + w.heap.size + 1) (some ⟨w.heap.size + 1, 0, none⟩) [xs.take q, [0, 0, 0, 0], xs.drop T] by
    have hr : RdB (w.alloc (.cells #[.int .u8 0, .int .u8 0, .int .u8 0, .int .u8 0] 5)) lo hi A xs := h.fr (S := nothing) ((Fr.refl _ w).alloc _) (fun _ _ _ h => h)
    have hz := lit_rd w #[.int .u8 0, .int .u8 0, .int .u8 0, .int .u8 0] (0, 0) [0, 0, 0, 0] (by intro i hi; match i, hi with | 0, _ => rfl | 1, _ => rfl | 2, _ => rfl | 3, _ => rfl)
    have P := parts_row (w.alloc (.cells #[.int .u8 0, .int .u8 0, .int .u8 0, .int .u8 0] 5)) #[.slice A q c, .slice (some ⟨w.heap.size, 0, none⟩) 4 4, .slice E (xs.length - T) (c - T)] 0 (hi + w.heap.size + 1) [xs.take q, [0, 0, 0, 0], xs.drop T] (by
      intro i hi2
      match i, hi2 with
      | 0, _ => exact ⟨A, c, by simp [Nat.min_eq_left (show q ≤ xs.length by omega)], (hr.take q).more (Nat.zero_le _) (by omega)⟩
      | 1, _ => exact ⟨_, _, rfl, hz.more (Nat.zero_le _) (by omega)⟩
      | 2, _ => exact ⟨_, _, by simp; rfl, (RdB.fr hdr (S := nothing) ((Fr.refl _ w).alloc (.cells #[.int .u8 0, .int .u8 0, .int .u8 0, .int .u8 0] 5)) (fun _ _ _ h => h)).more (Nat.zero_le _) (by omega)⟩)
    rw [show (w.alloc (.cells #[.int .u8 0, .int .u8 0, .int .u8 0, .int .u8 0] 5)).heap.size = w.heap.size + 1 by simp] at P
    exact P)
  have HC := Lib.hid (sum_calls 0 (hi + w.heap.size + 1) _ 3 [xs.take q, [0, 0, 0, 0], xs.drop T] _ HP.out HB.out (by simp))
  clear en hdr
  have hw : IntKind.i64.wrap ((q : Int) + 4) = (q : Int) + 4 := by rw [IntKind.wrap_i64]; omega
  have b0 : (q : Int) ≤ c := by omega
  have b1 : (q : Int) + 4 ≤ xs.length := by omega
  have b2 : (0 : Int) ≤ (q : Int) + 4 := by omega
  have b3 : (xs.length : Int) ≤ c := by omega
  have b4 : (q : Int) + 4 ≤ c := by omega
  have hmk : ∀ w' : World, (Instr.makeSlice 22 (.int .i64 4) (.int .i64 4)).run Try.prog w' = .ok (.slice (some ⟨w'.heap.size, 0, none⟩) 4 4) (w'.alloc (.cells #[.int .u8 0, .int .u8 0, .int .u8 0, .int .u8 0] 5)) := fun w' =>
    by
      have h := run_make_row' (P := Try.prog) 22 5 (.int .u8 0) 1 Try.underlying22 info_b rfl .i64 .i64 4 (by decide) (by decide) w'
      rw [show madeCells #[Value.int .u8 0] 4 = #[.int .u8 0, .int .u8 0, .int .u8 0, .int .u8 0] from by rw [← Array.toList_inj]; simp [madeCells, List.range, List.range.loop]] at h
      exact h
  go_enter Try.func17, Try.ntmps17
  go_wp2_with fail
  go_region_held_law (fun wq => True) (trivial) (first
    | (go_at_call 8; refine HC.out.mono ?_; rintro e w' ⟨he, rfl⟩; rw [HZ.out] at he; subst he))
  all_goals
    rename_i hK hH
    refine hK _ _ ?_
    clear hK hH
    go_wp2
    go_ret
    exact ⟨rfl, HBL.out.drew⟩
theorem eq_of_take {xs ys : List Int} (hl : xs.length = ys.length) (h : ∀ i (h1 : i < xs.length) (h2 : i < ys.length), xs[i] = ys[i]) : xs = ys :=
  List.ext_getElem hl h
set_option maxHeartbeats 2000000 in
theorem equal_calls (lo hi lo2 hi2 : Nat) (A B : Option Addr) (c c2 : Nat) (xs ys : List Int) (w : World) (h : RdB w lo hi A xs) (h2 : RdB w lo2 hi2 B ys) (hx : xs.length ≤ 9223372036854775807) :
    Calls Try.prog 18 #[.slice A xs.length c, .slice B ys.length c2] w fun e w' => e = .returned (.bool (decide (xs = ys))) ∧ Below w.heap.size w w' := by
  by_cases hl : xs.length = ys.length
  · have hl2 : ¬ (xs.length : Int) ≠ ys.length := by omega
    have hld : ((xs.length : Int) != ys.length) = false := by simp; omega
    go_enter Try.func18, Try.ntmps18
    have HLL := Lib.hid hl
    clear hl hl2
    go_wp2_with fail
    go_loopw [13] (fun i wr => ∃ k : Nat, k ≤ xs.length ∧ i = .int .i64 k ∧ (∀ j (h1 : j < xs.length) (h2 : j < ys.length), j < k → xs[j] = ys[j]) ∧ Below w.heap.size w wr) (fun i _ => xs.length - (intOf i).toNat)
    case atStart => exact ⟨0, Nat.zero_le _, rfl, fun j _ _ h => by omega, Below.refl _ _⟩
    case round =>
      obtain ⟨k, hk, rfl, hall, B1⟩ := hrel
      have HA := Lib.hid hall
      clear hall
      by_cases hlt : k < xs.length
      · have hlt2 : k < ys.length := by have := HLL.out; omega
        obtain ⟨a1, rfl, hc1⟩ := h.at_ k hlt
        obtain ⟨a2, rfl, hc2⟩ := h2.at_ k hlt2
        have d1 : wr.cell? (a1.add k) = some (.int .u8 xs[k]) := (B1.cell (World.block_lt_of_cell? w _ hc1)).trans hc1
        have d2 : wr.cell? (a2.add k) = some (.int .u8 ys[k]) := (B1.cell (World.block_lt_of_cell? w _ hc2)).trans hc2
        have b1 : (k : Int) < ys.length := by omega
        have b2 : (k : Int) < xs.length := by omega
        by_cases he : xs[k] = ys[k]
        · have hne : (xs[k] != ys[k]) = false := by simp [he]
          have HE := Lib.hid he
          clear he hc1 hc2 h h2
          go_wp2_with fail
          go_quiet (fail)
          go_wp2
          go_roundw
          case rel =>
            refine ⟨k + 1, by omega, by go_num, fun j h1 h2 hj => ?_, ⟨B1.os, B1.tape, B1.output, B1.size, B1.block⟩⟩
            rcases Nat.lt_succ_iff_lt_or_eq.1 hj with hj | rfl
            · exact HA.out j h1 h2 hj
            · exact HE.out
          case measure => simp [intOf]; omega
        · have hne : (xs[k] != ys[k]) = true := by simp [he]
          have HD := Lib.hid (show decide (xs = ys) = false by simp; rintro rfl; exact he rfl)
          clear he hc1 hc2 h h2
          go_wp2_with fail
          go_quiet (fail)
          go_wp2
          go_ret
          exact ⟨by rw [HD.out]; rfl, ⟨B1.os, B1.tape, B1.output, B1.size, B1.block⟩⟩
      · have HD := Lib.hid (show decide (xs = ys) = true by
          simp only [decide_eq_true_eq]
          exact eq_of_take HLL.out (fun i h1 h2 => HA.out i h1 h2 (by omega)))
        have b2 : ¬ (k : Int) < xs.length := by omega
        go_wp2
        go_ret
        exact ⟨by rw [HD.out]; rfl, B1⟩
  · have hld : ((xs.length : Int) != ys.length) = true := by simp; omega
    have HD := Lib.hid (show decide (xs = ys) = false by simp; rintro rfl; exact hl rfl)
    clear hl
    go_enter Try.func18, Try.ntmps18
    go_wp2
    go_ret
    exact ⟨by rw [HD.out]; rfl, Below.refl _ _⟩
end Go.Proofs.Ytdapcjeofgimgaa.Crc
