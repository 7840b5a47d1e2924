/- Contracts of the document's own estimate (flumeref10): Sample, Wait. Conditions: each names its block, known whole, and the bounds of its fields. -/
import Derived.Test.YtpjlnnebknekcaaRtt
namespace Go.Proofs.Ytpjlnnebknekcaa.RttRef
open Go.RowKit Go.Proofs.Ytpjlnnebknekcaa.Mem Go.Proofs.Ytpjlnnebknekcaa.Rtt
set_option linter.unusedVariables false
set_option linter.unusedSimpArgs false
attribute [local go_sem] max2_int min2_int max_two min_two


theorem ref_bad (g : Nat) (t : Int) (w : World) (h : t < 0 ∨ 60000 < t) :
    Calls Try.prog 13 #[.pointer (some ⟨g, 0, none⟩), .int .i64 t] w fun e w' => e = .returned (.bool false) ∧ w' = w := by
  rcases h with h | h
  · go_enter Try.func13, Try.ntmps13
    go_wp2
    go_ret
    exact ⟨rfl, rfl⟩
  · have h' : ¬ t < 0 := by omega
    go_enter Try.func13, Try.ntmps13
    go_wp2
    go_ret
    exact ⟨rfl, rfl⟩

theorem ref_first (g : Nat) (s d n t : Int) (w : World) (hb : Blk w g 35 (cells ⟨s, d, false, n⟩)) (h0 : 0 ≤ t) (h1 : t ≤ 60000) :
    Calls Try.prog 13 #[.pointer (some ⟨g, 0, none⟩), .int .i64 t] w fun e w' => e = .returned (.bool true) ∧ Blk w' g 35 (cells ⟨8 * t, 2 * t, true, 0⟩) ∧ Fr (only g) w w' := by
  have c0 := hb.cell 0
  have c1 := hb.cell 1
  have c2 := hb.cell 2
  have c3 := hb.cell 3
  have f0 := hb.frozen 0
  have f1 := hb.frozen 1
  have f2 := hb.frozen 2
  have f3 := hb.frozen 3
  simp [cells] at c0 c1 c2 c3
  have hu35 := Try.underlying35
  go_enter Try.func13, Try.ntmps13
  go_wp2
  go_ret
  refine ⟨rfl, ?_, (by repeat (with_reducible first | exact Fr.refl _ _ | apply Fr.drewN | apply Fr.drew | apply Fr.alloc | apply Fr.set_only))⟩
  apply Blk.cast
  · (repeat (with_reducible first | exact hb | apply Blk.set | apply Blk.drewN | apply Blk.drew | apply Blk.alloc))
  · simp [cells]

theorem ref_neg (g : Nat) (s d n t : Int) (w : World) (hb : Blk w g 35 (cells ⟨s, d, true, n⟩)) (h0 : 0 ≤ t) (h1 : t ≤ 60000) (s0 : 0 ≤ s) (s1 : s ≤ 480007) (d0 : 0 ≤ d) (d1 : d ≤ 240003) (hn : t - s / 8 < 0) :
    Calls Try.prog 13 #[.pointer (some ⟨g, 0, none⟩), .int .i64 t] w fun e w' => e = .returned (.bool true) ∧ Blk w' g 35 (cells ⟨s + (t - s / 8), d + (-(t - s / 8) - d / 4), true, 0⟩) ∧ Fr (only g) w w' := by
  have c0 := hb.cell 0
  have c1 := hb.cell 1
  have c2 := hb.cell 2
  have c3 := hb.cell 3
  have f0 := hb.frozen 0
  have f1 := hb.frozen 1
  have f2 := hb.frozen 2
  have f3 := hb.frozen 3
  simp [cells] at c0 c1 c2 c3
  have hu35 := Try.underlying35
  have hlt : t - s / 8 < -(t - s / 8) := by omega
  go_enter Try.func13, Try.ntmps13
  go_wp2
  go_region
  go_wp2
  go_ret
  refine ⟨rfl, ?_, (by repeat (with_reducible first | exact Fr.refl _ _ | apply Fr.drewN | apply Fr.drew | apply Fr.alloc | apply Fr.set_only))⟩
  apply Blk.cast
  · (repeat (with_reducible first | exact hb | apply Blk.set | apply Blk.drewN | apply Blk.drew | apply Blk.alloc))
  · simp [cells]; omega

theorem ref_pos (g : Nat) (s d n t : Int) (w : World) (hb : Blk w g 35 (cells ⟨s, d, true, n⟩)) (h0 : 0 ≤ t) (h1 : t ≤ 60000) (s0 : 0 ≤ s) (s1 : s ≤ 480007) (d0 : 0 ≤ d) (d1 : d ≤ 240003) (hn : 0 ≤ t - s / 8) :
    Calls Try.prog 13 #[.pointer (some ⟨g, 0, none⟩), .int .i64 t] w fun e w' => e = .returned (.bool true) ∧ Blk w' g 35 (cells ⟨s + (t - s / 8), d + ((t - s / 8) - d / 4), true, 0⟩) ∧ Fr (only g) w w' := by
  have c0 := hb.cell 0
  have c1 := hb.cell 1
  have c2 := hb.cell 2
  have c3 := hb.cell 3
  have f0 := hb.frozen 0
  have f1 := hb.frozen 1
  have f2 := hb.frozen 2
  have f3 := hb.frozen 3
  simp [cells] at c0 c1 c2 c3
  have hu35 := Try.underlying35
  have hlt : ¬ t - s / 8 < -(t - s / 8) := by omega
  go_enter Try.func13, Try.ntmps13
  go_wp2
  go_region
  go_wp2
  go_ret
  refine ⟨rfl, ?_, (by repeat (with_reducible first | exact Fr.refl _ _ | apply Fr.drewN | apply Fr.drew | apply Fr.alloc | apply Fr.set_only))⟩
  apply Blk.cast
  · (repeat (with_reducible first | exact hb | apply Blk.set | apply Blk.drewN | apply Blk.drew | apply Blk.alloc))
  · simp [cells]; omega

theorem ref_at (g : Nat) (e e' : Es) (t : Int) (w : World) (hb : Blk w g 35 (cells e)) (h0 : 0 ≤ t) (h1 : t ≤ 60000) (s0 : 0 ≤ e.s) (s1 : e.s ≤ 480007) (d0 : 0 ≤ e.d) (d1 : e.d ≤ 240003) (he : samp e t = e') :
    Calls Try.prog 13 #[.pointer (some ⟨g, 0, none⟩), .int .i64 t] w fun e w' => e = .returned (.bool true) ∧ Blk w' g 35 (cells e') ∧ Fr (only g) w w' := by
  subst he
  obtain ⟨s, d, tk, n⟩ := e
  simp only at s0 s1 d0 d1
  cases tk
  · exact ref_first g s d n t w hb h0 h1
  · by_cases hn : t - s / 8 < 0
    · have := ref_neg g s d n t w hb h0 h1 s0 s1 d0 d1 hn
      simpa only [samp, if_true, if_pos hn] using this
    · have := ref_pos g s d n t w hb h0 h1 s0 s1 d0 d1 (by omega)
      simpa only [samp, if_true, if_neg hn] using this

theorem dbl_600 (k : Nat) : dbl k 600 = 600 := by
  induction k with
  | zero => rfl
  | succ k ih => rw [dbl_snoc, ih]; rfl
theorem dbl_stays (j k : Nat) (x : Int) (h : dbl j x = 600) : dbl (j + k) x = 600 := by
  induction k with
  | zero => exact h
  | succ k ih => rw [← Nat.add_assoc, dbl_snoc, ih]; rfl

set_option maxHeartbeats 2000000 in
set_option maxRecDepth 100000 in
theorem refwait_calls (g : Nat) (s d n : Int) (tk : Bool) (w : World) (hb : Blk w g 35 (cells ⟨s, d, tk, n⟩)) (s0 : 0 ≤ s) (s1 : s ≤ 480007) (d0 : 0 ≤ d) (d1 : d ≤ 240003) (n0 : 0 ≤ n) (n1 : n ≤ 1000) :
    Calls Try.prog 15 #[.pointer (some ⟨g, 0, none⟩)] w fun e w' => e = .returned (.int .i64 (waitOf ⟨s, d, tk, n⟩)) ∧ Fr nothing w w' := by
  have c0 := hb.cell 0
  have c1 := hb.cell 1
  have c2 := hb.cell 2
  have c3 := hb.cell 3
  have f0 := hb.frozen 0
  have f1 := hb.frozen 1
  have f2 := hb.frozen 2
  have f3 := hb.frozen 3
  simp [cells] at c0 c1 c2 c3
  have hu35 := Try.underlying35
  have hw1 : IntKind.i64.wrap (s / 8 + d) = s / 8 + d := IntWalk.i64_in _ (by omega)
  have hw2 : IntKind.i64.wrap (s / 8) = s / 8 := IntWalk.i64_in _ (by omega)
  have hw3 : s.tdiv 8 = s / 8 := Int.tdiv_eq_ediv_of_nonneg s0
  obtain ⟨b, hbb⟩ : ∃ b, base s d tk = b := ⟨_, rfl⟩
  have bl := base_range s d tk
  rw [hbb] at bl
  have HB := Lib.hid hbb; clear hbb
  have NN : ((n.toNat : Nat) : Int) = n := Int.toNat_of_nonneg n0
  have HN := Lib.hid NN; clear NN
  have WO : waitOf ⟨s, d, tk, n⟩ = dbl n.toNat b := by unfold waitOf; simp only; rw [HB.out]
  rw [WO]
  clear WO
  cases tk
  · obtain rfl : b = 30 := HB.out.symm
    go_enter Try.func15, Try.ntmps15
    go_wp2
    go_loopw [3, 4] (fun v i wr => ∃ k : Nat, k ≤ n.toNat ∧ i = .int .i64 k ∧ v = .int .i64 (dbl k (30)) ∧ ∃ m, wr = w.drewN m) (fun _ i _ => n.toNat - (intOf i).toNat)
    case atStart => first | exact ⟨0, Nat.zero_le _, rfl, rfl, _, rfl⟩ | exact ⟨0, Nat.zero_le _, rfl, rfl, 0, rfl⟩
    case round =>
      obtain ⟨k, hk, rfl, rfl, m, rfl⟩ := hrel
      have hr := dbl_range k (30) bl.1 bl.2
      have hs := dbl_snoc k (30)
      have HS := Lib.hid hs; clear hs
      by_cases hlt : (k : Int) < n
      · by_cases h6 : dbl k (30) < 600
        · by_cases h7 : 2 * dbl k (30) < 600
          · have h8 : ¬ 600 < 2 * dbl k (30) := by omega
            go_wp2
            go_roundw
            case rel => exact ⟨k + 1, by have := HN.out; omega, by go_num, by rw [HS.out, if_pos h7], _, rfl⟩
            case measure => have := HN.out; simp [intOf]; omega
          · by_cases h8 : 600 < 2 * dbl k (30)
            · go_wp2
              go_roundw
              case rel => exact ⟨k + 1, by have := HN.out; omega, by go_num, by rw [HS.out, if_neg h7], _, rfl⟩
              case measure => have := HN.out; simp [intOf]; omega
            · have h9 : 2 * dbl k (30) = 600 := by omega
              have H9 := Lib.hid h9; clear h9
              go_wp2
              go_roundw
              case rel => exact ⟨k + 1, by have := HN.out; omega, by go_num, by rw [HS.out, if_neg h7, H9.out], _, rfl⟩
              case measure => have := HN.out; simp [intOf]; omega
        · have h9 : dbl k (30) = 600 := by omega
          obtain ⟨j, hj⟩ : ∃ j, n.toNat = k + j := ⟨n.toNat - k, by omega⟩
          have H10 := Lib.hid (show dbl n.toNat (30) = dbl k (30) by rw [hj, dbl_stays k j _ h9, h9])
          clear hj h9
          go_wp2
          go_ret
          exact ⟨by rw [H10.out]; rfl, (by repeat (with_reducible first | exact Fr.refl _ _ | apply Fr.drewN | apply Fr.drew))⟩
      · go_wp2
        go_ret
        have e : k = n.toNat := by have := HN.out; omega
        subst e
        exact ⟨rfl, (by repeat (with_reducible first | exact Fr.refl _ _ | apply Fr.drewN | apply Fr.drew))⟩
  · have hb2 : (if 10 < (if s / 8 + d < 600 then s / 8 + d else 600) then (if s / 8 + d < 600 then s / 8 + d else 600) else 10) = b := HB.out
    rcases Int.lt_or_le (s / 8 + d) 10 with q1 | q1
    · obtain rfl : b = 10 := by rw [if_neg (by split <;> omega)] at hb2; exact hb2.symm
      clear hb2
      go_enter Try.func15, Try.ntmps15
      go_wp2
      go_quiet (fail)
      go_wp2
      go_loopw [3, 4] (fun v i wr => ∃ k : Nat, k ≤ n.toNat ∧ i = .int .i64 k ∧ v = .int .i64 (dbl k (10)) ∧ ∃ m, wr = w.drewN m) (fun _ i _ => n.toNat - (intOf i).toNat)
      case atStart => first | exact ⟨0, Nat.zero_le _, rfl, rfl, _, rfl⟩ | exact ⟨0, Nat.zero_le _, rfl, rfl, 0, rfl⟩
      case round =>
        obtain ⟨k, hk, rfl, rfl, m, rfl⟩ := hrel
        have hr := dbl_range k (10) bl.1 bl.2
        have hs := dbl_snoc k (10)
        have HS := Lib.hid hs; clear hs
        by_cases hlt : (k : Int) < n
        · by_cases h6 : dbl k (10) < 600
          · by_cases h7 : 2 * dbl k (10) < 600
            · have h8 : ¬ 600 < 2 * dbl k (10) := by omega
              go_wp2
              go_roundw
              case rel => exact ⟨k + 1, by have := HN.out; omega, by go_num, by rw [HS.out, if_pos h7], _, rfl⟩
              case measure => have := HN.out; simp [intOf]; omega
            · by_cases h8 : 600 < 2 * dbl k (10)
              · go_wp2
                go_roundw
                case rel => exact ⟨k + 1, by have := HN.out; omega, by go_num, by rw [HS.out, if_neg h7], _, rfl⟩
                case measure => have := HN.out; simp [intOf]; omega
              · have h9 : 2 * dbl k (10) = 600 := by omega
                have H9 := Lib.hid h9; clear h9
                go_wp2
                go_roundw
                case rel => exact ⟨k + 1, by have := HN.out; omega, by go_num, by rw [HS.out, if_neg h7, H9.out], _, rfl⟩
                case measure => have := HN.out; simp [intOf]; omega
          · have h9 : dbl k (10) = 600 := by omega
            obtain ⟨j, hj⟩ : ∃ j, n.toNat = k + j := ⟨n.toNat - k, by omega⟩
            have H10 := Lib.hid (show dbl n.toNat (10) = dbl k (10) by rw [hj, dbl_stays k j _ h9, h9])
            clear hj h9
            go_wp2
            go_ret
            exact ⟨by rw [H10.out]; rfl, (by repeat (with_reducible first | exact Fr.refl _ _ | apply Fr.drewN | apply Fr.drew))⟩
        · go_wp2
          go_ret
          have e : k = n.toNat := by have := HN.out; omega
          subst e
          exact ⟨rfl, (by repeat (with_reducible first | exact Fr.refl _ _ | apply Fr.drewN | apply Fr.drew))⟩
    · rcases Int.lt_or_le 600 (s / 8 + d) with q2 | q2
      · obtain rfl : b = 600 := by rw [if_pos (by split <;> omega), if_neg (by omega)] at hb2; exact hb2.symm
        clear hb2
        have q3 : ¬ s / 8 + d < 10 := by omega
        go_enter Try.func15, Try.ntmps15
        go_wp2
        go_quiet (fail)
        go_wp2
        go_loopw [3, 4] (fun v i wr => ∃ k : Nat, k ≤ n.toNat ∧ i = .int .i64 k ∧ v = .int .i64 (dbl k (600)) ∧ ∃ m, wr = w.drewN m) (fun _ i _ => n.toNat - (intOf i).toNat)
        case atStart => first | exact ⟨0, Nat.zero_le _, rfl, rfl, _, rfl⟩ | exact ⟨0, Nat.zero_le _, rfl, rfl, 0, rfl⟩
        case round =>
          obtain ⟨k, hk, rfl, rfl, m, rfl⟩ := hrel
          have hr := dbl_range k (600) bl.1 bl.2
          have hs := dbl_snoc k (600)
          have HS := Lib.hid hs; clear hs
          by_cases hlt : (k : Int) < n
          · by_cases h6 : dbl k (600) < 600
            · by_cases h7 : 2 * dbl k (600) < 600
              · have h8 : ¬ 600 < 2 * dbl k (600) := by omega
                go_wp2
                go_roundw
                case rel => exact ⟨k + 1, by have := HN.out; omega, by go_num, by rw [HS.out, if_pos h7], _, rfl⟩
                case measure => have := HN.out; simp [intOf]; omega
              · by_cases h8 : 600 < 2 * dbl k (600)
                · go_wp2
                  go_roundw
                  case rel => exact ⟨k + 1, by have := HN.out; omega, by go_num, by rw [HS.out, if_neg h7], _, rfl⟩
                  case measure => have := HN.out; simp [intOf]; omega
                · have h9 : 2 * dbl k (600) = 600 := by omega
                  have H9 := Lib.hid h9; clear h9
                  go_wp2
                  go_roundw
                  case rel => exact ⟨k + 1, by have := HN.out; omega, by go_num, by rw [HS.out, if_neg h7, H9.out], _, rfl⟩
                  case measure => have := HN.out; simp [intOf]; omega
            · have h9 : dbl k (600) = 600 := by omega
              obtain ⟨j, hj⟩ : ∃ j, n.toNat = k + j := ⟨n.toNat - k, by omega⟩
              have H10 := Lib.hid (show dbl n.toNat (600) = dbl k (600) by rw [hj, dbl_stays k j _ h9, h9])
              clear hj h9
              go_wp2
              go_ret
              exact ⟨by rw [H10.out]; rfl, (by repeat (with_reducible first | exact Fr.refl _ _ | apply Fr.drewN | apply Fr.drew))⟩
          · go_wp2
            go_ret
            have e : k = n.toNat := by have := HN.out; omega
            subst e
            exact ⟨rfl, (by repeat (with_reducible first | exact Fr.refl _ _ | apply Fr.drewN | apply Fr.drew))⟩
      · have hb3 : s / 8 + d = b := by
          rw [← hb2]; (repeat' split) <;> omega
        clear hb2
        have q3 : ¬ s / 8 + d < 10 := by omega
        have q4 : ¬ 600 < s / 8 + d := by omega
        have HB3 := Lib.hid hb3; clear hb3
        go_enter Try.func15, Try.ntmps15
        go_wp2
        go_quiet (fail)
        go_wp2
        rw [HB3.out]
        go_loopw [3, 4] (fun v i wr => ∃ k : Nat, k ≤ n.toNat ∧ i = .int .i64 k ∧ v = .int .i64 (dbl k (b)) ∧ ∃ m, wr = w.drewN m) (fun _ i _ => n.toNat - (intOf i).toNat)
        case atStart => first | exact ⟨0, Nat.zero_le _, rfl, rfl, _, rfl⟩ | exact ⟨0, Nat.zero_le _, rfl, rfl, 0, rfl⟩
        case round =>
          obtain ⟨k, hk, rfl, rfl, m, rfl⟩ := hrel
          have hr := dbl_range k (b) bl.1 bl.2
          have hs := dbl_snoc k (b)
          have HS := Lib.hid hs; clear hs
          by_cases hlt : (k : Int) < n
          · by_cases h6 : dbl k (b) < 600
            · by_cases h7 : 2 * dbl k (b) < 600
              · have h8 : ¬ 600 < 2 * dbl k (b) := by omega
                go_wp2
                go_roundw
                case rel => exact ⟨k + 1, by have := HN.out; omega, by go_num, by rw [HS.out, if_pos h7], _, rfl⟩
                case measure => have := HN.out; simp [intOf]; omega
              · by_cases h8 : 600 < 2 * dbl k (b)
                · go_wp2
                  go_roundw
                  case rel => exact ⟨k + 1, by have := HN.out; omega, by go_num, by rw [HS.out, if_neg h7], _, rfl⟩
                  case measure => have := HN.out; simp [intOf]; omega
                · have h9 : 2 * dbl k (b) = 600 := by omega
                  have H9 := Lib.hid h9; clear h9
                  go_wp2
                  go_roundw
                  case rel => exact ⟨k + 1, by have := HN.out; omega, by go_num, by rw [HS.out, if_neg h7, H9.out], _, rfl⟩
                  case measure => have := HN.out; simp [intOf]; omega
            · have h9 : dbl k (b) = 600 := by omega
              obtain ⟨j, hj⟩ : ∃ j, n.toNat = k + j := ⟨n.toNat - k, by omega⟩
              have H10 := Lib.hid (show dbl n.toNat (b) = dbl k (b) by rw [hj, dbl_stays k j _ h9, h9])
              clear hj h9
              go_wp2
              go_ret
              exact ⟨by rw [H10.out]; rfl, (by repeat (with_reducible first | exact Fr.refl _ _ | apply Fr.drewN | apply Fr.drew))⟩
          · go_wp2
            go_ret
            have e : k = n.toNat := by have := HN.out; omega
            subst e
            exact ⟨rfl, (by repeat (with_reducible first | exact Fr.refl _ _ | apply Fr.drewN | apply Fr.drew))⟩
end Go.Proofs.Ytpjlnnebknekcaa.RttRef
