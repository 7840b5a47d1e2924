/- What must be answered ahead of everything else, in package crc's laws; crc.fits, crc.Seal and crc.Sealed of what does not fit. Conditions: none. -/
import Derived.Test.YtdapcjeofgimgaaCrc
namespace Go.Proofs.Ytdapcjeofgimgaa.Crc
open Go.RowKit Go.Proofs.Ytdapcjeofgimgaa.Mem Go.Proofs.Ytdapcjeofgimgaa.Octet
set_option linter.unusedVariables false
set_option linter.unusedSimpArgs false
/-- Are there four bytes at a place? -/
def fitsAt (n : Nat) (at_ : Int) : Bool := decide (0 ≤ at_ ∧ 4 ≤ n ∧ at_ ≤ (n : Int) - 4)
set_option maxHeartbeats 1000000 in
theorem fits_calls (A : Option Addr) (n c : Nat) (p : Int) (w : World) (hn : n ≤ 9223372036854775807) :
    Calls Try.prog 15 #[.slice A n c, .int .i64 p] w fun e w' => e = .returned (.bool (fitsAt n p)) ∧ w' = w := by
  have hw : IntKind.i64.wrap ((n : Int) - 4) = (n : Int) - 4 := by rw [IntKind.wrap_i64]; omega
  have hw2 : wrap64 ((n : Int) - 4) = (n : Int) - 4 := by unfold wrap64; omega
  rcases (show p < 0 ∨ 0 ≤ p by omega) with h1 | h1
  · have d1 : decide (0 ≤ p) = false := by simp; omega
    rw [show fitsAt n p = false by simp [fitsAt]; omega]
    clear h1
    go_enter Try.func15, Try.ntmps15
    go_wp2
    go_ret
    exact ⟨rfl, rfl⟩
  · have d1 : decide (0 ≤ p) = true := by simp; omega
    rcases (show n < 4 ∨ 4 ≤ n by omega) with h2 | h2
    · have d2 : decide (4 ≤ (n : Int)) = false := by simp; omega
      rw [show fitsAt n p = false by simp [fitsAt]; omega]
      clear h1 h2 hn
      go_enter Try.func15, Try.ntmps15
      go_wp2
      go_ret
      exact ⟨rfl, rfl⟩
    · have d2 : decide (4 ≤ (n : Int)) = true := by simp; omega
      have HF := Lib.hid (show fitsAt n p = decide (p ≤ (n : Int) - 4) by unfold fitsAt; by_cases h : p ≤ (n : Int) - 4 <;> simp [h, h1, h2])
      rw [HF.out]
      clear h1 h2 hn HF
      go_enter Try.func15, Try.ntmps15
      go_wp2
      go_ret
      exact ⟨rfl, rfl⟩
set_option maxHeartbeats 1000000 in
theorem seal_no (A : Option Addr) (n c : Nat) (p : Int) (w : World) (hn : n ≤ 9223372036854775807) (hf : fitsAt n p = false) :
    Calls Try.prog 10 #[.slice A n c, .int .i64 p] w fun e w' => e = .returned (.tuple #[.slice none 0 0, .bool false]) ∧ w' = w := by
  go_enter Try.func10, Try.ntmps10
  go_wp2_with fail
  refine (fits_calls A n c p w hn).mono ?_
  rintro e w1 ⟨he, rfl⟩
  rw [hf] at he
  subst he
  go_wp2
  go_ret2
  exact ⟨rfl, rfl⟩
set_option maxHeartbeats 1000000 in
theorem sealed_no (A : Option Addr) (n c : Nat) (p : Int) (w : World) (hn : n ≤ 9223372036854775807) (hf : fitsAt n p = false) :
    Calls Try.prog 12 #[.slice A n c, .int .i64 p] w fun e w' => e = .returned (.bool false) ∧ w' = w := by
  go_enter Try.func12, Try.ntmps12
  go_wp2_with fail
  refine (seal_no A n c p w hn hf).mono ?_
  rintro e w1 ⟨rfl, rfl⟩
  go_wp2
  go_ret
  exact ⟨rfl, rfl⟩
def FirstP (w : World) (e : Ending) (w' : World) : Prop := e = .returned (.bool true) ∧ Below w.heap.size w w'
set_option maxHeartbeats 2000000 in
theorem first_calls (w : World) : Calls Try.prog 7 #[] w (FirstP w) := by
  have kc := Lib.run_convert_bytes_const (P := Try.prog) w 22 5 #[.int .u8 49, .int .u8 50, .int .u8 51, .int .u8 52, .int .u8 53, .int .u8 54, .int .u8 55, .int .u8 56, .int .u8 57] 9 9 Try.underlying22 Try.underlying5
  have R0 := lit_rd w #[.int .u8 49, .int .u8 50, .int .u8 51, .int .u8 52, .int .u8 53, .int .u8 54, .int .u8 55, .int .u8 56, .int .u8 57] (9, 10) [49, 50, 51, 52, 53, 54, 55, 56, 57] (by intro i hi; match i, hi with | 0, _ => rfl | 1, _ => rfl | 2, _ => rfl | 3, _ => rfl | 4, _ => rfl | 5, _ => rfl | 6, _ => rfl | 7, _ => rfl | 8, _ => rfl)
  have P0 := parts_row (w.alloc (.cells #[.int .u8 49, .int .u8 50, .int .u8 51, .int .u8 52, .int .u8 53, .int .u8 54, .int .u8 55, .int .u8 56, .int .u8 57] 5 (9, 10))) #[.slice (some ⟨w.heap.size, 0, none⟩) 9 9] 0 (w.heap.size + 1) [[49, 50, 51, 52, 53, 54, 55, 56, 57]] (by intro i hi; match i, hi with | 0, _ => exact ⟨_, _, rfl, R0⟩)
  rw [show (w.alloc (.cells #[.int .u8 49, .int .u8 50, .int .u8 51, .int .u8 52, .int .u8 53, .int .u8 54, .int .u8 55, .int .u8 56, .int .u8 57] 5 (9, 10))).heap.size = w.heap.size + 1 by simp] at P0
  have B0 := ((Below.refl w.heap.size w).alloc (Nat.le_refl _) (.cells #[.int .u8 49, .int .u8 50, .int .u8 51, .int .u8 52, .int .u8 53, .int .u8 54, .int .u8 55, .int .u8 56, .int .u8 57] 5 (9, 10))).alloc (by simp) (.cells #[.slice (some ⟨w.heap.size, 0, none⟩) 9 9] 22)
  clear R0
  go_enter Try.func7, Try.ntmps7
  go_wp2_with fail
  generalize (w.alloc (.cells #[.int .u8 49, .int .u8 50, .int .u8 51, .int .u8 52, .int .u8 53, .int .u8 54, .int .u8 55, .int .u8 56, .int .u8 57] 5 (9, 10))).alloc (.cells #[.slice (some ⟨w.heap.size, 0, none⟩) 9 9] 22) = w1 at P0 B0 ⊢
  refine (sum_calls 0 (w.heap.size + 1) _ 1 [[49, 50, 51, 52, 53, 54, 55, 56, 57]] w1 P0 (by intro xs hx; simp at hx; subst hx; exact ⟨by intro x hx; simp at hx; omega, by decide⟩) (by decide)).mono ?_
  rintro e w2 ⟨he, rfl⟩
  rw [show crcS ([[49, 50, 51, 52, 53, 54, 55, 56, 57]] : List (List Int)).flatten = 3808858755 from by decide +kernel] at he
  subst he
  clear kc P0
  go_wp2_with fail
  refine (sum_calls 0 0 none 0 [] _ (.inl rfl) (by intro xs hx; simp at hx) (by decide)).mono ?_
  rintro e w3 ⟨he, rfl⟩
  rw [show crcS ([] : List (List Int)).flatten = 0 from by decide +kernel] at he
  subst he
  have kc := Lib.run_convert_bytes_const (P := Try.prog) w3 22 5 #[.int .u8 97, .int .u8 98, .int .u8 99] 3 3 Try.underlying22 Try.underlying5
  go_wp2_with fail
  refine (sealed_no _ 3 3 0 _ (by decide) (by decide)).mono ?_
  rintro e w4 ⟨rfl, rfl⟩
  go_wp2
  go_ret
  exact ⟨rfl, B0.alloc B0.size _⟩
end Go.Proofs.Ytdapcjeofgimgaa.Crc
