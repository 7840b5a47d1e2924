/- What must be answered ahead of everything else, in package crc's laws; crc.fits, crc.Seal and crc.Sealed of what does not fit. Conditions: none. -/
import Derived.Test.YtnhkmapeleomkaaCrc
namespace Go.Proofs.Ytnhkmapeleomkaa.Crc
open Go.RowKit Go.Proofs.Ytnhkmapeleomkaa.Mem Go.Proofs.Ytnhkmapeleomkaa.Octet
set_option linter.unusedVariables false
set_option linter.unusedSimpArgs false
/-- Are there four bytes at a place? -/
def fitsAt (n : Nat) (at_ : Int) : Bool := decide (0 ≤ at_ ∧ 4 ≤ n ∧ at_ ≤ (n : Int) - 4)
set_option maxHeartbeats 1000000 in
theorem fits_calls (A : Option Addr) (n c : Nat) (p : Int) (w : World) (hn : n ≤ 9223372036854775807) :
    Calls Try.prog 35 #[.slice A n c, .int .i64 p] w fun e w' => e = .returned (.bool (fitsAt n p)) ∧ w' = w := by
  have hw : IntKind.i64.wrap ((n : Int) - 4) = (n : Int) - 4 := by rw [IntKind.wrap_i64]; omega
  have hw2 : wrap64 ((n : Int) - 4) = (n : Int) - 4 := by unfold wrap64; omega
  rcases (show p < 0 ∨ 0 ≤ p by omega) with h1 | h1
  · have d1 : decide (0 ≤ p) = false := by simp; omega
    rw [show fitsAt n p = false by simp [fitsAt]; omega]
    clear h1
    go_enter Try.func35, Try.ntmps35
    go_wp2
    go_ret
    exact ⟨rfl, rfl⟩
  · have d1 : decide (0 ≤ p) = true := by simp; omega
    rcases (show n < 4 ∨ 4 ≤ n by omega) with h2 | h2
    · have d2 : decide (4 ≤ (n : Int)) = false := by simp; omega
      rw [show fitsAt n p = false by simp [fitsAt]; omega]
      clear h1 h2 hn
      go_enter Try.func35, Try.ntmps35
      go_wp2
      go_ret
      exact ⟨rfl, rfl⟩
    · have d2 : decide (4 ≤ (n : Int)) = true := by simp; omega
      have HF := Lib.hid (show fitsAt n p = decide (p ≤ (n : Int) - 4) by unfold fitsAt; by_cases h : p ≤ (n : Int) - 4 <;> simp [h, h1, h2])
      rw [HF.out]
      clear h1 h2 hn HF
      go_enter Try.func35, Try.ntmps35
      go_wp2
      go_ret
      exact ⟨rfl, rfl⟩
set_option maxHeartbeats 1000000 in
theorem seal_no (A : Option Addr) (n c : Nat) (p : Int) (w : World) (hn : n ≤ 9223372036854775807) (hf : fitsAt n p = false) :
    Calls Try.prog 23 #[.slice A n c, .int .i64 p] w fun e w' => e = .returned (.tuple #[.slice none 0 0, .bool false]) ∧ w' = w := by
  go_enter Try.func23, Try.ntmps23
  go_wp2_with fail
  refine (fits_calls A n c p w hn).mono ?_
  rintro e w1 ⟨he, rfl⟩
  rw [hf] at he
  subst he
  go_wp2
  go_ret2
  exact ⟨rfl, rfl⟩
def FirstP (w : World) (e : Ending) (w' : World) : Prop := e = .returned (.bool true) ∧ Below w.heap.size w w'
end Go.Proofs.Ytnhkmapeleomkaa.Crc
