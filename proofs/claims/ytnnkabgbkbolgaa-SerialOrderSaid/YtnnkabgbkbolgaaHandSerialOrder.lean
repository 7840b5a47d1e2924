/- Row SerialOrder: flumelaw01.SerialOrder answers true for every three 32-bit numbers; the walk by hand in four cases, over the contracts of the functions that it calls. No conditions. -/
import Derived.Test.YtnnkabgbkbolgaaPSerialShortsx1
import Derived.Test.YtnnkabgbkbolgaaBase
import Derived.Lib.Hide
namespace Go.Proofs.Ytnnkabgbkbolgaa.HandSerialOrder
open Go.RowKit Go.Proofs.YtnnkabgbkbolgaaW.PrintWords Go.Proofs.YtnnkabgbkbolgaaW.PrintLast Go.Proofs.YtnnkabgbkbolgaaW.PrintMore
open Go.Proofs.Ytnnkabgbkbolgaa.PSerialShorts
set_option linter.unusedVariables false
set_option linter.unusedSimpArgs false

def less (a b : Int) : Bool := decide (0 < (b - a) % 4294967296 ∧ (b - a) % 4294967296 < 2147483648)
theorem less_eq (a b : Int) : serial_Less.f a b = some (less a b) := by
  unfold serial_Less.f wrap32 less
  congr 1
  exact decide_eq_decide.2 (by omega)
theorem less_calls (a b : Int) (r : Bool) (w : World) (h : less a b = r) :
    Calls Try.prog 10 #[.int .u32 a, .int .u32 b] w fun e w' => e = .returned (.bool r) ∧ Drawn0 w w' :=
  serial_Less.calls a b r w (by rw [less_eq, h])
theorem first_calls (w : World) : Calls Try.prog 9 #[] w fun e w' => e = .returned (.bool true) ∧ Drawn0 w w' :=
  flumelaw01_first.calls true w (by decide +kernel)
-- y: the third number that the law looks at, x: the second
def isx (a b x : Int) : Prop := 0 ≤ x ∧ x < 4294967296 ∧ (x - a - b % 1073741824) % 4294967296 = 0
def isy (a b c y : Int) : Prop := 0 ≤ y ∧ y < 4294967296 ∧ (y - a - b % 1073741824 - c % 1073741823 - 1) % 4294967296 = 0

set_option maxHeartbeats 1000000 in
theorem walk1 (a b c : Int) (w : World) (ha : 0 ≤ a ∧ a < 4294967296) (hb : 0 ≤ b) (hc : 0 ≤ c)
    (g1 : less a b = true) (g2 : less b a = false) (n1 : (a != b) = true) (n2 : ((b - a) % 4294967296 != 2147483648) = true)
    (y1 : ∀ y, isy a b c y → less a y = true) (y2 : ∀ x y, isx a b x → isy a b c y → less x y = true) (y3 : ∀ y, isy a b c y → less y a = false) :
    Calls Try.prog 3 #[.int .u32 a, .int .u32 b, .int .u32 c] w fun e w' => e = .returned (.bool true) ∧ Drawn0 w w' := by
  have G1 := Lib.hid g1; clear g1
  have G2 := Lib.hid g2; clear g2
  have Y1 := Lib.hid y1; clear y1
  have Y2 := Lib.hid y2; clear y2
  have Y3 := Lib.hid y3; clear y3
  go_enter Try.func3, Try.ntmps3
  go_wp2_with (first | (go_at_call 9; refine (first_calls _).mono ?_; rintro e w' ⟨rfl, ⟨nd, rfl⟩⟩) | (go_at_call 10; first | ((with_reducible refine (less_calls a b true _ G1.out).mono ?_); rintro e w' ⟨rfl, ⟨nd, rfl⟩⟩) | ((with_reducible refine (less_calls b a false _ G2.out).mono ?_); rintro e w' ⟨rfl, ⟨nd, rfl⟩⟩) | ((with_reducible refine (less_calls _ a false _ (Y3.out _ (by unfold isy; omega))).mono ?_); rintro e w' ⟨rfl, ⟨nd, rfl⟩⟩) | ((with_reducible refine (less_calls a _ true _ (Y1.out _ (by unfold isy; omega))).mono ?_); rintro e w' ⟨rfl, ⟨nd, rfl⟩⟩) | ((with_reducible refine (less_calls _ _ true _ (Y2.out _ _ (by unfold isx; omega) (by unfold isy; omega))).mono ?_); rintro e w' ⟨rfl, ⟨nd, rfl⟩⟩)))
  go_ret
  exact ⟨rfl, by repeat (first | exact Drawn0.refl _ | apply Drawn0.step)⟩

set_option maxHeartbeats 1000000 in
theorem walk2 (a b c : Int) (w : World) (ha : 0 ≤ a ∧ a < 4294967296) (hb : 0 ≤ b) (hc : 0 ≤ c)
    (g1 : less a b = false) (g2 : less b a = false) (n1 : (a != b) = false) (n2 : ((b - a) % 4294967296 != 2147483648) = true)
    (y1 : ∀ y, isy a b c y → less a y = true) (y2 : ∀ x y, isx a b x → isy a b c y → less x y = true) (y3 : ∀ y, isy a b c y → less y a = false) :
    Calls Try.prog 3 #[.int .u32 a, .int .u32 b, .int .u32 c] w fun e w' => e = .returned (.bool true) ∧ Drawn0 w w' := by
  have G1 := Lib.hid g1; clear g1
  have G2 := Lib.hid g2; clear g2
  have Y1 := Lib.hid y1; clear y1
  have Y2 := Lib.hid y2; clear y2
  have Y3 := Lib.hid y3; clear y3
  go_enter Try.func3, Try.ntmps3
  go_wp2_with (first | (go_at_call 9; refine (first_calls _).mono ?_; rintro e w' ⟨rfl, ⟨nd, rfl⟩⟩) | (go_at_call 10; first | ((with_reducible refine (less_calls a b false _ G1.out).mono ?_); rintro e w' ⟨rfl, ⟨nd, rfl⟩⟩) | ((with_reducible refine (less_calls b a false _ G2.out).mono ?_); rintro e w' ⟨rfl, ⟨nd, rfl⟩⟩) | ((with_reducible refine (less_calls _ a false _ (Y3.out _ (by unfold isy; omega))).mono ?_); rintro e w' ⟨rfl, ⟨nd, rfl⟩⟩) | ((with_reducible refine (less_calls a _ true _ (Y1.out _ (by unfold isy; omega))).mono ?_); rintro e w' ⟨rfl, ⟨nd, rfl⟩⟩) | ((with_reducible refine (less_calls _ _ true _ (Y2.out _ _ (by unfold isx; omega) (by unfold isy; omega))).mono ?_); rintro e w' ⟨rfl, ⟨nd, rfl⟩⟩)))
  go_ret
  exact ⟨rfl, by repeat (first | exact Drawn0.refl _ | apply Drawn0.step)⟩

set_option maxHeartbeats 1000000 in
theorem walk3 (a b c : Int) (w : World) (ha : 0 ≤ a ∧ a < 4294967296) (hb : 0 ≤ b) (hc : 0 ≤ c)
    (g1 : less a b = false) (g2 : less b a = false) (n1 : (a != b) = true) (n2 : ((b - a) % 4294967296 != 2147483648) = false)
    (y1 : ∀ y, isy a b c y → less a y = true) (y2 : ∀ x y, isx a b x → isy a b c y → less x y = true) (y3 : ∀ y, isy a b c y → less y a = false) :
    Calls Try.prog 3 #[.int .u32 a, .int .u32 b, .int .u32 c] w fun e w' => e = .returned (.bool true) ∧ Drawn0 w w' := by
  have G1 := Lib.hid g1; clear g1
  have G2 := Lib.hid g2; clear g2
  have Y1 := Lib.hid y1; clear y1
  have Y2 := Lib.hid y2; clear y2
  have Y3 := Lib.hid y3; clear y3
  go_enter Try.func3, Try.ntmps3
  go_wp2_with (first | (go_at_call 9; refine (first_calls _).mono ?_; rintro e w' ⟨rfl, ⟨nd, rfl⟩⟩) | (go_at_call 10; first | ((with_reducible refine (less_calls a b false _ G1.out).mono ?_); rintro e w' ⟨rfl, ⟨nd, rfl⟩⟩) | ((with_reducible refine (less_calls b a false _ G2.out).mono ?_); rintro e w' ⟨rfl, ⟨nd, rfl⟩⟩) | ((with_reducible refine (less_calls _ a false _ (Y3.out _ (by unfold isy; omega))).mono ?_); rintro e w' ⟨rfl, ⟨nd, rfl⟩⟩) | ((with_reducible refine (less_calls a _ true _ (Y1.out _ (by unfold isy; omega))).mono ?_); rintro e w' ⟨rfl, ⟨nd, rfl⟩⟩) | ((with_reducible refine (less_calls _ _ true _ (Y2.out _ _ (by unfold isx; omega) (by unfold isy; omega))).mono ?_); rintro e w' ⟨rfl, ⟨nd, rfl⟩⟩)))
  go_ret
  exact ⟨rfl, by repeat (first | exact Drawn0.refl _ | apply Drawn0.step)⟩

set_option maxHeartbeats 1000000 in
theorem walk4 (a b c : Int) (w : World) (ha : 0 ≤ a ∧ a < 4294967296) (hb : 0 ≤ b) (hc : 0 ≤ c)
    (g1 : less a b = false) (g2 : less b a = true) (n1 : (a != b) = true) (n2 : ((b - a) % 4294967296 != 2147483648) = true)
    (y1 : ∀ y, isy a b c y → less a y = true) (y2 : ∀ x y, isx a b x → isy a b c y → less x y = true) (y3 : ∀ y, isy a b c y → less y a = false) :
    Calls Try.prog 3 #[.int .u32 a, .int .u32 b, .int .u32 c] w fun e w' => e = .returned (.bool true) ∧ Drawn0 w w' := by
  have G1 := Lib.hid g1; clear g1
  have G2 := Lib.hid g2; clear g2
  have Y1 := Lib.hid y1; clear y1
  have Y2 := Lib.hid y2; clear y2
  have Y3 := Lib.hid y3; clear y3
  go_enter Try.func3, Try.ntmps3
  go_wp2_with (first | (go_at_call 9; refine (first_calls _).mono ?_; rintro e w' ⟨rfl, ⟨nd, rfl⟩⟩) | (go_at_call 10; first | ((with_reducible refine (less_calls a b false _ G1.out).mono ?_); rintro e w' ⟨rfl, ⟨nd, rfl⟩⟩) | ((with_reducible refine (less_calls b a true _ G2.out).mono ?_); rintro e w' ⟨rfl, ⟨nd, rfl⟩⟩) | ((with_reducible refine (less_calls _ a false _ (Y3.out _ (by unfold isy; omega))).mono ?_); rintro e w' ⟨rfl, ⟨nd, rfl⟩⟩) | ((with_reducible refine (less_calls a _ true _ (Y1.out _ (by unfold isy; omega))).mono ?_); rintro e w' ⟨rfl, ⟨nd, rfl⟩⟩) | ((with_reducible refine (less_calls _ _ true _ (Y2.out _ _ (by unfold isx; omega) (by unfold isy; omega))).mono ?_); rintro e w' ⟨rfl, ⟨nd, rfl⟩⟩)))
  go_ret
  exact ⟨rfl, by repeat (first | exact Drawn0.refl _ | apply Drawn0.step)⟩

theorem walk (a b c : Int) (w : World) (wa : (Lit.int .u32 a).wf = true) (wb : (Lit.int .u32 b).wf = true) (wc : (Lit.int .u32 c).wf = true) :
    Calls Try.prog 3 #[.int .u32 a, .int .u32 b, .int .u32 c] w fun e w' => e = .returned (.bool true) ∧ Below w.heap.size w w' := by
  have ha := Base.wf_u32 wa; have hb := Base.wf_u32 wb; have hc := Base.wf_u32 wc
  have y1 : ∀ y, isy a b c y → less a y = true := fun y ⟨h1, h2, h3⟩ => decide_eq_true (by omega)
  have y2 : ∀ x y, isx a b x → isy a b c y → less x y = true := fun x y ⟨g1, g2, g3⟩ ⟨h1, h2, h3⟩ => decide_eq_true (by omega)
  have y3 : ∀ y, isy a b c y → less y a = false := fun y ⟨h1, h2, h3⟩ => decide_eq_false (by omega)
  have fin : ∀ e w', (e = Ending.returned (.bool true) ∧ Drawn0 w w') → e = .returned (.bool true) ∧ Below w.heap.size w w' := fun e w' h => ⟨h.1, h.2.below⟩
  by_cases h1 : 0 < (b - a) % 4294967296 ∧ (b - a) % 4294967296 < 2147483648
  · exact (walk1 a b c w ha hb.1 hc.1 (decide_eq_true h1) (decide_eq_false (by omega)) (by rw [bne_iff_ne]; omega) (by rw [bne_iff_ne]; omega) y1 y2 y3).mono fin
  · by_cases h3 : a = b
    · exact (walk2 a b c w ha hb.1 hc.1 (decide_eq_false h1) (decide_eq_false (by omega)) (by rw [bne_eq_false_iff_eq]; exact h3) (by rw [bne_iff_ne]; omega) y1 y2 y3).mono fin
    · by_cases h5 : (b - a) % 4294967296 = 2147483648
      · exact (walk3 a b c w ha hb.1 hc.1 (decide_eq_false h1) (decide_eq_false (by omega)) (by rw [bne_iff_ne]; exact h3) (by rw [bne_eq_false_iff_eq]; exact h5) y1 y2 y3).mono fin
      · exact (walk4 a b c w ha hb.1 hc.1 (decide_eq_false h1) (decide_eq_true (by omega)) (by rw [bne_iff_ne]; exact h3) (by rw [bne_iff_ne]; exact h5) y1 y2 y3).mono fin
end Go.Proofs.Ytnnkabgbkbolgaa.HandSerialOrder
