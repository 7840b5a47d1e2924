/- The walk of flumelaw10.RttOrder: true for every two numbers. No conditions. -/
import Derived.Test.YtpjlnnebknekcaaRtt
namespace Go.Proofs.Ytpjlnnebknekcaa.RttOrder
open Go.RowKit Go.Proofs.Ytpjlnnebknekcaa.Mem Go.Proofs.Ytpjlnnebknekcaa.Rtt
set_option linter.unusedVariables false
set_option linter.unusedSimpArgs false
attribute [local go_sem] max2_int min2_int max_two min_two

set_option maxHeartbeats 1000000 in
theorem bad (a b : Int) (w : World) (h : (a < 0 ∨ 60000 < a) ∨ (b < 0 ∨ 60000 < b)) :
    Calls Try.prog 5 #[.int .i64 a, .int .i64 b] w fun e w' => e = .returned (.bool true) ∧ Below w.heap.size w w' := by
  have hu25 := Try.underlying25
  by_cases ha : a < 0 ∨ 60000 < a
  · have ha2 := ha
    by_cases hb : b < 0 ∨ 60000 < b
    · have hb2 := hb
      go_enter Try.func5, Try.ntmps5
      go_wp2_with fail
      refine (first_calls w).mono ?_
      rintro e w0 ⟨rfl, C0⟩
      obtain ⟨bx, by_, C1⟩ := two_made w w0 C0
      have hs := C0.size
      have sx : ∀ k, k < w.heap.size → ¬ only w0.heap.size k := fun k hk e => by have e' : k = w0.heap.size := e; omega
      have sy : ∀ k, k < w.heap.size → ¬ only (w0.heap.size + 1) k := fun k hk e => by have e' : k = w0.heap.size + 1 := e; omega
      have sxy : ¬ only (w0.heap.size + 1) w0.heap.size := fun e => by have e' : w0.heap.size = w0.heap.size + 1 := e; omega
      have syx : ¬ only w0.heap.size (w0.heap.size + 1) := fun e => by have e' : w0.heap.size + 1 = w0.heap.size := e; omega
      have sepn : ∀ k, k < w.heap.size → ¬ nothing k := fun _ _ h => h
      clear C0
      go_wp2_with fail
      refine (sample_bad _ _ _ ha2).mono ?_
      rintro e w1 ⟨rfl, rfl⟩
      go_wp2_with fail
      refine (sample_bad _ _ _ hb2).mono ?_
      rintro e w2 ⟨rfl, rfl⟩
      rcases ha with ha | ha <;> rcases hb with hb | hb
      all_goals
        go_wp2
        all_goals
          go_ret
          first | exact ⟨rfl, C1⟩ | (refine ⟨?_, C1⟩; simp; omega)
    · obtain ⟨b1, b2⟩ : 0 ≤ b ∧ b ≤ 60000 := by omega
      clear hb h
      go_enter Try.func5, Try.ntmps5
      go_wp2_with fail
      refine (first_calls w).mono ?_
      rintro e w0 ⟨rfl, C0⟩
      obtain ⟨bx, by_, C1⟩ := two_made w w0 C0
      have hs := C0.size
      have sx : ∀ k, k < w.heap.size → ¬ only w0.heap.size k := fun k hk e => by have e' : k = w0.heap.size := e; omega
      have sy : ∀ k, k < w.heap.size → ¬ only (w0.heap.size + 1) k := fun k hk e => by have e' : k = w0.heap.size + 1 := e; omega
      have sxy : ¬ only (w0.heap.size + 1) w0.heap.size := fun e => by have e' : w0.heap.size = w0.heap.size + 1 := e; omega
      have syx : ¬ only w0.heap.size (w0.heap.size + 1) := fun e => by have e' : w0.heap.size + 1 = w0.heap.size := e; omega
      have sepn : ∀ k, k < w.heap.size → ¬ nothing k := fun _ _ h => h
      clear C0
      go_wp2_with fail
      refine (sample_bad _ _ _ ha2).mono ?_
      rintro e w1 ⟨rfl, rfl⟩
      go_wp2_with fail
      refine (sample_at _ zero _ b _ by_ good_zero b1 b2 rfl).mono ?_
      rintro e w2 ⟨rfl, y_2, f2⟩
      have x_2 := bx.fr f2 sxy
      have B_2 := Fr.below_then C1 f2 sy
      clear bx by_ C1 f2
      rcases ha with ha | ha
      all_goals
        go_wp2
        all_goals
          go_ret
          first | exact ⟨rfl, B_2⟩ | (refine ⟨?_, B_2⟩; simp; omega)
  · have hb : b < 0 ∨ 60000 < b := by omega
    have hb2 := hb
    obtain ⟨a1, a2⟩ : 0 ≤ a ∧ a ≤ 60000 := by omega
    clear ha h
    go_enter Try.func5, Try.ntmps5
    go_wp2_with fail
    refine (first_calls w).mono ?_
    rintro e w0 ⟨rfl, C0⟩
    obtain ⟨bx, by_, C1⟩ := two_made w w0 C0
    have hs := C0.size
    have sx : ∀ k, k < w.heap.size → ¬ only w0.heap.size k := fun k hk e => by have e' : k = w0.heap.size := e; omega
    have sy : ∀ k, k < w.heap.size → ¬ only (w0.heap.size + 1) k := fun k hk e => by have e' : k = w0.heap.size + 1 := e; omega
    have sxy : ¬ only (w0.heap.size + 1) w0.heap.size := fun e => by have e' : w0.heap.size = w0.heap.size + 1 := e; omega
    have syx : ¬ only w0.heap.size (w0.heap.size + 1) := fun e => by have e' : w0.heap.size + 1 = w0.heap.size := e; omega
    have sepn : ∀ k, k < w.heap.size → ¬ nothing k := fun _ _ h => h
    clear C0
    go_wp2_with fail
    refine (sample_at _ zero _ a _ bx good_zero a1 a2 rfl).mono ?_
    rintro e w1 ⟨rfl, x_1, f1⟩
    have y_1 := by_.fr f1 syx
    have B_1 := Fr.below_then C1 f1 sx
    clear bx by_ C1 f1
    go_wp2_with fail
    refine (sample_bad _ _ _ hb2).mono ?_
    rintro e w2 ⟨rfl, rfl⟩
    rcases hb with hb | hb
    all_goals
      go_wp2
      all_goals
        go_ret
        first | exact ⟨rfl, B_1⟩ | (refine ⟨?_, B_1⟩; simp; omega)

theorem clamp3_mono (a b : Int) (h : a ≤ b) : clamp3 a ≤ clamp3 b := by unfold clamp3; (repeat' split) <;> omega
theorem clamp3_eq (a : Int) : clamp3 a = if 10 < (if 3 * a < 600 then 3 * a else 600) then (if 3 * a < 600 then 3 * a else 600) else 10 := rfl

set_option maxHeartbeats 1000000 in
theorem le (a b : Int) (w : World) (a1 : 0 ≤ a) (a2 : a ≤ 60000) (b1 : 0 ≤ b) (b2 : b ≤ 60000) (h : a ≤ b) :
    Calls Try.prog 5 #[.int .i64 a, .int .i64 b] w fun e w' => e = .returned (.bool true) ∧ Below w.heap.size w w' := by
  have hu25 := Try.underlying25
  have m1 := clamp3_mono a b h
  have ga := good_samp zero a good_zero a1 a2
  have gb := good_samp zero b good_zero b1 b2
  have E := Lib.hid (clamp3_eq a)
  go_enter Try.func5, Try.ntmps5
  go_wp2_with fail
  refine (first_calls w).mono ?_
  rintro e w0 ⟨rfl, C0⟩
  obtain ⟨bx, by_, C1⟩ := two_made w w0 C0
  have hs := C0.size
  have sx : ∀ k, k < w.heap.size → ¬ only w0.heap.size k := fun k hk e => by have e' : k = w0.heap.size := e; omega
  have sy : ∀ k, k < w.heap.size → ¬ only (w0.heap.size + 1) k := fun k hk e => by have e' : k = w0.heap.size + 1 := e; omega
  have sxy : ¬ only (w0.heap.size + 1) w0.heap.size := fun e => by have e' : w0.heap.size = w0.heap.size + 1 := e; omega
  have syx : ¬ only w0.heap.size (w0.heap.size + 1) := fun e => by have e' : w0.heap.size + 1 = w0.heap.size := e; omega
  have sepn : ∀ k, k < w.heap.size → ¬ nothing k := fun _ _ h => h
  clear C0
  go_wp2_with fail
  refine (sample_at _ zero _ a _ bx good_zero a1 a2 rfl).mono ?_
  rintro e w1 ⟨rfl, x_1, f1⟩
  have y_1 := by_.fr f1 syx
  have B_1 := Fr.below_then C1 f1 sx
  clear bx by_ C1 f1
  go_wp2_with fail
  refine (sample_at _ zero _ b _ y_1 good_zero b1 b2 rfl).mono ?_
  rintro e w2 ⟨rfl, y_2, f2⟩
  have x_2 := x_1.fr f2 sxy
  have B_2 := Fr.below_then B_1 f2 sy
  clear x_1 y_1 B_1 f2
  go_wp2_with fail
  refine (wait_at _ _ _ _ x_2 ga (wait_one a)).mono ?_
  rintro e w3 ⟨rfl, f3⟩
  have x_3 := x_2.fr f3 id
  have y_3 := y_2.fr f3 id
  have B_3 := Fr.below_then B_2 f3 sepn
  clear x_2 y_2 B_2 f3
  go_wp2_with fail
  refine (wait_at _ _ _ _ y_3 gb (wait_one b)).mono ?_
  rintro e w4 ⟨rfl, f4⟩
  have x_4 := x_3.fr f4 id
  have y_4 := y_3.fr f4 id
  have B_4 := Fr.below_then B_3 f4 sepn
  clear x_3 y_3 B_3 f4
  go_wp2_with fail
  refine (wait_at _ _ _ _ x_4 ga (wait_one a)).mono ?_
  rintro e w5 ⟨rfl, f5⟩
  have x_5 := x_4.fr f5 id
  have y_5 := y_4.fr f5 id
  have B_5 := Fr.below_then B_4 f5 sepn
  clear x_4 y_4 B_4 f5
  go_wp2
  all_goals
    go_ret
    refine ⟨?_, B_5⟩
    have e := E.out
    simp only [e]
    simp <;> omega

set_option maxHeartbeats 1000000 in
theorem gt (a b : Int) (w : World) (a1 : 0 ≤ a) (a2 : a ≤ 60000) (b1 : 0 ≤ b) (b2 : b ≤ 60000) (h : b < a) :
    Calls Try.prog 5 #[.int .i64 a, .int .i64 b] w fun e w' => e = .returned (.bool true) ∧ Below w.heap.size w w' := by
  have hu25 := Try.underlying25
  have m1 := clamp3_mono b a (by omega)
  have ga := good_samp zero a good_zero a1 a2
  have gb := good_samp zero b good_zero b1 b2
  go_enter Try.func5, Try.ntmps5
  go_wp2_with fail
  refine (first_calls w).mono ?_
  rintro e w0 ⟨rfl, C0⟩
  obtain ⟨bx, by_, C1⟩ := two_made w w0 C0
  have hs := C0.size
  have sx : ∀ k, k < w.heap.size → ¬ only w0.heap.size k := fun k hk e => by have e' : k = w0.heap.size := e; omega
  have sy : ∀ k, k < w.heap.size → ¬ only (w0.heap.size + 1) k := fun k hk e => by have e' : k = w0.heap.size + 1 := e; omega
  have sxy : ¬ only (w0.heap.size + 1) w0.heap.size := fun e => by have e' : w0.heap.size = w0.heap.size + 1 := e; omega
  have syx : ¬ only w0.heap.size (w0.heap.size + 1) := fun e => by have e' : w0.heap.size + 1 = w0.heap.size := e; omega
  have sepn : ∀ k, k < w.heap.size → ¬ nothing k := fun _ _ h => h
  clear C0
  go_wp2_with fail
  refine (sample_at _ zero _ a _ bx good_zero a1 a2 rfl).mono ?_
  rintro e w1 ⟨rfl, x_1, f1⟩
  have y_1 := by_.fr f1 syx
  have B_1 := Fr.below_then C1 f1 sx
  clear bx by_ C1 f1
  go_wp2_with fail
  refine (sample_at _ zero _ b _ y_1 good_zero b1 b2 rfl).mono ?_
  rintro e w2 ⟨rfl, y_2, f2⟩
  have x_2 := x_1.fr f2 sxy
  have B_2 := Fr.below_then B_1 f2 sy
  clear x_1 y_1 B_1 f2
  go_wp2_with fail
  refine (wait_at _ _ _ _ x_2 ga (wait_one a)).mono ?_
  rintro e w3 ⟨rfl, f3⟩
  have x_3 := x_2.fr f3 id
  have y_3 := y_2.fr f3 id
  have B_3 := Fr.below_then B_2 f3 sepn
  clear x_2 y_2 B_2 f3
  go_wp2_with fail
  refine (wait_at _ _ _ _ y_3 gb (wait_one b)).mono ?_
  rintro e w4 ⟨rfl, f4⟩
  have x_4 := x_3.fr f4 id
  have y_4 := y_3.fr f4 id
  have B_4 := Fr.below_then B_3 f4 sepn
  clear x_3 y_3 B_3 f4
  go_wp2
  all_goals
    go_ret
    first | exact ⟨rfl, B_4⟩ | (refine ⟨?_, B_4⟩; simp; omega)

theorem walk (a b : Int) (w : World) (w0 : (Lit.int .i64 a).wf = true) (w1 : (Lit.int .i64 b).wf = true) :
    Calls Try.prog 5 #[.int .i64 a, .int .i64 b] w fun e w' => e = .returned (.bool true) ∧ Below w.heap.size w w' := by
  by_cases h : (a < 0 ∨ 60000 < a) ∨ (b < 0 ∨ 60000 < b)
  · exact bad a b w h
  · by_cases hab : a ≤ b
    · exact le a b w (by omega) (by omega) (by omega) (by omega) hab
    · exact gt a b w (by omega) (by omega) (by omega) (by omega) (by omega)
end Go.Proofs.Ytpjlnnebknekcaa.RttOrder
