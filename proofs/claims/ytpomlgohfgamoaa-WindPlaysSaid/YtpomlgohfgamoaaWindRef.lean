/- Contracts of the document's own window (flumeref11): New, Acked, Half. Conditions: each names its block, known whole, and the bounds of its fields. -/
import Derived.Test.YtpomlgohfgamoaaWind
namespace Go.Proofs.Ytpomlgohfgamoaa.WindRef
open Go.RowKit Go.Proofs.Ytpomlgohfgamoaa.Mem Go.Proofs.Ytpomlgohfgamoaa.Wind
set_option linter.unusedVariables false
set_option linter.unusedSimpArgs false
attribute [local go_sem] max2_mx min2_mn max_two min_two
theorem bnd_neg (n : Int) (h : n < 0) : bnd n = 0 := by unfold bnd mx mn; (repeat' split) <;> omega
theorem bnd_big (n : Int) (h : 1073741824 < n) : bnd n = 1073741824 := by unfold bnd mx mn; (repeat' split) <;> omega
theorem bnd_mid (n : Int) (h : 0 ≤ n) (h2 : n ≤ 1073741824) : bnd n = n := by unfold bnd mx mn; (repeat' split) <;> omega
theorem clip_calls (n : Int) (w : World) : Calls Try.prog 21 #[.int .i64 n] w fun e w' => e = .returned (.int .i64 (bnd n)) ∧ w' = w := by
  rcases Int.lt_or_le n 0 with h | h
  · rw [bnd_neg n h]
    go_enter Try.func21, Try.ntmps21
    go_wp2
    go_ret
    exact ⟨rfl, rfl⟩
  · rcases Int.lt_or_le 1073741824 n with h2 | h2
    · rw [bnd_big n h2]
      go_enter Try.func21, Try.ntmps21
      go_wp2
      go_ret
      exact ⟨rfl, rfl⟩
    · rw [bnd_mid n h h2]
      go_enter Try.func21, Try.ntmps21
      go_wp2
      go_ret
      exact ⟨rfl, rfl⟩
theorem rgrow_calls (g : Nat) (s t c b : Int) (w : World) (hb : Blk w g 38 (cells ⟨s, t, c⟩)) (s0 : 0 ≤ s) (s1 : s ≤ 1048576) (b0 : 0 ≤ b) (b1 : b ≤ 1200) :
    Calls Try.prog 22 #[.pointer (some ⟨g, 0, none⟩), .int .i64 b] w fun e w' => e = .returned (.tuple #[]) ∧ Blk w' g 38 (cells ⟨mn 1048576 (s + b), t, c⟩) ∧ Fr (only g) w w' := by
  rcases Int.lt_or_le 1048576 (s + b) with h | h
  · rw [show mn 1048576 (s + b) = 1048576 by unfold mn; rw [if_neg (by omega)]]
    have c0 := hb.cell 0
    have c1 := hb.cell 1
    have c2 := hb.cell 2
    have f0 := hb.frozen 0
    have f1 := hb.frozen 1
    have f2 := hb.frozen 2
    simp [cells] at c0 c1 c2
    have hu38 := Try.underlying38
    go_enter Try.func22, Try.ntmps22
    go_wp2
    first | go_end0 | ((try simp only [Exit.inBlock, Exit.then]); refine bodyPost_ret (results_none rfl _ _ _) rfl ?_)
    refine ⟨rfl, ?_, (by repeat (with_reducible first | exact Fr.refl _ _ | apply Fr.drewN | apply Fr.drew | apply Fr.alloc | apply Fr.set_only))⟩
    apply Blk.cast
    · (repeat (with_reducible first | exact hb | apply Blk.set | apply Blk.drewN | apply Blk.drew | apply Blk.alloc))
    · simp [cells] <;> omega
  · rw [show mn 1048576 (s + b) = s + b by unfold mn; split <;> omega]
    have c0 := hb.cell 0
    have c1 := hb.cell 1
    have c2 := hb.cell 2
    have f0 := hb.frozen 0
    have f1 := hb.frozen 1
    have f2 := hb.frozen 2
    simp [cells] at c0 c1 c2
    have hu38 := Try.underlying38
    go_enter Try.func22, Try.ntmps22
    go_wp2
    first | go_end0 | ((try simp only [Exit.inBlock, Exit.then]); refine bodyPost_ret (results_none rfl _ _ _) rfl ?_)
    refine ⟨rfl, ?_, (by repeat (with_reducible first | exact Fr.refl _ _ | apply Fr.drewN | apply Fr.drew | apply Fr.alloc | apply Fr.set_only))⟩
    apply Blk.cast
    · (repeat (with_reducible first | exact hb | apply Blk.set | apply Blk.drewN | apply Blk.drew | apply Blk.alloc))
    · simp [cells] <;> omega
theorem half_calls (g : Nat) (s t c : Int) (w : World) (hb : Blk w g 38 (cells ⟨s, t, c⟩)) (s0 : 0 ≤ s) (s1 : s ≤ 1048576) :
    Calls Try.prog 16 #[.pointer (some ⟨g, 0, none⟩)] w fun e w' => e = .returned (.int .i64 (mx (s / 2) 4800)) ∧ w' = w := by
  rcases Int.lt_or_le 4800 (s / 2) with h | h
  · rw [show mx (s / 2) 4800 = s / 2 by unfold mx; rw [if_neg (by omega)]]
    have c0 := hb.cell 0
    have c1 := hb.cell 1
    have c2 := hb.cell 2
    have f0 := hb.frozen 0
    have f1 := hb.frozen 1
    have f2 := hb.frozen 2
    simp [cells] at c0 c1 c2
    have hu38 := Try.underlying38
    go_enter Try.func16, Try.ntmps16
    go_wp2
    go_ret
    exact ⟨rfl, rfl⟩
  · rw [show mx (s / 2) 4800 = 4800 by unfold mx; split <;> omega]
    have c0 := hb.cell 0
    have c1 := hb.cell 1
    have c2 := hb.cell 2
    have f0 := hb.frozen 0
    have f1 := hb.frozen 1
    have f2 := hb.frozen 2
    simp [cells] at c0 c1 c2
    have hu38 := Try.underlying38
    go_enter Try.func16, Try.ntmps16
    go_wp2
    go_ret
    exact ⟨rfl, rfl⟩
theorem rnew_calls (w : World) : Calls Try.prog 14 #[] w fun e w' => e = .returned (.pointer (some ⟨w.heap.size, 0, none⟩)) ∧ Blk w' w.heap.size 38 (cells ⟨4380, 1048576, 0⟩) ∧ Below w.heap.size w w' := by
  have hu38 := Try.underlying38
  go_enter Try.func14, Try.ntmps14
  go_wp2
  go_ret
  exact ⟨rfl, Blk.new _ _ _, (Below.refl _ _).alloc (Nat.le_refl _) _⟩

set_option maxHeartbeats 1000000 in
theorem racked_low (g : Nat) (s t c n f : Int) (on : Bool) (w : World) (hb : Blk w g 38 (cells ⟨s, t, c⟩)) (s0 : 0 ≤ s) (s1 : s ≤ 1048576) (hst : s ≤ t) (h : ¬ (on = true ∧ s ≤ bnd f)) :
    Calls Try.prog 15 #[.pointer (some ⟨g, 0, none⟩), .int .i64 n, .int .i64 f, .bool on] w fun e w' => e = .returned (.tuple #[]) ∧ Blk w' g 38 (cells ⟨s, t, c⟩) ∧ Fr (only g) w w' := by
  cases on
  · clear h
    have c0 := hb.cell 0
    have c1 := hb.cell 1
    have c2 := hb.cell 2
    have f0 := hb.frozen 0
    have f1 := hb.frozen 1
    have f2 := hb.frozen 2
    simp [cells] at c0 c1 c2
    have hu38 := Try.underlying38
    have nb := bnd_range n
    have fb := bnd_range f
    go_enter Try.func15, Try.ntmps15
    go_wp2_with fail
    refine (clip_calls _ _).mono ?_
    rintro e w' ⟨rfl, rfl⟩
    go_wp2_with fail
    refine (clip_calls _ _).mono ?_
    rintro e w' ⟨rfl, rfl⟩
    go_wp2
    go_quiet (fail)
    go_wp2
    first | go_end0 | ((try simp only [Exit.inBlock, Exit.then]); refine bodyPost_ret (results_none rfl _ _ _) rfl ?_)
    refine ⟨rfl, ?_, (by repeat (with_reducible first | exact Fr.refl _ _ | apply Fr.drewN | apply Fr.drew | apply Fr.alloc | apply Fr.set_only))⟩
    apply Blk.cast
    · (repeat (with_reducible first | exact hb | apply Blk.set | apply Blk.drewN | apply Blk.drew | apply Blk.alloc))
    · simp [cells] <;> omega
  · have h2 : bnd f < s := by
      rcases Int.lt_or_le (bnd f) s with h' | h'
      · exact h'
      · exact absurd ⟨rfl, h'⟩ h
    clear h
    have c0 := hb.cell 0
    have c1 := hb.cell 1
    have c2 := hb.cell 2
    have f0 := hb.frozen 0
    have f1 := hb.frozen 1
    have f2 := hb.frozen 2
    simp [cells] at c0 c1 c2
    have hu38 := Try.underlying38
    have nb := bnd_range n
    have fb := bnd_range f
    go_enter Try.func15, Try.ntmps15
    go_wp2_with fail
    refine (clip_calls _ _).mono ?_
    rintro e w' ⟨rfl, rfl⟩
    go_wp2_with fail
    refine (clip_calls _ _).mono ?_
    rintro e w' ⟨rfl, rfl⟩
    go_wp2
    go_quiet (fail)
    go_wp2
    first | go_end0 | ((try simp only [Exit.inBlock, Exit.then]); refine bodyPost_ret (results_none rfl _ _ _) rfl ?_)
    refine ⟨rfl, ?_, (by repeat (with_reducible first | exact Fr.refl _ _ | apply Fr.drewN | apply Fr.drew | apply Fr.alloc | apply Fr.set_only))⟩
    apply Blk.cast
    · (repeat (with_reducible first | exact hb | apply Blk.set | apply Blk.drewN | apply Blk.drew | apply Blk.alloc))
    · simp [cells] <;> omega

set_option maxHeartbeats 1000000 in
theorem racked_grow (g : Nat) (s t c n f : Int) (w : World) (hb : Blk w g 38 (cells ⟨s, t, c⟩)) (s0 : 0 ≤ s) (s1 : s ≤ 1048576) (hst : s ≤ t) (h : s ≤ bnd f) :
    Calls Try.prog 15 #[.pointer (some ⟨g, 0, none⟩), .int .i64 n, .int .i64 f, .bool true] w fun e w' => e = .returned (.tuple #[]) ∧ Blk w' g 38 (cells ⟨mn 1048576 (s + mn (bnd n) 1200), t, c⟩) ∧ Fr (only g) w w' := by
  have h3 : ¬ bnd f < s := by omega
  rcases Int.lt_or_le (bnd n) 1200 with hn | hn
  · rw [show mn (bnd n) 1200 = bnd n by unfold mn; rw [if_neg (by omega)]]
    have c0 := hb.cell 0
    have c1 := hb.cell 1
    have c2 := hb.cell 2
    have f0 := hb.frozen 0
    have f1 := hb.frozen 1
    have f2 := hb.frozen 2
    simp [cells] at c0 c1 c2
    have hu38 := Try.underlying38
    have nb := bnd_range n
    have fb := bnd_range f
    go_enter Try.func15, Try.ntmps15
    go_wp2_with fail
    refine (clip_calls _ _).mono ?_
    rintro e w' ⟨rfl, rfl⟩
    go_wp2_with fail
    refine (clip_calls _ _).mono ?_
    rintro e w' ⟨rfl, rfl⟩
    go_wp2
    go_quiet (fail)
    go_wp2
    go_quiet (fail)
    go_wp2_with fail
    refine (rgrow_calls _ s t c _ _ ?b (by omega) (by omega) (by omega) (by omega)).mono ?_
    case b =>
      apply Blk.cast
      · (repeat (with_reducible first | exact hb | apply Blk.set | apply Blk.drewN | apply Blk.drew | apply Blk.alloc))
      · simp [cells]
    rintro e w1 ⟨rfl, b1, fr1⟩
    go_wp2
    first | go_end0 | ((try simp only [Exit.inBlock, Exit.then]); refine bodyPost_ret (results_none rfl _ _ _) rfl ?_)
    refine ⟨rfl, b1, Fr.trans ?_ fr1 (fun _ _ h => h)⟩
    repeat (with_reducible first | exact Fr.refl _ _ | apply Fr.drewN | apply Fr.drew | apply Fr.alloc | apply Fr.set_only)
  · rw [show mn (bnd n) 1200 = 1200 by unfold mn; split <;> omega]
    have hn2 : ¬ bnd n < 1200 := by omega
    have c0 := hb.cell 0
    have c1 := hb.cell 1
    have c2 := hb.cell 2
    have f0 := hb.frozen 0
    have f1 := hb.frozen 1
    have f2 := hb.frozen 2
    simp [cells] at c0 c1 c2
    have hu38 := Try.underlying38
    have nb := bnd_range n
    have fb := bnd_range f
    go_enter Try.func15, Try.ntmps15
    go_wp2_with fail
    refine (clip_calls _ _).mono ?_
    rintro e w' ⟨rfl, rfl⟩
    go_wp2_with fail
    refine (clip_calls _ _).mono ?_
    rintro e w' ⟨rfl, rfl⟩
    go_wp2
    go_quiet (fail)
    go_wp2
    go_quiet (fail)
    go_wp2
    go_quiet (fail)
    go_wp2_with fail
    refine (rgrow_calls _ s t c _ _ ?b (by omega) (by omega) (by omega) (by omega)).mono ?_
    case b =>
      apply Blk.cast
      · (repeat (with_reducible first | exact hb | apply Blk.set | apply Blk.drewN | apply Blk.drew | apply Blk.alloc))
      · simp [cells]
    rintro e w1 ⟨rfl, b1, fr1⟩
    go_wp2
    first | go_end0 | ((try simp only [Exit.inBlock, Exit.then]); refine bodyPost_ret (results_none rfl _ _ _) rfl ?_)
    refine ⟨rfl, b1, Fr.trans ?_ fr1 (fun _ _ h => h)⟩
    repeat (with_reducible first | exact Fr.refl _ _ | apply Fr.drewN | apply Fr.drew | apply Fr.alloc | apply Fr.set_only)

set_option maxHeartbeats 1000000 in
theorem racked_count (g : Nat) (s t c n f : Int) (on : Bool) (w : World) (hb : Blk w g 38 (cells ⟨s, t, c⟩)) (s0 : 0 ≤ s) (s1 : s ≤ 1048576) (hst : t < s) (c0' : 0 ≤ c) (c1' : c ≤ 1099511627776) (h : ¬ (s ≤ c + bnd n ∧ s ≤ bnd f)) :
    Calls Try.prog 15 #[.pointer (some ⟨g, 0, none⟩), .int .i64 n, .int .i64 f, .bool on] w fun e w' => e = .returned (.tuple #[]) ∧ Blk w' g 38 (cells ⟨s, t, c + bnd n⟩) ∧ Fr (only g) w w' := by
  have hst' : ¬ s ≤ t := by omega
  have hst2 : decide (s ≤ t) = false := by simpa using hst
  by_cases h1 : s ≤ c + bnd n
  · have h2 : ¬ s ≤ bnd f := fun h' => h ⟨h1, h'⟩
    clear h
    have c0 := hb.cell 0
    have c1 := hb.cell 1
    have c2 := hb.cell 2
    have f0 := hb.frozen 0
    have f1 := hb.frozen 1
    have f2 := hb.frozen 2
    simp [cells] at c0 c1 c2
    have hu38 := Try.underlying38
    have nb := bnd_range n
    have fb := bnd_range f
    go_enter Try.func15, Try.ntmps15
    go_wp2_with fail
    refine (clip_calls _ _).mono ?_
    rintro e w' ⟨rfl, rfl⟩
    go_wp2_with fail
    refine (clip_calls _ _).mono ?_
    rintro e w' ⟨rfl, rfl⟩
    go_wp2
    go_quiet (fail)
    go_wp2
    go_quiet (fail)
    go_wp2
    go_quiet (fail)
    go_wp2
    go_quiet (fail)
    go_wp2
    first | go_end0 | ((try simp only [Exit.inBlock, Exit.then]); refine bodyPost_ret (results_none rfl _ _ _) rfl ?_)
    refine ⟨rfl, ?_, (by repeat (with_reducible first | exact Fr.refl _ _ | apply Fr.drewN | apply Fr.drew | apply Fr.alloc | apply Fr.set_only))⟩
    apply Blk.cast
    · (repeat (with_reducible first | exact hb | apply Blk.set | apply Blk.drewN | apply Blk.drew | apply Blk.alloc))
    · simp [cells] <;> omega
  · clear h
    have h1' : decide (s ≤ c + bnd n) = false := by simpa using h1
    have c0 := hb.cell 0
    have c1 := hb.cell 1
    have c2 := hb.cell 2
    have f0 := hb.frozen 0
    have f1 := hb.frozen 1
    have f2 := hb.frozen 2
    simp [cells] at c0 c1 c2
    have hu38 := Try.underlying38
    have nb := bnd_range n
    have fb := bnd_range f
    go_enter Try.func15, Try.ntmps15
    go_wp2_with fail
    refine (clip_calls _ _).mono ?_
    rintro e w' ⟨rfl, rfl⟩
    go_wp2_with fail
    refine (clip_calls _ _).mono ?_
    rintro e w' ⟨rfl, rfl⟩
    go_wp2
    go_quiet (fail)
    go_wp2
    go_quiet (fail)
    go_wp2
    go_quiet (fail)
    go_wp2
    go_quiet (fail)
    go_wp2
    first | go_end0 | ((try simp only [Exit.inBlock, Exit.then]); refine bodyPost_ret (results_none rfl _ _ _) rfl ?_)
    refine ⟨rfl, ?_, (by repeat (with_reducible first | exact Fr.refl _ _ | apply Fr.drewN | apply Fr.drew | apply Fr.alloc | apply Fr.set_only))⟩
    apply Blk.cast
    · (repeat (with_reducible first | exact hb | apply Blk.set | apply Blk.drewN | apply Blk.drew | apply Blk.alloc))
    · simp [cells] <;> omega

set_option maxHeartbeats 1000000 in
theorem racked_full (g : Nat) (s t c n f : Int) (on : Bool) (w : World) (hb : Blk w g 38 (cells ⟨s, t, c⟩)) (s0 : 0 ≤ s) (s1 : s ≤ 1048576) (hst : t < s) (c0' : 0 ≤ c) (c1' : c ≤ 1099511627776) (h1 : s ≤ c + bnd n) (h2 : s ≤ bnd f) :
    Calls Try.prog 15 #[.pointer (some ⟨g, 0, none⟩), .int .i64 n, .int .i64 f, .bool on] w fun e w' => e = .returned (.tuple #[]) ∧ Blk w' g 38 (cells ⟨mn 1048576 (s + 1200), t, c + bnd n - s⟩) ∧ Fr (only g) w w' := by
  have hst' : ¬ s ≤ t := by omega
  have hst2 : decide (s ≤ t) = false := by simpa using hst
  have c0 := hb.cell 0
  have c1 := hb.cell 1
  have c2 := hb.cell 2
  have f0 := hb.frozen 0
  have f1 := hb.frozen 1
  have f2 := hb.frozen 2
  simp [cells] at c0 c1 c2
  have hu38 := Try.underlying38
  have nb := bnd_range n
  have fb := bnd_range f
  go_enter Try.func15, Try.ntmps15
  go_wp2_with fail
  refine (clip_calls _ _).mono ?_
  rintro e w' ⟨rfl, rfl⟩
  go_wp2_with fail
  refine (clip_calls _ _).mono ?_
  rintro e w' ⟨rfl, rfl⟩
  go_wp2
  go_quiet (fail)
  go_wp2
  go_quiet (fail)
  go_wp2
  go_quiet (fail)
  go_wp2
  go_quiet (fail)
  go_wp2
  go_region
  go_wp2_with fail
  refine (rgrow_calls _ s t (c + bnd n - s) _ _ ?b (by omega) (by omega) (by omega) (by omega)).mono ?_
  case b =>
    apply Blk.cast
    · (repeat (with_reducible first | exact hb | apply Blk.set | apply Blk.drewN | apply Blk.drew | apply Blk.alloc))
    · simp [cells]
  rintro e w1 ⟨rfl, b1, fr1⟩
  go_wp2
  first | go_end0 | ((try simp only [Exit.inBlock, Exit.then]); refine bodyPost_ret (results_none rfl _ _ _) rfl ?_)
  refine ⟨rfl, b1, Fr.trans ?_ fr1 (fun _ _ h => h)⟩
  repeat (with_reducible first | exact Fr.refl _ _ | apply Fr.drewN | apply Fr.drew | apply Fr.alloc | apply Fr.set_only)
end Go.Proofs.Ytpomlgohfgamoaa.WindRef
