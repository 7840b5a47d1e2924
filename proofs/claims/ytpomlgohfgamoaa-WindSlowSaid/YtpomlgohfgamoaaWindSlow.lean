/- The walk of flumelaw11.WindSlow: true for every script. No conditions. -/
import Derived.Test.YtpomlgohfgamoaaWindArgs
namespace Go.Proofs.Ytpomlgohfgamoaa.WindSlow
open Go.RowKit Go.Proofs.Ytpomlgohfgamoaa.Mem Go.Proofs.Ytpomlgohfgamoaa.Wind
set_option linter.unusedVariables false
set_option linter.unusedSimpArgs false
attribute [local go_sem] max2_mx min2_mn max_two min_two

theorem acked_slow (e : Ws) (k n f : Int) (on : Bool) (hg : GoodW e k) :
    e.s ≤ (acked e n f on).s ∧ (acked e n f on).s ≤ e.s + 1200 ∧ (e.s < (acked e n f on).s → e.s ≤ f) := by
  obtain ⟨s, t, c⟩ := e
  obtain ⟨g1, g2, g3, g4, g5, g6⟩ := hg
  simp only at g1 g2 g3 g4 g5 g6
  have nb := bnd_range n
  have m1 := mn_le (bnd n) 1200
  have m2 := mn_le 1048576 (s + mn (bnd n) 1200)
  have m3 := mn_le 1048576 (s + 1200)
  have fb : s ≤ bnd f → s ≤ f := by unfold bnd mx mn; (repeat' split) <;> omega
  have n0 : 0 ≤ mn (bnd n) 1200 := by omega
  unfold acked
  simp only
  (repeat' split) <;> simp only <;> refine ⟨by omega, by omega, fun h => ?_⟩
  · rename_i h2 _; exact fb (by first | exact h2.2 | (rename_i h3; exact h3.2))
  · omega
  · rename_i h2 _; exact fb (by first | exact h2.2 | (rename_i h3; exact h3.2))
  · omega

set_option maxHeartbeats 2000000 in
set_option maxRecDepth 100000 in
theorem walk (A : Option Addr) (cap len : Nat) (w : World) (hsee : Sees Try.prog w 22 [.slice A len cap]) :
    Calls Try.prog 6 #[.slice A len cap] w fun e w' => e = .returned (.bool true) ∧ Below w.heap.size w w' := by
  obtain ⟨acts, rfl, hr, hc, hm⟩ := reads_acts hsee
  unfold maxLen at hm
  have hu41 := Try.underlying41
  have hu27 := Try.underlying27
  go_enter Try.func6, Try.ntmps6
  go_wp2_with fail
  refine (first_calls w).mono ?_
  rintro e w0 ⟨rfl, C0⟩
  have hs := C0.size
  have sx : ∀ k, k < w.heap.size → ¬ only w0.heap.size k := fun k hk e => by have e' : k = w0.heap.size := e; omega
  have sepn : ∀ k, k < w.heap.size → ¬ nothing k := fun _ _ h => h
  go_wp2_with fail
  refine (new_calls w0).mono ?_
  rintro e w1 ⟨rfl, b1, B1⟩
  have C1 := C0.trans (B1.mono hs)
  clear C0 B1 hs
  go_wp2_with fail
  go_loopw [23] (fun i wr => ∃ (k : Nat) (e : Ws), k ≤ acts.length ∧ i = .int .i64 k ∧ Blk wr w0.heap.size 41 (cells e) ∧ GoodW e k ∧ Below w.heap.size w wr) (fun i _ => acts.length - (intOf i).toNat)
  case atStart => exact ⟨0, startW, Nat.zero_le _, rfl, b1, good_start, C1⟩
  case round =>
    clear b1 C1
    obtain ⟨k, e, hk, rfl, bk, gk, Bk⟩ := hrel
    by_cases hlt : k < acts.length
    · obtain ⟨ad, rfl, hcell⟩ := hr.at_ Bk k hlt
      generalize hact : acts[k] = act at hcell
      obtain ⟨ki, n, f, on⟩ := act
      obtain ⟨a0, a1, a2, a3⟩ := hcell
      simp only at a0 a1 a2 a3
      clear hact hr hsee
      have sax : ¬ only w0.heap.size wr.heap.size := fun e => by have e' : wr.heap.size = w0.heap.size := e; have := bk.lt; omega
      have bA := bk.alloc (.cells #[.int .i64 ki, .int .i64 n, .int .i64 f, .bool on] 27)
      have BA := Bk.alloc Bk.size (.cells #[.int .i64 ki, .int .i64 n, .int .i64 f, .bool on] 27)
      have aA := Blk.new wr #[.int .i64 ki, .int .i64 n, .int .i64 f, .bool on] 27
      by_cases h200 : 200 ≤ k
      · go_wp2
        go_ret
        exact ⟨rfl, BA⟩
      · have q := gk
        obtain ⟨q1, q2, q3, q4, q5, q6⟩ := q
        obtain ⟨s, t, c⟩ := e
        simp only at q1 q2 q3 q4 q5 q6
        by_cases h0 : (IntKind.u64.wrap ki).tmod 3 = 0
        · have g2 := good_acked ⟨s, t, c⟩ k n f on gk (by omega)
          have sl := acked_slow ⟨s, t, c⟩ k n f on gk
          simp only at sl
          obtain ⟨l1, l2, l3⟩ := sl
          generalize hac : acked ⟨s, t, c⟩ n f on = e2 at g2 l1 l2 l3
          obtain ⟨s2, t2, c2⟩ := e2
          simp only at l1 l2 l3
          have HAC := Lib.hid hac
          have L3 := Lib.hid l3
          clear hac l3
          go_wp2_with fail
          refine (size_at _ ⟨s, t, c⟩ _ bA).mono ?_
          rintro e w1 ⟨rfl, f1⟩
          have x_1 := bA.fr f1 id
          have a_1 := aA.fr f1 id
          have B_1 := Fr.below_then BA f1 sepn
          clear bA aA BA f1
          have z0 := a_1.cell 0
          have z1 := a_1.cell 1
          have z2 := a_1.cell 2
          have z3 := a_1.cell 3
          simp at z0 z1 z2 z3
          go_wp2_with fail
          refine (acked_at _ ⟨s, t, c⟩ k n f on _ x_1 gk (by omega)).mono ?_
          rintro e w2 ⟨rfl, x_2, f2⟩
          have a_2 := a_1.fr f2 sax
          have B_2 := Fr.below_then B_1 f2 sx
          clear x_1 a_1 B_1 f2
          rw [HAC.out] at x_2
          go_wp2_with fail
          refine (size_at _ ⟨s2, t2, c2⟩ _ x_2).mono ?_
          rintro e w3 ⟨rfl, f3⟩
          have x_3 := x_2.fr f3 id
          have a_3 := a_2.fr f3 id
          have B_3 := Fr.below_then B_2 f3 sepn
          clear x_2 a_2 B_2 f3
          clear z0 z1 z2 z3
          have z0 := a_3.cell 0
          have z1 := a_3.cell 1
          have z2 := a_3.cell 2
          have z3 := a_3.cell 3
          simp at z0 z1 z2 z3
          by_cases hgr : s < s2
          · have hf := L3.out hgr
            go_wp2
            go_roundw
            case rel => exact ⟨k + 1, _, by omega, by go_num, x_3, g2, B_3⟩
            case measure => simp [intOf]; omega
          · skip
            go_wp2
            go_roundw
            case rel => exact ⟨k + 1, _, by omega, by go_num, x_3, g2, B_3⟩
            case measure => simp [intOf]; omega
        · by_cases h1 : (IntKind.u64.wrap ki).tmod 3 = 1
          · have g2 := good_shrunk ⟨s, t, c⟩ k gk (by omega)
            have m1 := mx_ge (s / 2) 4800
            have m2 := mx_ge s 4800
            have m3 : mx (s / 2) 4800 ≤ mx s 4800 := by omega
            go_wp2_with fail
            refine (size_at _ ⟨s, t, c⟩ _ bA).mono ?_
            rintro e w1 ⟨rfl, f1⟩
            have x_1 := bA.fr f1 id
            have a_1 := aA.fr f1 id
            have B_1 := Fr.below_then BA f1 sepn
            clear bA aA BA f1
            have z0 := a_1.cell 0
            have z1 := a_1.cell 1
            have z2 := a_1.cell 2
            have z3 := a_1.cell 3
            simp at z0 z1 z2 z3
            go_wp2_with fail
            refine (lost_calls _ s t c _ x_1 (by omega) q2).mono ?_
            rintro e w2 ⟨rfl, x_2, f2⟩
            have a_2 := a_1.fr f2 sax
            have B_2 := Fr.below_then B_1 f2 sx
            clear x_1 a_1 B_1 f2
            go_wp2_with fail
            refine (size_at _ ⟨mx (s / 2) 4800, mx (s / 2) 4800, 0⟩ _ x_2).mono ?_
            rintro e w3 ⟨rfl, f3⟩
            have x_3 := x_2.fr f3 id
            have a_3 := a_2.fr f3 id
            have B_3 := Fr.below_then B_2 f3 sepn
            clear x_2 a_2 B_2 f3
            go_wp2
            go_roundw
            case rel => exact ⟨k + 1, _, by omega, by go_num, x_3, g2, B_3⟩
            case measure => simp [intOf]; omega
          · have g2 := good_rest ⟨s, t, c⟩ k gk (by omega)
            have m2 := mn_le s (mx (s / 2) 4800)
            go_wp2_with fail
            refine (size_at _ ⟨s, t, c⟩ _ bA).mono ?_
            rintro e w1 ⟨rfl, f1⟩
            have x_1 := bA.fr f1 id
            have a_1 := aA.fr f1 id
            have B_1 := Fr.below_then BA f1 sepn
            clear bA aA BA f1
            have z0 := a_1.cell 0
            have z1 := a_1.cell 1
            have z2 := a_1.cell 2
            have z3 := a_1.cell 3
            simp at z0 z1 z2 z3
            go_wp2_with fail
            refine (rest_calls _ s t c _ x_1 (by omega) q2).mono ?_
            rintro e w2 ⟨rfl, x_2, f2⟩
            have a_2 := a_1.fr f2 sax
            have B_2 := Fr.below_then B_1 f2 sx
            clear x_1 a_1 B_1 f2
            go_wp2_with fail
            refine (size_at _ ⟨mn s (mx (s / 2) 4800), t, 0⟩ _ x_2).mono ?_
            rintro e w3 ⟨rfl, f3⟩
            have x_3 := x_2.fr f3 id
            have a_3 := a_2.fr f3 id
            have B_3 := Fr.below_then B_2 f3 sepn
            clear x_2 a_2 B_2 f3
            go_wp2
            go_roundw
            case rel => exact ⟨k + 1, _, by omega, by go_num, x_3, g2, B_3⟩
            case measure => simp [intOf]; omega
    · go_wp2
      go_ret
      exact ⟨rfl, Bk⟩
end Go.Proofs.Ytpomlgohfgamoaa.WindSlow
