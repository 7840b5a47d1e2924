/- The walk of flumelaw11.WindPlays: true for every script. No conditions. -/
import Derived.Test.YtpomlgohfgamoaaWindArgs
import Derived.Test.YtpomlgohfgamoaaWindRef
import Derived.Deep.RegionWith
import Derived.StillTailTactics
namespace Go.Proofs.Ytpomlgohfgamoaa.WindPlays
open Go.RowKit Go.Proofs.Ytpomlgohfgamoaa.Mem Go.Proofs.Ytpomlgohfgamoaa.Wind Go.Proofs.Ytpomlgohfgamoaa.WindRef
set_option linter.unusedVariables false
set_option linter.unusedSimpArgs false
attribute [local go_sem] max2_mx min2_mn max_two min_two

theorem racked_at (g : Nat) (e : Ws) (k n f : Int) (on : Bool) (w : World) (hb : Blk w g 38 (cells e)) (hg : GoodW e k) (hk : k ≤ 1000) :
    Calls Try.prog 15 #[.pointer (some ⟨g, 0, none⟩), .int .i64 n, .int .i64 f, .bool on] w fun e' w' => e' = .returned (.tuple #[]) ∧ Blk w' g 38 (cells (acked e n f on)) ∧ Fr (only g) w w' := by
  obtain ⟨s, t, c⟩ := e
  obtain ⟨g1, g2, g3, g4, g5, g6⟩ := hg
  simp only at g1 g2 g3 g4 g5 g6
  unfold acked
  simp only
  by_cases hst : s ≤ t
  · rw [if_pos hst]
    by_cases h : on = true ∧ s ≤ bnd f
    · rw [if_pos h]
      obtain ⟨rfl, h⟩ := h
      exact racked_grow g s t c n f w hb (by omega) g2 hst h
    · rw [if_neg h]
      exact racked_low g s t c n f on w hb (by omega) g2 hst h
  · rw [if_neg hst]
    by_cases h : s ≤ c + bnd n ∧ s ≤ bnd f
    · rw [if_pos h]
      exact racked_full g s t c n f on w hb (by omega) g2 (by omega) g5 (by omega) h.1 h.2
    · rw [if_neg h]
      exact racked_count g s t c n f on w hb (by omega) g2 (by omega) g5 (by omega) h
theorem below_drewN {B : Nat} {w w1 : World} (h : Below B w w1) (n : Nat) : Below B w (w1.drewN n) := ⟨h.os, h.tape, h.output, h.size, h.block⟩
set_option maxHeartbeats 4000000 in
set_option maxRecDepth 100000 in
theorem walk (A : Option Addr) (cap len : Nat) (w : World) (hsee : Sees Try.prog w 22 [.slice A len cap]) :
    Calls Try.prog 5 #[.slice A len cap] w fun e w' => e = .returned (.bool true) ∧ Below w.heap.size w w' := by
  obtain ⟨acts, rfl, hr, hc, hm⟩ := reads_acts hsee
  unfold maxLen at hm
  have hu41 := Try.underlying41
  have hu38 := Try.underlying38
  have hu27 := Try.underlying27
  go_enter Try.func5, Try.ntmps5
  go_wp2_with fail
  refine (first_calls w).mono ?_
  rintro e w0 ⟨rfl, C0⟩
  have hs := C0.size
  have sepn : ∀ k, k < w.heap.size → ¬ nothing k := fun _ _ h => h
  go_wp2_with fail
  refine (new_calls w0).mono ?_
  rintro e wp ⟨rfl, b1, B1⟩
  have C1 := C0.trans (B1.mono hs)
  have hs1 := C1.size
  have hlt1 := b1.lt
  clear C0 B1
  go_wp2_with fail
  refine (rnew_calls wp).mono ?_
  rintro e wq ⟨rfl, r1, B2⟩
  have C2 := C1.trans (B2.mono hs1)
  have b2 := b1.fr (Fr.of_below (S := nothing) B2) id
  clear C1 B2 b1
  have sx : ∀ k, k < w.heap.size → ¬ only w0.heap.size k := fun k hk e => by have e' : k = w0.heap.size := e; omega
  have sy : ∀ k, k < w.heap.size → ¬ only wp.heap.size k := fun k hk e => by have e' : k = wp.heap.size := e; omega
  have sxy : ¬ only wp.heap.size w0.heap.size := fun e => by have e' : w0.heap.size = wp.heap.size := e; omega
  have syx : ¬ only w0.heap.size wp.heap.size := fun e => by have e' : wp.heap.size = w0.heap.size := e; omega
  go_wp2_with fail
  go_loopw [17] (fun i wr => ∃ (k : Nat) (e : Ws), k ≤ acts.length ∧ i = .int .i64 k ∧ Blk wr w0.heap.size 41 (cells e) ∧ Blk wr wp.heap.size 38 (cells e) ∧ GoodW e k ∧ Below w.heap.size w wr) (fun i _ => acts.length - (intOf i).toNat)
  case atStart => exact ⟨0, startW, Nat.zero_le _, rfl, b2, r1, good_start, C2⟩
  case round =>
    clear b2 r1 C2
    obtain ⟨k, e, hk, rfl, bk, rk, gk, Bk⟩ := hrel
    by_cases hlt : k < acts.length
    · obtain ⟨ad, rfl, hcell⟩ := hr.at_ Bk k hlt
      generalize hact : acts[k] = act at hcell
      obtain ⟨ki, n, f, on⟩ := act
      obtain ⟨a0, a1, a2, a3⟩ := hcell
      simp only at a0 a1 a2 a3
      clear hact hr hsee
      have sax : ¬ only w0.heap.size wr.heap.size := fun e => by have e' : wr.heap.size = w0.heap.size := e; have := bk.lt; omega
      have say : ¬ only wp.heap.size wr.heap.size := fun e => by have e' : wr.heap.size = wp.heap.size := e; have := rk.lt; omega
      have hwr := rk.lt
      have bA := bk.alloc (.cells #[.int .i64 ki, .int .i64 n, .int .i64 f, .bool on] 27)
      have rA := rk.alloc (.cells #[.int .i64 ki, .int .i64 n, .int .i64 f, .bool on] 27)
      have BA := Bk.alloc Bk.size (.cells #[.int .i64 ki, .int .i64 n, .int .i64 f, .bool on] 27)
      have aA := Blk.new wr #[.int .i64 ki, .int .i64 n, .int .i64 f, .bool on] 27
      by_cases h200 : 200 ≤ k
      · go_wp2
        go_ret
        exact ⟨rfl, BA⟩
      · have q := gk
        obtain ⟨q1, q2, q3, q4, q5, q6⟩ := q
        obtain ⟨s, t, c⟩ := e
        simp only at q1 q2 q3 q4 q5 q6
        have z0 := aA.cell 0
        have z1 := aA.cell 1
        have z2 := aA.cell 2
        have z3 := aA.cell 3
        simp at z0 z1 z2 z3
        go_upto_block 2 with fail
        go_cut [] (fun wc => ∃ e2, Blk wc w0.heap.size 41 (cells e2) ∧ Blk wc wp.heap.size 38 (cells e2) ∧ Blk wc wr.heap.size 27 #[.int .i64 ki, .int .i64 n, .int .i64 f, .bool on] ∧ GoodW e2 ((k + 1 : Nat) : Int) ∧ Below w.heap.size w wc)
        case first =>
          rcases Bool.eq_false_or_eq_true ((IntKind.u64.wrap ki).tmod 4 == 0) with h0 | h0
          · have g2 : GoodW (acked ⟨s, t, c⟩ n f on) ((k + 1 : Nat) : Int) := by have := good_acked ⟨s, t, c⟩ k n f on gk (by omega); rw [show ((k + 1 : Nat) : Int) = (k : Int) + 1 by omega]; exact this
            clear z0 z1 z2 z3
            have z0 := aA.cell 0
            have z1 := aA.cell 1
            have z2 := aA.cell 2
            have z3 := aA.cell 3
            simp at z0 z1 z2 z3
            go_wp2_with fail
            refine (acked_at _ ⟨s, t, c⟩ k n f on _ bA gk (by omega)).mono ?_
            rintro e w1 ⟨rfl, x_1, f1⟩
            have y_1 := rA.fr f1 syx
            have a_1 := aA.fr f1 sax
            have B_1 := Fr.below_then BA f1 sx
            clear bA rA aA BA f1
            clear z0 z1 z2 z3
            have z0 := a_1.cell 0
            have z1 := a_1.cell 1
            have z2 := a_1.cell 2
            have z3 := a_1.cell 3
            simp at z0 z1 z2 z3
            go_wp2_with fail
            refine (racked_at _ ⟨s, t, c⟩ k n f on _ y_1 gk (by omega)).mono ?_
            rintro e w2 ⟨rfl, y_2, f2⟩
            have x_2 := x_1.fr f2 sxy
            have a_2 := a_1.fr f2 say
            have B_2 := Fr.below_then B_1 f2 sy
            clear x_1 y_1 a_1 B_1 f2
            go_wp2
            go_meet
            case rel => exact ⟨_, x_2, y_2, a_2, g2, B_2⟩
          · rcases Bool.eq_false_or_eq_true ((IntKind.u64.wrap ki).tmod 4 == 1) with h1 | h1
            · have g2 : GoodW ⟨mx (s / 2) 4800, mx (s / 2) 4800, 0⟩ ((k + 1 : Nat) : Int) := by have := good_shrunk ⟨s, t, c⟩ k gk (by omega); rw [show ((k + 1 : Nat) : Int) = (k : Int) + 1 by omega]; exact this
              go_wp2_with fail
              refine (lost_calls _ s t c _ bA (by omega) q2).mono ?_
              rintro e w1 ⟨rfl, x_1, f1⟩
              have y_1 := rA.fr f1 syx
              have a_1 := aA.fr f1 sax
              have B_1 := Fr.below_then BA f1 sx
              clear bA rA aA BA f1
              have y0 := y_1.cell 0
              have y1 := y_1.cell 1
              have y2 := y_1.cell 2
              have v0 := y_1.frozen 0
              have v1 := y_1.frozen 1
              have v2 := y_1.frozen 2
              simp [cells] at y0 y1 y2
              go_wp2_with fail
              refine (half_calls _ s t c _ y_1 (by omega) q2).mono ?_
              rintro e w2 ⟨rfl, rfl⟩
              go_wp2
              generalize mx (s / 2) 4800 = h at g2 x_1 ⊢
              have x2 := x_1.far (p := ⟨wp.heap.size, 1, none⟩) (by simp; omega) ((.int .i64 h))
              have a2' := a_1.far (p := ⟨wp.heap.size, 1, none⟩) (by simp; omega) ((.int .i64 h))
              have y2' := (y_1.set 1 ((.int .i64 h))).cast (show _ = cells (⟨s, h, c⟩) by simp [cells])
              have B2 := Below.setCell B_1 (p := ⟨wp.heap.size, 1, none⟩) hs1 ((.int .i64 h))
              clear x_1 a_1 y_1 B_1
              have x3 := x2.far (p := ⟨wp.heap.size, 0, none⟩) (by simp; omega) ((.int .i64 h))
              have a3 := a2'.far (p := ⟨wp.heap.size, 0, none⟩) (by simp; omega) ((.int .i64 h))
              have y3 := (y2'.set 0 ((.int .i64 h))).cast (show _ = cells (⟨h, h, c⟩) by simp [cells])
              have B3 := Below.setCell B2 (p := ⟨wp.heap.size, 0, none⟩) hs1 ((.int .i64 h))
              clear x2 a2' y2' B2
              have x4 := x3.far (p := ⟨wp.heap.size, 2, none⟩) (by simp; omega) ((.int .i64 0))
              have a4 := a3.far (p := ⟨wp.heap.size, 2, none⟩) (by simp; omega) ((.int .i64 0))
              have y4 := (y3.set 2 ((.int .i64 0))).cast (show _ = cells (⟨h, h, 0⟩) by simp [cells])
              have B4 := Below.setCell B3 (p := ⟨wp.heap.size, 2, none⟩) hs1 ((.int .i64 0))
              clear x3 a3 y3 B3
              go_meet
              case rel => exact ⟨_, x4, y4, a4, g2, B4⟩
            · rcases Bool.eq_false_or_eq_true ((IntKind.u64.wrap ki).tmod 4 == 2) with h2 | h2
              · have g2 : GoodW ⟨1200, mx (s / 2) 4800, 0⟩ ((k + 1 : Nat) : Int) := by have := good_late ⟨s, t, c⟩ k gk (by omega); rw [show ((k + 1 : Nat) : Int) = (k : Int) + 1 by omega]; exact this
                go_wp2_with fail
                refine (late_calls _ s t c _ bA (by omega) q2).mono ?_
                rintro e w1 ⟨rfl, x_1, f1⟩
                have y_1 := rA.fr f1 syx
                have a_1 := aA.fr f1 sax
                have B_1 := Fr.below_then BA f1 sx
                clear bA rA aA BA f1
                have y0 := y_1.cell 0
                have y1 := y_1.cell 1
                have y2 := y_1.cell 2
                have v0 := y_1.frozen 0
                have v1 := y_1.frozen 1
                have v2 := y_1.frozen 2
                simp [cells] at y0 y1 y2
                go_wp2_with fail
                refine (half_calls _ s t c _ y_1 (by omega) q2).mono ?_
                rintro e w2 ⟨rfl, rfl⟩
                go_wp2
                generalize mx (s / 2) 4800 = h at g2 x_1 ⊢
                have x2 := x_1.far (p := ⟨wp.heap.size, 1, none⟩) (by simp; omega) ((.int .i64 h))
                have a2' := a_1.far (p := ⟨wp.heap.size, 1, none⟩) (by simp; omega) ((.int .i64 h))
                have y2' := (y_1.set 1 ((.int .i64 h))).cast (show _ = cells (⟨s, h, c⟩) by simp [cells])
                have B2 := Below.setCell B_1 (p := ⟨wp.heap.size, 1, none⟩) hs1 ((.int .i64 h))
                clear x_1 a_1 y_1 B_1
                have x3 := x2.far (p := ⟨wp.heap.size, 0, none⟩) (by simp; omega) ((.int .i64 1200))
                have a3 := a2'.far (p := ⟨wp.heap.size, 0, none⟩) (by simp; omega) ((.int .i64 1200))
                have y3 := (y2'.set 0 ((.int .i64 1200))).cast (show _ = cells (⟨1200, h, c⟩) by simp [cells])
                have B3 := Below.setCell B2 (p := ⟨wp.heap.size, 0, none⟩) hs1 ((.int .i64 1200))
                clear x2 a2' y2' B2
                have x4 := x3.far (p := ⟨wp.heap.size, 2, none⟩) (by simp; omega) ((.int .i64 0))
                have a4 := a3.far (p := ⟨wp.heap.size, 2, none⟩) (by simp; omega) ((.int .i64 0))
                have y4 := (y3.set 2 ((.int .i64 0))).cast (show _ = cells (⟨1200, h, 0⟩) by simp [cells])
                have B4 := Below.setCell B3 (p := ⟨wp.heap.size, 2, none⟩) hs1 ((.int .i64 0))
                clear x3 a3 y3 B3
                go_meet
                case rel => exact ⟨_, x4, y4, a4, g2, B4⟩
              · have g2 : GoodW ⟨mn s (mx (s / 2) 4800), t, 0⟩ ((k + 1 : Nat) : Int) := by have := good_rest ⟨s, t, c⟩ k gk (by omega); rw [show ((k + 1 : Nat) : Int) = (k : Int) + 1 by omega]; exact this
                go_wp2_with fail
                refine (rest_calls _ s t c _ bA (by omega) q2).mono ?_
                rintro e w1 ⟨rfl, x_1, f1⟩
                have y_1 := rA.fr f1 syx
                have a_1 := aA.fr f1 sax
                have B_1 := Fr.below_then BA f1 sx
                clear bA rA aA BA f1
                have y0 := y_1.cell 0
                have y1 := y_1.cell 1
                have y2 := y_1.cell 2
                have v0 := y_1.frozen 0
                have v1 := y_1.frozen 1
                have v2 := y_1.frozen 2
                simp [cells] at y0 y1 y2
                go_wp2
                go_region_with (go_at_call 16; refine (half_calls _ s t c _ (by first | exact y_1 | exact Blk.drew y_1 | exact Blk.drewN y_1 _) (by omega) q2).mono ?_; rintro e w' ⟨rfl, rfl⟩)
                all_goals
                  go_wp2
                  go_meet
                  case rel =>
                    refine ⟨⟨mn s (mx (s / 2) 4800), t, 0⟩, ?_, ?_, ?_, g2, ?_⟩
                    · (repeat (with_reducible first | exact x_1 | (refine Blk.far ?_ (by simp; omega) _) | apply Blk.drewN | apply Blk.drew))
                    · apply Blk.cast
                      · (repeat (with_reducible first | exact y_1 | apply Blk.set | apply Blk.drewN | apply Blk.drew | apply Blk.alloc))
                      · simp [cells]
                    · (repeat (with_reducible first | exact a_1 | (refine Blk.far ?_ (by simp; omega) _) | apply Blk.drewN | apply Blk.drew))
                    · (repeat (with_reducible first | exact B_1 | (refine Below.setCell ?_ hs1 _) | apply below_drewN | apply Below.drew))
        case rest =>
          obtain ⟨⟨s2, t2, c2⟩, xc, yc, ac, g2, Bc⟩ := hcut
          clear z0 z1 z2 z3
          go_wp2_with fail
          have gg := g2
          obtain ⟨p1, p2, p3, p4, p5, p6⟩ := gg
          simp only at p1 p2 p3 p4 p5 p6
          have ru := bnd_range f
          refine (size_at _ ⟨s2, t2, c2⟩ _ xc).mono ?_
          rintro e w7 ⟨rfl, f7⟩
          have x_7 := xc.fr f7 id
          have y_7 := yc.fr f7 id
          have a_7 := ac.fr f7 id
          have B_7 := Fr.below_then Bc f7 sepn
          clear xc yc ac Bc f7
          have z0 := a_7.cell 0
          have z1 := a_7.cell 1
          have z2 := a_7.cell 2
          have z3 := a_7.cell 3
          simp at z0 z1 z2 z3
          go_wp2_with fail
          refine (room_at _ ⟨s2, t2, c2⟩ _ f _ _ x_7 g2 rfl).mono ?_
          rintro e w8 ⟨rfl, rfl⟩
          have y0 := y_7.cell 0
          have y1 := y_7.cell 1
          have y2 := y_7.cell 2
          have v0 := y_7.frozen 0
          have v1 := y_7.frozen 1
          have v2 := y_7.frozen 2
          simp [cells] at y0 y1 y2
          have hw : IntKind.i64.wrap ((s2) - mx 0 (mn f 1073741824)) = (s2) - mx 0 (mn f 1073741824) := IntWalk.i64_in _ (by unfold bnd at ru; omega)
          have p1' : ¬ (s2) < 1200 := by omega
          have p2' : ¬ 1048576 < (s2) := by omega
          have hbn : bnd f = mx 0 (mn f 1073741824) := rfl
          go_wp2
          go_quiet (fail)
          go_wp2
          go_roundw
          case rel => exact ⟨k + 1, ⟨s2, t2, c2⟩, by omega, by go_num, x_7, y_7, g2, below_drewN B_7 _⟩
          case measure => simp [intOf]; omega
    · go_wp2
      go_ret
      exact ⟨rfl, Bk⟩
end Go.Proofs.Ytpomlgohfgamoaa.WindPlays
