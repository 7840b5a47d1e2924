/- The walk of flumelaw11.WindHalves: true for every script and every number. No conditions. -/
import Derived.Test.YtpomlgohfgamoaaWindArgs
import Derived.Outline
namespace Go.Proofs.Ytpomlgohfgamoaa.WindHalves
open Go.RowKit Go.Proofs.Ytpomlgohfgamoaa.Mem Go.Proofs.Ytpomlgohfgamoaa.Wind
set_option linter.unusedVariables false
set_option linter.unusedSimpArgs false
attribute [local go_sem] max2_mx min2_mn max_two min_two

def half (s : Int) : Int := mx (s / 2) 4800
def halves : Nat → Int → Int
  | 0, s => s
  | k + 1, s => half (halves k s)
theorem half_mono (a b : Int) (h : a ≤ b) : half a ≤ half b := by unfold half mx; (repeat' split) <;> omega
theorem halves_mono : ∀ k a b, a ≤ b → halves k a ≤ halves k b
  | 0, _, _, h => h
  | k + 1, a, b, h => half_mono _ _ (halves_mono k a b h)
theorem halves_20 (s : Int) (h0 : 1200 ≤ s) (h1 : s ≤ 1048576) : halves 20 s = 4800 := by
  have a : halves 20 1200 = 4800 := by decide +kernel
  have b : halves 20 1048576 = 4800 := by decide +kernel
  have c := halves_mono 20 _ _ h0
  have d := halves_mono 20 _ _ h1
  omega
theorem um3 (x : Int) : 0 ≤ wrap64 ((IntKind.u64.wrap x).tmod 3) ∧ wrap64 ((IntKind.u64.wrap x).tmod 3) ≤ 2 := by
  have e : IntKind.u64.wrap x = x % 18446744073709551616 := by simp [IntKind.wrap, IntKind.bits, IntKind.signed]
  rw [e, Int.tmod_eq_emod_of_nonneg (by omega)]
  unfold wrap64
  omega

theorem step (s : Int) (h0 : 1200 ≤ s) (h1 : s ≤ 3600) : acked ⟨s, 4800, 0⟩ 1200 s true = ⟨s + 1200, 4800, 0⟩ := by
  have b1 : bnd s = s := by unfold bnd mx mn; (repeat' split) <;> omega
  have b2 : bnd 1200 = 1200 := by decide
  have b3 : mn 1200 1200 = 1200 := by decide
  have b4 : mn 1048576 (s + 1200) = s + 1200 := by unfold mn; split <;> omega
  have c1 : s ≤ 4800 := by omega
  simp [acked, b1, b2, b3, b4, c1]

set_option maxHeartbeats 2000000 in
set_option maxRecDepth 100000 in
theorem walk (A : Option Addr) (cap len : Nat) (nn : Int) (w : World) (hsee : Sees Try.prog w 22 [.slice A len cap]) (wf : (Lit.int .i64 nn).wf = true) :
    Calls Try.prog 4 #[.slice A len cap, .int .i64 nn] w fun e w' => e = .returned (.bool true) ∧ Below w.heap.size w w' := by
  obtain ⟨acts, rfl, hr, hc, hm⟩ := reads_acts hsee
  unfold maxLen at hm
  have hu41 := Try.underlying41
  have hu27 := Try.underlying27
  go_enter Try.func4, Try.ntmps4
  go_wp2_with fail
  refine (first_calls w).mono ?_
  rintro e w0 ⟨rfl, C0⟩
  have hs := C0.size
  have sx : ∀ k, k < w.heap.size → ¬ only w0.heap.size k := fun k hk e => by have e' : k = w0.heap.size := e; omega
  have sepn : ∀ k, k < w.heap.size → ¬ nothing k := fun _ _ h => h
  go_wp2_with fail
  refine (new_calls w0).mono ?_
  rintro e w1 ⟨rfl, b1, B1⟩
  have C1 := C0.trans (B1.mono hs)
  clear C0 B1 hs
  go_wp2_with fail
  go_loopw [29] (fun i wr => ∃ (k : Nat) (e : Ws), k ≤ acts.length ∧ i = .int .i64 k ∧ Blk wr w0.heap.size 41 (cells e) ∧ GoodW e (if k ≤ 100 then k else 100) ∧ Below w.heap.size w wr) (fun i _ => acts.length - (intOf i).toNat)
  case atStart => exact ⟨0, startW, Nat.zero_le _, rfl, b1, good_start, C1⟩
  case round =>
    obtain ⟨k, e, hk, rfl, bk, gk, Bk⟩ := hrel
    by_cases hlt : k < acts.length
    · obtain ⟨ad, rfl, hcell⟩ := hr.at_ Bk k hlt
      generalize hact : acts[k] = act at hcell
      obtain ⟨ki, n, f, on⟩ := act
      obtain ⟨a0, a1, a2, a3⟩ := hcell
      simp only at a0 a1 a2 a3
      clear hact
      by_cases h100 : k < 100
      · have gk' : GoodW e k := by rw [if_pos (by omega)] at gk; exact gk
        clear gk
        have bA := bk.alloc (.cells #[.int .i64 ki, .int .i64 n, .int .i64 f, .bool on] 27)
        have BA := Bk.alloc Bk.size (.cells #[.int .i64 ki, .int .i64 n, .int .i64 f, .bool on] 27)
        have g2 := good_acked e k n f on gk' (by omega)
        go_wp2_with fail
        refine (acked_at _ e k n f on _ bA gk' (by omega)).mono ?_
        rintro e w1 ⟨rfl, x_1, f1⟩
        have B_1 := Fr.below_then BA f1 sx
        clear bA BA f1
        go_wp2
        go_roundw
        case rel => exact ⟨k + 1, _, by omega, by go_num, x_1, by rw [if_pos (by omega)]; exact g2, B_1⟩
        case measure => simp [intOf]; omega
      · have bA := bk.alloc (.cells #[.int .i64 ki, .int .i64 n, .int .i64 f, .bool on] 27)
        have BA := Bk.alloc Bk.size (.cells #[.int .i64 ki, .int .i64 n, .int .i64 f, .bool on] 27)
        have g2 : GoodW e (if k + 1 ≤ 100 then ((k + 1 : Nat) : Int) else 100) := good_more _ _ _ gk (by split <;> split <;> omega)
        go_wp2
        go_roundw
        case rel => exact ⟨k + 1, e, by omega, by go_num, bA, g2, BA⟩
        case measure => simp [intOf]; omega
    · have g1 : GoodW e 500 := good_more _ _ _ gk (by split <;> omega)
      clear gk hr hsee b1 C1
      obtain ⟨z, hz⟩ : ∃ z, z = e.s := ⟨_, rfl⟩
      have z0 : 1200 ≤ z ∧ z ≤ 1048576 := by rw [hz]; exact ⟨g1.1, g1.2.1⟩
      have HZ : Hid (e.s = halves 0 z) := Lib.hid hz.symm
      clear hz
      go_wp2
      go_loopw [45] (fun i wr => ∃ (j : Nat) (e : Ws), j ≤ 20 ∧ i = .int .i64 j ∧ Blk wr w0.heap.size 41 (cells e) ∧ GoodW e (500 + j) ∧ Hid (e.s = halves j z) ∧ Below w.heap.size w wr) (fun i _ => 20 - (intOf i).toNat)
      case atStart => exact ⟨0, e, Nat.zero_le _, rfl, bk, g1, HZ, Bk⟩
      case round =>
        clear bk g1 HZ Bk
        obtain ⟨j, e, hj, rfl, bk, g1, HZ, Bk⟩ := hrel
        have g2 := good_shrunk e _ g1 (by omega)
        have HZ2 : Hid ((shrunk e).s = halves (j + 1) z) := Lib.hid (show mx (e.s / 2) 4800 = half (halves j z) by rw [← HZ.out]; rfl)
        have g0 := g1
        obtain ⟨s, t, c⟩ := e
        obtain ⟨q1, q2, q3, q4, q5, q6⟩ := g0
        simp only at q1 q2 q3 q4 q5 q6
        by_cases hlj : j < 20
        · skip
          go_wp2_with fail
          refine (size_at _ ⟨s, t, c⟩ _ bk).mono ?_
          rintro e w1 ⟨rfl, f1⟩
          have x_1 := bk.fr f1 id
          have B_1 := Fr.below_then Bk f1 sepn
          clear bk Bk f1
          go_wp2_with fail
          refine (lost_calls _ s t c _ x_1 (by omega) q2).mono ?_
          rintro e w2 ⟨rfl, x_2, f2⟩
          have B_2 := Fr.below_then B_1 f2 sx
          clear x_1 B_1 f2
          go_wp2_with fail
          refine (size_at _ ⟨mx (s / 2) 4800, mx (s / 2) 4800, 0⟩ _ x_2).mono ?_
          rintro e w3 ⟨rfl, f3⟩
          have x_3 := x_2.fr f3 id
          have B_3 := Fr.below_then B_2 f3 sepn
          clear x_2 B_2 f3
          go_wp2
          go_roundw
          case rel => exact ⟨j + 1, _, by omega, by go_num, x_3, by have := g2; rw [show (500 : Int) + ((j + 1 : Nat) : Int) = 500 + (j : Int) + 1 by omega]; exact this, HZ2, B_3⟩
          case measure => simp [intOf]; omega
        · obtain rfl : j = 20 := by omega
          obtain rfl : s = 4800 := by have := HZ.out; rw [halves_20 z z0.1 z0.2] at this; exact this
          clear HZ HZ2 g2
          have e48 : mx (4800 / 2) 4800 = 4800 := by decide
          go_wp2_with fail
          refine (late_calls _ 4800 t c _ bk (by omega) q2).mono ?_
          rintro e w1 ⟨rfl, x_1, f1⟩
          have B_1 := Fr.below_then Bk f1 sx
          clear bk Bk f1
          rw [e48] at x_1
          go_wp2_with fail
          refine (size_at _ ⟨1200, 4800, 0⟩ _ x_1).mono ?_
          rintro e w2 ⟨rfl, f2⟩
          have x_2 := x_1.fr f2 id
          have B_2 := Fr.below_then B_1 f2 sepn
          clear x_1 B_1 f2
          go_wp2
          have hf := um3 nn
          generalize wrap64 ((IntKind.u64.wrap nn).tmod 3) = f at hf ⊢
          obtain ⟨f0, f1⟩ := hf
          rw [show wrap64 (1 + f) = 1 + f by unfold wrap64; omega]
          go_loopw [92] (fun i wr => ∃ (j : Nat), (j : Int) ≤ 1 + f ∧ i = .int .i64 j ∧ Blk wr w0.heap.size 41 (cells ⟨1200 + 1200 * j, 4800, 0⟩) ∧ Below w.heap.size w wr) (fun i _ => (1 + f).toNat - (intOf i).toNat)
          case atStart => exact ⟨0, by omega, rfl, x_2, B_2⟩
          case round =>
            clear x_2 B_2
            obtain ⟨j, hj, rfl, bk, Bk⟩ := hrel
            by_cases hlj : (j : Int) < 1 + f
            · have ga : GoodW ⟨1200 + 1200 * (j : Int), 4800, 0⟩ 0 := by refine ⟨?_, ?_, ?_, ?_, ?_, ?_⟩ <;> simp only <;> omega
              have ha : acked ⟨1200 + 1200 * (j : Int), 4800, 0⟩ 1200 (1200 + 1200 * (j : Int)) true = ⟨1200 + 1200 * ((j + 1 : Nat) : Int), 4800, 0⟩ := by
                rw [step _ (by omega) (by omega), show 1200 + 1200 * (j : Int) + 1200 = 1200 + 1200 * ((j + 1 : Nat) : Int) by omega]
              have HA := Lib.hid ha
              clear ha
              go_wp2_with fail
              refine (size_at _ ⟨1200 + 1200 * (j : Int), 4800, 0⟩ _ bk).mono ?_
              rintro e w1 ⟨rfl, f1⟩
              have x_1 := bk.fr f1 id
              have B_1 := Fr.below_then Bk f1 sepn
              clear bk Bk f1
              go_wp2_with fail
              refine (acked_at _ ⟨1200 + 1200 * (j : Int), 4800, 0⟩ 0 1200 (1200 + 1200 * (j : Int)) true _ x_1 ga (by omega)).mono ?_
              rintro e w2 ⟨rfl, x_2, f2⟩
              have B_2 := Fr.below_then B_1 f2 sx
              clear x_1 B_1 f2
              rw [HA.out] at x_2
              go_wp2
              go_roundw
              case rel => exact ⟨j + 1, by omega, by go_num, x_2, B_2⟩
              case measure => simp [intOf]; omega
            · have hf2 : f = (j : Int) - 1 := by omega
              subst hf2
              go_wp2_with fail
              refine (size_at _ ⟨1200 + 1200 * (j : Int), 4800, 0⟩ _ bk).mono ?_
              rintro e w1 ⟨rfl, f1⟩
              have x_1 := bk.fr f1 id
              have B_1 := Fr.below_then Bk f1 sepn
              clear bk Bk f1
              go_wp2
              go_ret
              first | exact ⟨rfl, B_1⟩ | (refine ⟨?_, B_1⟩; simp <;> omega)
end Go.Proofs.Ytpomlgohfgamoaa.WindHalves
