/- The walk of flumelaw11.WindRooms: true for every script and every number. No conditions. -/
import Derived.Test.YtpomlgohfgamoaaWindArgs
import Derived.Outline
namespace Go.Proofs.Ytpomlgohfgamoaa.WindRooms
open Go.RowKit Go.Proofs.Ytpomlgohfgamoaa.Mem Go.Proofs.Ytpomlgohfgamoaa.Wind
set_option linter.unusedVariables false
set_option linter.unusedSimpArgs false
attribute [local go_sem] max2_mx min2_mn max_two min_two

theorem um_range2 (x s : Int) (h0 : 0 ≤ s) (h1 : s ≤ 1048576) : 0 ≤ wrap64 ((IntKind.u64.wrap x).tmod (s + 1)) ∧ wrap64 ((IntKind.u64.wrap x).tmod (s + 1)) ≤ s := by
  have e : IntKind.u64.wrap x = x % 18446744073709551616 := by simp [IntKind.wrap, IntKind.bits, IntKind.signed]
  rw [e, Int.tmod_eq_emod_of_nonneg (by omega)]
  have h2 := Int.emod_nonneg (x % 18446744073709551616) (show s + 1 ≠ 0 by omega)
  have h3 := Int.emod_lt_of_pos (x % 18446744073709551616) (show 0 < s + 1 by omega)
  unfold wrap64
  omega

set_option maxHeartbeats 2000000 in
set_option maxRecDepth 100000 in
theorem walk (A : Option Addr) (cap len : Nat) (fl : Int) (w : World) (hsee : Sees Try.prog w 22 [.slice A len cap]) (wf : (Lit.int .i64 fl).wf = true) :
    Calls Try.prog 3 #[.slice A len cap, .int .i64 fl] w fun e w' => e = .returned (.bool true) ∧ Below w.heap.size w w' := by
  obtain ⟨acts, rfl, hr, hc, hm⟩ := reads_acts hsee
  unfold maxLen at hm
  have hu41 := Try.underlying41
  have hu27 := Try.underlying27
  go_enter Try.func3, Try.ntmps3
  go_wp2_with fail
  refine (first_calls w).mono ?_
  rintro e w0 ⟨rfl, C0⟩
  have hs := C0.size
  have sx : ∀ k, k < w.heap.size → ¬ only w0.heap.size k := fun k hk e => by have e' : k = w0.heap.size := e; omega
  have sepn : ∀ k, k < w.heap.size → ¬ nothing k := fun _ _ h => h
  go_wp2_with fail
  refine (new_calls w0).mono ?_
  rintro e w1 ⟨rfl, b1, B1⟩
  have C1 := C0.trans (B1.mono hs)
  clear C0 B1 hs
  go_wp2_with fail
  go_loopw [17] (fun i wr => ∃ (k : Nat) (e : Ws), k ≤ acts.length ∧ i = .int .i64 k ∧ Blk wr w0.heap.size 41 (cells e) ∧ GoodW e (if k ≤ 100 then k else 100) ∧ Below w.heap.size w wr) (fun i _ => acts.length - (intOf i).toNat)
  case atStart => exact ⟨0, startW, Nat.zero_le _, rfl, b1, good_start, C1⟩
  case round =>
    obtain ⟨k, e, hk, rfl, bk, gk, Bk⟩ := hrel
    by_cases hlt : k < acts.length
    · obtain ⟨ad, rfl, hcell⟩ := hr.at_ Bk k hlt
      generalize hact : acts[k] = act at hcell
      obtain ⟨ki, n, f, on⟩ := act
      obtain ⟨a0, a1, a2, a3⟩ := hcell
      simp only at a0 a1 a2 a3
      clear hact
      by_cases h100 : k < 100
      · have gk' : GoodW e k := by rw [if_pos (by omega)] at gk; exact gk
        clear gk
        have bA := bk.alloc (.cells #[.int .i64 ki, .int .i64 n, .int .i64 f, .bool on] 27)
        have BA := Bk.alloc Bk.size (.cells #[.int .i64 ki, .int .i64 n, .int .i64 f, .bool on] 27)
        have g2 := good_acked e k n f on gk' (by omega)
        go_wp2_with fail
        refine (acked_at _ e k n f on _ bA gk' (by omega)).mono ?_
        rintro e w1 ⟨rfl, x_1, f1⟩
        have B_1 := Fr.below_then BA f1 sx
        clear bA BA f1
        go_wp2
        go_roundw
        case rel => exact ⟨k + 1, _, by omega, by go_num, x_1, by rw [if_pos (by omega)]; exact g2, B_1⟩
        case measure => simp [intOf]; omega
      · have bA := bk.alloc (.cells #[.int .i64 ki, .int .i64 n, .int .i64 f, .bool on] 27)
        have BA := Bk.alloc Bk.size (.cells #[.int .i64 ki, .int .i64 n, .int .i64 f, .bool on] 27)
        have g2 : GoodW e (if k + 1 ≤ 100 then ((k + 1 : Nat) : Int) else 100) := good_more _ _ _ gk (by split <;> split <;> omega)
        go_wp2
        go_roundw
        case rel => exact ⟨k + 1, e, by omega, by go_num, bA, g2, BA⟩
        case measure => simp [intOf]; omega
    · have g1 : GoodW e 1000 := good_more _ _ _ gk (by split <;> omega)
      clear gk hr hsee
      obtain ⟨s, t, c⟩ := e
      have g0 := g1
      obtain ⟨q1, q2, q3, q4, q5, q6⟩ := g0
      simp only at q1 q2 q3 q4 q5 q6
      go_wp2_with fail
      refine (size_at _ ⟨s, t, c⟩ _ bk).mono ?_
      rintro e w1 ⟨rfl, f1⟩
      have x_1 := bk.fr f1 id
      have B_1 := Fr.below_then Bk f1 sepn
      clear bk Bk f1
      go_wp2_with fail
      have hf := um_range2 fl s (by omega) (by omega)
      generalize wrap64 ((IntKind.u64.wrap fl).tmod (s + 1)) = f at hf ⊢
      obtain ⟨f0, f1⟩ := hf
      have r1 : mx 0 (s - bnd f) = s - f := by unfold bnd mx mn; (repeat' split) <;> omega
      have r2 : mx 0 (s - bnd s) = 0 := by unfold bnd mx mn; (repeat' split) <;> omega
      have r3 : mx 0 (s - bnd (s + 1 + f)) = 0 := by unfold bnd mx mn; (repeat' split) <;> omega
      have r4 : mx 0 (s - bnd (-1 - f)) = s := by unfold bnd mx mn; (repeat' split) <;> omega
      have R1 := Lib.hid r1; have R2 := Lib.hid r2; have R3 := Lib.hid r3; have R4 := Lib.hid r4
      clear r1 r2 r3 r4
      refine (room_at _ ⟨s, t, c⟩ 1000 f _ _ x_1 g1 R1.out).mono ?_
      rintro e w2 ⟨rfl, rfl⟩
      go_wp2_with fail
      refine (room_at _ ⟨s, t, c⟩ 1000 s _ _ x_1 g1 R2.out).mono ?_
      rintro e w3 ⟨rfl, rfl⟩
      go_wp2_with fail
      refine (room_at _ ⟨s, t, c⟩ 1000 (s + 1 + f) _ _ x_1 g1 R3.out).mono ?_
      rintro e w4 ⟨rfl, rfl⟩
      go_wp2_with fail
      refine (room_at _ ⟨s, t, c⟩ 1000 (-1 - f) _ _ x_1 g1 R4.out).mono ?_
      rintro e w5 ⟨rfl, rfl⟩
      go_wp2
      go_ret
      exact ⟨by simp, B_1⟩
end Go.Proofs.Ytpomlgohfgamoaa.WindRooms
