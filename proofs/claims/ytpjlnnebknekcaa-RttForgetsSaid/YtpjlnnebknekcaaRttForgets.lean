/- The walk of flumelaw10.RttForgets: true for every list and every two numbers. No conditions. -/
import Derived.Test.YtpjlnnebknekcaaRtt
import Derived.Test.YtpjlnnebknekcaaArgs
namespace Go.Proofs.Ytpjlnnebknekcaa.RttForgets
open Go.RowKit Go.Proofs.Ytpjlnnebknekcaa.Mem Go.Proofs.Ytpjlnnebknekcaa.Rtt
set_option linter.unusedVariables false
set_option linter.unusedSimpArgs false
attribute [local go_sem] max2_int min2_int max_two min_two

theorem samp_same (e e' : Es) (t : Int) (h1 : e.s = e'.s) (h2 : e.d = e'.d) (h3 : e.tk = e'.tk) : samp e t = samp e' t := by
  unfold samp; rw [h1, h2, h3]

set_option maxHeartbeats 2000000 in
set_option maxRecDepth 100000 in
theorem walk (A : Option Addr) (cap : Nat) (xs : List Int) (db t : Int) (w : World) (hr : ReadsI w .i64 A xs) (hc : xs.length ≤ cap) (hm : cap ≤ maxLen)
    (hz : xs.length * 8 ≤ 140737488351232) (hx : ∀ x ∈ xs, (Lit.int .i64 x).wf = true) (wd : (Lit.int .i64 db).wf = true) (wt : (Lit.int .i64 t).wf = true) :
    Calls Try.prog 6 #[.slice A xs.length cap, .int .i64 db, .int .i64 t] w fun e w' => e = .returned (.bool true) ∧ Below w.heap.size w w' := by
  unfold maxLen at hm
  have hu25 := Try.underlying25
  go_enter Try.func6, Try.ntmps6
  go_wp2_with fail
  refine (first_calls w).mono ?_
  rintro e w0 ⟨rfl, C0⟩
  obtain ⟨bx, by_, C1⟩ := two_made w w0 C0
  have hs := C0.size
  have sx : ∀ k, k < w.heap.size → ¬ only w0.heap.size k := fun k hk e => by have e' : k = w0.heap.size := e; omega
  have sy : ∀ k, k < w.heap.size → ¬ only (w0.heap.size + 1) k := fun k hk e => by have e' : k = w0.heap.size + 1 := e; omega
  have sxy : ¬ only (w0.heap.size + 1) w0.heap.size := fun e => by have e' : w0.heap.size = w0.heap.size + 1 := e; omega
  have syx : ¬ only w0.heap.size (w0.heap.size + 1) := fun e => by have e' : w0.heap.size + 1 = w0.heap.size := e; omega
  have sepn : ∀ k, k < w.heap.size → ¬ nothing k := fun _ _ h => h
  clear C0
  go_wp2_with fail
  go_loopw [16] (fun i wr => ∃ (k : Nat) (e : Es), k ≤ xs.length ∧ i = .int .i64 k ∧ Blk wr w0.heap.size 25 (cells e) ∧ Blk wr (w0.heap.size + 1) 25 (cells e) ∧ GoodE e ∧ Below w.heap.size w wr) (fun i _ => xs.length - (intOf i).toNat)
  case atStart => exact ⟨0, zero, Nat.zero_le _, rfl, bx, by_, good_zero, C1⟩
  case round =>
    obtain ⟨k, e, hk, rfl, bk, ck, gk, Bk⟩ := hrel
    by_cases hlt : k < xs.length
    · obtain ⟨ad, rfl, hcell⟩ := (hr.below Bk).at_ k hlt
      by_cases h30 : k < 30
      · by_cases ht : xs[k] < 0 ∨ 60000 < xs[k]
        · skip
          go_wp2_with fail
          refine (sample_bad _ _ _ ht).mono ?_
          rintro e w1 ⟨rfl, rfl⟩
          go_wp2_with fail
          refine (sample_bad _ _ _ ht).mono ?_
          rintro e w2 ⟨rfl, rfl⟩
          go_wp2
          go_roundw
          case rel => exact ⟨k + 1, e, by omega, by go_num, bk, ck, gk, Bk⟩
          case measure => simp [intOf]; omega
        · have g2 := good_samp e xs[k] gk (by omega) (by omega)
          go_wp2_with fail
          refine (sample_at _ _ _ xs[k] _ bk gk (by omega) (by omega) rfl).mono ?_
          rintro e w1 ⟨rfl, x_1, f1⟩
          have y_1 := ck.fr f1 syx
          have B_1 := Fr.below_then Bk f1 sx
          clear bk ck Bk f1
          go_wp2_with fail
          refine (sample_at _ _ _ xs[k] _ y_1 gk (by omega) (by omega) rfl).mono ?_
          rintro e w2 ⟨rfl, y_2, f2⟩
          have x_2 := x_1.fr f2 sxy
          have B_2 := Fr.below_then B_1 f2 sy
          clear x_1 y_1 B_1 f2
          go_wp2
          go_roundw
          case rel => exact ⟨k + 1, samp e xs[k], by omega, by go_num, x_2, y_2, g2, B_2⟩
          case measure => simp [intOf]; omega
      · go_wp2
        go_roundw
        case rel => exact ⟨k + 1, e, by omega, by go_num, bk, ck, gk, Bk⟩
        case measure => simp [intOf]; omega
    · clear hr bx by_ C1
      have hn2 : 0 ≤ wrap64 ((IntKind.u64.wrap db).tmod 70) ∧ wrap64 ((IntKind.u64.wrap db).tmod 70) < 70 := um_range db 70 (by omega) (by omega)
      go_wp2
      generalize wrap64 ((IntKind.u64.wrap db).tmod 70) = n at hn2 ⊢
      obtain ⟨n0, n1⟩ := hn2
      go_loopw [32] (fun i wr => ∃ (j : Nat) (e' : Es), (j : Int) ≤ n ∧ i = .int .i64 j ∧ Blk wr w0.heap.size 25 (cells e') ∧ Blk wr (w0.heap.size + 1) 25 (cells e) ∧ GoodE e' ∧ e'.s = e.s ∧ e'.d = e.d ∧ e'.tk = e.tk ∧ Below w.heap.size w wr) (fun i _ => n.toNat - (intOf i).toNat)
      case atStart => exact ⟨0, e, n0, rfl, bk, ck, gk, rfl, rfl, rfl, Bk⟩
      case round =>
        obtain ⟨j, e', hj, rfl, bk, ck, gk', e1, e2, e3, Bk⟩ := hrel
        have E1 := Lib.hid e1; have E2 := Lib.hid e2; have E3 := Lib.hid e3
        clear e1 e2 e3
        by_cases hlj : (j : Int) < n
        · skip
          have g2 := good_dou e' gk'
          go_wp2_with fail
          refine (double_at _ _ _ _ bk gk' rfl).mono ?_
          rintro e w1 ⟨rfl, x_1, f1⟩
          have y_1 := ck.fr f1 syx
          have B_1 := Fr.below_then Bk f1 sx
          clear bk ck Bk f1
          go_wp2
          go_roundw
          case rel => exact ⟨j + 1, dou e', by omega, by go_num, x_1, y_1, g2, E1.out, E2.out, E3.out, B_1⟩
          case measure => simp [intOf]; omega
        · by_cases ht : t < 0 ∨ 60000 < t
          · skip
            go_wp2_with fail
            refine (wait_at _ _ _ _ bk gk' rfl).mono ?_
            rintro e w1 ⟨rfl, f1⟩
            have x_1 := bk.fr f1 id
            have y_1 := ck.fr f1 id
            have B_1 := Fr.below_then Bk f1 sepn
            clear bk ck Bk f1
            go_wp2_with fail
            refine (sample_bad _ _ _ ht).mono ?_
            rintro e w2 ⟨rfl, rfl⟩
            go_wp2_with fail
            refine (wait_at _ _ _ _ x_1 gk' rfl).mono ?_
            rintro e w3 ⟨rfl, f3⟩
            have x_3 := x_1.fr f3 id
            have y_3 := y_1.fr f3 id
            have B_3 := Fr.below_then B_1 f3 sepn
            clear x_1 y_1 B_1 f3
            go_wp2_with fail
            refine (sample_bad _ _ _ ht).mono ?_
            rintro e w4 ⟨rfl, rfl⟩
            go_wp2
            go_ret
            exact ⟨by simp, B_3⟩
          · have HS := Lib.hid (samp_same e' e t E1.out E2.out E3.out)
            have g2 := good_samp e t gk (by omega) (by omega)
            go_wp2_with fail
            refine (wait_at _ _ _ _ bk gk' rfl).mono ?_
            rintro e w1 ⟨rfl, f1⟩
            have x_1 := bk.fr f1 id
            have y_1 := ck.fr f1 id
            have B_1 := Fr.below_then Bk f1 sepn
            clear bk ck Bk f1
            go_wp2_with fail
            refine (sample_at _ _ (samp e t) t _ x_1 gk' (by omega) (by omega) HS.out).mono ?_
            rintro e w2 ⟨rfl, x_2, f2⟩
            have y_2 := y_1.fr f2 syx
            have B_2 := Fr.below_then B_1 f2 sx
            clear x_1 y_1 B_1 f2
            go_wp2_with fail
            refine (sample_at _ _ (samp e t) t _ y_2 gk (by omega) (by omega) rfl).mono ?_
            rintro e w3 ⟨rfl, y_3, f3⟩
            have x_3 := x_2.fr f3 sxy
            have B_3 := Fr.below_then B_2 f3 sy
            clear x_2 y_2 B_2 f3
            go_wp2_with fail
            refine (wait_at _ _ _ _ x_3 g2 rfl).mono ?_
            rintro e w4 ⟨rfl, f4⟩
            have x_4 := x_3.fr f4 id
            have y_4 := y_3.fr f4 id
            have B_4 := Fr.below_then B_3 f4 sepn
            clear x_3 y_3 B_3 f4
            go_wp2_with fail
            refine (wait_at _ _ _ _ y_4 g2 rfl).mono ?_
            rintro e w5 ⟨rfl, f5⟩
            have x_5 := x_4.fr f5 id
            have y_5 := y_4.fr f5 id
            have B_5 := Fr.below_then B_4 f5 sepn
            clear x_4 y_4 B_4 f5
            go_wp2
            go_ret
            exact ⟨by simp, B_5⟩
end Go.Proofs.Ytpjlnnebknekcaa.RttForgets
