/- The walk of flumelaw10.RttBounds: true for every list. No conditions. -/
import Derived.Test.YtpjlnnebknekcaaRtt
import Derived.Test.YtpjlnnebknekcaaArgs
namespace Go.Proofs.Ytpjlnnebknekcaa.RttBounds
open Go.RowKit Go.Proofs.Ytpjlnnebknekcaa.Mem Go.Proofs.Ytpjlnnebknekcaa.Rtt
set_option linter.unusedVariables false
set_option linter.unusedSimpArgs false
attribute [local go_sem] max2_int min2_int max_two min_two

theorem wait_range (e : Es) : 10 ≤ waitOf e ∧ waitOf e ≤ 600 :=
  dbl_range _ _ (base_range e.s e.d e.tk).1 (base_range e.s e.d e.tk).2
theorem dbl_full (k : Nat) : ∀ x, 10 ≤ x → x ≤ 600 → dbl (k + 6) x = 600 := by
  induction k with
  | zero =>
    intro x h0 h1
    have e1 := dbl_snoc 0 x; have e2 := dbl_snoc 1 x; have e3 := dbl_snoc 2 x; have e4 := dbl_snoc 3 x; have e5 := dbl_snoc 4 x; have e6 := dbl_snoc 5 x
    have e0 : dbl 0 x = x := rfl
    simp only [Nat.reduceAdd, Nat.zero_add] at *
    rw [e0] at e1
    rw [e6, e5, e4, e3, e2, e1]
    (repeat' split) <;> omega
  | succ k ih =>
    intro x h0 h1
    have := dbl_snoc (k + 6) x
    rw [show k + 1 + 6 = k + 6 + 1 by omega, this, ih x h0 h1]
    rfl
theorem wait_dou (e : Es) (h : GoodE e) : waitOf (dou e) = if 2 * waitOf e < 600 then 2 * waitOf e else 600 := by
  have b := base_range e.s e.d e.tk
  obtain ⟨g1, g2, g3, g4, g5, g6⟩ := h
  by_cases hn : e.n + 1 ≤ 64
  · have e1 : (dou e).n.toNat = e.n.toNat + 1 := by simp only [dou, if_pos hn]; omega
    unfold waitOf
    rw [e1]
    exact dbl_snoc _ _
  · have e1 : (dou e).n.toNat = 58 + 6 := by simp only [dou, if_neg hn]; omega
    have e2 : e.n.toNat = 58 + 6 := by omega
    unfold waitOf
    rw [e1, e2]
    show dbl (58 + 6) (base e.s e.d e.tk) = _
    rw [dbl_full 58 _ b.1 b.2]
    rfl

set_option maxHeartbeats 2000000 in
set_option maxRecDepth 100000 in
theorem walk (A : Option Addr) (cap : Nat) (xs : List Int) (w : World) (hr : ReadsI w .i64 A xs) (hc : xs.length ≤ cap) (hm : cap ≤ maxLen)
    (hz : xs.length * 8 ≤ 140737488351232) (hx : ∀ x ∈ xs, (Lit.int .i64 x).wf = true) :
    Calls Try.prog 3 #[.slice A xs.length cap] w fun e w' => e = .returned (.bool true) ∧ Below w.heap.size w w' := by
  unfold maxLen at hm
  have hu25 := Try.underlying25
  go_enter Try.func3, Try.ntmps3
  go_wp2_with fail
  refine (first_calls w).mono ?_
  rintro e w0 ⟨rfl, C0⟩
  have hs := C0.size
  have bx := Blk.new w0 (cells zero) 25
  have C1 := C0.alloc hs (.cells (cells zero) 25)
  have sx : ∀ k, k < w.heap.size → ¬ only w0.heap.size k := fun k hk e => by have e' : k = w0.heap.size := e; omega
  have sepn : ∀ k, k < w.heap.size → ¬ nothing k := fun _ _ h => h
  clear C0
  go_wp2_with fail
  go_loopw [12] (fun i wr => ∃ (k : Nat) (e : Es), k ≤ xs.length ∧ i = .int .i64 k ∧ Blk wr w0.heap.size 25 (cells e) ∧ GoodE e ∧ Below w.heap.size w wr) (fun i _ => xs.length - (intOf i).toNat)
  case atStart => exact ⟨0, zero, Nat.zero_le _, rfl, bx, good_zero, C1⟩
  case round =>
    obtain ⟨k, e, hk, rfl, bk, gk, Bk⟩ := hrel
    by_cases hlt : k < xs.length
    · obtain ⟨ad, rfl, hcell⟩ := (hr.below Bk).at_ k hlt
      by_cases h200 : 200 ≤ k
      · go_wp2
        go_ret
        exact ⟨rfl, Bk⟩
      · obtain ⟨v, hv⟩ : ∃ v, waitOf e = v := ⟨_, rfl⟩
        have vr := wait_range e
        rw [hv] at vr
        by_cases h3 : xs[k].tmod 3 = 0
        · have g2 := good_dou e gk
          have hd := wait_dou e gk
          rw [hv] at hd
          obtain ⟨u, hu⟩ : ∃ u, waitOf (dou e) = u := ⟨_, rfl⟩
          rw [hu] at hd
          have HV := Lib.hid hv; clear hv
          have HU := Lib.hid hu; clear hu
          by_cases h2 : 2 * v < 600
          · rw [if_pos h2] at hd
            subst hd
            go_wp2_with fail
            refine (wait_at _ _ v _ bk gk HV.out).mono ?_
            rintro e w1 ⟨rfl, f1⟩
            have x_1 := bk.fr f1 id
            have B_1 := Fr.below_then Bk f1 sepn
            clear bk Bk f1
            go_wp2_with fail
            refine (double_at _ _ _ _ x_1 gk rfl).mono ?_
            rintro e w2 ⟨rfl, x_2, f2⟩
            have B_2 := Fr.below_then B_1 f2 sx
            clear x_1 B_1 f2
            go_wp2_with fail
            refine (wait_at _ _ _ _ x_2 g2 HU.out).mono ?_
            rintro e w3 ⟨rfl, f3⟩
            have x_3 := x_2.fr f3 id
            have B_3 := Fr.below_then B_2 f3 sepn
            clear x_2 B_2 f3
            go_wp2_with fail
            refine (wait_at _ _ _ _ x_3 g2 HU.out).mono ?_
            rintro e w4 ⟨rfl, f4⟩
            have x_4 := x_3.fr f4 id
            have B_4 := Fr.below_then B_3 f4 sepn
            clear x_3 B_3 f4
            go_wp2_with fail
            refine (wait_at _ _ _ _ x_4 g2 HU.out).mono ?_
            rintro e w5 ⟨rfl, f5⟩
            have x_5 := x_4.fr f5 id
            have B_5 := Fr.below_then B_4 f5 sepn
            clear x_4 B_4 f5
            go_wp2
            go_roundw
            case rel => exact ⟨k + 1, dou e, by omega, by go_num, x_5, g2, B_5⟩
            case measure => simp [intOf]; omega
          · rw [if_neg h2] at hd
            subst hd
            go_wp2_with fail
            refine (wait_at _ _ v _ bk gk HV.out).mono ?_
            rintro e w1 ⟨rfl, f1⟩
            have x_1 := bk.fr f1 id
            have B_1 := Fr.below_then Bk f1 sepn
            clear bk Bk f1
            go_wp2_with fail
            refine (double_at _ _ _ _ x_1 gk rfl).mono ?_
            rintro e w2 ⟨rfl, x_2, f2⟩
            have B_2 := Fr.below_then B_1 f2 sx
            clear x_1 B_1 f2
            go_wp2_with fail
            refine (wait_at _ _ _ _ x_2 g2 HU.out).mono ?_
            rintro e w3 ⟨rfl, f3⟩
            have x_3 := x_2.fr f3 id
            have B_3 := Fr.below_then B_2 f3 sepn
            clear x_2 B_2 f3
            go_wp2_with fail
            refine (wait_at _ _ _ _ x_3 g2 HU.out).mono ?_
            rintro e w4 ⟨rfl, f4⟩
            have x_4 := x_3.fr f4 id
            have B_4 := Fr.below_then B_3 f4 sepn
            clear x_3 B_3 f4
            go_wp2_with fail
            refine (wait_at _ _ _ _ x_4 g2 HU.out).mono ?_
            rintro e w5 ⟨rfl, f5⟩
            have x_5 := x_4.fr f5 id
            have B_5 := Fr.below_then B_4 f5 sepn
            clear x_4 B_4 f5
            go_wp2
            go_roundw
            case rel => exact ⟨k + 1, dou e, by omega, by go_num, x_5, g2, B_5⟩
            case measure => simp [intOf]; omega
        · by_cases ht : xs[k] < 0 ∨ 60000 < xs[k]
          · have HV := Lib.hid hv; clear hv
            go_wp2_with fail
            refine (wait_at _ _ v _ bk gk HV.out).mono ?_
            rintro e w1 ⟨rfl, f1⟩
            have x_1 := bk.fr f1 id
            have B_1 := Fr.below_then Bk f1 sepn
            clear bk Bk f1
            go_wp2_with fail
            refine (sample_bad _ _ _ ht).mono ?_
            rintro e w2 ⟨rfl, rfl⟩
            go_wp2_with fail
            refine (wait_at _ _ v _ x_1 gk HV.out).mono ?_
            rintro e w3 ⟨rfl, f3⟩
            have x_3 := x_1.fr f3 id
            have B_3 := Fr.below_then B_1 f3 sepn
            clear x_1 B_1 f3
            go_wp2
            go_roundw
            case rel => exact ⟨k + 1, e, by omega, by go_num, x_3, gk, B_3⟩
            case measure => simp [intOf]; omega
          · have g2 := good_samp e xs[k] gk (by omega) (by omega)
            have h3b : (xs[k] % 3 == 0) = false := by rw [beq_eq_false_iff_ne, ← Int.tmod_eq_emod_of_nonneg (by omega)]; exact h3
            have HV := Lib.hid hv; clear hv
            obtain ⟨u, hu⟩ : ∃ u, waitOf (samp e xs[k]) = u := ⟨_, rfl⟩
            have ur := wait_range (samp e xs[k])
            rw [hu] at ur
            have HU := Lib.hid hu; clear hu
            go_wp2_with fail
            refine (wait_at _ _ v _ bk gk HV.out).mono ?_
            rintro e w1 ⟨rfl, f1⟩
            have x_1 := bk.fr f1 id
            have B_1 := Fr.below_then Bk f1 sepn
            clear bk Bk f1
            go_wp2_with fail
            refine (sample_at _ _ _ xs[k] _ x_1 gk (by omega) (by omega) rfl).mono ?_
            rintro e w2 ⟨rfl, x_2, f2⟩
            have B_2 := Fr.below_then B_1 f2 sx
            clear x_1 B_1 f2
            go_wp2_with fail
            refine (wait_at _ _ u _ x_2 g2 HU.out).mono ?_
            rintro e w3 ⟨rfl, f3⟩
            have x_3 := x_2.fr f3 id
            have B_3 := Fr.below_then B_2 f3 sepn
            clear x_2 B_2 f3
            go_wp2
            go_roundw
            case rel => exact ⟨k + 1, samp e xs[k], by omega, by go_num, x_3, g2, B_3⟩
            case measure => simp [intOf]; omega
    · go_wp2
      go_ret
      exact ⟨rfl, Bk⟩
end Go.Proofs.Ytpjlnnebknekcaa.RttBounds
