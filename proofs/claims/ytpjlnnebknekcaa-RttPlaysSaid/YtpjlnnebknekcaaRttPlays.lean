/- The walk of flumelaw10.RttPlays: true for every list. No conditions. -/
import Derived.Test.YtpjlnnebknekcaaRtt
import Derived.Test.YtpjlnnebknekcaaRttRef
import Derived.Test.YtpjlnnebknekcaaArgs
namespace Go.Proofs.Ytpjlnnebknekcaa.RttPlays
open Go.RowKit Go.Proofs.Ytpjlnnebknekcaa.Mem Go.Proofs.Ytpjlnnebknekcaa.Rtt Go.Proofs.Ytpjlnnebknekcaa.RttRef
set_option linter.unusedVariables false
set_option linter.unusedSimpArgs false
attribute [local go_sem] max2_int min2_int max_two min_two

/-- The estimate and the document's: the same but for doublings past 64, which the one doesn't count. -/
def Alike (e r : Es) (k : Nat) : Prop := GoodE e ∧ r.s = e.s ∧ r.d = e.d ∧ r.tk = e.tk ∧ 0 ≤ r.n ∧ r.n ≤ k ∧ e.n = if r.n ≤ 64 then r.n else 64
theorem dbl_six (x : Int) (h0 : 10 ≤ x) (h1 : x ≤ 600) : dbl 6 x = 600 := by
  have e1 := dbl_snoc 0 x; have e2 := dbl_snoc 1 x; have e3 := dbl_snoc 2 x; have e4 := dbl_snoc 3 x; have e5 := dbl_snoc 4 x; have e6 := dbl_snoc 5 x
  have e0 : dbl 0 x = x := rfl
  simp only [Nat.reduceAdd, Nat.zero_add] at *
  rw [e0] at e1
  rw [e6, e5, e4, e3, e2, e1]
  (repeat' split) <;> omega
theorem alike_wait {e r : Es} {k : Nat} (h : Alike e r k) : waitOf r = waitOf e := by
  obtain ⟨g, h1, h2, h3, h4, h5, h6⟩ := h
  have b := base_range e.s e.d e.tk
  unfold waitOf
  rw [h1, h2, h3]
  by_cases hn : r.n ≤ 64
  · rw [if_pos hn] at h6; rw [h6]
  · rw [if_neg hn] at h6
    rw [h6]
    have a1 := dbl_stays 6 58 _ (dbl_six _ b.1 b.2)
    have a2 := dbl_stays 6 (r.n.toNat - 6) _ (dbl_six _ b.1 b.2)
    rw [show 6 + (r.n.toNat - 6) = r.n.toNat by omega] at a2
    rw [a2]
    exact a1.symm
theorem alike_zero : Alike zero zero 0 := ⟨good_zero, rfl, rfl, rfl, by decide, by decide, by decide⟩
theorem alike_dou {e r : Es} {k : Nat} (h : Alike e r k) : Alike (dou e) { r with n := r.n + 1 } (k + 1) := by
  obtain ⟨g, h1, h2, h3, h4, h5, h6⟩ := h
  refine ⟨good_dou e g, h1, h2, h3, by simp only; omega, by simp only; omega, ?_⟩
  simp only [dou]
  by_cases hn : r.n ≤ 64
  · rw [if_pos hn] at h6; rw [h6]
  · rw [if_neg hn] at h6; rw [h6, if_neg (by omega), if_neg (by omega)]
theorem alike_clr {e r : Es} {k : Nat} (h : Alike e r k) : Alike { e with n := 0 } { r with n := 0 } (k + 1) := by
  obtain ⟨⟨g1, g2, g3, g4, g5, g6⟩, h1, h2, h3, h4, h5, h6⟩ := h
  exact ⟨⟨g1, g2, g3, g4, by simp, by simp⟩, h1, h2, h3, by simp, by simp only; omega, by simp⟩
theorem alike_samp {e r : Es} {k : Nat} (t : Int) (h : Alike e r k) (t0 : 0 ≤ t) (t1 : t ≤ 60000) : Alike (samp e t) (samp e t) (k + 1) ∧ samp r t = samp e t := by
  obtain ⟨g, h1, h2, h3, h4, h5, h6⟩ := h
  have hn : (samp e t).n = 0 := by unfold samp; split <;> rfl
  refine ⟨⟨good_samp e t g t0 t1, rfl, rfl, rfl, by rw [hn]; decide, by rw [hn]; omega, by rw [hn]; rfl⟩, ?_⟩
  unfold samp; rw [h1, h2, h3]
theorem alike_more {e r : Es} {k : Nat} (h : Alike e r k) : Alike e r (k + 1) := by
  obtain ⟨g, h1, h2, h3, h4, h5, h6⟩ := h
  exact ⟨g, h1, h2, h3, h4, by omega, h6⟩

theorem made (w w0 : World) (C0 : Below w.heap.size w w0) :
    Blk ((w0.alloc (.cells (cells zero) 25)).alloc (.cells (cells zero) 35)) w0.heap.size 25 (cells zero) ∧ Blk ((w0.alloc (.cells (cells zero) 25)).alloc (.cells (cells zero) 35)) (w0.heap.size + 1) 35 (cells zero) ∧
    Below w.heap.size w ((w0.alloc (.cells (cells zero) 25)).alloc (.cells (cells zero) 35)) := by
  have hs := C0.size
  refine ⟨(Blk.new w0 (cells zero) 25).alloc _, ?_, (C0.alloc hs _).alloc (by simp; omega) _⟩
  have := Blk.new (w0.alloc (.cells (cells zero) 25)) (cells zero) 35
  simpa using this

theorem smooth_at (g : Nat) (e : Es) (w : World) (hb : Blk w g 25 (cells e)) :
    Calls Try.prog 14 #[.pointer (some ⟨g, 0, none⟩)] w fun e' w' => e' = .returned (.tuple #[.int .i64 e.s, .int .i64 e.d]) ∧ Fr nothing w w' :=
  smooth_calls g e.s e.d e.n e.tk w hb
theorem clear_at (g : Nat) (e : Es) (w : World) (hb : Blk w g 25 (cells e)) :
    Calls Try.prog 12 #[.pointer (some ⟨g, 0, none⟩)] w fun e' w' => e' = .returned (.tuple #[]) ∧ Blk w' g 25 (cells { e with n := 0 }) ∧ Fr (only g) w w' :=
  clear_calls g e.s e.d e.n e.tk w hb
theorem refwait_at (g : Nat) (e : Es) (v : Int) (w : World) (hb : Blk w g 35 (cells e)) (s0 : 0 ≤ e.s) (s1 : e.s ≤ 480007) (d0 : 0 ≤ e.d) (d1 : e.d ≤ 240003) (n0 : 0 ≤ e.n) (n1 : e.n ≤ 1000) (hv : waitOf e = v) :
    Calls Try.prog 15 #[.pointer (some ⟨g, 0, none⟩)] w fun e' w' => e' = .returned (.int .i64 v) ∧ Fr nothing w w' := by
  subst hv
  exact refwait_calls g e.s e.d e.n e.tk w hb s0 s1 d0 d1 n0 n1

set_option maxHeartbeats 2000000 in
set_option maxRecDepth 100000 in
theorem walk (A : Option Addr) (cap : Nat) (xs : List Int) (w : World) (hr : ReadsI w .i64 A xs) (hc : xs.length ≤ cap) (hm : cap ≤ maxLen)
    (hz : xs.length * 8 ≤ 140737488351232) (hx : ∀ x ∈ xs, (Lit.int .i64 x).wf = true) :
    Calls Try.prog 7 #[.slice A xs.length cap] w fun e w' => e = .returned (.bool true) ∧ Below w.heap.size w w' := by
  unfold maxLen at hm
  have hu25 := Try.underlying25
  have hu35 := Try.underlying35
  go_enter Try.func7, Try.ntmps7
  go_wp2_with fail
  refine (first_calls w).mono ?_
  rintro e w0 ⟨rfl, C0⟩
  obtain ⟨bx, by_, C1⟩ := made w w0 C0
  have hs := C0.size
  have sx : ∀ k, k < w.heap.size → ¬ only w0.heap.size k := fun k hk e => by have e' : k = w0.heap.size := e; omega
  have sy : ∀ k, k < w.heap.size → ¬ only (w0.heap.size + 1) k := fun k hk e => by have e' : k = w0.heap.size + 1 := e; omega
  have sxy : ¬ only (w0.heap.size + 1) w0.heap.size := fun e => by have e' : w0.heap.size = w0.heap.size + 1 := e; omega
  have syx : ¬ only w0.heap.size (w0.heap.size + 1) := fun e => by have e' : w0.heap.size + 1 = w0.heap.size := e; omega
  have sepn : ∀ k, k < w.heap.size → ¬ nothing k := fun _ _ h => h
  clear C0
  go_wp2_with fail
  go_loopw [15] (fun i wr => ∃ (k : Nat) (e r : Es), k ≤ xs.length ∧ i = .int .i64 k ∧ Blk wr w0.heap.size 25 (cells e) ∧ Blk wr (w0.heap.size + 1) 35 (cells r) ∧ Alike e r k ∧ Below w.heap.size w wr) (fun i _ => xs.length - (intOf i).toNat)
  case atStart => exact ⟨0, zero, zero, Nat.zero_le _, rfl, bx, by_, alike_zero, C1⟩
  case round =>
    obtain ⟨k, e, r, hk, rfl, bk, ck, al0, Bk⟩ := hrel
    by_cases hlt : k < xs.length
    · obtain ⟨ad, rfl, hcell⟩ := (hr.below Bk).at_ k hlt
      clear hr bx by_ C1
      by_cases h200 : 200 ≤ k
      · go_wp2
        go_ret
        exact ⟨rfl, Bk⟩
      · by_cases h5 : xs[k].tmod 5 = 4
        · have al := alike_dou al0
          have ge0 := al0.1
          have q0 := al0.2.2.2.2.1
          have q1 := al0.2.2.2.2.2.1
          clear al0
          go_wp2_with fail
          refine (double_at _ _ _ _ bk ge0 rfl).mono ?_
          rintro e w1 ⟨rfl, x_1, f1⟩
          have y_1 := ck.fr f1 syx
          have B_1 := Fr.below_then Bk f1 sx
          clear bk ck Bk f1
          have z0 := y_1.cell 3
          have z1 := y_1.frozen 3
          simp [cells] at z0
          go_wp2_with fail
          have xx := x_1.far (p := ⟨w0.heap.size + 1, 3, none⟩) (by simp) ((.int .i64 (r.n + 1)))
          have yy := (y_1.set 3 ((.int .i64 (r.n + 1)))).cast (show _ = cells ({ r with n := r.n + 1 }) by simp [cells])
          have BB := Below.setCell B_1 (p := ⟨w0.heap.size + 1, 3, none⟩) (by simp; omega) ((.int .i64 (r.n + 1)))
          clear x_1 y_1 B_1 z0 z1
          have ge := al.1
          have b1 : 0 ≤ ({ r with n := r.n + 1 }).s ∧ ({ r with n := r.n + 1 }).s ≤ 480007 := by rw [al.2.1]; exact ⟨ge.1, ge.2.1⟩
          have b2 : 0 ≤ ({ r with n := r.n + 1 }).d ∧ ({ r with n := r.n + 1 }).d ≤ 240003 := by rw [al.2.2.1]; exact ⟨ge.2.2.1, ge.2.2.2.1⟩
          have b3 : 0 ≤ ({ r with n := r.n + 1 }).n ∧ ({ r with n := r.n + 1 }).n ≤ 1000 := ⟨al.2.2.2.2.1, Int.le_trans al.2.2.2.2.2.1 (by omega)⟩
          obtain ⟨v, hv2⟩ : ∃ v, waitOf ((dou e)) = v := ⟨_, rfl⟩
          have HV2 := Lib.hid hv2
          have HV : Hid (waitOf ({ r with n := r.n + 1 }) = v) := Lib.hid ((alike_wait al).trans hv2)
          have AL := Lib.hid al
          clear hv2 al
          go_wp2_with fail
          refine (smooth_at _ ((dou e)) _ xx).mono ?_
          rintro e w2 ⟨rfl, f2⟩
          have x_2 := xx.fr f2 id
          have y_2 := yy.fr f2 id
          have B_2 := Fr.below_then BB f2 sepn
          clear xx yy BB f2
          go_wp2_with fail
          refine (wait_at _ _ v _ x_2 ge HV2.out).mono ?_
          rintro e w3 ⟨rfl, f3⟩
          have x_3 := x_2.fr f3 id
          have y_3 := y_2.fr f3 id
          have B_3 := Fr.below_then B_2 f3 sepn
          clear x_2 y_2 B_2 f3
          go_wp2_with fail
          refine (refwait_at _ ({ r with n := r.n + 1 }) v _ y_3 b1.1 b1.2 b2.1 b2.2 b3.1 b3.2 HV.out).mono ?_
          rintro e w4 ⟨rfl, f4⟩
          have x_4 := x_3.fr f4 id
          have y_4 := y_3.fr f4 id
          have B_4 := Fr.below_then B_3 f4 sepn
          clear x_3 y_3 B_3 f4
          have y0 := y_4.cell 0
          have y1 := y_4.cell 1
          simp [cells] at y0 y1
          (try rw [AL.out.2.1] at y0)
          (try rw [AL.out.2.2.1] at y1)
          go_wp2
          go_roundw
          case rel => exact ⟨k + 1, (dou e), { r with n := r.n + 1 }, by omega, by go_num, x_4, y_4, AL.out, B_4⟩
          case measure => simp [intOf]; omega
        · by_cases h7 : xs[k].tmod 7 = 5
          · have al := alike_clr al0
            clear al0
            go_wp2_with fail
            refine (clear_at _ _ _ bk).mono ?_
            rintro e w1 ⟨rfl, x_1, f1⟩
            have y_1 := ck.fr f1 syx
            have B_1 := Fr.below_then Bk f1 sx
            clear bk ck Bk f1
            have z0 := y_1.cell 3
            have z1 := y_1.frozen 3
            simp [cells] at z0
            go_wp2_with fail
            have xx := x_1.far (p := ⟨w0.heap.size + 1, 3, none⟩) (by simp) ((.int .i64 0))
            have yy := (y_1.set 3 ((.int .i64 0))).cast (show _ = cells ({ r with n := 0 }) by simp [cells])
            have BB := Below.setCell B_1 (p := ⟨w0.heap.size + 1, 3, none⟩) (by simp; omega) ((.int .i64 0))
            clear x_1 y_1 B_1 z0 z1
            have ge := al.1
            have b1 : 0 ≤ ({ r with n := 0 }).s ∧ ({ r with n := 0 }).s ≤ 480007 := by rw [al.2.1]; exact ⟨ge.1, ge.2.1⟩
            have b2 : 0 ≤ ({ r with n := 0 }).d ∧ ({ r with n := 0 }).d ≤ 240003 := by rw [al.2.2.1]; exact ⟨ge.2.2.1, ge.2.2.2.1⟩
            have b3 : 0 ≤ ({ r with n := 0 }).n ∧ ({ r with n := 0 }).n ≤ 1000 := ⟨al.2.2.2.2.1, Int.le_trans al.2.2.2.2.2.1 (by omega)⟩
            obtain ⟨v, hv2⟩ : ∃ v, waitOf ({ e with n := 0 }) = v := ⟨_, rfl⟩
            have HV2 := Lib.hid hv2
            have HV : Hid (waitOf ({ r with n := 0 }) = v) := Lib.hid ((alike_wait al).trans hv2)
            have AL := Lib.hid al
            clear hv2 al
            go_wp2_with fail
            refine (smooth_at _ ({ e with n := 0 }) _ xx).mono ?_
            rintro e w2 ⟨rfl, f2⟩
            have x_2 := xx.fr f2 id
            have y_2 := yy.fr f2 id
            have B_2 := Fr.below_then BB f2 sepn
            clear xx yy BB f2
            go_wp2_with fail
            refine (wait_at _ _ v _ x_2 ge HV2.out).mono ?_
            rintro e w3 ⟨rfl, f3⟩
            have x_3 := x_2.fr f3 id
            have y_3 := y_2.fr f3 id
            have B_3 := Fr.below_then B_2 f3 sepn
            clear x_2 y_2 B_2 f3
            go_wp2_with fail
            refine (refwait_at _ ({ r with n := 0 }) v _ y_3 b1.1 b1.2 b2.1 b2.2 b3.1 b3.2 HV.out).mono ?_
            rintro e w4 ⟨rfl, f4⟩
            have x_4 := x_3.fr f4 id
            have y_4 := y_3.fr f4 id
            have B_4 := Fr.below_then B_3 f4 sepn
            clear x_3 y_3 B_3 f4
            have y0 := y_4.cell 0
            have y1 := y_4.cell 1
            simp [cells] at y0 y1
            (try rw [AL.out.2.1] at y0)
            (try rw [AL.out.2.2.1] at y1)
            go_wp2
            go_roundw
            case rel => exact ⟨k + 1, { e with n := 0 }, { r with n := 0 }, by omega, by go_num, x_4, y_4, AL.out, B_4⟩
            case measure => simp [intOf]; omega
          · by_cases ht : xs[k] < 0 ∨ 60000 < xs[k]
            · have al := alike_more al0
              clear al0
              go_wp2_with fail
              refine (sample_bad _ _ _ ht).mono ?_
              rintro e w1 ⟨rfl, rfl⟩
              go_wp2_with fail
              refine (ref_bad _ _ _ ht).mono ?_
              rintro e w2 ⟨rfl, rfl⟩
              have ge := al.1
              have b1 : 0 ≤ (r).s ∧ (r).s ≤ 480007 := by rw [al.2.1]; exact ⟨ge.1, ge.2.1⟩
              have b2 : 0 ≤ (r).d ∧ (r).d ≤ 240003 := by rw [al.2.2.1]; exact ⟨ge.2.2.1, ge.2.2.2.1⟩
              have b3 : 0 ≤ (r).n ∧ (r).n ≤ 1000 := ⟨al.2.2.2.2.1, Int.le_trans al.2.2.2.2.2.1 (by omega)⟩
              obtain ⟨v, hv2⟩ : ∃ v, waitOf (e) = v := ⟨_, rfl⟩
              have HV2 := Lib.hid hv2
              have HV : Hid (waitOf (r) = v) := Lib.hid ((alike_wait al).trans hv2)
              have AL := Lib.hid al
              clear hv2 al
              go_wp2_with fail
              refine (smooth_at _ (e) _ bk).mono ?_
              rintro e w3 ⟨rfl, f3⟩
              have x_3 := bk.fr f3 id
              have y_3 := ck.fr f3 id
              have B_3 := Fr.below_then Bk f3 sepn
              clear bk ck Bk f3
              go_wp2_with fail
              refine (wait_at _ _ v _ x_3 ge HV2.out).mono ?_
              rintro e w4 ⟨rfl, f4⟩
              have x_4 := x_3.fr f4 id
              have y_4 := y_3.fr f4 id
              have B_4 := Fr.below_then B_3 f4 sepn
              clear x_3 y_3 B_3 f4
              go_wp2_with fail
              refine (refwait_at _ (r) v _ y_4 b1.1 b1.2 b2.1 b2.2 b3.1 b3.2 HV.out).mono ?_
              rintro e w5 ⟨rfl, f5⟩
              have x_5 := x_4.fr f5 id
              have y_5 := y_4.fr f5 id
              have B_5 := Fr.below_then B_4 f5 sepn
              clear x_4 y_4 B_4 f5
              have y0 := y_5.cell 0
              have y1 := y_5.cell 1
              simp [cells] at y0 y1
              (try rw [AL.out.2.1] at y0)
              (try rw [AL.out.2.2.1] at y1)
              go_wp2
              go_roundw
              case rel => exact ⟨k + 1, e, r, by omega, by go_num, x_5, y_5, AL.out, B_5⟩
              case measure => simp [intOf]; omega
            · obtain ⟨al, hsr⟩ := alike_samp xs[k] al0 (by omega) (by omega)
              have HSR := Lib.hid hsr
              have h5b : (xs[k] % 5 == 4) = false := by rw [beq_eq_false_iff_ne, ← Int.tmod_eq_emod_of_nonneg (by omega)]; exact h5
              have h7b : (xs[k] % 7 == 5) = false := by rw [beq_eq_false_iff_ne, ← Int.tmod_eq_emod_of_nonneg (by omega)]; exact h7
              have ge0 := al0.1
              have R1 := Lib.hid al0.2.1
              have R2 := Lib.hid al0.2.2.1
              clear al0 hsr
              go_wp2_with fail
              refine (sample_at _ _ _ xs[k] _ bk ge0 (by omega) (by omega) rfl).mono ?_
              rintro e w1 ⟨rfl, x_1, f1⟩
              have y_1 := ck.fr f1 syx
              have B_1 := Fr.below_then Bk f1 sx
              clear bk ck Bk f1
              go_wp2_with fail
              refine (ref_at _ _ (samp e xs[k]) xs[k] _ y_1 (by omega) (by omega) (by rw [R1.out]; exact ge0.1) (by rw [R1.out]; exact ge0.2.1) (by rw [R2.out]; exact ge0.2.2.1) (by rw [R2.out]; exact ge0.2.2.2.1) HSR.out).mono ?_
              rintro e w2 ⟨rfl, y_2, f2⟩
              have x_2 := x_1.fr f2 sxy
              have B_2 := Fr.below_then B_1 f2 sy
              clear x_1 y_1 B_1 f2
              clear R1 R2 ge0
              have ge := al.1
              have b1 : 0 ≤ ((samp e xs[k])).s ∧ ((samp e xs[k])).s ≤ 480007 := by rw [al.2.1]; exact ⟨ge.1, ge.2.1⟩
              have b2 : 0 ≤ ((samp e xs[k])).d ∧ ((samp e xs[k])).d ≤ 240003 := by rw [al.2.2.1]; exact ⟨ge.2.2.1, ge.2.2.2.1⟩
              have b3 : 0 ≤ ((samp e xs[k])).n ∧ ((samp e xs[k])).n ≤ 1000 := ⟨al.2.2.2.2.1, Int.le_trans al.2.2.2.2.2.1 (by omega)⟩
              obtain ⟨v, hv2⟩ : ∃ v, waitOf ((samp e xs[k])) = v := ⟨_, rfl⟩
              have HV2 := Lib.hid hv2
              have HV : Hid (waitOf ((samp e xs[k])) = v) := Lib.hid ((alike_wait al).trans hv2)
              have AL := Lib.hid al
              clear hv2 al
              go_wp2_with fail
              refine (smooth_at _ ((samp e xs[k])) _ x_2).mono ?_
              rintro e w3 ⟨rfl, f3⟩
              have x_3 := x_2.fr f3 id
              have y_3 := y_2.fr f3 id
              have B_3 := Fr.below_then B_2 f3 sepn
              clear x_2 y_2 B_2 f3
              go_wp2_with fail
              refine (wait_at _ _ v _ x_3 ge HV2.out).mono ?_
              rintro e w4 ⟨rfl, f4⟩
              have x_4 := x_3.fr f4 id
              have y_4 := y_3.fr f4 id
              have B_4 := Fr.below_then B_3 f4 sepn
              clear x_3 y_3 B_3 f4
              go_wp2_with fail
              refine (refwait_at _ ((samp e xs[k])) v _ y_4 b1.1 b1.2 b2.1 b2.2 b3.1 b3.2 HV.out).mono ?_
              rintro e w5 ⟨rfl, f5⟩
              have x_5 := x_4.fr f5 id
              have y_5 := y_4.fr f5 id
              have B_5 := Fr.below_then B_4 f5 sepn
              clear x_4 y_4 B_4 f5
              have y0 := y_5.cell 0
              have y1 := y_5.cell 1
              simp [cells] at y0 y1
              (try rw [AL.out.2.1] at y0)
              (try rw [AL.out.2.2.1] at y1)
              go_wp2
              go_roundw
              case rel => exact ⟨k + 1, (samp e xs[k]), (samp e xs[k]), by omega, by go_num, x_5, y_5, AL.out, B_5⟩
              case measure => simp [intOf]; omega
    · go_wp2
      go_ret
      exact ⟨rfl, Bk⟩
end Go.Proofs.Ytpjlnnebknekcaa.RttPlays
