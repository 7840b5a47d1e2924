/- Contracts of package rtt: Sample, Double, Clear, Smooth, Wait, and the statements' own first. Conditions: each names its block, known whole, and the bounds of its fields. -/
import Derived.Test.YtpjlnnebknekcaaProg
import Derived.Test.YtpjlnnebknekcaaMem
import Derived.Below
import Derived.Deep.Draws
import Derived.Deep.AppendLies
import Derived.Maps.AppendAt
import Derived.OwnWalk
import Derived.Laws.BytesArg
import Derived.Laws.MakeOwn
import Derived.Laws.OwnMore
import Derived.Deep.OwnRows
import Derived.Tactics
import Derived.Lib.ConvBytes
import Derived.Laws.Slices
import Derived.WalkKit
import Derived.KernelRfl
import Derived.RowKit3
import Derived.Deep.LoopGhost
import Derived.Deep.QuietTactic
import Derived.BigQuiet
import Derived.WideLaws
import Derived.Deep.DeepCutAuto
import Derived.Deep.CutBlock
import Derived.Deep.RegionHeld3
import Derived.Laws.Rows
import Derived.Lib.AppendStr
import Derived.ArgAppend
import Derived.Laws.IdiomCopy
import Derived.OrdersHeld
import Derived.Laws.BitsLemmas
import Derived.RowKit
import Derived.RegionTactic
import Derived.Lib.Hide
import Derived.IntWalk
namespace Go.Proofs.Ytpjlnnebknekcaa.Rtt
open Go.RowKit Go.Proofs.Ytpjlnnebknekcaa.Mem
set_option linter.unusedVariables false
set_option linter.unusedSimpArgs false

structure Es where
  s : Int
  d : Int
  tk : Bool
  n : Int
deriving DecidableEq
def cells (e : Es) : Array Value := #[.int .i64 e.s, .int .i64 e.d, .bool e.tk, .int .i64 e.n]
def GoodE (e : Es) : Prop := 0 ≤ e.s ∧ e.s ≤ 480007 ∧ 0 ≤ e.d ∧ e.d ≤ 240003 ∧ 0 ≤ e.n ∧ e.n ≤ 64
instance (e : Es) : Decidable (GoodE e) := by unfold GoodE; infer_instance
def samp (e : Es) (t : Int) : Es :=
  if e.tk then ⟨e.s + (t - e.s / 8), e.d + ((if t - e.s / 8 < 0 then -(t - e.s / 8) else t - e.s / 8) - e.d / 4), true, 0⟩ else ⟨8 * t, 2 * t, true, 0⟩

theorem sample_bad (g : Nat) (t : Int) (w : World) (h : t < 0 ∨ 60000 < t) :
    Calls Try.prog 11 #[.pointer (some ⟨g, 0, none⟩), .int .i64 t] w fun e w' => e = .returned (.bool false) ∧ w' = w := by
  rcases h with h | h
  · go_enter Try.func11, Try.ntmps11
    go_wp2
    go_ret
    exact ⟨rfl, rfl⟩
  · have h' : ¬ t < 0 := by omega
    go_enter Try.func11, Try.ntmps11
    go_wp2
    go_ret
    exact ⟨rfl, rfl⟩

theorem sample_first (g : Nat) (s d n t : Int) (w : World) (hb : Blk w g 25 (cells ⟨s, d, false, n⟩)) (h0 : 0 ≤ t) (h1 : t ≤ 60000) :
    Calls Try.prog 11 #[.pointer (some ⟨g, 0, none⟩), .int .i64 t] w fun e w' => e = .returned (.bool true) ∧ Blk w' g 25 (cells ⟨8 * t, 2 * t, true, 0⟩) ∧ Fr (only g) w w' := by
  have c0 := hb.cell 0
  have c1 := hb.cell 1
  have c2 := hb.cell 2
  have c3 := hb.cell 3
  have f0 := hb.frozen 0
  have f1 := hb.frozen 1
  have f2 := hb.frozen 2
  have f3 := hb.frozen 3
  simp [cells] at c0 c1 c2 c3
  have hu25 := Try.underlying25
  go_enter Try.func11, Try.ntmps11
  go_wp2
  go_ret
  refine ⟨rfl, ?_, (by repeat (with_reducible first | exact Fr.refl _ _ | apply Fr.drewN | apply Fr.drew | apply Fr.alloc | apply Fr.set_only))⟩
  apply Blk.cast
  · (repeat (with_reducible first | exact hb | apply Blk.set | apply Blk.drewN | apply Blk.drew | apply Blk.alloc))
  · simp [cells]

theorem sample_neg (g : Nat) (s d n t : Int) (w : World) (hb : Blk w g 25 (cells ⟨s, d, true, n⟩)) (h0 : 0 ≤ t) (h1 : t ≤ 60000) (s0 : 0 ≤ s) (s1 : s ≤ 480007) (d0 : 0 ≤ d) (d1 : d ≤ 240003) (hn : t - s / 8 < 0) :
    Calls Try.prog 11 #[.pointer (some ⟨g, 0, none⟩), .int .i64 t] w fun e w' => e = .returned (.bool true) ∧ Blk w' g 25 (cells ⟨s + (t - s / 8), d + (-(t - s / 8) - d / 4), true, 0⟩) ∧ Fr (only g) w w' := by
  have c0 := hb.cell 0
  have c1 := hb.cell 1
  have c2 := hb.cell 2
  have c3 := hb.cell 3
  have f0 := hb.frozen 0
  have f1 := hb.frozen 1
  have f2 := hb.frozen 2
  have f3 := hb.frozen 3
  simp [cells] at c0 c1 c2 c3
  have hu25 := Try.underlying25
  go_enter Try.func11, Try.ntmps11
  go_wp2
  go_region
  go_wp2
  go_ret
  refine ⟨rfl, ?_, (by repeat (with_reducible first | exact Fr.refl _ _ | apply Fr.drewN | apply Fr.drew | apply Fr.alloc | apply Fr.set_only))⟩
  apply Blk.cast
  · (repeat (with_reducible first | exact hb | apply Blk.set | apply Blk.drewN | apply Blk.drew | apply Blk.alloc))
  · simp [cells]

theorem sample_pos (g : Nat) (s d n t : Int) (w : World) (hb : Blk w g 25 (cells ⟨s, d, true, n⟩)) (h0 : 0 ≤ t) (h1 : t ≤ 60000) (s0 : 0 ≤ s) (s1 : s ≤ 480007) (d0 : 0 ≤ d) (d1 : d ≤ 240003) (hn : 0 ≤ t - s / 8) :
    Calls Try.prog 11 #[.pointer (some ⟨g, 0, none⟩), .int .i64 t] w fun e w' => e = .returned (.bool true) ∧ Blk w' g 25 (cells ⟨s + (t - s / 8), d + ((t - s / 8) - d / 4), true, 0⟩) ∧ Fr (only g) w w' := by
  have c0 := hb.cell 0
  have c1 := hb.cell 1
  have c2 := hb.cell 2
  have c3 := hb.cell 3
  have f0 := hb.frozen 0
  have f1 := hb.frozen 1
  have f2 := hb.frozen 2
  have f3 := hb.frozen 3
  simp [cells] at c0 c1 c2 c3
  have hn' : ¬ t - s / 8 < 0 := by omega
  have hu25 := Try.underlying25
  go_enter Try.func11, Try.ntmps11
  go_wp2
  go_region
  go_wp2
  go_ret
  refine ⟨rfl, ?_, (by repeat (with_reducible first | exact Fr.refl _ _ | apply Fr.drewN | apply Fr.drew | apply Fr.alloc | apply Fr.set_only))⟩
  apply Blk.cast
  · (repeat (with_reducible first | exact hb | apply Blk.set | apply Blk.drewN | apply Blk.drew | apply Blk.alloc))
  · simp [cells]

attribute [local go_sem] max2_int min2_int max_two min_two

theorem double_calls (g : Nat) (s d n : Int) (tk : Bool) (w : World) (hb : Blk w g 25 (cells ⟨s, d, tk, n⟩)) (n0 : 0 ≤ n) (n1 : n ≤ 64) :
    Calls Try.prog 10 #[.pointer (some ⟨g, 0, none⟩)] w fun e w' => e = .returned (.tuple #[]) ∧ Blk w' g 25 (cells ⟨s, d, tk, if n + 1 ≤ 64 then n + 1 else 64⟩) ∧ Fr (only g) w w' := by
  have c0 := hb.cell 0
  have c1 := hb.cell 1
  have c2 := hb.cell 2
  have c3 := hb.cell 3
  have f0 := hb.frozen 0
  have f1 := hb.frozen 1
  have f2 := hb.frozen 2
  have f3 := hb.frozen 3
  simp [cells] at c0 c1 c2 c3
  have hu25 := Try.underlying25
  by_cases hq : 64 < n + 1
  · have hq' : ¬ n + 1 ≤ 64 := by omega
    go_enter Try.func10, Try.ntmps10
    go_wp2
    first | go_end0 | ((try simp only [Exit.inBlock, Exit.then]); refine bodyPost_ret (results_none rfl _ _ _) rfl ?_)
    refine ⟨rfl, ?_, (by repeat (with_reducible first | exact Fr.refl _ _ | apply Fr.drewN | apply Fr.drew | apply Fr.alloc | apply Fr.set_only))⟩
    apply Blk.cast
    · (repeat (with_reducible first | exact hb | apply Blk.set | apply Blk.drewN | apply Blk.drew | apply Blk.alloc))
    · simp [cells]
  · have hq' : n + 1 ≤ 64 := by omega
    go_enter Try.func10, Try.ntmps10
    go_wp2
    first | go_end0 | ((try simp only [Exit.inBlock, Exit.then]); refine bodyPost_ret (results_none rfl _ _ _) rfl ?_)
    refine ⟨rfl, ?_, (by repeat (with_reducible first | exact Fr.refl _ _ | apply Fr.drewN | apply Fr.drew | apply Fr.alloc | apply Fr.set_only))⟩
    apply Blk.cast
    · (repeat (with_reducible first | exact hb | apply Blk.set | apply Blk.drewN | apply Blk.drew | apply Blk.alloc))
    · simp [cells]

theorem clear_calls (g : Nat) (s d n : Int) (tk : Bool) (w : World) (hb : Blk w g 25 (cells ⟨s, d, tk, n⟩)) :
    Calls Try.prog 12 #[.pointer (some ⟨g, 0, none⟩)] w fun e w' => e = .returned (.tuple #[]) ∧ Blk w' g 25 (cells ⟨s, d, tk, 0⟩) ∧ Fr (only g) w w' := by
  have c0 := hb.cell 0
  have c1 := hb.cell 1
  have c2 := hb.cell 2
  have c3 := hb.cell 3
  have f0 := hb.frozen 0
  have f1 := hb.frozen 1
  have f2 := hb.frozen 2
  have f3 := hb.frozen 3
  simp [cells] at c0 c1 c2 c3
  have hu25 := Try.underlying25
  go_enter Try.func12, Try.ntmps12
  go_wp2
  first | go_end0 | ((try simp only [Exit.inBlock, Exit.then]); refine bodyPost_ret (results_none rfl _ _ _) rfl ?_)
  refine ⟨rfl, ?_, (by repeat (with_reducible first | exact Fr.refl _ _ | apply Fr.drewN | apply Fr.drew | apply Fr.alloc | apply Fr.set_only))⟩
  apply Blk.cast
  · (repeat (with_reducible first | exact hb | apply Blk.set | apply Blk.drewN | apply Blk.drew | apply Blk.alloc))
  · simp [cells]

theorem smooth_calls (g : Nat) (s d n : Int) (tk : Bool) (w : World) (hb : Blk w g 25 (cells ⟨s, d, tk, n⟩)) :
    Calls Try.prog 14 #[.pointer (some ⟨g, 0, none⟩)] w fun e w' => e = .returned (.tuple #[.int .i64 s, .int .i64 d]) ∧ Fr nothing w w' := by
  have c0 := hb.cell 0
  have c1 := hb.cell 1
  have c2 := hb.cell 2
  have c3 := hb.cell 3
  have f0 := hb.frozen 0
  have f1 := hb.frozen 1
  have f2 := hb.frozen 2
  have f3 := hb.frozen 3
  simp [cells] at c0 c1 c2 c3
  have hu25 := Try.underlying25
  go_enter Try.func14, Try.ntmps14
  go_wp2
  go_quiet (fail)
  go_wp2
  go_ret2
  exact ⟨rfl, (by repeat (with_reducible first | exact Fr.refl _ _ | apply Fr.drewN | apply Fr.drew | apply Fr.alloc | apply Fr.set_only))⟩

def dbl : Nat → Int → Int
  | 0, x => x
  | k + 1, x => dbl k (if 2 * x < 600 then 2 * x else 600)
def base (s d : Int) (tk : Bool) : Int := if tk then (if 10 < (if s / 8 + d < 600 then s / 8 + d else 600) then (if s / 8 + d < 600 then s / 8 + d else 600) else 10) else 30
def waitOf (e : Es) : Int := dbl e.n.toNat (base e.s e.d e.tk)
theorem dbl_snoc (k : Nat) : ∀ x, dbl (k + 1) x = if 2 * dbl k x < 600 then 2 * dbl k x else 600 := by
  induction k with
  | zero => intro x; rfl
  | succ k ih => intro x; rw [show dbl (k + 1 + 1) x = dbl (k + 1) (if 2 * x < 600 then 2 * x else 600) from rfl, ih]; rfl
theorem dbl_range (k : Nat) : ∀ x, 10 ≤ x → x ≤ 600 → 10 ≤ dbl k x ∧ dbl k x ≤ 600 := by
  induction k with
  | zero => intro x h0 h1; exact ⟨h0, h1⟩
  | succ k ih => intro x h0 h1; exact ih _ (by split <;> omega) (by split <;> omega)
theorem base_range (s d : Int) (tk : Bool) : 10 ≤ base s d tk ∧ base s d tk ≤ 600 := by
  unfold base; constructor <;> (repeat' split) <;> omega

set_option maxHeartbeats 1000000 in
theorem wait_calls (g : Nat) (s d n : Int) (tk : Bool) (w : World) (hb : Blk w g 25 (cells ⟨s, d, tk, n⟩)) (s0 : 0 ≤ s) (s1 : s ≤ 480007) (d0 : 0 ≤ d) (d1 : d ≤ 240003) (n0 : 0 ≤ n) (n1 : n ≤ 64) :
    Calls Try.prog 9 #[.pointer (some ⟨g, 0, none⟩)] w fun e w' => e = .returned (.int .i64 (waitOf ⟨s, d, tk, n⟩)) ∧ Fr nothing w w' := by
  have c0 := hb.cell 0
  have c1 := hb.cell 1
  have c2 := hb.cell 2
  have c3 := hb.cell 3
  have f0 := hb.frozen 0
  have f1 := hb.frozen 1
  have f2 := hb.frozen 2
  have f3 := hb.frozen 3
  simp [cells] at c0 c1 c2 c3
  have hu25 := Try.underlying25
  have hw1 : IntKind.i64.wrap (s / 8 + d) = s / 8 + d := IntWalk.i64_in _ (by omega)
  have bl := base_range s d tk
  go_enter Try.func9, Try.ntmps9
  go_upto_if 7 with (fail)
  go_cut [3] (fun v3 wc => v3 = .int .i64 (base s d tk) ∧ ∃ k, wc = w.drewN k)
  case first =>
    cases tk
    · go_wp2
      go_meet
      case rel => exact ⟨rfl, 0, rfl⟩
    · go_wp2
      go_quiet (fail)
      go_wp2
      all_goals
        go_meet
        case rel => exact ⟨by (congr 1; simp only [base, if_true]; (repeat' split) <;> omega), _, rfl⟩
  case rest =>
    obtain ⟨rfl, kd, rfl⟩ := hcut
    have NN : ((n.toNat : Nat) : Int) = n := Int.toNat_of_nonneg n0
    have HN := Lib.hid NN; clear NN
    go_wp2
    go_loop [3, 24] (fun v i => ∃ k : Nat, k ≤ n.toNat ∧ i = .int .i64 k ∧ v = .int .i64 (dbl k (base s d tk))) (fun _ i => n.toNat - (intOf i).toNat)
    case atStart => exact ⟨0, Nat.zero_le _, rfl, rfl⟩
    case round =>
      obtain ⟨k, hk, rfl, rfl⟩ := hrel
      have hr := dbl_range k (base s d tk) bl.1 bl.2
      have hs := dbl_snoc k (base s d tk)
      have HS := Lib.hid hs; clear hs
      by_cases hlt : (k : Int) < n
      · go_wp2
        go_round
        case rel => exact ⟨k + 1, by have := HN.out; omega, by go_num, by rw [HS.out]⟩
        case measure => have := HN.out; simp [intOf]; omega
      · go_wp2
        go_ret
        have e : k = n.toNat := by have := HN.out; omega
        subst e
        exact ⟨rfl, (by repeat (with_reducible first | exact Fr.refl _ _ | apply Fr.drewN | apply Fr.drew | apply Fr.alloc | apply Fr.set_only))⟩

theorem wait_at (g : Nat) (e : Es) (v : Int) (w : World) (hb : Blk w g 25 (cells e)) (hg : GoodE e) (hv : waitOf e = v) :
    Calls Try.prog 9 #[.pointer (some ⟨g, 0, none⟩)] w fun e w' => e = .returned (.int .i64 v) ∧ Fr nothing w w' := by
  subst hv
  obtain ⟨s, d, tk, n⟩ := e
  obtain ⟨h1, h2, h3, h4, h5, h6⟩ := hg
  exact wait_calls g s d n tk w hb h1 h2 h3 h4 h5 h6
theorem sample_at (g : Nat) (e e' : Es) (t : Int) (w : World) (hb : Blk w g 25 (cells e)) (hg : GoodE e) (h0 : 0 ≤ t) (h1 : t ≤ 60000) (he : samp e t = e') :
    Calls Try.prog 11 #[.pointer (some ⟨g, 0, none⟩), .int .i64 t] w fun e w' => e = .returned (.bool true) ∧ Blk w' g 25 (cells e') ∧ Fr (only g) w w' := by
  subst he
  obtain ⟨s, d, tk, n⟩ := e
  obtain ⟨g1, g2, g3, g4, g5, g6⟩ := hg
  simp only at g1 g2 g3 g4 g5 g6
  cases tk
  · exact sample_first g s d n t w hb h0 h1
  · by_cases hn : t - s / 8 < 0
    · have := sample_neg g s d n t w hb h0 h1 g1 g2 g3 g4 hn
      simpa only [samp, if_true, if_pos hn] using this
    · have := sample_pos g s d n t w hb h0 h1 g1 g2 g3 g4 (by omega)
      simpa only [samp, if_true, if_neg hn] using this
def dou (e : Es) : Es := { e with n := if e.n + 1 ≤ 64 then e.n + 1 else 64 }
theorem double_at (g : Nat) (e e' : Es) (w : World) (hb : Blk w g 25 (cells e)) (hg : GoodE e) (he : dou e = e') :
    Calls Try.prog 10 #[.pointer (some ⟨g, 0, none⟩)] w fun e w' => e = .returned (.tuple #[]) ∧ Blk w' g 25 (cells e') ∧ Fr (only g) w w' := by
  subst he
  obtain ⟨s, d, tk, n⟩ := e
  exact double_calls g s d n tk w hb hg.2.2.2.2.1 hg.2.2.2.2.2
theorem good_samp (e : Es) (t : Int) (hg : GoodE e) (h0 : 0 ≤ t) (h1 : t ≤ 60000) : GoodE (samp e t) := by
  obtain ⟨s, d, tk, n⟩ := e
  obtain ⟨g1, g2, g3, g4, g5, g6⟩ := hg
  simp only at g1 g2 g3 g4 g5 g6
  cases tk <;> simp only [samp, GoodE, if_true, Bool.false_eq_true, if_false]
  · omega
  · split <;> omega
theorem good_dou (e : Es) (hg : GoodE e) : GoodE (dou e) := by
  obtain ⟨g1, g2, g3, g4, g5, g6⟩ := hg
  refine ⟨g1, g2, g3, g4, ?_, ?_⟩ <;> (simp only [dou]; split <;> omega)
def zero : Es := ⟨0, 0, false, 0⟩

set_option maxHeartbeats 1000000 in
theorem first_calls (w : World) : Calls Try.prog 8 #[] w fun e w' => e = .returned (.bool true) ∧ Below w.heap.size w w' := by
  have hu25 := Try.underlying25
  go_enter Try.func8, Try.ntmps8
  have b0 := Blk.new w (cells zero) 25
  have B0 := (Below.refl w.heap.size w).alloc (Nat.le_refl _) (.cells (cells zero) 25)
  have sep : ∀ k, k < w.heap.size → ¬ only w.heap.size k := fun k hk e => by have e' : k = w.heap.size := e; omega
  have sepn : ∀ k, k < w.heap.size → ¬ nothing k := fun _ _ h => h
  go_wp2_with fail
  refine (wait_at _ zero 30 _ b0 (by decide) (by decide)).mono ?_
  rintro e w1 ⟨rfl, f1⟩
  have b1 := b0.fr f1 id
  have B1 := Fr.below_then B0 f1 sepn
  clear b0 B0 f1
  go_wp2_with fail
  refine (sample_at _ zero ⟨160, 40, true, 0⟩ 20 _ b1 (by decide) (by decide) (by decide) (by decide)).mono ?_
  rintro e w2 ⟨rfl, b2, f2⟩
  have B2 := Fr.below_then B1 f2 sep
  clear b1 B1 f2
  go_wp2_with fail
  refine (wait_at _ ⟨160, 40, true, 0⟩ 60 _ b2 (by decide) (by decide)).mono ?_
  rintro e w3 ⟨rfl, f3⟩
  have b3 := b2.fr f3 id
  have B3 := Fr.below_then B2 f3 sepn
  clear b2 B2 f3
  go_wp2_with fail
  refine (double_at _ ⟨160, 40, true, 0⟩ ⟨160, 40, true, 1⟩ _ b3 (by decide) (by decide)).mono ?_
  rintro e w4 ⟨rfl, b4, f4⟩
  have B4 := Fr.below_then B3 f4 sep
  clear b3 B3 f4
  go_wp2_with fail
  refine (wait_at _ ⟨160, 40, true, 1⟩ 120 _ b4 (by decide) (by decide)).mono ?_
  rintro e w5 ⟨rfl, f5⟩
  have b5 := b4.fr f5 id
  have B5 := Fr.below_then B4 f5 sepn
  clear b4 B4 f5
  go_wp2_with fail
  refine (sample_at _ ⟨160, 40, true, 1⟩ ⟨160, 30, true, 0⟩ 20 _ b5 (by decide) (by decide) (by decide) (by decide)).mono ?_
  rintro e w6 ⟨rfl, b6, f6⟩
  have B6 := Fr.below_then B5 f6 sep
  clear b5 B5 f6
  go_wp2_with fail
  refine (wait_at _ ⟨160, 30, true, 0⟩ 50 _ b6 (by decide) (by decide)).mono ?_
  rintro e w7 ⟨rfl, f7⟩
  have B7 := Fr.below_then B6 f7 sepn
  clear b6 B6 f7
  go_wp2_with fail
  refine (sample_bad _ (-1) _ (by decide)).mono ?_
  rintro e w8 ⟨rfl, rfl⟩
  go_wp2
  go_ret
  exact ⟨rfl, B7⟩

def clamp3 (a : Int) : Int := if 10 < (if 3 * a < 600 then 3 * a else 600) then (if 3 * a < 600 then 3 * a else 600) else 10
theorem wait_one (a : Int) : waitOf (samp zero a) = clamp3 a := by
  have e : 8 * a / 8 + 2 * a = 3 * a := by omega
  simp only [waitOf, samp, zero, Bool.false_eq_true, if_false, Int.toNat_zero, dbl, base, if_true, clamp3, e]
theorem good_zero : GoodE zero := by decide
theorem two_made (w w0 : World) (C0 : Below w.heap.size w w0) :
    Blk ((w0.alloc (.cells (cells zero) 25)).alloc (.cells (cells zero) 25)) w0.heap.size 25 (cells zero) ∧ Blk ((w0.alloc (.cells (cells zero) 25)).alloc (.cells (cells zero) 25)) (w0.heap.size + 1) 25 (cells zero) ∧
    Below w.heap.size w ((w0.alloc (.cells (cells zero) 25)).alloc (.cells (cells zero) 25)) := by
  have hs := C0.size
  refine ⟨(Blk.new w0 (cells zero) 25).alloc _, ?_, (C0.alloc hs _).alloc (by simp; omega) _⟩
  have := Blk.new (w0.alloc (.cells (cells zero) 25)) (cells zero) 25
  simpa using this

/-- int(uint(x) % m). -/
def um (x m : Int) : Int := wrap64 ((IntKind.u64.wrap x).tmod m)
theorem um_range (x m : Int) (h0 : 0 < m) (h1 : m ≤ 1000000) : 0 ≤ um x m ∧ um x m < m := by
  have e : IntKind.u64.wrap x = x % 18446744073709551616 := by simp [IntKind.wrap, IntKind.bits, IntKind.signed]
  unfold um
  rw [e, Int.tmod_eq_emod_of_nonneg (by omega)]
  have h2 := Int.emod_nonneg (x % 18446744073709551616) (show m ≠ 0 by omega)
  have h3 := Int.emod_lt_of_pos (x % 18446744073709551616) h0
  unfold wrap64
  omega

end Go.Proofs.Ytpjlnnebknekcaa.Rtt
