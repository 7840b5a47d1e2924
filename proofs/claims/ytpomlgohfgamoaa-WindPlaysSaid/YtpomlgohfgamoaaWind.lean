/- Contracts of package wind, and the statements' own first. Conditions: each names its block, known whole, and the bounds of its fields. -/
import Derived.Test.YtpomlgohfgamoaaProg
import Derived.Test.YtpomlgohfgamoaaMem
import Derived.Below
import Derived.Deep.Draws
import Derived.Deep.AppendLies
import Derived.Maps.AppendAt
import Derived.OwnWalk
import Derived.Laws.BytesArg
import Derived.Laws.MakeOwn
import Derived.Laws.OwnMore
import Derived.Deep.OwnRows
import Derived.Tactics
import Derived.Lib.ConvBytes
import Derived.Laws.Slices
import Derived.WalkKit
import Derived.KernelRfl
import Derived.RowKit3
import Derived.Deep.LoopGhost
import Derived.Deep.QuietTactic
import Derived.BigQuiet
import Derived.WideLaws
import Derived.Deep.DeepCutAuto
import Derived.Deep.CutBlock
import Derived.Deep.RegionHeld3
import Derived.Laws.Rows
import Derived.Lib.AppendStr
import Derived.ArgAppend
import Derived.Laws.IdiomCopy
import Derived.OrdersHeld
import Derived.Laws.BitsLemmas
import Derived.RowKit
import Derived.RegionTactic
import Derived.Lib.Hide
import Derived.IntWalk
namespace Go.Proofs.Ytpomlgohfgamoaa.Wind
open Go.RowKit Go.Proofs.Ytpomlgohfgamoaa.Mem
set_option linter.unusedVariables false
set_option linter.unusedSimpArgs false
attribute [local go_sem] max2_mx min2_mn max_two min_two

structure Ws where
  s : Int
  t : Int
  c : Int
deriving DecidableEq
def cells (e : Ws) : Array Value := #[.int .i64 e.s, .int .i64 e.t, .int .i64 e.c]
/-- The bounds, after at most k steps. -/
def GoodW (e : Ws) (k : Int) : Prop := 1200 ≤ e.s ∧ e.s ≤ 1048576 ∧ 4800 ≤ e.t ∧ e.t ≤ 1048576 ∧ 0 ≤ e.c ∧ e.c ≤ 1073741824 * k
instance (e : Ws) (k : Int) : Decidable (GoodW e k) := by unfold GoodW; infer_instance
def bnd (n : Int) : Int := mx 0 (mn n 1073741824)
theorem bnd_range (n : Int) : 0 ≤ bnd n ∧ bnd n ≤ 1073741824 := by unfold bnd mx mn; constructor <;> (repeat' split) <;> omega
theorem mn_le (a b : Int) : mn a b ≤ a ∧ mn a b ≤ b ∧ (mn a b = a ∨ mn a b = b) := by unfold mn; refine ⟨?_, ?_, ?_⟩ <;> split <;> omega
theorem mx_ge (a b : Int) : a ≤ mx a b ∧ b ≤ mx a b ∧ (mx a b = a ∨ mx a b = b) := by unfold mx; refine ⟨?_, ?_, ?_⟩ <;> split <;> omega

theorem bound_calls (n : Int) (w : World) : Calls Try.prog 18 #[.int .i64 n] w fun e w' => e = .returned (.int .i64 (bnd n)) ∧ w' = w := by
  go_enter Try.func18, Try.ntmps18
  go_wp2
  go_ret
  exact ⟨rfl, rfl⟩

theorem grow_calls (g : Nat) (s t c b : Int) (w : World) (hb : Blk w g 41 (cells ⟨s, t, c⟩)) (s0 : 0 ≤ s) (s1 : s ≤ 1048576) (b0 : 0 ≤ b) (b1 : b ≤ 1200) :
    Calls Try.prog 19 #[.pointer (some ⟨g, 0, none⟩), .int .i64 b] w fun e w' => e = .returned (.tuple #[]) ∧ Blk w' g 41 (cells ⟨mn 1048576 (s + b), t, c⟩) ∧ Fr (only g) w w' := by
  have c0 := hb.cell 0
  have c1 := hb.cell 1
  have c2 := hb.cell 2
  have f0 := hb.frozen 0
  have f1 := hb.frozen 1
  have f2 := hb.frozen 2
  simp [cells] at c0 c1 c2
  have hu41 := Try.underlying41
  go_enter Try.func19, Try.ntmps19
  go_wp2
  first | go_end0 | ((try simp only [Exit.inBlock, Exit.then]); refine bodyPost_ret (results_none rfl _ _ _) rfl ?_)
  refine ⟨rfl, ?_, (by repeat (with_reducible first | exact Fr.refl _ _ | apply Fr.drewN | apply Fr.drew | apply Fr.alloc | apply Fr.set_only))⟩
  apply Blk.cast
  · (repeat (with_reducible first | exact hb | apply Blk.set | apply Blk.drewN | apply Blk.drew | apply Blk.alloc))
  · simp [cells]

theorem shrink_calls (g : Nat) (s t c : Int) (w : World) (hb : Blk w g 41 (cells ⟨s, t, c⟩)) (s0 : 0 ≤ s) (s1 : s ≤ 1048576) :
    Calls Try.prog 20 #[.pointer (some ⟨g, 0, none⟩)] w fun e w' => e = .returned (.tuple #[]) ∧ Blk w' g 41 (cells ⟨mx (s / 2) 4800, mx (s / 2) 4800, 0⟩) ∧ Fr (only g) w w' := by
  have c0 := hb.cell 0
  have c1 := hb.cell 1
  have c2 := hb.cell 2
  have f0 := hb.frozen 0
  have f1 := hb.frozen 1
  have f2 := hb.frozen 2
  simp [cells] at c0 c1 c2
  have hu41 := Try.underlying41
  go_enter Try.func20, Try.ntmps20
  go_wp2
  first | go_end0 | ((try simp only [Exit.inBlock, Exit.then]); refine bodyPost_ret (results_none rfl _ _ _) rfl ?_)
  refine ⟨rfl, ?_, (by repeat (with_reducible first | exact Fr.refl _ _ | apply Fr.drewN | apply Fr.drew | apply Fr.alloc | apply Fr.set_only))⟩
  apply Blk.cast
  · (repeat (with_reducible first | exact hb | apply Blk.set | apply Blk.drewN | apply Blk.drew | apply Blk.alloc))
  · simp [cells]

theorem new_calls (w : World) : Calls Try.prog 8 #[] w fun e w' => e = .returned (.pointer (some ⟨w.heap.size, 0, none⟩)) ∧ Blk w' w.heap.size 41 (cells ⟨4380, 1048576, 0⟩) ∧ Below w.heap.size w w' := by
  have hu41 := Try.underlying41
  go_enter Try.func8, Try.ntmps8
  go_wp2
  go_ret
  exact ⟨rfl, Blk.new _ _ _, (Below.refl _ _).alloc (Nat.le_refl _) _⟩

theorem room_calls (g : Nat) (s t c f : Int) (w : World) (hb : Blk w g 41 (cells ⟨s, t, c⟩)) (s0 : 0 ≤ s) (s1 : s ≤ 1048576) :
    Calls Try.prog 11 #[.pointer (some ⟨g, 0, none⟩), .int .i64 f] w fun e w' => e = .returned (.int .i64 (mx 0 (s - bnd f))) ∧ w' = w := by
  have c0 := hb.cell 0
  have c1 := hb.cell 1
  have c2 := hb.cell 2
  have f0 := hb.frozen 0
  have f1 := hb.frozen 1
  have f2 := hb.frozen 2
  simp [cells] at c0 c1 c2
  have hu41 := Try.underlying41
  have hf := bnd_range f
  have hf2 : 0 ≤ mx 0 (mn f 1073741824) ∧ mx 0 (mn f 1073741824) ≤ 1073741824 := hf
  obtain ⟨g1, g2⟩ := hf2
  go_enter Try.func11, Try.ntmps11
  go_wp2
  go_ret
  exact ⟨rfl, rfl⟩

theorem size_calls (g : Nat) (s t c : Int) (w : World) (hb : Blk w g 41 (cells ⟨s, t, c⟩)) :
    Calls Try.prog 10 #[.pointer (some ⟨g, 0, none⟩)] w fun e w' => e = .returned (.tuple #[.int .i64 s, .int .i64 t, .int .i64 c]) ∧ Fr nothing w w' := by
  have c0 := hb.cell 0
  have c1 := hb.cell 1
  have c2 := hb.cell 2
  have f0 := hb.frozen 0
  have f1 := hb.frozen 1
  have f2 := hb.frozen 2
  simp [cells] at c0 c1 c2
  have hu41 := Try.underlying41
  go_enter Try.func10, Try.ntmps10
  go_wp2
  go_quiet (fail)
  go_wp2
  go_ret3
  exact ⟨rfl, (by repeat (with_reducible first | exact Fr.refl _ _ | apply Fr.drewN | apply Fr.drew | apply Fr.alloc | apply Fr.set_only))⟩

theorem lost_calls (g : Nat) (s t c : Int) (w : World) (hb : Blk w g 41 (cells ⟨s, t, c⟩)) (s0 : 0 ≤ s) (s1 : s ≤ 1048576) :
    Calls Try.prog 12 #[.pointer (some ⟨g, 0, none⟩)] w fun e w' => e = .returned (.tuple #[]) ∧ Blk w' g 41 (cells ⟨mx (s / 2) 4800, mx (s / 2) 4800, 0⟩) ∧ Fr (only g) w w' := by
  go_enter Try.func12, Try.ntmps12
  go_wp2_with fail
  refine (shrink_calls g s t c w hb s0 s1).mono ?_
  rintro e w1 ⟨rfl, b1, f1⟩
  go_wp2
  first | go_end0 | ((try simp only [Exit.inBlock, Exit.then]); refine bodyPost_ret (results_none rfl _ _ _) rfl ?_)
  exact ⟨rfl, b1, f1⟩

theorem late_calls (g : Nat) (s t c : Int) (w : World) (hb : Blk w g 41 (cells ⟨s, t, c⟩)) (s0 : 0 ≤ s) (s1 : s ≤ 1048576) :
    Calls Try.prog 13 #[.pointer (some ⟨g, 0, none⟩)] w fun e w' => e = .returned (.tuple #[]) ∧ Blk w' g 41 (cells ⟨1200, mx (s / 2) 4800, 0⟩) ∧ Fr (only g) w w' := by
  have hu41 := Try.underlying41
  go_enter Try.func13, Try.ntmps13
  go_wp2_with fail
  refine (shrink_calls g s t c w hb s0 s1).mono ?_
  rintro e w1 ⟨rfl, b1, fr1⟩
  have hb := b1
  have c0 := hb.cell 0
  have c1 := hb.cell 1
  have c2 := hb.cell 2
  have f0 := hb.frozen 0
  have f1 := hb.frozen 1
  have f2 := hb.frozen 2
  simp [cells] at c0 c1 c2
  have hu41 := Try.underlying41
  go_wp2
  first | go_end0 | ((try simp only [Exit.inBlock, Exit.then]); refine bodyPost_ret (results_none rfl _ _ _) rfl ?_)
  refine ⟨rfl, ?_, (by repeat (with_reducible first | exact fr1 | apply Fr.drewN | apply Fr.drew | apply Fr.alloc | apply Fr.set_only))⟩
  apply Blk.cast
  · (repeat (with_reducible first | exact b1 | apply Blk.set | apply Blk.drewN | apply Blk.drew | apply Blk.alloc))
  · simp [cells]

theorem rest_calls (g : Nat) (s t c : Int) (w : World) (hb : Blk w g 41 (cells ⟨s, t, c⟩)) (s0 : 0 ≤ s) (s1 : s ≤ 1048576) :
    Calls Try.prog 17 #[.pointer (some ⟨g, 0, none⟩)] w fun e w' => e = .returned (.tuple #[]) ∧ Blk w' g 41 (cells ⟨mn s (mx (s / 2) 4800), t, 0⟩) ∧ Fr (only g) w w' := by
  have c0 := hb.cell 0
  have c1 := hb.cell 1
  have c2 := hb.cell 2
  have f0 := hb.frozen 0
  have f1 := hb.frozen 1
  have f2 := hb.frozen 2
  simp [cells] at c0 c1 c2
  have hu41 := Try.underlying41
  have hw3 : s.tdiv 2 = s / 2 := Int.tdiv_eq_ediv_of_nonneg s0
  have hw2 : IntKind.i64.wrap (s / 2) = s / 2 := IntWalk.i64_in _ (by omega)
  go_enter Try.func17, Try.ntmps17
  go_wp2
  go_region
  go_wp2
  first | go_end0 | ((try simp only [Exit.inBlock, Exit.then]); refine bodyPost_ret (results_none rfl _ _ _) rfl ?_)
  refine ⟨rfl, ?_, (by repeat (with_reducible first | exact Fr.refl _ _ | apply Fr.drewN | apply Fr.drew | apply Fr.alloc | apply Fr.set_only))⟩
  apply Blk.cast
  · (repeat (with_reducible first | exact hb | apply Blk.set | apply Blk.drewN | apply Blk.drew | apply Blk.alloc))
  · simp [cells]

def acked (e : Ws) (n f : Int) (on : Bool) : Ws :=
  if e.s ≤ e.t then (if on = true ∧ e.s ≤ bnd f then { e with s := mn 1048576 (e.s + mn (bnd n) 1200) } else e)
  else if e.s ≤ e.c + bnd n ∧ e.s ≤ bnd f then ⟨mn 1048576 (e.s + 1200), e.t, e.c + bnd n - e.s⟩ else { e with c := e.c + bnd n }


set_option maxHeartbeats 1000000 in
theorem acked_low (g : Nat) (s t c n f : Int) (on : Bool) (w : World) (hb : Blk w g 41 (cells ⟨s, t, c⟩)) (s0 : 0 ≤ s) (s1 : s ≤ 1048576) (hst : s ≤ t) (h : ¬ (on = true ∧ s ≤ bnd f)) :
    Calls Try.prog 9 #[.pointer (some ⟨g, 0, none⟩), .int .i64 n, .int .i64 f, .bool on] w fun e w' => e = .returned (.tuple #[]) ∧ Blk w' g 41 (cells ⟨s, t, c⟩) ∧ Fr (only g) w w' := by
  cases on
  · clear h
    have c0 := hb.cell 0
    have c1 := hb.cell 1
    have c2 := hb.cell 2
    have f0 := hb.frozen 0
    have f1 := hb.frozen 1
    have f2 := hb.frozen 2
    simp [cells] at c0 c1 c2
    have hu41 := Try.underlying41
    have nb := bnd_range n
    have fb := bnd_range f
    go_enter Try.func9, Try.ntmps9
    go_wp2_with fail
    refine (bound_calls _ _).mono ?_
    rintro e w' ⟨rfl, rfl⟩
    go_wp2_with fail
    refine (bound_calls _ _).mono ?_
    rintro e w' ⟨rfl, rfl⟩
    generalize bnd n = n' at nb ⊢
    generalize bnd f = f' at fb ⊢
    go_wp2
    go_quiet (fail)
    go_wp2
    first | go_end0 | ((try simp only [Exit.inBlock, Exit.then]); refine bodyPost_ret (results_none rfl _ _ _) rfl ?_)
    refine ⟨rfl, ?_, (by repeat (with_reducible first | exact Fr.refl _ _ | apply Fr.drewN | apply Fr.drew | apply Fr.alloc | apply Fr.set_only))⟩
    apply Blk.cast
    · (repeat (with_reducible first | exact hb | apply Blk.set | apply Blk.drewN | apply Blk.drew | apply Blk.alloc))
    · simp [cells]
  · have h2 : ¬ s ≤ bnd f := fun h' => h ⟨rfl, h'⟩
    clear h
    obtain ⟨f2, hf2⟩ : ∃ f2, f2 = bnd f := ⟨_, rfl⟩
    have c0 := hb.cell 0
    have c1 := hb.cell 1
    have c2 := hb.cell 2
    have f0 := hb.frozen 0
    have f1 := hb.frozen 1
    have f2 := hb.frozen 2
    simp [cells] at c0 c1 c2
    have hu41 := Try.underlying41
    have nb := bnd_range n
    have fb := bnd_range f
    go_enter Try.func9, Try.ntmps9
    go_wp2_with fail
    refine (bound_calls _ _).mono ?_
    rintro e w' ⟨rfl, rfl⟩
    go_wp2_with fail
    refine (bound_calls _ _).mono ?_
    rintro e w' ⟨rfl, rfl⟩
    go_wp2
    go_quiet (fail)
    go_wp2
    first | go_end0 | ((try simp only [Exit.inBlock, Exit.then]); refine bodyPost_ret (results_none rfl _ _ _) rfl ?_)
    refine ⟨rfl, ?_, (by repeat (with_reducible first | exact Fr.refl _ _ | apply Fr.drewN | apply Fr.drew | apply Fr.alloc | apply Fr.set_only))⟩
    apply Blk.cast
    · (repeat (with_reducible first | exact hb | apply Blk.set | apply Blk.drewN | apply Blk.drew | apply Blk.alloc))
    · simp [cells]

set_option maxHeartbeats 1000000 in
theorem acked_grow (g : Nat) (s t c n f : Int) (w : World) (hb : Blk w g 41 (cells ⟨s, t, c⟩)) (s0 : 0 ≤ s) (s1 : s ≤ 1048576) (hst : s ≤ t) (h : s ≤ bnd f) :
    Calls Try.prog 9 #[.pointer (some ⟨g, 0, none⟩), .int .i64 n, .int .i64 f, .bool true] w fun e w' => e = .returned (.tuple #[]) ∧ Blk w' g 41 (cells ⟨mn 1048576 (s + mn (bnd n) 1200), t, c⟩) ∧ Fr (only g) w w' := by
  have c0 := hb.cell 0
  have c1 := hb.cell 1
  have c2 := hb.cell 2
  have f0 := hb.frozen 0
  have f1 := hb.frozen 1
  have f2 := hb.frozen 2
  simp [cells] at c0 c1 c2
  have hu41 := Try.underlying41
  have nb := bnd_range n
  have fb := bnd_range f
  have mb := mn_le (bnd n) 1200
  go_enter Try.func9, Try.ntmps9
  go_wp2_with fail
  refine (bound_calls _ _).mono ?_
  rintro e w' ⟨rfl, rfl⟩
  go_wp2_with fail
  refine (bound_calls _ _).mono ?_
  rintro e w' ⟨rfl, rfl⟩
  go_wp2_with fail
  go_quiet (fail)
  go_wp2_with fail
  refine (grow_calls _ s t c _ _ (by (repeat (with_reducible first | exact hb | apply Blk.drewN))) s0 s1 (by omega) (by omega)).mono ?_
  rintro e w1 ⟨rfl, b1, fr1⟩
  go_wp2
  first | go_end0 | ((try simp only [Exit.inBlock, Exit.then]); refine bodyPost_ret (results_none rfl _ _ _) rfl ?_)
  exact ⟨rfl, b1, (Fr.drewN (Fr.refl _ _) _).trans fr1 (fun _ _ h => h)⟩

set_option maxHeartbeats 1000000 in
theorem acked_count (g : Nat) (s t c n f : Int) (on : Bool) (w : World) (hb : Blk w g 41 (cells ⟨s, t, c⟩)) (s0 : 0 ≤ s) (s1 : s ≤ 1048576) (hst : t < s) (c0' : 0 ≤ c) (c1' : c ≤ 1099511627776) (h : ¬ (s ≤ c + bnd n ∧ s ≤ bnd f)) :
    Calls Try.prog 9 #[.pointer (some ⟨g, 0, none⟩), .int .i64 n, .int .i64 f, .bool on] w fun e w' => e = .returned (.tuple #[]) ∧ Blk w' g 41 (cells ⟨s, t, c + bnd n⟩) ∧ Fr (only g) w w' := by
  have c0 := hb.cell 0
  have c1 := hb.cell 1
  have c2 := hb.cell 2
  have f0 := hb.frozen 0
  have f1 := hb.frozen 1
  have f2 := hb.frozen 2
  simp [cells] at c0 c1 c2
  have hu41 := Try.underlying41
  have nb := bnd_range n
  have fb := bnd_range f
  have hst' : ¬ s ≤ t := by omega
  by_cases h1 : s ≤ c + bnd n
  · have h2 : ¬ s ≤ bnd f := fun h' => h ⟨h1, h'⟩
    clear h
    go_enter Try.func9, Try.ntmps9
    go_wp2_with fail
    refine (bound_calls _ _).mono ?_
    rintro e w' ⟨rfl, rfl⟩
    go_wp2_with fail
    refine (bound_calls _ _).mono ?_
    rintro e w' ⟨rfl, rfl⟩
    go_wp2
    go_quiet (fail)
    go_wp2
    go_quiet (fail)
    go_wp2
    first | go_end0 | ((try simp only [Exit.inBlock, Exit.then]); refine bodyPost_ret (results_none rfl _ _ _) rfl ?_)
    refine ⟨rfl, ?_, (by repeat (with_reducible first | exact Fr.refl _ _ | apply Fr.drewN | apply Fr.drew | apply Fr.alloc | apply Fr.set_only))⟩
    apply Blk.cast
    · (repeat (with_reducible first | exact hb | apply Blk.set | apply Blk.drewN | apply Blk.drew | apply Blk.alloc))
    · simp [cells]
  · clear h
    have h1' : decide (s ≤ c + bnd n) = false := by simpa using h1
    go_enter Try.func9, Try.ntmps9
    go_wp2_with fail
    refine (bound_calls _ _).mono ?_
    rintro e w' ⟨rfl, rfl⟩
    go_wp2_with fail
    refine (bound_calls _ _).mono ?_
    rintro e w' ⟨rfl, rfl⟩
    go_wp2
    go_quiet (fail)
    go_wp2
    go_quiet (fail)
    go_wp2
    first | go_end0 | ((try simp only [Exit.inBlock, Exit.then]); refine bodyPost_ret (results_none rfl _ _ _) rfl ?_)
    refine ⟨rfl, ?_, (by repeat (with_reducible first | exact Fr.refl _ _ | apply Fr.drewN | apply Fr.drew | apply Fr.alloc | apply Fr.set_only))⟩
    apply Blk.cast
    · (repeat (with_reducible first | exact hb | apply Blk.set | apply Blk.drewN | apply Blk.drew | apply Blk.alloc))
    · simp [cells]

set_option maxHeartbeats 1000000 in
theorem acked_full (g : Nat) (s t c n f : Int) (on : Bool) (w : World) (hb : Blk w g 41 (cells ⟨s, t, c⟩)) (s0 : 0 ≤ s) (s1 : s ≤ 1048576) (hst : t < s) (c0' : 0 ≤ c) (c1' : c ≤ 1099511627776) (h1 : s ≤ c + bnd n) (h2 : s ≤ bnd f) :
    Calls Try.prog 9 #[.pointer (some ⟨g, 0, none⟩), .int .i64 n, .int .i64 f, .bool on] w fun e w' => e = .returned (.tuple #[]) ∧ Blk w' g 41 (cells ⟨mn 1048576 (s + 1200), t, c + bnd n - s⟩) ∧ Fr (only g) w w' := by
  have c0 := hb.cell 0
  have c1 := hb.cell 1
  have c2 := hb.cell 2
  have f0 := hb.frozen 0
  have f1 := hb.frozen 1
  have f2 := hb.frozen 2
  simp [cells] at c0 c1 c2
  have hu41 := Try.underlying41
  have nb := bnd_range n
  have fb := bnd_range f
  have hst' : ¬ s ≤ t := by omega
  go_enter Try.func9, Try.ntmps9
  go_wp2_with fail
  refine (bound_calls _ _).mono ?_
  rintro e w' ⟨rfl, rfl⟩
  go_wp2_with fail
  refine (bound_calls _ _).mono ?_
  rintro e w' ⟨rfl, rfl⟩
  go_wp2
  go_quiet (fail)
  go_wp2
  go_quiet (fail)
  go_wp2
  go_region
  go_wp2_with fail
  refine (grow_calls _ s t (c + bnd n - s) _ _ ?b s0 s1 (by decide) (by decide)).mono ?_
  case b =>
    apply Blk.cast
    · (repeat (with_reducible first | exact hb | apply Blk.set | apply Blk.drewN | apply Blk.drew | apply Blk.alloc))
    · simp [cells]
  rintro e w1 ⟨rfl, b1, fr1⟩
  go_wp2
  first | go_end0 | ((try simp only [Exit.inBlock, Exit.then]); refine bodyPost_ret (results_none rfl _ _ _) rfl ?_)
  refine ⟨rfl, b1, Fr.trans ?_ fr1 (fun _ _ h => h)⟩
  repeat (with_reducible first | exact Fr.refl _ _ | apply Fr.drewN | apply Fr.drew | apply Fr.alloc | apply Fr.set_only)

theorem acked_at (g : Nat) (e : Ws) (k n f : Int) (on : Bool) (w : World) (hb : Blk w g 41 (cells e)) (hg : GoodW e k) (hk : k ≤ 1000) :
    Calls Try.prog 9 #[.pointer (some ⟨g, 0, none⟩), .int .i64 n, .int .i64 f, .bool on] w fun e' w' => e' = .returned (.tuple #[]) ∧ Blk w' g 41 (cells (acked e n f on)) ∧ Fr (only g) w w' := by
  obtain ⟨s, t, c⟩ := e
  obtain ⟨g1, g2, g3, g4, g5, g6⟩ := hg
  simp only at g1 g2 g3 g4 g5 g6
  unfold acked
  simp only
  by_cases hst : s ≤ t
  · rw [if_pos hst]
    by_cases h : on = true ∧ s ≤ bnd f
    · rw [if_pos h]
      obtain ⟨rfl, h⟩ := h
      exact acked_grow g s t c n f w hb (by omega) g2 hst h
    · rw [if_neg h]
      exact acked_low g s t c n f on w hb (by omega) g2 hst h
  · rw [if_neg hst]
    by_cases h : s ≤ c + bnd n ∧ s ≤ bnd f
    · rw [if_pos h]
      exact acked_full g s t c n f on w hb (by omega) g2 (by omega) g5 (by omega) h.1 h.2
    · rw [if_neg h]
      exact acked_count g s t c n f on w hb (by omega) g2 (by omega) g5 (by omega) h
theorem good_acked (e : Ws) (k n f : Int) (on : Bool) (hg : GoodW e k) (hk : 0 ≤ k) : GoodW (acked e n f on) (k + 1) := by
  obtain ⟨s, t, c⟩ := e
  obtain ⟨g1, g2, g3, g4, g5, g6⟩ := hg
  simp only at g1 g2 g3 g4 g5 g6
  have nb := bnd_range n
  have m1 := mn_le (bnd n) 1200
  have m2 := mn_le 1048576 (s + mn (bnd n) 1200)
  have m3 := mn_le 1048576 (s + 1200)
  unfold acked GoodW
  simp only
  (repeat' split) <;> simp only <;> omega
def shrunk (e : Ws) : Ws := ⟨mx (e.s / 2) 4800, mx (e.s / 2) 4800, 0⟩
theorem good_shrunk (e : Ws) (k : Int) (hg : GoodW e k) (hk : 0 ≤ k) : GoodW (shrunk e) (k + 1) := by
  obtain ⟨g1, g2, g3, g4, g5, g6⟩ := hg
  have m := mx_ge (e.s / 2) 4800
  unfold shrunk GoodW
  simp only
  omega
def late (e : Ws) : Ws := ⟨1200, mx (e.s / 2) 4800, 0⟩
theorem good_late (e : Ws) (k : Int) (hg : GoodW e k) (hk : 0 ≤ k) : GoodW (late e) (k + 1) := by
  obtain ⟨g1, g2, g3, g4, g5, g6⟩ := hg
  have m := mx_ge (e.s / 2) 4800
  unfold late GoodW
  simp only
  omega
def rest (e : Ws) : Ws := ⟨mn e.s (mx (e.s / 2) 4800), e.t, 0⟩
theorem good_rest (e : Ws) (k : Int) (hg : GoodW e k) (hk : 0 ≤ k) : GoodW (rest e) (k + 1) := by
  obtain ⟨g1, g2, g3, g4, g5, g6⟩ := hg
  have m := mx_ge (e.s / 2) 4800
  have m2 := mn_le e.s (mx (e.s / 2) 4800)
  unfold rest GoodW
  simp only
  omega
theorem good_more (e : Ws) (k k' : Int) (hg : GoodW e k) (hk : k ≤ k') : GoodW e k' := by
  obtain ⟨g1, g2, g3, g4, g5, g6⟩ := hg
  exact ⟨g1, g2, g3, g4, g5, by omega⟩
theorem lost_at (g : Nat) (e : Ws) (k : Int) (w : World) (hb : Blk w g 41 (cells e)) (hg : GoodW e k) :
    Calls Try.prog 12 #[.pointer (some ⟨g, 0, none⟩)] w fun e' w' => e' = .returned (.tuple #[]) ∧ Blk w' g 41 (cells (shrunk e)) ∧ Fr (only g) w w' :=
  lost_calls g e.s e.t e.c w hb (by have := hg.1; omega) hg.2.1
theorem late_at (g : Nat) (e : Ws) (k : Int) (w : World) (hb : Blk w g 41 (cells e)) (hg : GoodW e k) :
    Calls Try.prog 13 #[.pointer (some ⟨g, 0, none⟩)] w fun e' w' => e' = .returned (.tuple #[]) ∧ Blk w' g 41 (cells (late e)) ∧ Fr (only g) w w' :=
  late_calls g e.s e.t e.c w hb (by have := hg.1; omega) hg.2.1
theorem rest_at (g : Nat) (e : Ws) (k : Int) (w : World) (hb : Blk w g 41 (cells e)) (hg : GoodW e k) :
    Calls Try.prog 17 #[.pointer (some ⟨g, 0, none⟩)] w fun e' w' => e' = .returned (.tuple #[]) ∧ Blk w' g 41 (cells (rest e)) ∧ Fr (only g) w w' :=
  rest_calls g e.s e.t e.c w hb (by have := hg.1; omega) hg.2.1
theorem size_at (g : Nat) (e : Ws) (w : World) (hb : Blk w g 41 (cells e)) :
    Calls Try.prog 10 #[.pointer (some ⟨g, 0, none⟩)] w fun e' w' => e' = .returned (.tuple #[.int .i64 e.s, .int .i64 e.t, .int .i64 e.c]) ∧ Fr nothing w w' :=
  size_calls g e.s e.t e.c w hb
theorem room_at (g : Nat) (e : Ws) (k f v : Int) (w : World) (hb : Blk w g 41 (cells e)) (hg : GoodW e k) (hv : mx 0 (e.s - bnd f) = v) :
    Calls Try.prog 11 #[.pointer (some ⟨g, 0, none⟩), .int .i64 f] w fun e' w' => e' = .returned (.int .i64 v) ∧ w' = w :=
  hv ▸ room_calls g e.s e.t e.c f w hb (by have := hg.1; omega) hg.2.1
def startW : Ws := ⟨4380, 1048576, 0⟩
theorem good_start : GoodW startW 0 := by decide

set_option maxHeartbeats 1000000 in
theorem first_calls (w : World) : Calls Try.prog 7 #[] w fun e w' => e = .returned (.bool true) ∧ Below w.heap.size w w' := by
  have hu41 := Try.underlying41
  have sx : ∀ k, k < w.heap.size → ¬ only w.heap.size k := fun k hk e => by have e' : k = w.heap.size := e; omega
  have sepn : ∀ k, k < w.heap.size → ¬ nothing k := fun _ _ h => h
  have e1 : acked startW 1000 4380 true = ⟨5380, 1048576, 0⟩ := by decide
  have e2 : late ⟨5380, 1048576, 0⟩ = ⟨1200, 4800, 0⟩ := by decide
  have E1 := Lib.hid e1; have E2 := Lib.hid e2
  clear e1 e2
  go_enter Try.func7, Try.ntmps7
  go_wp2_with fail
  refine (new_calls w).mono ?_
  rintro e w0 ⟨rfl, b0, B0⟩
  go_wp2_with fail
  refine (acked_at _ startW 0 _ _ _ _ b0 good_start (by decide)).mono ?_
  rintro e w1 ⟨rfl, x_1, f1⟩
  have B_1 := Fr.below_then B0 f1 sx
  clear b0 B0 f1
  rw [E1.out] at x_1
  go_wp2_with fail
  refine (size_at _ ⟨5380, 1048576, 0⟩ _ x_1).mono ?_
  rintro e w2 ⟨rfl, f2⟩
  have x_2 := x_1.fr f2 id
  have B_2 := Fr.below_then B_1 f2 sepn
  clear x_1 B_1 f2
  go_wp2_with fail
  refine (late_at _ ⟨5380, 1048576, 0⟩ 1 _ x_2 (by decide)).mono ?_
  rintro e w3 ⟨rfl, x_3, f3⟩
  have B_3 := Fr.below_then B_2 f3 sx
  clear x_2 B_2 f3
  rw [E2.out] at x_3
  go_wp2_with fail
  refine (size_at _ ⟨1200, 4800, 0⟩ _ x_3).mono ?_
  rintro e w4 ⟨rfl, f4⟩
  have x_4 := x_3.fr f4 id
  have B_4 := Fr.below_then B_3 f4 sepn
  clear x_3 B_3 f4
  go_wp2_with fail
  refine (room_at _ ⟨1200, 4800, 0⟩ 1 200 1000 _ x_4 (by decide) (by decide)).mono ?_
  rintro e w5 ⟨rfl, rfl⟩
  go_wp2_with fail
  refine (room_at _ ⟨1200, 4800, 0⟩ 1 5000 0 _ x_4 (by decide) (by decide)).mono ?_
  rintro e w6 ⟨rfl, rfl⟩
  go_wp2
  go_ret
  exact ⟨rfl, B_4⟩

end Go.Proofs.Ytpomlgohfgamoaa.Wind
