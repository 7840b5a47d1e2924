/- The walk of flumelaw10.RttSettles: true for every number and every list. No conditions. -/
import Derived.Test.YtpjlnnebknekcaaRtt
import Derived.Test.YtpjlnnebknekcaaArgs
namespace Go.Proofs.Ytpjlnnebknekcaa.RttSettles
open Go.RowKit Go.Proofs.Ytpjlnnebknekcaa.Mem Go.Proofs.Ytpjlnnebknekcaa.Rtt
set_option linter.unusedVariables false
set_option linter.unusedSimpArgs false
attribute [local go_sem] max2_int min2_int max_two min_two

/-- After i measures of the list. -/
def fed (xs : List Int) : Nat → Es
  | 0 => zero
  | i + 1 => if i < 20 then samp (fed xs i) (um (xs.getD i 0) 1000) else fed xs i
theorem good_fed (xs : List Int) : ∀ i, GoodE (fed xs i)
  | 0 => good_zero
  | i + 1 => by
    unfold fed
    split
    · have h := um_range (xs.getD i 0) 1000 (by omega) (by omega)
      exact good_samp _ _ (good_fed xs i) h.1 (by omega)
    · exact good_fed xs i
def same (e : Es) (n : Int) : Nat → Es
  | 0 => e
  | i + 1 => samp (same e n i) n
theorem good_same (e : Es) (n : Int) (h : GoodE e) (h0 : 0 ≤ n) (h1 : n ≤ 60000) : ∀ i, GoodE (same e n i)
  | 0 => h
  | i + 1 => good_samp _ _ (good_same e n h h0 h1 i) h0 h1

-- how far the smoothed time is from where it goes, and what is left of the deviation
def iter (f : Int → Int) : Nat → Int → Int
  | 0, x => x
  | k + 1, x => f (iter f k x)
theorem iter_mono {f : Int → Int} (hf : ∀ a b, a ≤ b → f a ≤ f b) : ∀ k a b, a ≤ b → iter f k a ≤ iter f k b
  | 0, _, _, h => h
  | k + 1, a, b, h => hf _ _ (iter_mono hf k a b h)
def near (y : Int) : Int := y - y / 8
def fade (d : Int) : Int := d - d / 4
theorem near_mono (a b : Int) (h : a ≤ b) : near a ≤ near b := by unfold near; omega
theorem fade_mono (a b : Int) (h : a ≤ b) : fade a ≤ fade b := by unfold fade; omega
theorem near_all (y : Int) (h0 : -600000 ≤ y) (h1 : y ≤ 600000) : 0 ≤ iter near 140 y ∧ iter near 140 y ≤ 7 := by
  have a : iter near 140 (-600000) = 0 := by decide +kernel
  have b : iter near 140 600000 ≤ 7 := by decide +kernel
  have c := iter_mono near_mono 140 _ _ h0
  have d := iter_mono near_mono 140 _ _ h1
  omega
theorem fade_all (y : Int) (h0 : 0 ≤ y) (h1 : y ≤ 240003) : 0 ≤ iter fade 259 y ∧ iter fade 259 y ≤ 3 := by
  have a : iter fade 259 0 = 0 := by decide +kernel
  have b : iter fade 259 240003 ≤ 3 := by decide +kernel
  have c := iter_mono fade_mono 259 _ _ h0
  have d := iter_mono fade_mono 259 _ _ h1
  omega
theorem same_tk (e : Es) (n : Int) (i : Nat) : (same e n (i + 1)).tk = true := by
  show (samp (same e n i) n).tk = true
  unfold samp; split <;> rfl
theorem same_n (e : Es) (n : Int) (i : Nat) : (same e n (i + 1)).n = 0 := by
  show (samp (same e n i) n).n = 0
  unfold samp; split <;> rfl
theorem same_s (e : Es) (n : Int) : ∀ k, (same e n (1 + k)).s - 8 * n = iter near k ((same e n 1).s - 8 * n)
  | 0 => rfl
  | k + 1 => by
    have ih := same_s e n k
    have ht : (same e n (1 + k)).tk = true := by rw [Nat.add_comm]; exact same_tk e n k
    show (samp (same e n (1 + k)) n).s - 8 * n = near (iter near k _)
    rw [← ih]
    simp only [samp, ht, if_true, near]
    omega
theorem still (e : Es) (n : Int) (h : GoodE e) (h0 : 0 ≤ n) (h1 : n < 700) (k : Nat) :
    0 ≤ (same e n (141 + k)).s - 8 * n ∧ (same e n (141 + k)).s - 8 * n ≤ 7 := by
  induction k with
  | zero =>
    have hg := good_same e n h h0 (by omega) 1
    have := near_all ((same e n 1).s - 8 * n) (by have := hg.1; omega) (by have := hg.2.1; omega)
    rw [← same_s e n 140] at this
    exact this
  | succ k ih =>
    have a := same_s e n (140 + k)
    have b := same_s e n (140 + k + 1)
    rw [show 1 + (140 + k) = 141 + k by omega] at a
    rw [show 1 + (140 + k + 1) = 141 + (k + 1) by omega] at b
    have c : iter near (140 + k + 1) ((same e n 1).s - 8 * n) = near (iter near (140 + k) ((same e n 1).s - 8 * n)) := rfl
    rw [c, ← a] at b
    unfold near at b
    omega
theorem same_d (e : Es) (n : Int) (h : GoodE e) (h0 : 0 ≤ n) (h1 : n < 700) : ∀ k, (same e n (141 + k)).d = iter fade k (same e n 141).d
  | 0 => rfl
  | k + 1 => by
    have ih := same_d e n h h0 h1 k
    have st := still e n h h0 h1 k
    have ht : (same e n (141 + k)).tk = true := by rw [show 141 + k = (140 + k) + 1 by omega]; exact same_tk e n _
    show (samp (same e n (141 + k)) n).d = fade (iter fade k _)
    rw [← ih]
    simp only [samp, ht, if_true, fade]
    have e0 : n - (same e n (141 + k)).s / 8 = 0 := by omega
    rw [e0]
    simp
    omega
def want (n : Int) : Int := if 10 < (if n < 600 then n else 600) then (if n < 600 then n else 600) else 10
theorem settled (e : Es) (n : Int) (h : GoodE e) (h0 : 0 ≤ n) (h1 : n < 700) :
    want n ≤ waitOf (same e n 400) ∧ waitOf (same e n 400) ≤ want n + 8 := by
  have a := still e n h h0 h1 259
  have g := good_same e n h h0 (by omega) 141
  have b := fade_all (same e n 141).d g.2.2.1 g.2.2.2.1
  rw [← same_d e n h h0 h1 259] at b
  rw [show 141 + 259 = 400 by rfl] at a b
  have ht : (same e n 400).tk = true := same_tk e n 399
  have hn : (same e n 400).n = 0 := same_n e n 399
  have e0 : (same e n 400).s / 8 = n := by omega
  simp only [waitOf, hn, Int.toNat_zero, dbl, base, ht, if_true, e0, want]
  generalize (same e n 400).d = d at b
  constructor <;> (repeat' split) <;> omega

set_option maxHeartbeats 1000000 in
set_option maxRecDepth 100000 in
theorem walk (t : Int) (A : Option Addr) (cap : Nat) (xs : List Int) (w : World) (wt : (Lit.int .i64 t).wf = true) (hr : ReadsI w .i64 A xs) (hc : xs.length ≤ cap) (hm : cap ≤ maxLen)
    (hz : xs.length * 8 ≤ 140737488351232) (hx : ∀ x ∈ xs, (Lit.int .i64 x).wf = true) :
    Calls Try.prog 4 #[.int .i64 t, .slice A xs.length cap] w fun e w' => e = .returned (.bool true) ∧ Below w.heap.size w w' := by
  unfold maxLen at hm
  have hu25 := Try.underlying25
  go_enter Try.func4, Try.ntmps4
  go_wp2_with fail
  refine (first_calls w).mono ?_
  rintro e w0 ⟨rfl, C0⟩
  have hs := C0.size
  have bx := Blk.new w0 (cells zero) 25
  have C1 := C0.alloc hs (.cells (cells zero) 25)
  have sx : ∀ k, k < w.heap.size → ¬ only w0.heap.size k := fun k hk e => by have e' : k = w0.heap.size := e; omega
  have sepn : ∀ k, k < w.heap.size → ¬ nothing k := fun _ _ h => h
  clear C0
  go_wp2_with fail
  have hn2 : 0 ≤ wrap64 ((IntKind.u64.wrap t).tmod 700) ∧ wrap64 ((IntKind.u64.wrap t).tmod 700) < 700 := um_range t 700 (by omega) (by omega)
  generalize wrap64 ((IntKind.u64.wrap t).tmod 700) = n at hn2 ⊢
  obtain ⟨n0, n1⟩ := hn2
  go_loopw [19] (fun i wr => ∃ k : Nat, k ≤ xs.length ∧ i = .int .i64 k ∧ Blk wr w0.heap.size 25 (cells (fed xs k)) ∧ Below w.heap.size w wr) (fun i _ => xs.length - (intOf i).toNat)
  case atStart => exact ⟨0, Nat.zero_le _, rfl, bx, C1⟩
  case round =>
    obtain ⟨k, hk, rfl, bk, Bk⟩ := hrel
    by_cases hlt : k < xs.length
    · obtain ⟨ad, rfl, hcell⟩ := (hr.below Bk).at_ k hlt
      have hq2 : 0 ≤ wrap64 ((IntKind.u64.wrap xs[k]).tmod 1000) ∧ wrap64 ((IntKind.u64.wrap xs[k]).tmod 1000) < 1000 := um_range xs[k] 1000 (by omega) (by omega)
      obtain ⟨q0, q1⟩ := hq2
      have e20 := Lib.hid (show fed xs (k + 1) = if k < 20 then samp (fed xs k) (wrap64 ((IntKind.u64.wrap xs[k]).tmod 1000)) else fed xs k by simp [fed, um, hlt])
      by_cases h20 : k < 20
      · go_wp2_with fail
        refine (sample_at _ _ _ _ _ bk (good_fed xs k) q0 (by omega) rfl).mono ?_
        rintro e w2 ⟨rfl, b2, f2⟩
        have B2 := Fr.below_then Bk f2 sx
        clear bk Bk f2
        go_wp2
        go_roundw
        case rel => exact ⟨k + 1, by omega, by go_num, by rw [e20.out, if_pos h20]; exact b2, B2⟩
        case measure => simp [intOf]; omega
      · go_wp2
        go_roundw
        case rel => exact ⟨k + 1, by omega, by go_num, by rw [e20.out, if_neg h20]; exact bk, Bk⟩
        case measure => simp [intOf]; omega
    · obtain rfl : k = xs.length := by omega
      have gf := good_fed xs xs.length
      have bs : Blk wr w0.heap.size 25 (cells (same (fed xs xs.length) n 0)) := bk
      clear bk hr
      go_wp2
      go_loopw [32] (fun i wr => ∃ k : Nat, k ≤ 400 ∧ i = .int .i64 k ∧ Blk wr w0.heap.size 25 (cells (same (fed xs xs.length) n k)) ∧ Below w.heap.size w wr) (fun i _ => 400 - (intOf i).toNat)
      case atStart => exact ⟨0, Nat.zero_le _, rfl, bs, Bk⟩
      case round =>
        obtain ⟨k, hk, rfl, bk, Bk⟩ := hrel
        have gk := good_same (fed xs xs.length) n gf n0 (by omega) k
        by_cases hlt : k < 400
        · go_wp2_with fail
          refine (sample_at _ _ _ _ _ bk gk n0 (by omega) rfl).mono ?_
          rintro e w2 ⟨rfl, b2, f2⟩
          have B2 := Fr.below_then Bk f2 sx
          clear bk Bk f2
          go_wp2
          go_roundw
          case rel => exact ⟨k + 1, by omega, by go_num, b2, B2⟩
          case measure => simp [intOf]; omega
        · obtain rfl : k = 400 := by omega
          have st := settled (fed xs xs.length) n gf n0 n1
          obtain ⟨v, hv⟩ : ∃ v, waitOf (same (fed xs xs.length) n 400) = v := ⟨_, rfl⟩
          rw [hv] at st
          have HV := Lib.hid hv; clear hv
          have hwn := Lib.hid (show want n = if 10 < (if n < 600 then n else 600) then (if n < 600 then n else 600) else 10 from rfl)
          go_wp2_with fail
          refine (wait_at _ _ v _ bk gk HV.out).mono ?_
          rintro e w2 ⟨rfl, f2⟩
          have B2 := Fr.below_then Bk f2 sepn
          clear bk Bk f2
          rw [hwn.out] at st
          go_wp2
          all_goals
            go_ret
            first | exact ⟨rfl, B2⟩ | (refine ⟨?_, B2⟩; simp; omega)
end Go.Proofs.Ytpjlnnebknekcaa.RttSettles
