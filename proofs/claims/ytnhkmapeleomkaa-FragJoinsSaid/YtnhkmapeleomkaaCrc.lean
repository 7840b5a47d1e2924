/- Contracts of package crc. Conditions: each names its blocks and the bounds. -/
import Derived.Test.YtnhkmapeleomkaaSl
import Derived.Laws.BitsAllLaws
namespace Go.Proofs.Ytnhkmapeleomkaa.Crc
open Go.RowKit Go.Proofs.Ytnhkmapeleomkaa.Mem Go.Proofs.Ytnhkmapeleomkaa.Octet
set_option linter.unusedVariables false
set_option linter.unusedSimpArgs false

/-- One bit of a register. -/
def st1 (r : Nat) : Nat := if r % 2 = 1 then (r / 2) ^^^ 2197175160 else r / 2
theorem st1_lt {r : Nat} (h : r < 4294967296) : st1 r < 4294967296 := by
  unfold st1
  split
  · exact Nat.xor_lt_two_pow (n := 32) (by omega) (by omega)
  · omega
def it : Nat → Nat → Nat
  | 0, x => x
  | k + 1, x => st1 (it k x)
theorem it_lt {x : Nat} (h : x < 4294967296) (k : Nat) : it k x < 4294967296 := by induction k with | zero => exact h | succ k ih => exact st1_lt ih
/-- A register behind a byte. -/
def stp (r b : Nat) : Nat := it 8 (r ^^^ b)
theorem xor_lt {a b : Nat} (ha : a < 4294967296) (hb : b < 4294967296) : a ^^^ b < 4294967296 := Nat.xor_lt_two_pow (n := 32) ha hb
theorem stp_lt {r b : Nat} (hr : r < 4294967296) (hb : b < 256) : stp r b < 4294967296 := it_lt (xor_lt hr (by omega)) 8
def crcR (r : Nat) (bs : List Int) : Nat := bs.foldl (fun r b => stp r b.toNat) r
def crcS (bs : List Int) : Int := 4294967295 - (crcR 4294967295 bs : Int)
theorem crcR_lt {r : Nat} {bs : List Int} (hr : r < 4294967296) (hb : IsB bs) : crcR r bs < 4294967296 := by
  induction bs generalizing r with
  | nil => exact hr
  | cons b bs ih =>
    have h1 := hb b (by simp)
    exact ih (stp_lt hr (by omega)) (fun x hx => hb x (List.mem_cons_of_mem _ hx))
theorem bit_step (v : Nat) (hv : v < 4294967296) : bits .xor .u32 ((v : Int) / 2) (bits .and .u32 2197175160 (IntKind.u32.wrap (-(bits .and .u32 (v : Int) 1)))) = (st1 v : Int) := by
  have e1 : bits .and .u32 (v : Int) 1 = ((v % 2 : Nat) : Int) := by
    have := u32_and_nat v 1 hv (by decide)
    rw [nat_mask1] at this
    exact this
  rw [e1]
  rcases Nat.mod_two_eq_zero_or_one v with h | h
  · rw [h]
    have e2 : IntKind.u32.wrap (-(((0 : Nat)) : Int)) = ((0 : Nat) : Int) := by simp [IntKind.wrap, IntKind.bits, IntKind.signed]
    rw [e2]
    have e3 := u32_and_nat 2197175160 0 (by decide) (by decide)
    have e4 := u32_xor_nat (v / 2) 0 (by omega) (by decide)
    simp only [Nat.and_zero, Nat.xor_zero] at e3 e4
    have e5 : ((v / 2 : Nat) : Int) = (v : Int) / 2 := by omega
    rw [show ((2197175160 : Int)) = ((2197175160 : Nat) : Int) from rfl, e3, ← e5, e4]
    simp [st1, h]
  · rw [h]
    have e2 : IntKind.u32.wrap (-(((1 : Nat)) : Int)) = ((4294967295 : Nat) : Int) := by simp [IntKind.wrap, IntKind.bits, IntKind.signed]
    rw [e2]
    have e3 := u32_and_nat 2197175160 4294967295 (by decide) (by decide)
    rw [show (2197175160 &&& 4294967295 : Nat) = 2197175160 from by decide] at e3
    have e4 := u32_xor_nat (v / 2) 2197175160 (by omega) (by decide)
    have e5 : ((v / 2 : Nat) : Int) = (v : Int) / 2 := by omega
    rw [show ((2197175160 : Int)) = ((2197175160 : Nat) : Int) from rfl, e3, ← e5, e4]
    simp [st1, h]
theorem bit_step' (v : Nat) (hv : v < 4294967296) : bits .xor .u32 ((v : Int) / 2) (bits .and .u32 2197175160 (-(bits .and .u32 (v : Int) 1) % 4294967296)) = (st1 v : Int) := by
  have := bit_step v hv
  rwa [IntKind.wrap_u32'] at this
set_option maxHeartbeats 1000000 in
theorem step_calls (r : Nat) (b : Int) (w : World) (hr : r < 4294967296) (h0 : 0 ≤ b) (h1 : b < 256) :
    Calls Try.prog 41 #[.int .u32 r, .int .u8 b] w fun e w' => e = .returned (.int .u32 (stp r b.toNat)) ∧ w' = w := by
  have hx : bits .xor .u32 (r : Int) b = ((r ^^^ b.toNat : Nat) : Int) := by
    have := u32_xor_nat r b.toNat hr (by omega)
    rwa [show ((b.toNat : Nat) : Int) = b by omega] at this
  go_enter Try.func41, Try.ntmps41
  go_wp2_with fail
  go_loopw [0, 9] (fun v i wr => ∃ k : Nat, k ≤ 8 ∧ i = .int .i64 k ∧ v = .int .u32 (it k (r ^^^ b.toNat)) ∧ wr = w) (fun _ i _ => 8 - (intOf i).toNat)
  case atStart => exact ⟨0, Nat.zero_le _, rfl, by first | rfl | (rw [hx]; rfl), rfl⟩
  case round =>
    obtain ⟨k, hk, rfl, rfl, rfl⟩ := hrel
    by_cases hlt : k < 8
    · have hlt' : (k : Int) < 8 := by omega
      have hv := it_lt (xor_lt hr (show b.toNat < 4294967296 by omega)) k
      have HB := Lib.hid (bit_step' _ hv)
      generalize hit : it k (r ^^^ b.toNat) = v at hv HB ⊢
      have HI := Lib.hid hit
      clear hit
      go_wp2
      go_roundw
      case rel => exact ⟨k + 1, by omega, by go_num, by rw [HB.out, ← HI.out]; rfl, by first | rfl | trivial⟩
      case measure => simp [intOf]; omega
    · obtain rfl : k = 8 := by omega
      have hlt' : ¬ ((8 : Nat) : Int) < 8 := by decide
      have HF := Lib.hid (show (it 8 (r ^^^ b.toNat)) = stp r b.toNat from rfl)
      generalize it 8 (r ^^^ b.toNat) = v at HF ⊢
      go_wp2
      go_ret
      exact ⟨by rw [← HF.out]; rfl, rfl⟩
theorem crcR_app (r : Nat) (xs ys : List Int) : crcR r (xs ++ ys) = crcR (crcR r xs) ys := by simp [crcR, List.foldl_append]
theorem crcR_take (r : Nat) (xs : List Int) (j : Nat) (h : j < xs.length) : crcR r (xs.take (j + 1)) = stp (crcR r (xs.take j)) xs[j].toNat := by
  unfold crcR
  rw [List.take_add_one, List.getElem?_eq_getElem h, List.foldl_append]
  rfl
theorem not_xor (R : Nat) (h : R < 4294967296) : 4294967295 ^^^ R = 4294967295 - R := by
  apply Nat.eq_of_testBit_eq
  intro i
  have e1 := Nat.testBit_two_pow_sub_succ (n := 32) (x := R) (by omega) i
  have e2 := Nat.testBit_two_pow_sub_one 32 i
  rw [show 2 ^ 32 - (R + 1) = 4294967295 - R by omega] at e1
  rw [show 2 ^ 32 - 1 = 4294967295 from rfl] at e2
  rw [Nat.testBit_xor, e1, e2]
  by_cases hi : i < 32
  · simp [hi]
  · have : R.testBit i = false := Nat.testBit_lt_two_pow (Nat.lt_of_lt_of_le (show R < 2 ^ 32 by omega) (Nat.pow_le_pow_right (by decide) (by omega)))
    simp [hi, this]
theorem not_bits (R : Nat) (h : R < 4294967296) : bits .xor .u32 IntKind.u32.max (R : Int) = 4294967295 - (R : Int) := by
  have e := u32_xor_nat 4294967295 R (by decide) h
  rw [not_xor R h] at e
  rw [show (IntKind.u32.max : Int) = ((4294967295 : Nat) : Int) from rfl, e]
  omega
/-- Parts of a sum: a row of slices, each of bytes. -/
def Parts (w : World) (lo hi : Nat) (A : Option Addr) (xss : List (List Int)) : Prop :=
  xss = [] ∨ ∃ ad, A = some ad ∧ ∀ i (h : i < xss.length), ∃ B c, w.cell? (ad.add i) = some (.slice B xss[i].length c) ∧ RdB w lo hi B xss[i]
set_option maxHeartbeats 1000000 in
theorem sum_calls (lo hi : Nat) (A : Option Addr) (cap : Nat) (xss : List (List Int)) (w : World) (h : Parts w lo hi A xss) (hb : ∀ xs ∈ xss, IsB xs ∧ xs.length ≤ 9223372036854775807) (hl : xss.length ≤ 1000) :
    Calls Try.prog 40 #[.slice A xss.length cap] w fun e w' => e = .returned (.int .u32 (crcS xss.flatten)) ∧ w' = w := by
  go_enter Try.func40, Try.ntmps40
  go_wp2_with fail
  go_loopw [3, 10] (fun v i wr => ∃ k : Nat, k ≤ xss.length ∧ i = .int .i64 k ∧ v = .int .u32 (crcR 4294967295 (xss.take k).flatten) ∧ wr = w) (fun _ i _ => xss.length - (intOf i).toNat)
  case atStart => exact ⟨0, Nat.zero_le _, rfl, rfl, rfl⟩
  case round =>
    obtain ⟨k, hk, rfl, rfl, rfl⟩ := hrel
    by_cases hlt : k < xss.length
    · rcases h with h | ⟨ad, rfl, hp⟩
      · subst h; simp at hlt
      · obtain ⟨B, c, hc, hr⟩ := hp k hlt
        obtain ⟨hx, hxl⟩ := hb _ (List.getElem_mem hlt)
        have hR : crcR 4294967295 (xss.take k).flatten < 4294967296 := crcR_lt (by decide) (fun x hx => by
          obtain ⟨ys, h1, h2⟩ := List.mem_flatten.1 hx
          exact (hb ys (List.mem_of_mem_take h1)).1 x h2)
        have HN := Lib.hid (show crcR 4294967295 (xss.take (k + 1)).flatten = crcR (crcR 4294967295 (xss.take k).flatten) xss[k] by
          rw [List.take_add_one, List.getElem?_eq_getElem hlt, List.flatten_append, crcR_app]; simp)
        generalize crcR 4294967295 (xss.take k).flatten = R at hR HN ⊢
        generalize hxs : xss[k] = xs at hc hr hx hxl HN
        clear hp hb hxs
        go_wp2_with fail
        go_loopw [3, 16] (fun v i wr2 => ∃ j : Nat, j ≤ xs.length ∧ i = .int .i64 j ∧ v = .int .u32 (crcR R (xs.take j)) ∧ wr2 = wr) (fun _ i _ => xs.length - (intOf i).toNat)
        case atStart => exact ⟨0, Nat.zero_le _, rfl, rfl, rfl⟩
        case round =>
          obtain ⟨j, hj, rfl, rfl, rfl⟩ := hrel
          by_cases hjl : j < xs.length
          · obtain ⟨a2, rfl, hc2⟩ := hr.at_ j hjl
            have hb2 := hx _ (List.getElem_mem hjl)
            have hR2 : crcR R (xs.take j) < 4294967296 := crcR_lt hR (fun x h => hx x (List.mem_of_mem_take h))
            have HT := Lib.hid (crcR_take R xs j hjl)
            generalize crcR R (xs.take j) = R2 at hR2 HT ⊢
            generalize xs[j] = y at hc2 hb2 HT
            go_wp2_with fail
            refine (step_calls R2 y _ hR2 hb2.1 hb2.2).mono ?_
            rintro e w1 ⟨rfl, rfl⟩
            go_wp2
            go_roundw
            case rel => exact ⟨j + 1, by omega, by go_num, by rw [HT.out], by first | rfl | trivial⟩
            case measure => simp [intOf]; omega
          · obtain rfl : j = xs.length := by omega
            have HF := Lib.hid (show crcR R (xs.take xs.length) = crcR R xs by rw [List.take_length])
            generalize crcR R (xs.take xs.length) = R2 at HF ⊢
            go_wp2
            go_roundw
            case rel => exact ⟨k + 1, by omega, by go_num, by rw [HN.out, ← HF.out], by first | rfl | trivial⟩
            case measure => simp [intOf]; omega
    · obtain rfl : k = xss.length := by omega
      have hR : crcR 4294967295 (xss.take xss.length).flatten < 4294967296 := crcR_lt (by decide) (fun x hx => by
        obtain ⟨ys, h1, h2⟩ := List.mem_flatten.1 hx
        exact (hb ys (List.mem_of_mem_take h1)).1 x h2)
      have HF := Lib.hid (show crcS xss.flatten = 4294967295 - ((crcR 4294967295 (xss.take xss.length).flatten : Nat) : Int) by rw [List.take_length]; rfl)
      generalize crcR 4294967295 (xss.take xss.length).flatten = R at hR HF ⊢
      go_wp2
      go_ret
      refine ⟨?_, rfl⟩
      rw [HF.out, ← not_bits R hR]
      rfl
/-- Parts of a sum in a row that was made last. -/
theorem parts_row (w : World) (cs : Array Value) (lo hi : Nat) (xss : List (List Int)) (h : ∀ i (h : i < xss.length), ∃ B c, cs[i]? = some (.slice B xss[i].length c) ∧ RdB w lo hi B xss[i]) :
    Parts (w.alloc (.cells cs 24)) lo hi (some ⟨w.heap.size, 0, none⟩) xss := by
  refine .inr ⟨_, rfl, fun i hi => ?_⟩
  obtain ⟨B, c, h1, h2⟩ := h i hi
  refine ⟨B, c, ?_, h2.fr (S := nothing) ((Fr.refl _ w).alloc _) (fun _ _ _ h => h)⟩
  have hc := cell_of_row (w.alloc (.cells cs 24)) w.heap.size i cs 24 (0, 0) (heap_alloc_new w _)
  rw [h1] at hc
  rw [← hc]
  by_cases h0 : i = 0
  · subst h0; rfl
  · simp [Addr.add, h0]
/-! A register is linear. -/
theorem xor_lc (a b c : Nat) : a ^^^ (b ^^^ c) = b ^^^ (a ^^^ c) := by rw [← Nat.xor_assoc, Nat.xor_comm a b, Nat.xor_assoc]
theorem st1_lin (x y : Nat) : st1 (x ^^^ y) = st1 x ^^^ st1 y := by
  have h1 : (x ^^^ y) / 2 = x / 2 ^^^ y / 2 := by
    have := Nat.shiftRight_xor_distrib (a := x) (b := y) (i := 1)
    simpa [Nat.shiftRight_eq_div_pow] using this
  have h2 : (x ^^^ y) % 2 = 1 ↔ ¬ (x % 2 = 1 ↔ y % 2 = 1) := by
    rw [Nat.xor_mod_two_eq_one]
  unfold st1
  rw [h1]
  by_cases hx : x % 2 = 1 <;> by_cases hy : y % 2 = 1 <;> simp only [h2, hx, hy]
  · simp only [not_true_eq_false, if_false, if_true]
    rw [Nat.xor_assoc, xor_lc 2197175160, Nat.xor_self, Nat.xor_zero]
  · simp only [iff_false, not_true_eq_false, not_false_eq_true, if_true, if_false]
    rw [Nat.xor_assoc, Nat.xor_assoc, Nat.xor_comm 2197175160]
  · simp [Nat.xor_assoc]
  · simp
theorem it_lin (k x y : Nat) : it k (x ^^^ y) = it k x ^^^ it k y := by
  induction k with
  | zero => rfl
  | succ k ih => simp only [it, ih, st1_lin]
theorem stp_lin (r s a b : Nat) : stp (r ^^^ s) (a ^^^ b) = stp r a ^^^ stp s b := by
  unfold stp
  rw [← it_lin]
  congr 1
  rw [Nat.xor_assoc, Nat.xor_assoc, xor_lc s a b]
end Go.Proofs.Ytnhkmapeleomkaa.Crc
