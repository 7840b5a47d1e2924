/- flumeref03.Sum, Fits and Seal. Conditions: each names its blocks and the bounds. -/
import Derived.Test.YtdapcjeofgimgaaCrcMath
namespace Go.Proofs.Ytdapcjeofgimgaa.Crc
open Go.RowKit Go.Proofs.Ytdapcjeofgimgaa.Mem Go.Proofs.Ytdapcjeofgimgaa.Octet
set_option linter.unusedVariables false
set_option linter.unusedSimpArgs false
theorem ref_bit (x : Int) (e r : Nat) (h0 : 0 ≤ x) (h1 : x < 256) (hr : r < 4294967296) :
    bits .xor .u32 (bits .and .u32 (x / 2 ^ e % 4294967296) 1) (bits .and .u32 (r : Int) 1) = (((x.toNat / 2 ^ e % 2) ^^^ (r % 2) : Nat) : Int) := by
  have e0 : x / 2 ^ e % 4294967296 = ((x.toNat / 2 ^ e : Nat) : Int) := by
    have hx : x = ((x.toNat : Nat) : Int) := by omega
    have e1 : ((x.toNat / 2 ^ e : Nat) : Int) = x / 2 ^ e := by rw [Int.natCast_ediv, ← hx]; simp
    rw [← e1]
    have e2 : x.toNat / 2 ^ e < 256 := Nat.lt_of_le_of_lt (Nat.div_le_self _ _) (by omega)
    generalize x.toNat / 2 ^ e = q at e2 ⊢
    omega
  have hlt : x.toNat / 2 ^ e < 4294967296 := Nat.lt_of_le_of_lt (Nat.div_le_self _ _) (by omega)
  have a1 := u32_and_nat (x.toNat / 2 ^ e) 1 hlt (by decide)
  have a2 := u32_and_nat r 1 hr (by decide)
  rw [nat_mask1] at a1 a2
  have a1' : bits .and .u32 ((x.toNat / 2 ^ e : Nat) : Int) 1 = ((x.toNat / 2 ^ e % 2 : Nat) : Int) := a1
  have a2' : bits .and .u32 (r : Int) 1 = ((r % 2 : Nat) : Int) := a2
  rw [e0, a1', a2']
  exact u32_xor_nat _ _ (by omega) (by omega)
/-- A register behind a bit, as the reference reckons it. -/
theorem ref_st1 (r b : Nat) (hb : b < 2) : st1 (r ^^^ b) = if (b ^^^ (r % 2)) = 1 then (r / 2) ^^^ 2197175160 else r / 2 := by
  have h1 : (r ^^^ b) / 2 = r / 2 := by
    have := Nat.shiftRight_xor_distrib (a := r) (b := b) (i := 1)
    simp only [Nat.shiftRight_eq_div_pow] at this
    rw [show (2 : Nat) ^ 1 = 2 from rfl] at this
    rw [this, show b / 2 = 0 by omega, Nat.xor_zero]
  have h2 : (r ^^^ b) % 2 = b ^^^ (r % 2) := by
    have := Nat.xor_mod_two_pow (a := r) (b := b) (n := 1)
    rw [show (2 : Nat) ^ 1 = 2 from rfl] at this
    rw [this, Nat.xor_comm, show b % 2 = b by omega]
  unfold st1
  rw [h1, h2]
set_option maxHeartbeats 1000000 in
theorem rsum_calls (lo hi : Nat) (A : Option Addr) (c : Nat) (xs : List Int) (w : World) (h : RdB w lo hi A xs) (hb : IsB xs) (hl : xs.length ≤ 1000000) :
    Calls Try.prog 9 #[.slice A xs.length c] w fun e w' => e = .returned (.int .u32 (crcS xs)) ∧ w' = w := by
  have hS := crcR_all xs hb 4294967295
  have hw8 : wrap64 ((xs.length : Int) * 8) = (xs.length : Int) * 8 := by unfold wrap64; omega
  have hw8' : wrap64 (8 * (xs.length : Int)) = 8 * (xs.length : Int) := by unfold wrap64; omega
  go_enter Try.func9, Try.ntmps9
  go_wp2_with fail
  go_loopw [3, 4] (fun v i wr => ∃ k : Nat, k ≤ 8 * xs.length ∧ i = .int .i64 k ∧ v = .int .u32 (bitN (bitf xs) 4294967295 k) ∧ wr = w) (fun _ i _ => 8 * xs.length - (intOf i).toNat)
  case atStart => exact ⟨0, Nat.zero_le _, rfl, rfl, rfl⟩
  case round =>
    obtain ⟨k, hk, rfl, rfl, rfl⟩ := hrel
    by_cases hlt : k < 8 * xs.length
    · have hj : k / 8 < xs.length := by omega
      obtain ⟨ad, rfl, hc⟩ := h.at_ (k / 8) hj
      have hlt' : (k : Int) < 8 * (xs.length : Int) := by omega
      have hr := bitN_lt (bitf xs) (bitf_lt xs) (r := 4294967295) (by decide) k
      have HN := Lib.hid (show bitN (bitf xs) 4294967295 (k + 1) = st1 (bitN (bitf xs) 4294967295 k ^^^ (xs[k / 8].toNat / 2 ^ (k % 8) % 2)) by
        rw [bitN]; simp [bitf, hj])
      have hx := hb _ (List.getElem_mem hj)
      generalize bitN (bitf xs) 4294967295 k = r at hr HN ⊢
      have hB := ref_bit xs[k / 8] (k % 8) r hx.1 hx.2 hr
      have hR := ref_st1 r (xs[k / 8].toNat / 2 ^ (k % 8) % 2) (Nat.mod_lt _ (by decide))
      rw [← HN.out] at hR
      generalize xs[k / 8] = x at hc hx hB hR
      clear HN
      rcases (show (x.toNat / 2 ^ (k % 8) % 2) ^^^ (r % 2) = 0 ∨ (x.toNat / 2 ^ (k % 8) % 2) ^^^ (r % 2) = 1 by
        have := Nat.mod_lt (x.toNat / 2 ^ (k % 8)) (show 0 < 2 by decide)
        generalize x.toNat / 2 ^ (k % 8) % 2 = b at this ⊢
        have h2 := Nat.mod_lt r (show 0 < 2 by decide)
        generalize r % 2 = d at h2 ⊢
        rcases (show b = 0 ∨ b = 1 by omega) with rfl | rfl <;> rcases (show d = 0 ∨ d = 1 by omega) with rfl | rfl <;> decide) with hz | hz
      · rw [hz] at hB hR
        simp at hB hR
        have HR := Lib.hid hR
        clear hz hR
        skip
        go_wp2
        go_roundw
        case rel => exact ⟨k + 1, by omega, by go_num, by rw [HR.out] ; rfl, by first | rfl | trivial⟩
        case measure => simp [intOf]; omega
      · rw [hz] at hB hR
        simp at hB hR
        have HR := Lib.hid hR
        clear hz hR
        have hX : bits .xor .u32 ((r : Int) / 2) 2197175160 = ((r / 2 ^^^ 2197175160 : Nat) : Int) := u32_xor_nat (r / 2) 2197175160 (by omega) (by decide)
        go_wp2
        go_roundw
        case rel => exact ⟨k + 1, by omega, by go_num, by rw [HR.out] , by first | rfl | trivial⟩
        case measure => simp [intOf]; omega
    · obtain rfl : k = 8 * xs.length := by omega
      have HF := Lib.hid (show (4294967295 : Int) - ((bitN (bitf xs) 4294967295 (8 * xs.length) : Nat) : Int) = crcS xs by rw [← hS]; rfl)
      have hr := bitN_lt (bitf xs) (bitf_lt xs) (r := 4294967295) (by decide) (8 * xs.length)
      clear hS
      generalize bitN (bitf xs) 4294967295 (8 * xs.length) = r at hr HF ⊢
      go_wp2
      go_ret
      exact ⟨by rw [← HF.out]; rfl, rfl⟩
set_option maxHeartbeats 1000000 in
theorem rfits_calls (n : Nat) (p : Int) (w : World) (hn : n ≤ 9223372036854775807) :
    Calls Try.prog 11 #[.int .i64 n, .int .i64 p] w fun e w' => e = .returned (.bool (fitsAt n p)) ∧ w' = w := by
  have hw2 : wrap64 ((n : Int) - 4) = (n : Int) - 4 := by unfold wrap64; omega
  have hw : IntKind.i64.wrap ((n : Int) - 4) = (n : Int) - 4 := by rw [IntKind.wrap_i64]; omega
  rcases (show p < 0 ∨ 0 ≤ p by omega) with h1 | h1
  · have d1 : decide (0 ≤ p) = false := by simp; omega
    rw [show fitsAt n p = false by simp [fitsAt]; omega]
    clear h1
    go_enter Try.func11, Try.ntmps11
    go_wp2
    go_ret
    exact ⟨rfl, rfl⟩
  · have d1 : decide (0 ≤ p) = true := by simp; omega
    rcases (show n < 4 ∨ 4 ≤ n by omega) with h2 | h2
    · have d2 : decide (4 ≤ (n : Int)) = false := by simp; omega
      rw [show fitsAt n p = false by simp [fitsAt]; omega]
      clear h1 h2 hn
      go_enter Try.func11, Try.ntmps11
      go_wp2
      go_ret
      exact ⟨rfl, rfl⟩
    · have d2 : decide (4 ≤ (n : Int)) = true := by simp; omega
      have HF := Lib.hid (show fitsAt n p = decide (p ≤ (n : Int) - 4) by unfold fitsAt; by_cases h : p ≤ (n : Int) - 4 <;> simp [h, h1, h2])
      rw [HF.out]
      clear h1 h2 hn HF
      go_enter Try.func11, Try.ntmps11
      go_wp2
      go_ret
      exact ⟨rfl, rfl⟩
def zN (xs : List Int) (q : Nat) : Nat → List Int
  | 0 => xs
  | k + 1 => (zN xs q k).set (q + k) 0
theorem zN_len (xs : List Int) (q k : Nat) : (zN xs q k).length = xs.length := by induction k with | zero => rfl | succ k ih => simp [zN, ih]
theorem zN_get (xs : List Int) (q : Nat) (k i : Nat) (hi : i < xs.length) : (zN xs q k)[i]? = if q ≤ i ∧ i < q + k then some 0 else xs[i]? := by
  induction k with
  | zero => rw [if_neg (by omega)]; rfl
  | succ k ih =>
    rw [zN, List.getElem?_set, ih]
    by_cases h : q + k = i
    · subst h
      rw [if_pos rfl, zN_len, if_pos hi, if_pos (by omega)]
    · rw [if_neg h]
      by_cases h2 : q ≤ i ∧ i < q + k
      · rw [if_pos h2, if_pos (by omega)]
      · rw [if_neg h2, if_neg (by omega)]
theorem zeroed_len {xs : List Int} {q : Nat} (hq : q + 4 ≤ xs.length) : (zeroed xs q).length = xs.length := by
  simp [zeroed]; omega
theorem zeroed_get {xs : List Int} {q : Nat} (hq : q + 4 ≤ xs.length) (i : Nat) (hi : i < xs.length) : (zeroed xs q)[i]? = if q ≤ i ∧ i < q + 4 then some 0 else xs[i]? := by
  unfold zeroed
  have l1 : (xs.take q).length = q := by simp; omega
  by_cases h1 : i < q
  · rw [List.getElem?_append_left (by omega), if_neg (by omega), List.getElem?_take, if_pos h1]
  · rw [List.getElem?_append_right (by omega), l1]
    by_cases h2 : i < q + 4
    · rw [if_pos ⟨by omega, h2⟩, List.getElem?_append_left (by simp; omega)]
      rcases (show i - q = 0 ∨ i - q = 1 ∨ i - q = 2 ∨ i - q = 3 by omega) with h | h | h | h <;> rw [h] <;> rfl
    · rw [if_neg (by omega), List.getElem?_append_right (by simp; omega), List.getElem?_drop]
      congr 1
      simp
      omega
theorem zN_zeroed {xs : List Int} {q : Nat} (hq : q + 4 ≤ xs.length) : zN xs q 4 = zeroed xs q := by
  apply List.ext_getElem?
  intro i
  by_cases hi : i < xs.length
  · rw [zN_get _ _ _ _ hi, zeroed_get hq i hi]
  · rw [List.getElem?_eq_none (by rw [zN_len]; omega), List.getElem?_eq_none (by rw [zeroed_len hq]; omega)]
theorem sealN_zeroed {xs : List Int} {q : Nat} (hq : q + 4 ≤ xs.length) (s : Int) : sealN (zeroed xs q) q s 4 = sealN xs q s 4 := by
  apply List.ext_getElem?
  intro i
  by_cases hi : i < xs.length
  · rw [sealN_get _ _ _ _ _ (by rw [zeroed_len hq]; omega), sealN_get _ _ _ _ _ hi, zeroed_get hq i hi]
    split <;> rfl
  · rw [List.getElem?_eq_none (by rw [sealN_len, zeroed_len hq]; omega), List.getElem?_eq_none (by rw [sealN_len]; omega)]
set_option maxHeartbeats 2000000 in
theorem rseal_calls (lo hi : Nat) (A : Option Addr) (c : Nat) (xs : List Int) (q : Nat) (w : World) (h : SlB w lo hi (.slice A xs.length c) xs) (hxl : xs.length ≤ 1000000) (hb : IsB xs) (hq : q + 4 ≤ xs.length) :
    Calls Try.prog 13 #[.slice A xs.length c, .int .i64 q] w fun e w' => ∃ B c', e = .returned (.slice B xs.length c') ∧ OwnB w' w.heap.size 5 (.slice B xs.length c') (sealW xs q) ∧ Below w.heap.size w w' := by
  obtain ⟨i0, hi0, hz0, hz1, hz2⟩ := info_parts info_b
  obtain ⟨A', c', e, h1, h2, h3, h4⟩ := h
  injection e with e1 e2 e3
  subst e1; subst e3
  clear e2
  have own0 : (w.alloc (.cells #[] 5)).ownsRow w.heap.size 5 1 (.slice (some ⟨w.heap.size, 0, none⟩) 0 0) ([] : List Int).length (byts []) :=
    ⟨rfl, .inr ⟨w.heap.size, 0, #[], rfl, Nat.le_refl _, heap_alloc_new w _, Nat.le_refl _, Nat.zero_le _, rfl, rfl⟩⟩
  have r0 : RdB (w.alloc (.cells #[] 5)) lo hi A xs := h4.fr ((Fr.refl nothing w).alloc _) (fun _ _ _ h => h)
  go_enter Try.func13, Try.ntmps13
  go_wp2_with (at_builtin; refine wpList_append_b _ rfl (.tmp 9) (.tmp 10) _ rfl w.heap.size 5 i0 Try.underlying22 hi0 hz0 hz1 hz2 _ [] rfl own0 lo hi A _ c xs rfl rfl r0 (by simp; omega) (by simp) ?_; intro v' w' hown hg hat; clear own0 r0; have oB : OwnB w' w.heap.size 5 v' xs := hown; have BB : Below w.heap.size w w' := ((Below.refl _ _).alloc (Nat.le_refl _) _).grown hg (by simp) (fun k hk => by have hk' : some w.heap.size = some k := hk; injection hk' with hk'; omega); clear hown hg hat; obtain ⟨B, cb, rfl, -, -⟩ := OwnB.slice oB)
  go_loopw [6] (fun i wi => ∃ k : Nat, k ≤ 4 ∧ i = .int .i64 k ∧ OwnB wi w.heap.size 5 (.slice B xs.length cb) (zN xs q k) ∧ Below w.heap.size w wi) (fun i _ => 4 - (intOf i).toNat)
  case atStart => exact ⟨0, Nat.zero_le _, rfl, oB, BB⟩
  case round =>
    clear oB BB
    obtain ⟨k, hk, rfl, oi, Bi⟩ := hrel
    rcases (show k = 0 ∨ k = 1 ∨ k = 2 ∨ k = 3 ∨ k = 4 by omega) with rfl | rfl | rfl | rfl | rfl
    · obtain ⟨ai, rfl, -, ⟨x, hcx⟩, hfx, hbx, hst⟩ := own_put oi (q) (by omega)
      have hs2 := hst 0
      have ea : ai.add (q) = ai.add q := by first | rfl | simp [Addr.add]
      rw [ea] at hcx hfx hbx hs2
      clear ea
      have b1 : (q : Int) + 0 < xs.length := by omega
      have b0 : (0 : Int) ≤ (q : Int) + 0 := by omega
      have HS2 := Lib.hid hs2
      clear oi hst hs2 hk
      go_wp2
      go_roundw
      case rel => exact ⟨0 + 1, by omega, rfl, HS2.out, Bi.setCell hbx _⟩
      case measure => simp [intOf]
    · obtain ⟨ai, rfl, -, ⟨x, hcx⟩, hfx, hbx, hst⟩ := own_put oi (q + 1) (by omega)
      have hs2 := hst 0
      have ea : ai.add (q + 1) = ⟨ai.block, ai.off + (q + 1), none⟩ := by first | rfl | simp [Addr.add]
      rw [ea] at hcx hfx hbx hs2
      clear ea
      have b1 : (q : Int) + 1 < xs.length := by omega
      have b0 : (0 : Int) ≤ (q : Int) + 1 := by omega
      have HS2 := Lib.hid hs2
      clear oi hst hs2 hk
      go_wp2
      go_roundw
      case rel => exact ⟨1 + 1, by omega, rfl, HS2.out, Bi.setCell hbx _⟩
      case measure => simp [intOf]
    · obtain ⟨ai, rfl, -, ⟨x, hcx⟩, hfx, hbx, hst⟩ := own_put oi (q + 2) (by omega)
      have hs2 := hst 0
      have ea : ai.add (q + 2) = ⟨ai.block, ai.off + (q + 1 + 1), none⟩ := by first | rfl | simp [Addr.add]
      rw [ea] at hcx hfx hbx hs2
      clear ea
      have b1 : (q : Int) + 2 < xs.length := by omega
      have b0 : (0 : Int) ≤ (q : Int) + 2 := by omega
      have HS2 := Lib.hid hs2
      clear oi hst hs2 hk
      go_wp2
      go_roundw
      case rel => exact ⟨2 + 1, by omega, rfl, HS2.out, Bi.setCell hbx _⟩
      case measure => simp [intOf]
    · obtain ⟨ai, rfl, -, ⟨x, hcx⟩, hfx, hbx, hst⟩ := own_put oi (q + 3) (by omega)
      have hs2 := hst 0
      have ea : ai.add (q + 3) = ⟨ai.block, ai.off + (q + 1 + 1 + 1), none⟩ := by first | rfl | simp [Addr.add]
      rw [ea] at hcx hfx hbx hs2
      clear ea
      have b1 : (q : Int) + 3 < xs.length := by omega
      have b0 : (0 : Int) ≤ (q : Int) + 3 := by omega
      have HS2 := Lib.hid hs2
      clear oi hst hs2 hk
      go_wp2
      go_roundw
      case rel => exact ⟨3 + 1, by omega, rfl, HS2.out, Bi.setCell hbx _⟩
      case measure => simp [intOf]
    · rw [zN_zeroed hq] at oi
      have HL := zeroed_len hq
      have hR : RdB wr w.heap.size wr.heap.size B (zeroed xs q) := by
        obtain ⟨A', cc, e, h1, h2, h3, h4⟩ := SlB.of_own oi
        injection e with e1 _ _
        subst e1
        exact h4
      have C1 := rsum_calls _ _ B cb (zeroed xs q) wr hR (isb_zeroed hb q) (by omega)
      rw [HL] at C1
      clear HL hR
      go_wp2_with fail
      refine C1.mono ?_
      rintro e w1 ⟨rfl, rfl⟩
      clear C1
      have hs := crcS_rng (isb_zeroed hb q)
      have HS := Lib.hid (show sealW xs q = sealN (zeroed xs q) q (crcS (zeroed xs q)) 4 from (sealN_zeroed hq _).symm)
      generalize crcS (zeroed xs q) = s at hs HS ⊢
      go_wp2_with fail
      go_loopw [7, 8] (fun v i wi => ∃ k : Nat, k ≤ 4 ∧ i = .int .i64 k ∧ v = .int .u32 (s / 256 ^ k) ∧ OwnB wi w.heap.size 5 (.slice B xs.length cb) (sealN (zeroed xs q) q s k) ∧ Below w.heap.size w wi) (fun _ i _ => 4 - (intOf i).toNat)
      case atStart => exact ⟨0, Nat.zero_le _, rfl, by simp, oi, Bi⟩
      case round =>
        clear oi Bi
        obtain ⟨k, hk, rfl, rfl, oi, Bi⟩ := hrel
        rcases (show k = 0 ∨ k = 1 ∨ k = 2 ∨ k = 3 ∨ k = 4 by omega) with rfl | rfl | rfl | rfl | rfl
        · obtain ⟨ai, rfl, -, ⟨x, hcx⟩, hfx, hbx, hst⟩ := own_put oi (q) (by omega)
          have hs2 := hst (s / 256 ^ 0 % 256)
          have ea : ai.add (q) = ai.add q := by first | rfl | simp [Addr.add]
          rw [ea] at hcx hfx hbx hs2
          clear ea
          have b1 : (q : Int) + 0 < xs.length := by omega
          have b0 : (0 : Int) ≤ (q : Int) + 0 := by omega
          have HK := Lib.hid (show s / 256 ^ 0 % 256 = s % 256 from by (try simp) <;> omega)
          have hE : s / 256 ^ 0 = s := by (try simp) <;> omega
          have HE := Lib.hid (show s / 256 = s / 256 ^ (0 + 1) by (try simp) <;> omega)
          rw [HK.out] at hs2
          rw [hE]
          have HS2 := Lib.hid hs2
          clear oi hst hs2 hk hE
          go_wp2
          go_roundw
          case rel => exact ⟨0 + 1, by omega, rfl, by rw [← HE.out] <;> (first | rfl | (congr 1; omega)), by rw [sealN, HK.out]; exact HS2.out, Bi.setCell hbx _⟩
          case measure => simp [intOf]
        · obtain ⟨ai, rfl, -, ⟨x, hcx⟩, hfx, hbx, hst⟩ := own_put oi (q + 1) (by omega)
          have hs2 := hst (s / 256 ^ 1 % 256)
          have ea : ai.add (q + 1) = ⟨ai.block, ai.off + (q + 1), none⟩ := by first | rfl | simp [Addr.add]
          rw [ea] at hcx hfx hbx hs2
          clear ea
          have b1 : (q : Int) + 1 < xs.length := by omega
          have b0 : (0 : Int) ≤ (q : Int) + 1 := by omega
          have HK := Lib.hid (show s / 256 ^ 1 % 256 = s / 256 % 256 from by (try simp) <;> omega)
          have hE : s / 256 ^ 1 = s / 256 := by (try simp) <;> omega
          have HE := Lib.hid (show s / 65536 = s / 256 ^ (1 + 1) by (try simp) <;> omega)
          rw [HK.out] at hs2
          rw [hE]
          have HS2 := Lib.hid hs2
          clear oi hst hs2 hk hE
          go_wp2
          go_roundw
          case rel => exact ⟨1 + 1, by omega, rfl, by rw [← HE.out] <;> (first | rfl | (congr 1; omega)), by rw [sealN, HK.out]; exact HS2.out, Bi.setCell hbx _⟩
          case measure => simp [intOf]
        · obtain ⟨ai, rfl, -, ⟨x, hcx⟩, hfx, hbx, hst⟩ := own_put oi (q + 2) (by omega)
          have hs2 := hst (s / 256 ^ 2 % 256)
          have ea : ai.add (q + 2) = ⟨ai.block, ai.off + (q + 1 + 1), none⟩ := by first | rfl | simp [Addr.add]
          rw [ea] at hcx hfx hbx hs2
          clear ea
          have b1 : (q : Int) + 2 < xs.length := by omega
          have b0 : (0 : Int) ≤ (q : Int) + 2 := by omega
          have HK := Lib.hid (show s / 256 ^ 2 % 256 = s / 65536 % 256 from by (try simp) <;> omega)
          have hE : s / 256 ^ 2 = s / 65536 := by (try simp) <;> omega
          have HE := Lib.hid (show s / 16777216 = s / 256 ^ (2 + 1) by (try simp) <;> omega)
          rw [HK.out] at hs2
          rw [hE]
          have HS2 := Lib.hid hs2
          clear oi hst hs2 hk hE
          go_wp2
          go_roundw
          case rel => exact ⟨2 + 1, by omega, rfl, by rw [← HE.out] <;> (first | rfl | (congr 1; omega)), by rw [sealN, HK.out]; exact HS2.out, Bi.setCell hbx _⟩
          case measure => simp [intOf]
        · obtain ⟨ai, rfl, -, ⟨x, hcx⟩, hfx, hbx, hst⟩ := own_put oi (q + 3) (by omega)
          have hs2 := hst (s / 256 ^ 3 % 256)
          have ea : ai.add (q + 3) = ⟨ai.block, ai.off + (q + 1 + 1 + 1), none⟩ := by first | rfl | simp [Addr.add]
          rw [ea] at hcx hfx hbx hs2
          clear ea
          have b1 : (q : Int) + 3 < xs.length := by omega
          have b0 : (0 : Int) ≤ (q : Int) + 3 := by omega
          have HK := Lib.hid (show s / 256 ^ 3 % 256 = s / 16777216 from by (try simp) <;> omega)
          have hE : s / 256 ^ 3 = s / 16777216 := by (try simp) <;> omega
          have HE := Lib.hid (show s / 4294967296 = s / 256 ^ (3 + 1) by (try simp) <;> omega)
          rw [HK.out] at hs2
          rw [hE]
          have HS2 := Lib.hid hs2
          clear oi hst hs2 hk hE
          go_wp2
          go_roundw
          case rel => exact ⟨3 + 1, by omega, rfl, by rw [← HE.out] <;> (first | rfl | (congr 1; omega)), by rw [sealN, HK.out]; exact HS2.out, Bi.setCell hbx _⟩
          case measure => simp [intOf]
        · go_wp2
          go_ret
          exact ⟨B, cb, rfl, by rw [HS.out]; exact oi, Bi⟩
end Go.Proofs.Ytdapcjeofgimgaa.Crc
