/- Registers bit by bit; what turned bits do to a sum. Plain facts on numbers and lists. -/
import Derived.Test.YtdapcjeofgimgaaCrcSeal
namespace Go.Proofs.Ytdapcjeofgimgaa.Crc
open Go.RowKit Go.Proofs.Ytdapcjeofgimgaa.Mem Go.Proofs.Ytdapcjeofgimgaa.Octet
set_option linter.unusedVariables false
set_option linter.unusedSimpArgs false
/-- A register behind so many bits. -/
def bitN (f : Nat → Nat) (r : Nat) : Nat → Nat
  | 0 => r
  | i + 1 => st1 (bitN f r i ^^^ f i)
/-- Bit number i of bytes. -/
def bitf (xs : List Int) (i : Nat) : Nat := (xs.getD (i / 8) 0).toNat / 2 ^ (i % 8) % 2
theorem bitf_lt (xs : List Int) (i : Nat) : bitf xs i < 2 := Nat.mod_lt _ (by decide)
theorem st1_zero {x : Nat} (hx : x < 4294967296) (h : st1 x = 0) : x = 0 := by
  unfold st1 at h
  split at h
  · rename_i h1
    exfalso
    have h2 : x / 2 = 2197175160 := by
      have h3 := congrArg (· ^^^ 2197175160) h
      simp only [Nat.xor_assoc, Nat.xor_self, Nat.xor_zero, Nat.zero_xor] at h3
      exact h3
    omega
  · omega
theorem it_zero {x : Nat} (hx : x < 4294967296) : ∀ k, it k x = 0 → x = 0
  | 0, h => h
  | k + 1, h => it_zero hx k (st1_zero (it_lt hx k) h)
theorem it_nil (k : Nat) : it k 0 = 0 := by induction k with | zero => rfl | succ k ih => simp only [it, ih]; rfl
theorem bitN_lt (f : Nat → Nat) (hf : ∀ i, f i < 2) {r : Nat} (hr : r < 4294967296) (n : Nat) : bitN f r n < 4294967296 := by
  induction n with
  | zero => exact hr
  | succ n ih => exact st1_lt (xor_lt ih (by have := hf n; omega))
theorem bitN_lin (f g : Nat → Nat) (r s n : Nat) : bitN (fun i => f i ^^^ g i) (r ^^^ s) n = bitN f r n ^^^ bitN g s n := by
  induction n with
  | zero => rfl
  | succ n ih =>
    simp only [bitN, ih]
    rw [← st1_lin]
    congr 1
    rw [Nat.xor_assoc, Nat.xor_assoc, xor_lc (bitN g s n) (f n)]
theorem bitN_congr (f g : Nat → Nat) (r n : Nat) (h : ∀ i, i < n → f i = g i) : bitN f r n = bitN g r n := by
  induction n with
  | zero => rfl
  | succ n ih => simp only [bitN]; rw [ih (fun i hi => h i (by omega)), h n (by omega)]
theorem bitN_none (f : Nat → Nat) (r a n : Nat) (h : ∀ i, a ≤ i → i < a + n → f i = 0) : bitN f r (a + n) = it n (bitN f r a) := by
  induction n with
  | zero => rfl
  | succ n ih =>
    rw [← Nat.add_assoc, bitN, ih (fun i h1 h2 => h i h1 (by omega)), h (a + n) (by omega) (by omega), Nat.xor_zero]
    rfl
/-- A number of m bits, bit by bit: the register is the number's, shifted, over the rest. -/
theorem bitN_num (f : Nat → Nat) (r a t m : Nat) (h : ∀ i, i < m → f (a + i) = t / 2 ^ i % 2) : bitN f r (a + m) ^^^ (t / 2 ^ m) = it m (bitN f r a ^^^ t) := by
  induction m with
  | zero => simp [it]
  | succ m ih =>
    have ih := ih (fun i hi => h i (by omega))
    rw [it, ← ih, ← Nat.add_assoc, bitN, h m (by omega)]
    have e : t / 2 ^ m = (t / 2 ^ m % 2) ^^^ (2 * (t / 2 ^ (m + 1))) := by
      have e1 : t / 2 ^ (m + 1) = t / 2 ^ m / 2 := by rw [Nat.pow_succ, Nat.div_div_eq_div_mul]
      rw [e1]
      generalize t / 2 ^ m = u
      apply Nat.eq_of_testBit_eq
      intro i
      rw [Nat.testBit_xor]
      cases i with
      | zero => simp [Nat.testBit_zero]
      | succ i =>
        rw [show u % 2 = u % 2 ^ 1 from rfl, Nat.testBit_mod_two_pow, show 2 * (u / 2) = 2 ^ 1 * (u / 2) from rfl, Nat.testBit_two_pow_mul]
        simp [Nat.testBit_succ]
    have s2 : st1 (2 * (t / 2 ^ (m + 1))) = t / 2 ^ (m + 1) := by
      unfold st1
      rw [if_neg (by omega)]
      omega
    have e2 : bitN f r (a + m) ^^^ (t / 2 ^ m) = (bitN f r (a + m) ^^^ (t / 2 ^ m % 2)) ^^^ (2 * (t / 2 ^ (m + 1))) := by
      rw [Nat.xor_assoc]
      exact congrArg _ e
    rw [e2, st1_lin _ (2 * _), s2]
/-- A sum, bit by bit. -/
theorem crcR_bits (xs : List Int) (hb : IsB xs) (r : Nat) (j : Nat) (hj : j ≤ xs.length) : crcR r (xs.take j) = bitN (bitf xs) r (8 * j) := by
  induction j with
  | zero => rfl
  | succ j ih =>
    have hj' : j < xs.length := by omega
    rw [crcR_take r xs j hj', ih (by omega)]
    have hx := hb _ (List.getElem_mem hj')
    have := bitN_num (bitf xs) r (8 * j) xs[j].toNat 8 (fun i hi => by
      unfold bitf
      rw [show (8 * j + i) / 8 = j by omega, show (8 * j + i) % 8 = i by omega]
      simp [hj'])
    rw [show xs[j].toNat / 2 ^ 8 = 0 by omega, Nat.xor_zero] at this
    rw [show 8 * (j + 1) = 8 * j + 8 by omega, this]
    rfl
theorem crcR_all (xs : List Int) (hb : IsB xs) (r : Nat) : crcR r xs = bitN (bitf xs) r (8 * xs.length) := by
  have := crcR_bits xs hb r xs.length (Nat.le_refl _)
  rwa [List.take_length] at this
/-- Bits turned, up to 32 in a row: another register. -/
theorem burst (f g : Nat → Nat) (r k t n : Nat) (hr : r < 4294967296) (ht : t < 4294967296) (h0 : t ≠ 0) (hk : k + 32 ≤ n) (hf : ∀ i, f i < 2) (hg : ∀ i, g i < 2)
    (hin : ∀ i, i < 32 → g (k + i) = f (k + i) ^^^ (t / 2 ^ i % 2)) (hout : ∀ i, i < n → (i < k ∨ k + 32 ≤ i) → g i = f i) : bitN f r n ≠ bitN g r n := by
  intro h
  have lin := bitN_lin f g r r n
  rw [h, Nat.xor_self, Nat.xor_self] at lin
  have z : ∀ i, i < n → (i < k ∨ k + 32 ≤ i) → f i ^^^ g i = 0 := fun i h1 h2 => by rw [hout i h1 h2, Nat.xor_self]
  have hd : bitN (fun i => f i ^^^ g i) 0 k = 0 := by
    have := bitN_none (fun i => f i ^^^ g i) 0 0 k (fun i _ hi => z i (by omega) (.inl (by omega)))
    rw [Nat.zero_add] at this
    rw [this]
    exact it_nil k
  have hm := bitN_num (fun i => f i ^^^ g i) 0 k t 32 (fun i hi => by
    show f (k + i) ^^^ g (k + i) = _
    rw [hin i hi, ← Nat.xor_assoc, Nat.xor_self, Nat.zero_xor])
  rw [hd, Nat.zero_xor, show t / 2 ^ 32 = 0 by omega, Nat.xor_zero] at hm
  have ht2 := bitN_none (fun i => f i ^^^ g i) 0 (k + 32) (n - (k + 32)) (fun i h1 h2 => z i (by omega) (.inr h1))
  rw [show k + 32 + (n - (k + 32)) = n by omega, lin, hm] at ht2
  exact h0 (it_zero ht 32 (it_zero (it_lt ht 32) _ ht2.symm))
end Go.Proofs.Ytdapcjeofgimgaa.Crc
