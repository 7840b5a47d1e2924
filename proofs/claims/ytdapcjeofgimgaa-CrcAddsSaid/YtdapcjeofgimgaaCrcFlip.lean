/- Bits turned in a sealed packet. Plain facts on lists of bytes. -/
import Derived.Test.YtdapcjeofgimgaaCrcRef
namespace Go.Proofs.Ytdapcjeofgimgaa.Crc
open Go.RowKit Go.Proofs.Ytdapcjeofgimgaa.Mem Go.Proofs.Ytdapcjeofgimgaa.Octet
set_option linter.unusedVariables false
set_option linter.unusedSimpArgs false
/-- Bytes, so many bits of a number turned from a place on. -/
def flp (xs : List Int) (k t : Nat) : Nat → List Int
  | 0 => xs
  | i + 1 => if t / 2 ^ i % 2 = 1 then (flp xs k t i).set ((k + i) / 8) ((((flp xs k t i).getD ((k + i) / 8) 0).toNat ^^^ 2 ^ ((k + i) % 8) : Nat) : Int) else flp xs k t i
theorem flp_len (xs : List Int) (k t i : Nat) : (flp xs k t i).length = xs.length := by
  induction i with
  | zero => rfl
  | succ i ih => rw [flp]; split <;> simp [ih]
theorem xor_byte {x e : Nat} (hx : x < 256) (he : e < 8) : x ^^^ 2 ^ e < 256 := by
  refine Nat.xor_lt_two_pow (n := 8) hx ?_
  exact Nat.pow_lt_pow_right (by decide) he
theorem isb_getD {xs : List Int} (h : IsB xs) (i : Nat) : 0 ≤ xs.getD i 0 ∧ xs.getD i 0 < 256 := by
  by_cases hi : i < xs.length
  · have := h _ (List.getElem_mem hi); simpa [hi] using this
  · simp [Nat.not_lt.1 hi]
theorem flp_isb {xs : List Int} (h : IsB xs) (k t i : Nat) : IsB (flp xs k t i) := by
  induction i with
  | zero => exact h
  | succ i ih =>
    rw [flp]
    split
    · intro x hx
      rcases List.mem_or_eq_of_mem_set hx with hx | rfl
      · exact ih x hx
      · have h1 := isb_getD ih ((k + i) / 8)
        have := xor_byte (x := ((flp xs k t i).getD ((k + i) / 8) 0).toNat) (e := (k + i) % 8) (by omega) (by omega)
        omega
    · exact ih
theorem bitf_eq (xs : List Int) (b : Nat) (hb : b < 8 * xs.length) : bitf xs b = (xs[b / 8]'(by omega)).toNat / 2 ^ (b % 8) % 2 := by
  unfold bitf
  simp [show b / 8 < xs.length by omega]
theorem tb (x i : Nat) : x / 2 ^ i % 2 = (x.testBit i).toNat := by
  rw [Nat.testBit_eq_decide_div_mod_eq]
  rcases Nat.mod_two_eq_zero_or_one (x / 2 ^ i) with h | h <;> simp [h]
theorem bitf_set {xs : List Int} {p : Nat} (hp : p < 8 * xs.length) (b : Nat) :
    bitf (xs.set (p / 8) (((xs.getD (p / 8) 0).toNat ^^^ 2 ^ (p % 8) : Nat) : Int)) b = if b = p then bitf xs b ^^^ 1 else bitf xs b := by
  unfold bitf
  by_cases h : b / 8 = p / 8
  · rw [h]
    have e : (xs.set (p / 8) (((xs.getD (p / 8) 0).toNat ^^^ 2 ^ (p % 8) : Nat) : Int)).getD (p / 8) 0 = (((xs.getD (p / 8) 0).toNat ^^^ 2 ^ (p % 8) : Nat) : Int) := by
      simp [show p / 8 < xs.length by omega]
    rw [e, Int.toNat_natCast]
    generalize (xs.getD (p / 8) 0).toNat = x
    rw [tb, tb, Nat.testBit_xor, Nat.testBit_two_pow]
    by_cases h2 : b = p
    · subst h2
      cases x.testBit (b % 8) <;> simp
    · have : ¬ p % 8 = b % 8 := by omega
      simp [this, h2]
  · have e : ∀ v, (xs.set (p / 8) v).getD (b / 8) 0 = xs.getD (b / 8) 0 := by
      intro v
      simp [List.getD, List.getElem?_set, show ¬ p / 8 = b / 8 by omega]
    rw [e, if_neg (by rintro rfl; exact h rfl)]
theorem flp_bit (xs : List Int) (k t i : Nat) (hi : k + i ≤ 8 * xs.length) (b : Nat) :
    bitf (flp xs k t i) b = bitf xs b ^^^ (if k ≤ b ∧ b < k + i then t / 2 ^ (b - k) % 2 else 0) := by
  induction i with
  | zero => rw [if_neg (by omega), Nat.xor_zero]; rfl
  | succ i ih =>
    have ih := ih (by omega)
    rw [flp]
    split
    · rename_i ht
      rw [bitf_set (by rw [flp_len]; omega)]
      by_cases hb : b = k + i
      · subst hb
        rw [if_pos rfl, ih, if_neg (by omega), if_pos ⟨by omega, by omega⟩, Nat.xor_zero, show k + i - k = i by omega, ht]
      · rw [if_neg hb, ih]
        congr 1
        by_cases h : k ≤ b ∧ b < k + i
        · rw [if_pos h, if_pos ⟨h.1, by omega⟩]
        · rw [if_neg h, if_neg (by omega)]
    · rename_i ht
      rw [ih]
      congr 1
      by_cases hb : b = k + i
      · subst hb
        rw [if_neg (by omega), if_pos ⟨by omega, by omega⟩, show k + i - k = i by omega]
        have := Nat.mod_lt (t / 2 ^ i) (show 0 < 2 by decide)
        omega
      · by_cases h : k ≤ b ∧ b < k + i
        · rw [if_pos h, if_pos ⟨h.1, by omega⟩]
        · rw [if_neg h, if_neg (by omega)]
theorem byte_eq {xs ys : List Int} (hx : IsB xs) (hy : IsB ys) (hl : ys.length = xs.length) (j : Nat) (hj : j < xs.length) (h : ∀ e, e < 8 → bitf xs (8 * j + e) = bitf ys (8 * j + e)) : ys[j]? = xs[j]? := by
  have h1 := hx _ (List.getElem_mem hj)
  have h2 := hy _ (List.getElem_mem (show j < ys.length by omega))
  rw [List.getElem?_eq_getElem hj, List.getElem?_eq_getElem (show j < ys.length by omega)]
  congr 1
  suffices xs[j].toNat = (ys[j]'(by omega)).toNat by omega
  have hh : ∀ e, e < 8 → xs[j].toNat / 2 ^ e % 2 = (ys[j]'(by omega)).toNat / 2 ^ e % 2 := fun e he => by
    have := h e he
    rw [bitf_eq _ _ (by omega), bitf_eq _ _ (by omega)] at this
    simpa [show (8 * j + e) / 8 = j by omega, show (8 * j + e) % 8 = e by omega] using this
  generalize xs[j] = x at *
  generalize (ys[j]'(by omega)) = y at *
  apply Nat.eq_of_testBit_eq
  intro i
  by_cases hi : i < 8
  · have g := hh i hi
    rw [tb, tb] at g
    cases h1 : x.toNat.testBit i <;> cases h2 : y.toNat.testBit i <;> simp_all
  · have z : ∀ v : Nat, v < 256 → v.testBit i = false := fun v hv => Nat.testBit_lt_two_pow (Nat.lt_of_lt_of_le (show v < 2 ^ 8 by omega) (Nat.pow_le_pow_right (by decide) (by omega)))
    rw [z _ (by omega), z _ (by omega)]
theorem zeroed_bit {xs : List Int} {q : Nat} (hq : q + 4 ≤ xs.length) (b : Nat) (hb : b < 8 * xs.length) : bitf (zeroed xs q) b = if 8 * q ≤ b ∧ b < 8 * q + 32 then 0 else bitf xs b := by
  have h := zeroed_get hq (b / 8) (by omega)
  unfold bitf
  rw [List.getD_eq_getElem?_getD, h, List.getD_eq_getElem?_getD]
  by_cases hc : 8 * q ≤ b ∧ b < 8 * q + 32
  · rw [if_pos hc, if_pos (by omega)]; simp
  · rw [if_neg hc, if_neg (by omega)]
theorem crcS_of {xs ys : List Int} (hx : IsB xs) (hy : IsB ys) (h : crcS xs = crcS ys) : crcR 4294967295 xs = crcR 4294967295 ys := by
  have h1 := crcR_lt (r := 4294967295) (by decide) hx
  have h2 := crcR_lt (r := 4294967295) (by decide) hy
  unfold crcS at h
  omega
/-- A sealed packet with bits turned, none of them in its seal, is sealed no more. -/
theorem flp_tells {xs : List Int} {q k t : Nat} (hb : IsB xs) (hq : q + 4 ≤ xs.length) (hk : k + 32 ≤ 8 * xs.length) (ht : t < 4294967296) (h0 : t ≠ 0) (hs : sealW xs q = xs)
    (hout : k + 31 < 8 * q ∨ 8 * q + 32 ≤ k) : sealW (flp xs k t 32) q ≠ flp xs k t 32 := by
  intro hz
  have hl := flp_len xs k t 32
  have hi := flp_isb hb k t 32
  have hbit := flp_bit xs k t 32 hk
  generalize flp xs k t 32 = zs at *
  have hq2 : q + 4 ≤ zs.length := by omega
  have eqb : ∀ m, m < 4 → zs[q + m]? = xs[q + m]? := fun m hm => byte_eq hb hi hl (q + m) (by omega) (fun e he => by
    rw [hbit, if_neg (by omega), Nat.xor_zero])
  have g1 : ∀ m, m < 4 → xs[q + m]? = some (crcS (zeroed xs q) / 256 ^ m % 256) := fun m hm => by
    have := sealN_get xs q (crcS (zeroed xs q)) 4 (q + m) (by omega)
    rw [if_pos (by omega), show q + m - q = m by omega] at this
    rw [← this]
    exact congrArg (fun l : List Int => l[q + m]?) hs.symm
  have g2 : ∀ m, m < 4 → zs[q + m]? = some (crcS (zeroed zs q) / 256 ^ m % 256) := fun m hm => by
    have := sealN_get zs q (crcS (zeroed zs q)) 4 (q + m) (by omega)
    rw [if_pos (by omega), show q + m - q = m by omega] at this
    rw [← this]
    exact congrArg (fun l : List Int => l[q + m]?) hz.symm
  have e : ∀ m, m < 4 → crcS (zeroed xs q) / 256 ^ m % 256 = crcS (zeroed zs q) / 256 ^ m % 256 := fun m hm => by
    have := eqb m hm
    rw [g1 m hm, g2 m hm] at this
    injection this with this
    exact this.symm
  have r1 := crcS_rng (isb_zeroed hb q)
  have r2 := crcS_rng (isb_zeroed hi q)
  have hS : crcS (zeroed xs q) = crcS (zeroed zs q) := by
    have e0 := e 0 (by decide)
    have e1 := e 1 (by decide)
    have e2 := e 2 (by decide)
    have e3 := e 3 (by decide)
    generalize crcS (zeroed xs q) = A at *
    generalize crcS (zeroed zs q) = B at *
    simp at e0 e1 e2 e3
    omega
  have hR := crcS_of (isb_zeroed hb q) (isb_zeroed hi q) hS
  rw [crcR_all _ (isb_zeroed hb q), crcR_all _ (isb_zeroed hi q), zeroed_len hq, zeroed_len hq2, hl] at hR
  refine burst (bitf (zeroed xs q)) (bitf (zeroed zs q)) 4294967295 k t (8 * xs.length) (by decide) ht h0 hk (bitf_lt _) (bitf_lt _) (fun i hi => ?_) (fun i hi ho => ?_) hR
  · rw [zeroed_bit hq _ (by omega), zeroed_bit hq2 _ (by omega), if_neg (by omega), if_neg (by omega), hbit, if_pos (by omega), show k + i - k = i by omega]
  · rw [zeroed_bit hq _ (by omega), zeroed_bit hq2 _ (by omega)]
    split
    · rfl
    · rw [hbit, if_neg (by omega), Nat.xor_zero]
end Go.Proofs.Ytdapcjeofgimgaa.Crc
