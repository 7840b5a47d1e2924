/- Contracts of octet.Reader's numbers. Conditions: each names its blocks and the bounds. -/
import Derived.Test.YtnhkmapeleomkaaOcR
import Derived.Laws.BitsAllLaws
namespace Go.Proofs.Ytnhkmapeleomkaa.Octet
open Go.RowKit Go.Proofs.Ytnhkmapeleomkaa.Mem
set_option linter.unusedVariables false
set_option linter.unusedSimpArgs false

/-- A number of bytes, the greatest first, of 32 bits. -/
def num (xs : List Int) : Int := xs.foldl (fun v x => (v * 256 + x) % 4294967296) 0
theorem num_range (xs : List Int) : 0 ≤ num xs ∧ num xs < 4294967296 := by
  unfold num
  have : ∀ (l : List Int) (a : Int), 0 ≤ a → a < 4294967296 → 0 ≤ l.foldl (fun v x => (v * 256 + x) % 4294967296) a ∧ l.foldl (fun v x => (v * 256 + x) % 4294967296) a < 4294967296 := by
    intro l
    induction l with
    | nil => intro a h0 h1; exact ⟨h0, h1⟩
    | cons x l ih => intro a h0 h1; exact ih _ (by show 0 ≤ (a * 256 + x) % 4294967296; omega) (by show (a * 256 + x) % 4294967296 < 4294967296; omega)
  exact this xs 0 (by omega) (by omega)
theorem num_snoc (xs : List Int) (x : Int) : num (xs ++ [x]) = (num xs * 256 + x) % 4294967296 := by simp [num, List.foldl_append]
theorem num_take (xs : List Int) (k : Nat) (h : k < xs.length) : num (xs.take (k + 1)) = (num (xs.take k) * 256 + xs[k]) % 4294967296 := by
  rw [List.take_succ_eq_append_getElem h, num_snoc]

theorem or_byte (v x : Int) (v0 : 0 ≤ v) (x0 : 0 ≤ x) (x1 : x < 256) : bits .or .u32 (v * 256 % 4294967296) x = (v * 256 + x) % 4294967296 := by
  rw [u32_or _ _ (by omega) (by omega) x0 (by omega)]
  obtain ⟨q, hq⟩ : ∃ q : Nat, (v * 256 % 4294967296).toNat = 2 ^ 8 * q ∧ q < 16777216 := ⟨(v % 16777216).toNat, by omega, by omega⟩
  obtain ⟨m, hm, hm2⟩ : ∃ m : Nat, x.toNat = m ∧ m < 2 ^ 8 := ⟨x.toNat, rfl, by omega⟩
  rw [hq.1, hm, ← Nat.two_pow_add_eq_or_of_lt hm2]
  omega

theorem num_1 (xs : List Int) (h : xs.length ≤ 1) (hb : IsB xs) : num xs < 256 := by
  match xs, h with
  | [], _ => decide
  | [x], _ =>
    have hx := hb x (by simp)
    show (0 * 256 + x) % 4294967296 < 256
    omega
theorem num_2 (xs : List Int) (h : xs.length ≤ 2) (hb : IsB xs) : num xs < 65536 := by
  match xs, h with
  | [], _ => decide
  | [x], _ =>
    have hx := hb x (by simp)
    show (0 * 256 + x) % 4294967296 < 65536
    omega
  | [x, y], _ =>
    have hx := hb x (by simp)
    have hy := hb y (by simp)
    show (((0 * 256 + x) % 4294967296) * 256 + y) % 4294967296 < 65536
    omega
theorem isb_tk {bs : List Int} (h : IsB bs) (n : Int) : IsB (tk bs n) := by
  unfold tk
  split
  · intro x hx; simp at hx
  · exact fun x hx => h x (List.mem_of_mem_take hx)
theorem isb_lf {bs : List Int} (h : IsB bs) (n : Int) : IsB (lf bs n) := by
  unfold lf
  split
  · intro x hx; simp at hx
  · exact fun x hx => h x (List.mem_of_mem_drop hx)
theorem tk_len (bs : List Int) (n : Nat) : (tk bs n).length ≤ n := by
  unfold tk
  split
  · simp
  · simp; omega
end Go.Proofs.Ytnhkmapeleomkaa.Octet

