/- Contracts of octet.Reader's numbers. Conditions: each names its blocks and the bounds. -/
import Derived.Test.YtaifihoheieneaaOcR
import Derived.Laws.BitsAllLaws
namespace Go.Proofs.Ytaifihoheieneaa.Octet
open Go.RowKit Go.Proofs.Ytaifihoheieneaa.Mem
set_option linter.unusedVariables false
set_option linter.unusedSimpArgs false

/-- A number of bytes, the greatest first, of 32 bits. -/
def num (xs : List Int) : Int := xs.foldl (fun v x => (v * 256 + x) % 4294967296) 0
theorem num_range (xs : List Int) : 0 ≤ num xs ∧ num xs < 4294967296 := by
  unfold num
  have : ∀ (l : List Int) (a : Int), 0 ≤ a → a < 4294967296 → 0 ≤ l.foldl (fun v x => (v * 256 + x) % 4294967296) a ∧ l.foldl (fun v x => (v * 256 + x) % 4294967296) a < 4294967296 := by
    intro l
    induction l with
    | nil => intro a h0 h1; exact ⟨h0, h1⟩
    | cons x l ih => intro a h0 h1; exact ih _ (by show 0 ≤ (a * 256 + x) % 4294967296; omega) (by show (a * 256 + x) % 4294967296 < 4294967296; omega)
  exact this xs 0 (by omega) (by omega)
theorem num_snoc (xs : List Int) (x : Int) : num (xs ++ [x]) = (num xs * 256 + x) % 4294967296 := by simp [num, List.foldl_append]
theorem num_take (xs : List Int) (k : Nat) (h : k < xs.length) : num (xs.take (k + 1)) = (num (xs.take k) * 256 + xs[k]) % 4294967296 := by
  rw [List.take_succ_eq_append_getElem h, num_snoc]

theorem or_byte (v x : Int) (v0 : 0 ≤ v) (x0 : 0 ≤ x) (x1 : x < 256) : bits .or .u32 (v * 256 % 4294967296) x = (v * 256 + x) % 4294967296 := by
  rw [u32_or _ _ (by omega) (by omega) x0 (by omega)]
  obtain ⟨q, hq⟩ : ∃ q : Nat, (v * 256 % 4294967296).toNat = 2 ^ 8 * q ∧ q < 16777216 := ⟨(v % 16777216).toNat, by omega, by omega⟩
  obtain ⟨m, hm, hm2⟩ : ∃ m : Nat, x.toNat = m ∧ m < 2 ^ 8 := ⟨x.toNat, rfl, by omega⟩
  rw [hq.1, hm, ← Nat.two_pow_add_eq_or_of_lt hm2]
  omega

def NumP (w : World) (g lo hi : Nat) (bs : List Int) (bad : Bool) (n : Int) (e : Ending) (w' : World) : Prop :=
  e = .returned (.int .u32 (num (tk bs n))) ∧ Rdr w' g lo hi (lf bs n) (bd bs bad n) ∧ Fr (only g) w w'
set_option maxHeartbeats 1000000 in
theorem number_calls (g lo hi : Nat) (bs : List Int) (bad : Bool) (n : Int) (w : World) (h : Rdr w g lo hi bs bad) (hbs : IsB bs) (hg : g < w.heap.size) :
    Calls Try.prog 52 #[.pointer (some ⟨g, 0, none⟩), .int .i64 n] w (NumP w g lo hi bs bad n) := by
  go_enter Try.func52, Try.ntmps52
  go_wp2_with fail
  refine (take_calls g lo hi bs bad n w h).mono ?_
  rintro e w1 ⟨v, rfl, own, r, f⟩
  obtain ⟨A, cap, rfl, h1, h2, h3, h4⟩ := SlB.of_own own
  unfold maxLen at h2
  have hb : IsB (tk bs n) := by
    unfold tk
    split
    · intro x hx; simp at hx
    · exact fun x hx => hbs x (List.mem_of_mem_take hx)
  generalize hT : tk bs n = ts at h1 h2 h4 hb
  have HT := Lib.hid hT
  clear h3 own
  clear hT
  go_wp2
  go_loop [5, 12] (fun v i => ∃ k : Nat, k ≤ ts.length ∧ i = .int .i64 k ∧ v = .int .u32 (num (ts.take k))) (fun _ i => ts.length - (intOf i).toNat)
  case atStart => exact ⟨0, Nat.zero_le _, rfl, rfl⟩
  case round =>
    obtain ⟨k, hk, rfl, rfl⟩ := hrel
    by_cases hlt : k < ts.length
    · obtain ⟨ad, rfl, hc⟩ := h4.at_ k hlt
      have hx := hb ts[k] (List.getElem_mem hlt)
      have hv := num_range (ts.take k)
      have HS := Lib.hid (num_take ts k hlt)
      go_wp2
      go_round
      case rel => exact ⟨k + 1, by omega, by go_num, by rw [HS.out, or_byte _ _ hv.1 hx.1 hx.2]⟩
      case measure => simp [intOf]; omega
    · obtain rfl : k = ts.length := by omega
      go_wp2
      go_ret
      exact ⟨by rw [HT.out]; rfl, r, f⟩

theorem num_1 (xs : List Int) (h : xs.length ≤ 1) (hb : IsB xs) : num xs < 256 := by
  match xs, h with
  | [], _ => decide
  | [x], _ =>
    have hx := hb x (by simp)
    show (0 * 256 + x) % 4294967296 < 256
    omega
theorem num_2 (xs : List Int) (h : xs.length ≤ 2) (hb : IsB xs) : num xs < 65536 := by
  match xs, h with
  | [], _ => decide
  | [x], _ =>
    have hx := hb x (by simp)
    show (0 * 256 + x) % 4294967296 < 65536
    omega
  | [x, y], _ =>
    have hx := hb x (by simp)
    have hy := hb y (by simp)
    show (((0 * 256 + x) % 4294967296) * 256 + y) % 4294967296 < 65536
    omega
def Num1P (w : World) (g lo hi : Nat) (bs : List Int) (bad : Bool) (k : IntKind) (n : Int) (e : Ending) (w' : World) : Prop :=
  e = .returned (.int k (num (tk bs n))) ∧ Rdr w' g lo hi (lf bs n) (bd bs bad n) ∧ Fr (only g) w w'
theorem isb_tk {bs : List Int} (h : IsB bs) (n : Int) : IsB (tk bs n) := by
  unfold tk
  split
  · intro x hx; simp at hx
  · exact fun x hx => h x (List.mem_of_mem_take hx)
theorem isb_lf {bs : List Int} (h : IsB bs) (n : Int) : IsB (lf bs n) := by
  unfold lf
  split
  · intro x hx; simp at hx
  · exact fun x hx => h x (List.mem_of_mem_drop hx)
theorem tk_len (bs : List Int) (n : Nat) : (tk bs n).length ≤ n := by
  unfold tk
  split
  · simp
  · simp; omega
theorem u8_calls (g lo hi : Nat) (bs : List Int) (bad : Bool) (w : World) (h : Rdr w g lo hi bs bad) (hbs : IsB bs) (hg : g < w.heap.size) :
    Calls Try.prog 36 #[.pointer (some ⟨g, 0, none⟩)] w (Num1P w g lo hi bs bad .u8 1) := by
  have hr := num_range (tk bs 1)
  have hl2 := num_1 (tk bs 1) (tk_len bs 1) (isb_tk hbs 1)
  go_enter Try.func36, Try.ntmps36
  go_wp2_with fail
  refine (number_calls g lo hi bs bad 1 w h hbs hg).mono ?_
  rintro e w1 ⟨rfl, r, f⟩
  go_wp2
  go_ret
  exact ⟨by first | rfl | (congr 2; simp [IntKind.wrap, IntKind.bits, IntKind.signed]; omega), r, f⟩
theorem u16_calls (g lo hi : Nat) (bs : List Int) (bad : Bool) (w : World) (h : Rdr w g lo hi bs bad) (hbs : IsB bs) (hg : g < w.heap.size) :
    Calls Try.prog 37 #[.pointer (some ⟨g, 0, none⟩)] w (Num1P w g lo hi bs bad .u16 2) := by
  have hr := num_range (tk bs 2)
  have hl2 := num_2 (tk bs 2) (tk_len bs 2) (isb_tk hbs 2)
  go_enter Try.func37, Try.ntmps37
  go_wp2_with fail
  refine (number_calls g lo hi bs bad 2 w h hbs hg).mono ?_
  rintro e w1 ⟨rfl, r, f⟩
  go_wp2
  go_ret
  exact ⟨by first | rfl | (congr 2; simp [IntKind.wrap, IntKind.bits, IntKind.signed]; omega), r, f⟩
theorem u32_calls (g lo hi : Nat) (bs : List Int) (bad : Bool) (w : World) (h : Rdr w g lo hi bs bad) (hbs : IsB bs) (hg : g < w.heap.size) :
    Calls Try.prog 55 #[.pointer (some ⟨g, 0, none⟩)] w (Num1P w g lo hi bs bad .u32 4) := by
  go_enter Try.func55, Try.ntmps55
  go_wp2_with fail
  refine (number_calls g lo hi bs bad 4 w h hbs hg).mono ?_
  rintro e w1 ⟨rfl, r, f⟩
  go_wp2
  go_ret
  exact ⟨rfl, r, f⟩
end Go.Proofs.Ytaifihoheieneaa.Octet

