/- The contract of unicode/utf8.word of bytes; eight, sixteen, thirty-two bytes below 128. Conditions: eight bytes read. -/
import Derived.Test.YtdbndinnakkloaaDoorDcpUtf
import Derived.Test.YtdbndinnakkloaaDoorBstr
import Derived.Lib.ValidLaws
import Derived.Lib.EndianBits
import Derived.Lib.Endian
import Derived.Deep.DeepBigQuietO
import Derived.Deep.QuietTactic
import Derived.Laws.BitsAllLaws
namespace Go.Proofs.YtdbndinnakkloaaDoor.Dcp
open Go Go.RowKit Go.Lib Go.Shelf Go.Proofs Go.Proofs.YtdbndinnakkloaaDoor.Mem Go.Proofs.YtdbndinnakkloaaDoor.Octet
set_option linter.unusedVariables false
set_option linter.unusedSimpArgs false
/-- Whether bytes are a valid text. -/
def vl (xs : List Int) : Bool := Lib.validD (u8s xs)
theorem vl_bstr (xs : List Int) : vd (bstr xs) = vl xs := by unfold vd vl; rw [bstr_data]
/-- The number that eight bytes spell. -/
def wd (xs : List Int) : Nat := leNat (u8s (xs.take 8))
theorem wd_lt (xs : List Int) : wd xs < 18446744073709551616 := by
  have h := leNat_lt (u8s (xs.take 8))
  have h2 : (u8s (xs.take 8)).length ≤ 8 := by simp [u8s]; omega
  have h3 : 256 ^ (u8s (xs.take 8)).length ≤ 256 ^ 8 := Nat.pow_le_pow_right (by decide) h2
  unfold wd
  omega
theorem wd_asc {xs : List Int} (h : 8 ≤ xs.length) : wd xs &&& 9259542123273814144 = 0 ↔ ∀ b ∈ (u8s xs).take 8, b.toNat < 128 := by
  have h8 : (u8s (xs.take 8)).length = 8 := by simp [u8s]; omega
  have := leNat_mask (u8s (xs.take 8))
  rw [h8, maskN8] at this
  have e : u8s (xs.take 8) = (u8s xs).take 8 := by simp [u8s, List.map_take]
  unfold wd
  rw [this, e]
theorem asc_drop {l : List UInt8} {a b : Nat} (ha : ∀ x ∈ l.take a, x.toNat < 128) (hb : ∀ x ∈ (l.drop a).take b, x.toNat < 128) : ∀ x ∈ l.take (a + b), x.toNat < 128 := by
  rw [List.take_add]
  intro x hx
  rcases List.mem_append.1 hx with h | h
  · exact ha x h
  · exact hb x h
theorem u8s_drop (xs : List Int) (k : Nat) : u8s (xs.drop k) = (u8s xs).drop k := by simp [u8s, List.map_drop]
theorem vl_skip {xs : List Int} {k : Nat} (h : ∀ b ∈ (u8s xs).take k, b.toNat < 128) : vl (xs.drop k) = vl xs := by
  unfold vl
  rw [u8s_drop]
  exact (validD_ascii k _ h).symm
theorem vl_8 {xs : List Int} (h : 8 ≤ xs.length) (e : wd xs &&& 9259542123273814144 = 0) : vl (xs.drop 8) = vl xs := vl_skip ((wd_asc h).1 e)
theorem asc_16 {xs : List Int} (h : 16 ≤ xs.length) (e : (wd xs ||| wd (xs.drop 8)) &&& 9259542123273814144 = 0) : ∀ b ∈ (u8s xs).take 16, b.toNat < 128 := by
  obtain ⟨e1, e2⟩ := (or_mask _ _ _).1 e
  have a1 := (wd_asc (xs := xs) (by omega)).1 e1
  have a2 := (wd_asc (xs := xs.drop 8) (by simp; omega)).1 e2
  rw [u8s_drop] at a2
  exact asc_drop (a := 8) (b := 8) a1 a2
theorem vl_16 {xs : List Int} (h : 16 ≤ xs.length) (e : (wd xs ||| wd (xs.drop 8)) &&& 9259542123273814144 = 0) : vl (xs.drop 16) = vl xs := vl_skip (asc_16 h e)
theorem vl_32 {xs : List Int} (h : 32 ≤ xs.length) (e : ((wd xs ||| wd (xs.drop 8)) ||| (wd (xs.drop 16) ||| wd (xs.drop 24))) &&& 9259542123273814144 = 0) : vl (xs.drop 32) = vl xs := by
  obtain ⟨e1, e2⟩ := (or_mask _ _ _).1 e
  have a1 := asc_16 (by omega) e1
  have a2 := asc_16 (xs := xs.drop 16) (by simp; omega) (by rw [List.drop_drop]; exact e2)
  rw [u8s_drop] at a2
  exact vl_skip (asc_drop (a := 16) (b := 16) a1 a2)
set_option maxHeartbeats 8000000 in
set_option maxRecDepth 100000 in
theorem word_at (ad : Addr) (n c : Nat) (x0 x1 x2 x3 x4 x5 x6 x7 : Nat) (w : World) (hn : 8 ≤ n) (h0 : x0 < 256) (h1 : x1 < 256) (h2 : x2 < 256) (h3 : x3 < 256) (h4 : x4 < 256) (h5 : x5 < 256) (h6 : x6 < 256) (h7 : x7 < 256)
    (k0 : w.cell? ad = some (.int .u8 (x0 : Int))) (k1 : w.cell? ⟨ad.block, ad.off + 1, none⟩ = some (.int .u8 (x1 : Int))) (k2 : w.cell? ⟨ad.block, ad.off + 2, none⟩ = some (.int .u8 (x2 : Int))) (k3 : w.cell? ⟨ad.block, ad.off + 3, none⟩ = some (.int .u8 (x3 : Int))) (k4 : w.cell? ⟨ad.block, ad.off + 4, none⟩ = some (.int .u8 (x4 : Int))) (k5 : w.cell? ⟨ad.block, ad.off + 5, none⟩ = some (.int .u8 (x5 : Int))) (k6 : w.cell? ⟨ad.block, ad.off + 6, none⟩ = some (.int .u8 (x6 : Int))) (k7 : w.cell? ⟨ad.block, ad.off + 7, none⟩ = some (.int .u8 (x7 : Int))) :
    Calls Tryd.prog 39 #[.slice (some ad) n c] w fun e w' => e = .returned (.int .u64 ((x0 : Int) + (x1 : Int) * 256 + (x2 : Int) * 65536 + (x3 : Int) * 16777216 + (x4 : Int) * 4294967296 + (x5 : Int) * 1099511627776 + (x6 : Int) * 281474976710656 + (x7 : Int) * 72057594037927936)) ∧ ∃ q, w' = w.drewN q := by
  have q0 : (0 : Int) < (n : Int) := by omega
  have q1 : (1 : Int) < (n : Int) := by omega
  have q2 : (2 : Int) < (n : Int) := by omega
  have q3 : (3 : Int) < (n : Int) := by omega
  have q4 : (4 : Int) < (n : Int) := by omega
  have q5 : (5 : Int) < (n : Int) := by omega
  have q6 : (6 : Int) < (n : Int) := by omega
  have q7 : (7 : Int) < (n : Int) := by omega
  go_enter Tryd.func39, Tryd.ntmps39
  go_wp2
  go_quiet (fail)
  go_wp2
  go_ret
  refine ⟨?_, _, rfl⟩
  simp (disch := omega) only [u64_wrap_id, u64_or8, u64_or16, u64_or24, u64_or32, u64_or40, u64_or48, u64_or56]
  rfl
end Go.Proofs.YtdbndinnakkloaaDoor.Dcp
