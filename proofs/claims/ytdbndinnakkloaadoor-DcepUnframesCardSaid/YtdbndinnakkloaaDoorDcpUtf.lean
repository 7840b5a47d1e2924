/- Valid texts, by the reference's own steps; the contract of flumeref20.Valid. No conditions but the bound of a string. -/
import Derived.Test.YtdbndinnakkloaaDoorDcpBase
import Derived.Lib.TrimUEq
import Derived.Lib.ValidLaws
namespace Go.Proofs.YtdbndinnakkloaaDoor.Dcp
open Go Go.Lib Go.Proofs.YtdbndinnakkloaaDoor.Mem Go.Proofs.YtdbndinnakkloaaDoor.Octet
set_option linter.unusedVariables false
set_option linter.unusedSimpArgs false
/-- The byte at a place; whether the text from a place on is valid. -/
def bt (s : ByteArray) (i : Nat) : Nat := (s.data.toList.getD i 0).toNat
def vdi (s : ByteArray) (i : Nat) : Bool := Lib.validD (s.data.toList.drop i)
theorem bt_lt (s : ByteArray) (i : Nat) : bt s i < 256 := UInt8.toNat_lt _
theorem vdi_zero (s : ByteArray) : vdi s 0 = vd s := by simp [vdi, vd]
theorem vdi_end {s : ByteArray} {i : Nat} (h : s.size ≤ i) : vdi s i = true := by
  unfold vdi
  rw [List.drop_eq_nil_of_le (by simpa using h)]
  rfl
theorem vdi_step {s : ByteArray} {i : Nat} (h : i < s.size) : vdi s i = if (decodeN (s.size - i) (bt s i) (bt s (i + 1)) (bt s (i + 2)) (bt s (i + 3))).1 = 65533 ∧ (decodeN (s.size - i) (bt s i) (bt s (i + 1)) (bt s (i + 2)) (bt s (i + 3))).2 = 1 then false
    else vdi s (i + (decodeN (s.size - i) (bt s i) (bt s (i + 1)) (bt s (i + 2)) (bt s (i + 3))).2) := by
  have hl : (s.data.toList.drop i).length = s.size - i := by rw [List.length_drop]; rfl
  unfold vdi
  rw [validD_step _ (fun e => by rw [e] at hl; simp at hl; omega), List.drop_drop, decodeL_N, hl, getD_dropU, getD_dropU, getD_dropU, getD_dropU, Nat.add_zero]
  rfl
theorem vdi_ok {s : ByteArray} {i r k : Nat} (h : i < s.size) (e : decodeN (s.size - i) (bt s i) (bt s (i + 1)) (bt s (i + 2)) (bt s (i + 3)) = (r, k)) (hne : ¬ (r = 65533 ∧ k = 1)) : vdi s i = vdi s (i + k) := by
  rw [vdi_step h, e, if_neg hne]
theorem vdi_bad {s : ByteArray} {i : Nat} (h : i < s.size) (e : decodeN (s.size - i) (bt s i) (bt s (i + 1)) (bt s (i + 2)) (bt s (i + 3)) = (65533, 1)) : vdi s i = false := by
  rw [vdi_step h, e, if_pos ⟨rfl, rfl⟩]
theorem v_one {s : ByteArray} {i : Nat} (h : i < s.size) (hb : bt s i < 128) : vdi s i = vdi s (i + 1) :=
  vdi_ok h (r := bt s i) (k := 1) (by unfold decodeN; rw [if_pos hb]) (by omega)
theorem v_none {s : ByteArray} {i : Nat} (h : i < s.size) (h1 : 128 ≤ bt s i) (h2 : bt s i < 192 ∨ 248 ≤ bt s i) : vdi s i = false := by
  have := bt_lt s i
  refine vdi_bad h ?_
  unfold decodeN
  rw [if_neg (by omega), if_neg (by omega), if_neg (by omega), if_neg (by omega)]
theorem v_two {s : ByteArray} {i : Nat} (h : i < s.size) (hb : 192 ≤ bt s i ∧ bt s i < 224) :
    vdi s i = if 2 ≤ s.size - i ∧ bt s (i + 1) / 64 = 2 ∧ 128 ≤ 64 * (bt s i % 32) + bt s (i + 1) % 64 then vdi s (i + 2) else false := by
  by_cases hc : 2 ≤ s.size - i ∧ bt s (i + 1) / 64 = 2
  · by_cases hv : 128 ≤ 64 * (bt s i % 32) + bt s (i + 1) % 64
    · rw [if_pos ⟨hc.1, hc.2, hv⟩]
      refine vdi_ok h (r := bt s i % 32 * 64 + bt s (i + 1) % 64) ?_ (by omega)
      unfold decodeN
      rw [if_neg (by omega), if_pos ⟨by omega, by omega, hc.2⟩, if_pos (by omega)]
    · rw [if_neg (fun h => hv h.2.2)]
      refine vdi_bad h ?_
      unfold decodeN
      rw [if_neg (by omega), if_pos ⟨by omega, by omega, hc.2⟩, if_neg (by omega)]
  · rw [if_neg (fun h => hc ⟨h.1, h.2.1⟩)]
    refine vdi_bad h ?_
    unfold decodeN
    rw [if_neg (by omega), if_neg (fun h => hc ⟨by omega, h.2.2⟩), if_neg (by omega), if_neg (by omega)]
theorem v_three {s : ByteArray} {i : Nat} (h : i < s.size) (hb : 224 ≤ bt s i ∧ bt s i < 240) :
    vdi s i = if 3 ≤ s.size - i ∧ bt s (i + 1) / 64 = 2 ∧ bt s (i + 2) / 64 = 2 ∧ 2048 ≤ 64 * (64 * (bt s i % 16) + bt s (i + 1) % 64) + bt s (i + 2) % 64 ∧ (64 * (64 * (bt s i % 16) + bt s (i + 1) % 64) + bt s (i + 2) % 64) / 2048 ≠ 27 then vdi s (i + 3) else false := by
  generalize hc : 64 * (64 * (bt s i % 16) + bt s (i + 1) % 64) + bt s (i + 2) % 64 = c
  have hc' : bt s i % 16 * 4096 + bt s (i + 1) % 64 * 64 + bt s (i + 2) % 64 = c := by omega
  have hcb : c < 65536 := by omega
  by_cases hk : 3 ≤ s.size - i ∧ bt s (i + 1) / 64 = 2 ∧ bt s (i + 2) / 64 = 2
  · by_cases hv : 2048 ≤ c ∧ c / 2048 ≠ 27
    · rw [if_pos ⟨hk.1, hk.2.1, hk.2.2, hv⟩]
      refine vdi_ok h (r := c) ?_ (by omega)
      unfold decodeN
      rw [if_neg (by omega), if_neg (by omega), if_pos ⟨by omega, ⟨by omega, hk.2.1⟩, by omega, hk.2.2⟩, hc', if_pos (by omega)]
    · rw [if_neg (fun h => hv h.2.2.2)]
      refine vdi_bad h ?_
      unfold decodeN
      rw [if_neg (by omega), if_neg (by omega), if_pos ⟨by omega, ⟨by omega, hk.2.1⟩, by omega, hk.2.2⟩, hc', if_neg (by omega)]
  · rw [if_neg (fun h => hk ⟨h.1, h.2.1, h.2.2.1⟩)]
    refine vdi_bad h ?_
    unfold decodeN
    rw [if_neg (by omega), if_neg (by omega), if_neg (fun h => hk ⟨by omega, h.2.1.2, h.2.2.2⟩), if_neg (by omega)]
theorem v_four {s : ByteArray} {i : Nat} (h : i < s.size) (hb : 240 ≤ bt s i ∧ bt s i < 248) :
    vdi s i = if 4 ≤ s.size - i ∧ bt s (i + 1) / 64 = 2 ∧ bt s (i + 2) / 64 = 2 ∧ bt s (i + 3) / 64 = 2 ∧ 65536 ≤ 64 * (64 * (64 * (bt s i % 8) + bt s (i + 1) % 64) + bt s (i + 2) % 64) + bt s (i + 3) % 64 ∧ 64 * (64 * (64 * (bt s i % 8) + bt s (i + 1) % 64) + bt s (i + 2) % 64) + bt s (i + 3) % 64 ≤ 1114111 then vdi s (i + 4) else false := by
  generalize hc : 64 * (64 * (64 * (bt s i % 8) + bt s (i + 1) % 64) + bt s (i + 2) % 64) + bt s (i + 3) % 64 = c
  have hc' : bt s i % 8 * 262144 + bt s (i + 1) % 64 * 4096 + bt s (i + 2) % 64 * 64 + bt s (i + 3) % 64 = c := by omega
  by_cases hk : 4 ≤ s.size - i ∧ bt s (i + 1) / 64 = 2 ∧ bt s (i + 2) / 64 = 2 ∧ bt s (i + 3) / 64 = 2
  · by_cases hv : 65536 ≤ c ∧ c ≤ 1114111
    · rw [if_pos ⟨hk.1, hk.2.1, hk.2.2.1, hk.2.2.2, hv⟩]
      refine vdi_ok h (r := c) ?_ (by omega)
      unfold decodeN
      rw [if_neg (by omega), if_neg (by omega), if_neg (by omega), if_pos ⟨by omega, ⟨by omega, hk.2.1⟩, ⟨by omega, hk.2.2.1⟩, by omega, hk.2.2.2⟩, hc', if_pos (by omega)]
    · rw [if_neg (fun h => hv h.2.2.2.2)]
      refine vdi_bad h ?_
      unfold decodeN
      rw [if_neg (by omega), if_neg (by omega), if_neg (by omega), if_pos ⟨by omega, ⟨by omega, hk.2.1⟩, ⟨by omega, hk.2.2.1⟩, by omega, hk.2.2.2⟩, hc', if_neg (by omega)]
  · rw [if_neg (fun h => hk ⟨h.1, h.2.1, h.2.2.1, h.2.2.2.1⟩)]
    refine vdi_bad h ?_
    unfold decodeN
    rw [if_neg (by omega), if_neg (by omega), if_neg (by omega), if_neg (fun h => hk ⟨by omega, h.2.1.2, h.2.2.1.2, h.2.2.2.2⟩)]
theorem bt_get {s : ByteArray} {j : Nat} (h : j < s.size) : (s[j]'h).toNat = bt s j := by
  have h2 : j < s.data.size := h
  simp only [bt, List.getD, Array.getElem?_toList, Array.getElem?_eq_getElem h2, Option.getD_some]
  rfl
def acc (s : ByteArray) (j a : Nat) : Nat → Nat
  | 0 => a
  | k + 1 => 64 * acc s j a k + bt s (j + (k + 1)) % 64
theorem acc_lt (s : ByteArray) (j a : Nat) (ha : a < 32) : ∀ k, k ≤ 3 → acc s j a k < 16777216 := by
  intro k hk
  rcases (show k = 0 ∨ k = 1 ∨ k = 2 ∨ k = 3 by omega) with rfl | rfl | rfl | rfl <;> simp only [acc] <;> omega
/-- A first byte's class, uniformly. -/
structure VC (s : ByteArray) (j n a least : Nat) : Prop where
  short : ¬ n ≤ s.size - j → vdi s j = false
  cont : ∀ q, 1 ≤ q → q < n → bt s (j + q) / 64 ≠ 2 → vdi s j = false
  full : n ≤ s.size - j → (∀ q, 1 ≤ q → q < n → bt s (j + q) / 64 = 2) → vdi s j = if least ≤ acc s j a (n - 1) ∧ acc s j a (n - 1) ≤ 1114111 ∧ acc s j a (n - 1) / 2048 ≠ 27 then vdi s (j + n) else false
theorem vc_two {s : ByteArray} {j : Nat} (h : j < s.size) (hb : 192 ≤ bt s j ∧ bt s j < 224) : VC s j 2 (bt s j % 32) 128 := by
  refine ⟨fun h1 => ?_, fun q h1 h2 h3 => ?_, fun h1 h2 => ?_⟩
  · rw [v_two h hb, if_neg (fun h => h1 h.1)]
  · obtain rfl : q = 1 := by omega
    rw [v_two h hb, if_neg (fun h => h3 h.2.1)]
  · rw [v_two h hb]
    simp only [acc]
    by_cases hv : 128 ≤ 64 * (bt s j % 32) + bt s (j + 1) % 64
    · rw [if_pos ⟨h1, h2 1 (by omega) (by omega), hv⟩, if_pos ⟨hv, by omega, by omega⟩]
    · rw [if_neg (fun h => hv h.2.2), if_neg (fun h => hv h.1)]
theorem vc_three {s : ByteArray} {j : Nat} (h : j < s.size) (hb : 224 ≤ bt s j ∧ bt s j < 240) : VC s j 3 (bt s j % 16) 2048 := by
  refine ⟨fun h1 => ?_, fun q h1 h2 h3 => ?_, fun h1 h2 => ?_⟩
  · rw [v_three h hb, if_neg (fun h => h1 h.1)]
  · rcases (show q = 1 ∨ q = 2 by omega) with rfl | rfl
    · rw [v_three h hb, if_neg (fun h => h3 h.2.1)]
    · rw [v_three h hb, if_neg (fun h => h3 h.2.2.1)]
  · rw [v_three h hb]
    simp only [acc]
    by_cases hv : 2048 ≤ 64 * (64 * (bt s j % 16) + bt s (j + 1) % 64) + bt s (j + 2) % 64 ∧ (64 * (64 * (bt s j % 16) + bt s (j + 1) % 64) + bt s (j + 2) % 64) / 2048 ≠ 27
    · rw [if_pos ⟨h1, h2 1 (by omega) (by omega), h2 2 (by omega) (by omega), hv⟩, if_pos ⟨hv.1, by omega, hv.2⟩]
    · rw [if_neg (fun h => hv h.2.2.2), if_neg (fun h => hv ⟨h.1, h.2.2⟩)]
theorem vc_four {s : ByteArray} {j : Nat} (h : j < s.size) (hb : 240 ≤ bt s j ∧ bt s j < 248) : VC s j 4 (bt s j % 8) 65536 := by
  refine ⟨fun h1 => ?_, fun q h1 h2 h3 => ?_, fun h1 h2 => ?_⟩
  · rw [v_four h hb, if_neg (fun h => h1 h.1)]
  · rcases (show q = 1 ∨ q = 2 ∨ q = 3 by omega) with rfl | rfl | rfl
    · rw [v_four h hb, if_neg (fun h => h3 h.2.1)]
    · rw [v_four h hb, if_neg (fun h => h3 h.2.2.1)]
    · rw [v_four h hb, if_neg (fun h => h3 h.2.2.2.1)]
  · rw [v_four h hb]
    simp only [acc, Nat.zero_add, Nat.reduceAdd, Nat.reduceSub]
    by_cases hv : 65536 ≤ 64 * (64 * (64 * (bt s j % 8) + bt s (j + 1) % 64) + bt s (j + 2) % 64) + bt s (j + 3) % 64 ∧ 64 * (64 * (64 * (bt s j % 8) + bt s (j + 1) % 64) + bt s (j + 2) % 64) + bt s (j + 3) % 64 ≤ 1114111
    · rw [if_pos ⟨h1, h2 1 (by omega) (by omega), h2 2 (by omega) (by omega), h2 3 (by omega) (by omega), hv⟩, if_pos ⟨hv.1, hv.2, by omega⟩]
    · rw [if_neg (fun h => hv h.2.2.2.2), if_neg (fun h => hv ⟨h.1, h.2.1⟩)]
theorem wr64 (x : Int) (h : 0 ≤ x ∧ x < 9223372036854775808) : RowKit.wrap64 x = x := by unfold RowKit.wrap64; omega
set_option maxHeartbeats 4000000 in
set_option maxRecDepth 100000 in
theorem rvalid_calls (s : ByteArray) (w : World) (hs : s.size ≤ 9223372036854775000) : Calls Tryd.prog 27 #[.string s] w fun e w' => e = .returned (.bool (vd s)) ∧ w' = w := by
  obtain ⟨ans, hans⟩ : ∃ a, vdi s 0 = a := ⟨_, rfl⟩
  have HA := Lib.hid hans
  rw [← vdi_zero, hans]
  clear hans
  go_enter Tryd.func27, Tryd.ntmps27
  go_wp2_with fail
  go_loopw [3] (fun i wr => ∃ j : Nat, j ≤ s.size ∧ i = .int .i64 j ∧ RowKit.Hid (vdi s j = ans) ∧ wr = w) (fun i _ => s.size - (intOf i).toNat)
  case atStart => exact ⟨0, Nat.zero_le _, rfl, HA, rfl⟩
  case round =>
    clear HA
    obtain ⟨j, hj, rfl, HA, rfl⟩ := hrel
    by_cases hlt : j < s.size
    · have hjl : (j : Int) < s.size := by omega
      have hj0 : (0 : Int) ≤ j := by omega
      have hbl := bt_lt s j
      go_upto_region 4 with fail
      rw [bt_get hlt]
      obtain ⟨b0, hb0⟩ : ∃ b0, bt s j = b0 := ⟨_, rfl⟩
      have HB0 := Lib.hid hb0
      rw [hb0] at hbl ⊢
      clear hb0
      rw [show RowKit.wrap64 ((b0 : Nat) : Int) = b0 from wr64 _ (by omega)]
      by_cases h1 : b0 < 128
      · have d1 : decide ((b0 : Int) < 128) = true := decide_eq_true (by omega)
        have HN := Lib.hid (show vdi s (j + 1) = ans by rw [← v_one hlt (by rw [HB0.out]; exact h1)]; exact HA.out)
        clear h1 hbl
        go_wp2
        go_roundw
        case rel => exact ⟨j + 1, by omega, by go_num, HN, trivial⟩
        case measure => simp [intOf]; omega
      · have d1 : decide ((b0 : Int) < 128) = false := decide_eq_false (by omega)
        by_cases h2 : 192 ≤ b0
        · have d2 : decide ((192 : Int) ≤ b0) = true := decide_eq_true (by omega)
          by_cases h3 : b0 < 224
          · have d3 : decide ((b0 : Int) < 224) = true := decide_eq_true (by omega)
            have HV : RowKit.Hid (VC s j 2 (b0 % 32) 128) := Lib.hid (by have h := vc_two hlt (by rw [HB0.out]; omega); rw [HB0.out] at h; exact h)
            clear h1 h2 hbl
            go_upto_region 14 with fail
            rw [show ((b0 : Int) % 32) = ((b0 % 32 : Nat) : Int) from rfl]
            have ha0 : b0 % 32 < 32 := by omega
            have HAL := Lib.hid (acc_lt s j _ ha0)
            generalize b0 % 32 = a at *
            have HW := Lib.hid (show RowKit.wrap64 ((s.size : Int) - (j : Int)) = ((s.size - j : Nat) : Int) by rw [wr64 _ (by omega)]; omega)
            by_cases hsh : 2 ≤ s.size - j
            · have d9 : decide ((s.size : Int) - (j : Int) < 2) = false := decide_eq_false (by omega)
              go_upto_region 16 with fail
              clear d9
              go_wp2_with fail
              go_loopw [4, 7] (fun b k wz => ∃ kk : Nat, kk + 1 ≤ 2 ∧ k = .int .i64 ((kk + 1 : Nat) : Int) ∧ b = .int .i64 ((acc s j a kk : Nat) : Int) ∧ RowKit.Hid (∀ q, 1 ≤ q → q ≤ kk → bt s (j + q) / 64 = 2) ∧ wz = wr) (fun _ k _ => 2 - (intOf k).toNat)
              case atStart => exact ⟨0, by omega, rfl, rfl, Lib.hid (fun q h1 h2 => by omega), rfl⟩
              case round =>
                obtain ⟨kk, hkk, rfl, rfl, HQ, rfl⟩ := hrel
                have hA := HAL.out kk (by omega)
                by_cases hlast : kk + 1 < 2
                · have hidx : j + (kk + 1) < s.size := by omega
                  have hkl : ((kk + 1 : Nat) : Int) < 2 := by omega
                  have HWI := Lib.hid (show RowKit.wrap64 ((j : Int) + ((kk + 1 : Nat) : Int)) = ((j + (kk + 1) : Nat) : Int) by rw [wr64 _ (by omega)]; omega)
                  have HACC := Lib.hid (show acc s j a (kk + 1) = 64 * acc s j a kk + bt s (j + (kk + 1)) % 64 from rfl)
                  have hbq := bt_lt s (j + (kk + 1))
                  generalize acc s j a kk = A at *
                  go_upto_region 19 with fail
                  have hwi := HWI.out
                  go_upto_region 20 with fail
                  clear hwi HWI
                  rw [bt_get hidx]
                  rw [show RowKit.wrap64 ((bt s (j + (kk + 1)) : Nat) : Int) = (bt s (j + (kk + 1)) : Nat) from wr64 _ (by omega)]
                  by_cases hc : bt s (j + (kk + 1)) / 64 = 2
                  · have HQ2 := Lib.hid (show ∀ q, 1 ≤ q → q ≤ kk + 1 → bt s (j + q) / 64 = 2 from fun q h1 h2 => by
                      by_cases h3 : q = kk + 1
                      · rw [h3]; exact hc
                      · exact HQ.out q h1 (by omega))
                    generalize bt s (j + (kk + 1)) = c at *
                    have dc : ((c : Int) / 64 != 2) = false := by simp; omega
                    have hwc : RowKit.wrap64 ((c : Int) / 64) = (c : Int) / 64 := wr64 _ (by omega)
                    go_upto_region 22 with fail
                    clear dc hwc hc
                    go_wp2
                    go_roundw
                    case rel => exact ⟨kk + 1, by omega, by go_num, by rw [HACC.out]; exact congrArg (Value.int .i64) (by omega), HQ2, trivial⟩
                    case measure => simp [intOf]; omega
                  · have HN := Lib.hid (show ans = false by rw [← HA.out]; exact HV.out.cont (kk + 1) (by omega) hlast hc)
                    generalize bt s (j + (kk + 1)) = c at *
                    have dc : ((c : Int) / 64 != 2) = true := by simp; omega
                    have hwc : RowKit.wrap64 ((c : Int) / 64) = (c : Int) / 64 := wr64 _ (by omega)
                    clear hc
                    go_wp2
                    go_ret
                    exact ⟨by rw [HN.out]; rfl, rfl⟩
                · have hkl : ¬ ((kk + 1 : Nat) : Int) < 2 := by omega
                  have HF := Lib.hid (show vdi s j = if 128 ≤ acc s j a kk ∧ acc s j a kk ≤ 1114111 ∧ acc s j a kk / 2048 ≠ 27 then vdi s (j + 2) else false by
                    have h := HV.out.full hsh (fun q h1 h2 => HQ.out q h1 (by omega))
                    rw [show 2 - 1 = kk by omega] at h
                    exact h)
                  generalize acc s j a kk = A at *
                  clear hlast
                  obtain ⟨X, hX⟩ : ∃ X : Int, (A : Int) = X := ⟨_, rfl⟩
                  rw [hX]
                  have HX := Lib.hid hX
                  have HAB := Lib.hid hA
                  clear hX hA HV HAL HQ
                  by_cases g1 : A < 128
                  · have e1 : decide (X < 128) = true := decide_eq_true (by have := HX.out; omega)
                    have HN := Lib.hid (show ans = false by rw [← HA.out, HF.out, if_neg (fun h => by omega)])
                    clear g1 HF HX HAB
                    go_wp2
                    go_ret
                    exact ⟨by rw [HN.out]; rfl, rfl⟩
                  · have e1 : decide (X < 128) = false := decide_eq_false (by have := HX.out; omega)
                    by_cases g2 : 1114111 < A
                    · have e2 : decide ((1114111 : Int) < X) = true := decide_eq_true (by have := HX.out; omega)
                      have HN := Lib.hid (show ans = false by rw [← HA.out, HF.out, if_neg (fun h => by omega)])
                      clear g1 g2 HF HX HAB
                      go_wp2
                      go_ret
                      exact ⟨by rw [HN.out]; rfl, rfl⟩
                    · have e2 : decide ((1114111 : Int) < X) = false := decide_eq_false (by have := HX.out; omega)
                      have X0 : 0 ≤ X := by have := HX.out; omega
                      have X1 : X < 16777216 := by have := HX.out; have := HAB.out; omega
                      have hq1 : X.tdiv 2048 = X / 2048 := Int.tdiv_eq_ediv_of_nonneg X0
                      have hq2 : RowKit.wrap64 (X / 2048) = X / 2048 := wr64 _ (by omega)
                      by_cases g3 : A / 2048 = 27
                      · have e3 : (X / 2048 == 27) = true := by have := HX.out; simp; omega
                        have HN := Lib.hid (show ans = false by rw [← HA.out, HF.out, if_neg (fun h => h.2.2 g3)])
                        clear g1 g2 g3 HF HX HAB X1
                        go_wp2
                        go_ret
                        exact ⟨by rw [HN.out]; rfl, rfl⟩
                      · have e3 : (X / 2048 == 27) = false := by have := HX.out; simp; omega
                        have HN := Lib.hid (show vdi s (j + 2) = ans by rw [← HA.out, HF.out, if_pos ⟨by omega, by omega, g3⟩])
                        clear g1 g2 g3 HF HX HAB X1
                        go_upto_region 25 with fail
                        clear e3 e2 e1 hq1 hq2
                        go_wp2
                        go_roundw
                        case rel => exact ⟨j + 2, by omega, by go_num, HN, trivial⟩
                        case measure => simp [intOf]; omega
            · have d9 : decide ((s.size : Int) - (j : Int) < 2) = true := decide_eq_true (by omega)
              have HN := Lib.hid (show ans = false by rw [← HA.out]; exact HV.out.short hsh)
              clear hsh
              go_wp2
              go_ret
              exact ⟨by rw [HN.out]; rfl, rfl⟩
          · have d3 : decide ((b0 : Int) < 224) = false := decide_eq_false (by omega)
            have d4 : decide ((224 : Int) ≤ b0) = true := decide_eq_true (by omega)
            by_cases h4 : b0 < 240
            · have d5 : decide ((b0 : Int) < 240) = true := decide_eq_true (by omega)
              have HV : RowKit.Hid (VC s j 3 (b0 % 16) 2048) := Lib.hid (by have h := vc_three hlt (by rw [HB0.out]; omega); rw [HB0.out] at h; exact h)
              clear h1 h2 hbl
              go_upto_region 14 with fail
              rw [show ((b0 : Int) % 16) = ((b0 % 16 : Nat) : Int) from rfl]
              have ha0 : b0 % 16 < 32 := by omega
              have HAL := Lib.hid (acc_lt s j _ ha0)
              generalize b0 % 16 = a at *
              have HW := Lib.hid (show RowKit.wrap64 ((s.size : Int) - (j : Int)) = ((s.size - j : Nat) : Int) by rw [wr64 _ (by omega)]; omega)
              by_cases hsh : 3 ≤ s.size - j
              · have d9 : decide ((s.size : Int) - (j : Int) < 3) = false := decide_eq_false (by omega)
                go_upto_region 16 with fail
                clear d9
                go_wp2_with fail
                go_loopw [4, 7] (fun b k wz => ∃ kk : Nat, kk + 1 ≤ 3 ∧ k = .int .i64 ((kk + 1 : Nat) : Int) ∧ b = .int .i64 ((acc s j a kk : Nat) : Int) ∧ RowKit.Hid (∀ q, 1 ≤ q → q ≤ kk → bt s (j + q) / 64 = 2) ∧ wz = wr) (fun _ k _ => 3 - (intOf k).toNat)
                case atStart => exact ⟨0, by omega, rfl, rfl, Lib.hid (fun q h1 h2 => by omega), rfl⟩
                case round =>
                  obtain ⟨kk, hkk, rfl, rfl, HQ, rfl⟩ := hrel
                  have hA := HAL.out kk (by omega)
                  by_cases hlast : kk + 1 < 3
                  · have hidx : j + (kk + 1) < s.size := by omega
                    have hkl : ((kk + 1 : Nat) : Int) < 3 := by omega
                    have HWI := Lib.hid (show RowKit.wrap64 ((j : Int) + ((kk + 1 : Nat) : Int)) = ((j + (kk + 1) : Nat) : Int) by rw [wr64 _ (by omega)]; omega)
                    have HACC := Lib.hid (show acc s j a (kk + 1) = 64 * acc s j a kk + bt s (j + (kk + 1)) % 64 from rfl)
                    have hbq := bt_lt s (j + (kk + 1))
                    generalize acc s j a kk = A at *
                    go_upto_region 19 with fail
                    have hwi := HWI.out
                    go_upto_region 20 with fail
                    clear hwi HWI
                    rw [bt_get hidx]
                    rw [show RowKit.wrap64 ((bt s (j + (kk + 1)) : Nat) : Int) = (bt s (j + (kk + 1)) : Nat) from wr64 _ (by omega)]
                    by_cases hc : bt s (j + (kk + 1)) / 64 = 2
                    · have HQ2 := Lib.hid (show ∀ q, 1 ≤ q → q ≤ kk + 1 → bt s (j + q) / 64 = 2 from fun q h1 h2 => by
                        by_cases h3 : q = kk + 1
                        · rw [h3]; exact hc
                        · exact HQ.out q h1 (by omega))
                      generalize bt s (j + (kk + 1)) = c at *
                      have dc : ((c : Int) / 64 != 2) = false := by simp; omega
                      have hwc : RowKit.wrap64 ((c : Int) / 64) = (c : Int) / 64 := wr64 _ (by omega)
                      go_upto_region 22 with fail
                      clear dc hwc hc
                      go_wp2
                      go_roundw
                      case rel => exact ⟨kk + 1, by omega, by go_num, by rw [HACC.out]; exact congrArg (Value.int .i64) (by omega), HQ2, trivial⟩
                      case measure => simp [intOf]; omega
                    · have HN := Lib.hid (show ans = false by rw [← HA.out]; exact HV.out.cont (kk + 1) (by omega) hlast hc)
                      generalize bt s (j + (kk + 1)) = c at *
                      have dc : ((c : Int) / 64 != 2) = true := by simp; omega
                      have hwc : RowKit.wrap64 ((c : Int) / 64) = (c : Int) / 64 := wr64 _ (by omega)
                      clear hc
                      go_wp2
                      go_ret
                      exact ⟨by rw [HN.out]; rfl, rfl⟩
                  · have hkl : ¬ ((kk + 1 : Nat) : Int) < 3 := by omega
                    have HF := Lib.hid (show vdi s j = if 2048 ≤ acc s j a kk ∧ acc s j a kk ≤ 1114111 ∧ acc s j a kk / 2048 ≠ 27 then vdi s (j + 3) else false by
                      have h := HV.out.full hsh (fun q h1 h2 => HQ.out q h1 (by omega))
                      rw [show 3 - 1 = kk by omega] at h
                      exact h)
                    generalize acc s j a kk = A at *
                    clear hlast
                    obtain ⟨X, hX⟩ : ∃ X : Int, (A : Int) = X := ⟨_, rfl⟩
                    rw [hX]
                    have HX := Lib.hid hX
                    have HAB := Lib.hid hA
                    clear hX hA HV HAL HQ
                    by_cases g1 : A < 2048
                    · have e1 : decide (X < 2048) = true := decide_eq_true (by have := HX.out; omega)
                      have HN := Lib.hid (show ans = false by rw [← HA.out, HF.out, if_neg (fun h => by omega)])
                      clear g1 HF HX HAB
                      go_wp2
                      go_ret
                      exact ⟨by rw [HN.out]; rfl, rfl⟩
                    · have e1 : decide (X < 2048) = false := decide_eq_false (by have := HX.out; omega)
                      by_cases g2 : 1114111 < A
                      · have e2 : decide ((1114111 : Int) < X) = true := decide_eq_true (by have := HX.out; omega)
                        have HN := Lib.hid (show ans = false by rw [← HA.out, HF.out, if_neg (fun h => by omega)])
                        clear g1 g2 HF HX HAB
                        go_wp2
                        go_ret
                        exact ⟨by rw [HN.out]; rfl, rfl⟩
                      · have e2 : decide ((1114111 : Int) < X) = false := decide_eq_false (by have := HX.out; omega)
                        have X0 : 0 ≤ X := by have := HX.out; omega
                        have X1 : X < 16777216 := by have := HX.out; have := HAB.out; omega
                        have hq1 : X.tdiv 2048 = X / 2048 := Int.tdiv_eq_ediv_of_nonneg X0
                        have hq2 : RowKit.wrap64 (X / 2048) = X / 2048 := wr64 _ (by omega)
                        by_cases g3 : A / 2048 = 27
                        · have e3 : (X / 2048 == 27) = true := by have := HX.out; simp; omega
                          have HN := Lib.hid (show ans = false by rw [← HA.out, HF.out, if_neg (fun h => h.2.2 g3)])
                          clear g1 g2 g3 HF HX HAB X1
                          go_wp2
                          go_ret
                          exact ⟨by rw [HN.out]; rfl, rfl⟩
                        · have e3 : (X / 2048 == 27) = false := by have := HX.out; simp; omega
                          have HN := Lib.hid (show vdi s (j + 3) = ans by rw [← HA.out, HF.out, if_pos ⟨by omega, by omega, g3⟩])
                          clear g1 g2 g3 HF HX HAB X1
                          go_upto_region 25 with fail
                          clear e3 e2 e1 hq1 hq2
                          go_wp2
                          go_roundw
                          case rel => exact ⟨j + 3, by omega, by go_num, HN, trivial⟩
                          case measure => simp [intOf]; omega
              · have d9 : decide ((s.size : Int) - (j : Int) < 3) = true := decide_eq_true (by omega)
                have HN := Lib.hid (show ans = false by rw [← HA.out]; exact HV.out.short hsh)
                clear hsh
                go_wp2
                go_ret
                exact ⟨by rw [HN.out]; rfl, rfl⟩
            · have d5 : decide ((b0 : Int) < 240) = false := decide_eq_false (by omega)
              have d6 : decide ((240 : Int) ≤ b0) = true := decide_eq_true (by omega)
              by_cases h5 : b0 < 248
              · have d7 : decide ((b0 : Int) < 248) = true := decide_eq_true (by omega)
                have HV : RowKit.Hid (VC s j 4 (b0 % 8) 65536) := Lib.hid (by have h := vc_four hlt (by rw [HB0.out]; omega); rw [HB0.out] at h; exact h)
                clear h1 h2 hbl
                go_upto_region 14 with fail
                rw [show ((b0 : Int) % 8) = ((b0 % 8 : Nat) : Int) from rfl]
                have ha0 : b0 % 8 < 32 := by omega
                have HAL := Lib.hid (acc_lt s j _ ha0)
                generalize b0 % 8 = a at *
                have HW := Lib.hid (show RowKit.wrap64 ((s.size : Int) - (j : Int)) = ((s.size - j : Nat) : Int) by rw [wr64 _ (by omega)]; omega)
                by_cases hsh : 4 ≤ s.size - j
                · have d9 : decide ((s.size : Int) - (j : Int) < 4) = false := decide_eq_false (by omega)
                  go_upto_region 16 with fail
                  clear d9
                  go_wp2_with fail
                  go_loopw [4, 7] (fun b k wz => ∃ kk : Nat, kk + 1 ≤ 4 ∧ k = .int .i64 ((kk + 1 : Nat) : Int) ∧ b = .int .i64 ((acc s j a kk : Nat) : Int) ∧ RowKit.Hid (∀ q, 1 ≤ q → q ≤ kk → bt s (j + q) / 64 = 2) ∧ wz = wr) (fun _ k _ => 4 - (intOf k).toNat)
                  case atStart => exact ⟨0, by omega, rfl, rfl, Lib.hid (fun q h1 h2 => by omega), rfl⟩
                  case round =>
                    obtain ⟨kk, hkk, rfl, rfl, HQ, rfl⟩ := hrel
                    have hA := HAL.out kk (by omega)
                    by_cases hlast : kk + 1 < 4
                    · have hidx : j + (kk + 1) < s.size := by omega
                      have hkl : ((kk + 1 : Nat) : Int) < 4 := by omega
                      have HWI := Lib.hid (show RowKit.wrap64 ((j : Int) + ((kk + 1 : Nat) : Int)) = ((j + (kk + 1) : Nat) : Int) by rw [wr64 _ (by omega)]; omega)
                      have HACC := Lib.hid (show acc s j a (kk + 1) = 64 * acc s j a kk + bt s (j + (kk + 1)) % 64 from rfl)
                      have hbq := bt_lt s (j + (kk + 1))
                      generalize acc s j a kk = A at *
                      go_upto_region 19 with fail
                      have hwi := HWI.out
                      go_upto_region 20 with fail
                      clear hwi HWI
                      rw [bt_get hidx]
                      rw [show RowKit.wrap64 ((bt s (j + (kk + 1)) : Nat) : Int) = (bt s (j + (kk + 1)) : Nat) from wr64 _ (by omega)]
                      by_cases hc : bt s (j + (kk + 1)) / 64 = 2
                      · have HQ2 := Lib.hid (show ∀ q, 1 ≤ q → q ≤ kk + 1 → bt s (j + q) / 64 = 2 from fun q h1 h2 => by
                          by_cases h3 : q = kk + 1
                          · rw [h3]; exact hc
                          · exact HQ.out q h1 (by omega))
                        generalize bt s (j + (kk + 1)) = c at *
                        have dc : ((c : Int) / 64 != 2) = false := by simp; omega
                        have hwc : RowKit.wrap64 ((c : Int) / 64) = (c : Int) / 64 := wr64 _ (by omega)
                        go_upto_region 22 with fail
                        clear dc hwc hc
                        go_wp2
                        go_roundw
                        case rel => exact ⟨kk + 1, by omega, by go_num, by rw [HACC.out]; exact congrArg (Value.int .i64) (by omega), HQ2, trivial⟩
                        case measure => simp [intOf]; omega
                      · have HN := Lib.hid (show ans = false by rw [← HA.out]; exact HV.out.cont (kk + 1) (by omega) hlast hc)
                        generalize bt s (j + (kk + 1)) = c at *
                        have dc : ((c : Int) / 64 != 2) = true := by simp; omega
                        have hwc : RowKit.wrap64 ((c : Int) / 64) = (c : Int) / 64 := wr64 _ (by omega)
                        clear hc
                        go_wp2
                        go_ret
                        exact ⟨by rw [HN.out]; rfl, rfl⟩
                    · have hkl : ¬ ((kk + 1 : Nat) : Int) < 4 := by omega
                      have HF := Lib.hid (show vdi s j = if 65536 ≤ acc s j a kk ∧ acc s j a kk ≤ 1114111 ∧ acc s j a kk / 2048 ≠ 27 then vdi s (j + 4) else false by
                        have h := HV.out.full hsh (fun q h1 h2 => HQ.out q h1 (by omega))
                        rw [show 4 - 1 = kk by omega] at h
                        exact h)
                      generalize acc s j a kk = A at *
                      clear hlast
                      obtain ⟨X, hX⟩ : ∃ X : Int, (A : Int) = X := ⟨_, rfl⟩
                      rw [hX]
                      have HX := Lib.hid hX
                      have HAB := Lib.hid hA
                      clear hX hA HV HAL HQ
                      by_cases g1 : A < 65536
                      · have e1 : decide (X < 65536) = true := decide_eq_true (by have := HX.out; omega)
                        have HN := Lib.hid (show ans = false by rw [← HA.out, HF.out, if_neg (fun h => by omega)])
                        clear g1 HF HX HAB
                        go_wp2
                        go_ret
                        exact ⟨by rw [HN.out]; rfl, rfl⟩
                      · have e1 : decide (X < 65536) = false := decide_eq_false (by have := HX.out; omega)
                        by_cases g2 : 1114111 < A
                        · have e2 : decide ((1114111 : Int) < X) = true := decide_eq_true (by have := HX.out; omega)
                          have HN := Lib.hid (show ans = false by rw [← HA.out, HF.out, if_neg (fun h => by omega)])
                          clear g1 g2 HF HX HAB
                          go_wp2
                          go_ret
                          exact ⟨by rw [HN.out]; rfl, rfl⟩
                        · have e2 : decide ((1114111 : Int) < X) = false := decide_eq_false (by have := HX.out; omega)
                          have X0 : 0 ≤ X := by have := HX.out; omega
                          have X1 : X < 16777216 := by have := HX.out; have := HAB.out; omega
                          have hq1 : X.tdiv 2048 = X / 2048 := Int.tdiv_eq_ediv_of_nonneg X0
                          have hq2 : RowKit.wrap64 (X / 2048) = X / 2048 := wr64 _ (by omega)
                          by_cases g3 : A / 2048 = 27
                          · have e3 : (X / 2048 == 27) = true := by have := HX.out; simp; omega
                            have HN := Lib.hid (show ans = false by rw [← HA.out, HF.out, if_neg (fun h => h.2.2 g3)])
                            clear g1 g2 g3 HF HX HAB X1
                            go_wp2
                            go_ret
                            exact ⟨by rw [HN.out]; rfl, rfl⟩
                          · have e3 : (X / 2048 == 27) = false := by have := HX.out; simp; omega
                            have HN := Lib.hid (show vdi s (j + 4) = ans by rw [← HA.out, HF.out, if_pos ⟨by omega, by omega, g3⟩])
                            clear g1 g2 g3 HF HX HAB X1
                            go_upto_region 25 with fail
                            clear e3 e2 e1 hq1 hq2
                            go_wp2
                            go_roundw
                            case rel => exact ⟨j + 4, by omega, by go_num, HN, trivial⟩
                            case measure => simp [intOf]; omega
                · have d9 : decide ((s.size : Int) - (j : Int) < 4) = true := decide_eq_true (by omega)
                  have HN := Lib.hid (show ans = false by rw [← HA.out]; exact HV.out.short hsh)
                  clear hsh
                  go_wp2
                  go_ret
                  exact ⟨by rw [HN.out]; rfl, rfl⟩
              · have d7 : decide ((b0 : Int) < 248) = false := decide_eq_false (by omega)
                have HN := Lib.hid (show ans = false by rw [← HA.out]; exact v_none hlt (by rw [HB0.out]; omega) (by rw [HB0.out]; omega))
                clear h1 h2 h3 h4 h5 hbl
                go_wp2
                go_ret
                exact ⟨by rw [HN.out]; rfl, rfl⟩
        · have d2 : decide ((192 : Int) ≤ b0) = false := decide_eq_false (by omega)
          have d3 : decide ((224 : Int) ≤ b0) = false := decide_eq_false (by omega)
          have d4 : decide ((240 : Int) ≤ b0) = false := decide_eq_false (by omega)
          have HN := Lib.hid (show ans = false by rw [← HA.out]; exact v_none hlt (by rw [HB0.out]; omega) (by rw [HB0.out]; omega))
          clear h1 h2 hbl
          go_wp2
          go_ret
          exact ⟨by rw [HN.out]; rfl, rfl⟩
    · have hjl : ¬ (j : Int) < s.size := by omega
      have HT := Lib.hid (show ans = true by rw [← HA.out]; exact vdi_end (by omega))
      clear hlt
      go_wp2
      go_ret
      exact ⟨by rw [HT.out]; rfl, rfl⟩
end Go.Proofs.YtdbndinnakkloaaDoor.Dcp
