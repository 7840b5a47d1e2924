/- crc.Seal and crc.Sealed of a packet that fits. Conditions: each names its blocks and the bounds. -/
import Derived.Test.YtnhkmapeleomkaaCrcSum
namespace Go.Proofs.Ytnhkmapeleomkaa.Crc
open Go.RowKit Go.Proofs.Ytnhkmapeleomkaa.Mem Go.Proofs.Ytnhkmapeleomkaa.Octet
set_option linter.unusedVariables false
set_option linter.unusedSimpArgs false
/-- A cell of a row of its own, and the row behind a store, exactly. -/
theorem own_put {w : World} {m : Nat} {A : Option Addr} {n cap : Nat} {bs : List Int} (h : OwnB w m 5 (.slice A n cap) bs) (k : Nat) (hk : k < n) :
    ∃ ad, A = some ad ∧ (∀ g, (ad.add k).block = g → (Value.slice A n cap).ownBlock = some g) ∧ (∃ x, w.cell? (ad.add k) = some (.int .u8 x)) ∧ w.frozen? (ad.add k) = false ∧ m ≤ (ad.add k).block ∧
      ∀ x, OwnB (w.setCell (ad.add k) (.int .u8 x)) m 5 (.slice A n cap) (bs.set k x) := by
  rcases h.2 with ⟨e, h1⟩ | ⟨g, cap', cur, e, hb, hg, hn, hm, hs, ht⟩
  · injection e with e1 e2 e3; omega
  · injection e with e1 e2 e3
    subst e1; subst e2; subst e3
    have ea : (⟨g, 0, none⟩ : Addr).add k = ⟨g, k, none⟩ := by
      by_cases h : k = 0
      · subst h; rfl
      · simp [Addr.add, h]
    have h' : w.ownsRow m 5 1 (.slice (some ⟨g, 0, none⟩) bs.length cap) bs.length (byts bs) := h
    have hc : w.cell? ⟨g, k, none⟩ = some (.int .u8 (bs[k]'(by omega))) := by rw [h'.cellAt k (by omega)]; simp [byts, hk]
    refine ⟨_, rfl, by rw [ea]; rintro g' rfl; rfl, ⟨bs[k]'(by omega), by rw [ea, hc]⟩, by rw [ea]; exact h'.frozenAt k, by rw [ea]; exact hb, fun x => ?_⟩
    rw [ea]
    have s := (h'.stored k (.int .u8 x)).1
    unfold OwnB
    rw [List.length_set]
    simpa [byts, List.map_set] using s
/-- A packet with the bytes of a number at a place, the least first; so many of them. -/
def sealN (xs : List Int) (q : Nat) (s : Int) : Nat → List Int
  | 0 => xs
  | k + 1 => (sealN xs q s k).set (q + k) (s / 256 ^ k % 256)
theorem sealN_len (xs : List Int) (q : Nat) (s : Int) (k : Nat) : (sealN xs q s k).length = xs.length := by induction k with | zero => rfl | succ k ih => simp [sealN, ih]
def sealW (xs : List Int) (q : Nat) : List Int := sealN xs q (crcS (zeroed xs q)) 4
theorem crcS_rng {xs : List Int} (h : IsB xs) : 0 ≤ crcS xs ∧ crcS xs < 4294967296 := by
  have := crcR_lt (r := 4294967295) (by decide) h
  unfold crcS; omega
theorem isb_zeroed {xs : List Int} (h : IsB xs) (q : Nat) : IsB (zeroed xs q) := by
  intro x hx
  unfold zeroed at hx
  simp only [List.mem_append, List.mem_cons, List.not_mem_nil, or_false] at hx
  rcases hx with hx | (hx | hx | hx | hx) | hx
  · exact h x (List.mem_of_mem_take hx)
  · omega
  · omega
  · omega
  · omega
  · exact h x (List.mem_of_mem_drop hx)
set_option maxHeartbeats 2000000 in
theorem seal_calls (lo hi : Nat) (A : Option Addr) (c : Nat) (xs : List Int) (q : Nat) (w : World) (h : SlB w lo hi (.slice A xs.length c) xs) (hxl : xs.length ≤ 140737488355328) (hcm : c ≤ 9223372036854775807) (hb : IsB xs) (hq : q + 4 ≤ xs.length) :
    Calls Try.prog 23 #[.slice A xs.length c, .int .i64 q] w fun e w' => ∃ B c', e = .returned (.tuple #[.slice B xs.length c', .bool true]) ∧ OwnB w' w.heap.size 5 (.slice B xs.length c') (sealW xs q) ∧ Below w.heap.size w w' := by
  have hf : fitsAt xs.length q = true := by simp [fitsAt]; omega
  go_enter Try.func23, Try.ntmps23
  go_wp2_with fail
  refine (fits_calls A xs.length c q w (by omega)).mono ?_
  rintro e w1 ⟨he, rfl⟩
  rw [hf] at he
  subst he
  go_wp2_with fail
  refine (clone_calls lo hi _ xs _ h hxl).mono ?_
  rintro e w2 ⟨v', rfl, o2, B2⟩
  obtain ⟨B, c', rfl, hc', -⟩ := OwnB.slice o2
  have hr : RdB w2 lo hi A xs ∧ xs.length ≤ c := by
    obtain ⟨A', cc, e, h1, h2, h3, h4⟩ := SlB.fr h (Fr.of_below (S := nothing) B2) (fun _ _ _ h => h)
    injection e with e1 e2 e3
    subst e1; subst e3
    exact ⟨h4, h1⟩
  go_wp2_with fail
  refine (psum_calls lo hi A c xs q w2 hr.1 hr.2 hcm hb hq).mono ?_
  rintro e w3 ⟨rfl, B3⟩
  have o3 := OwnB.fr o2 (Fr.of_below (S := nothing) B3) (fun _ _ h => h)
  have B4 := Bl.trans B2 (Bl.low B3 B2.size)
  have hs := crcS_rng (isb_zeroed hb q)
  have HS := Lib.hid (show sealW xs q = sealN xs q (crcS (zeroed xs q)) 4 from rfl)
  generalize crcS (zeroed xs q) = s at hs HS ⊢
  clear hr o2 B2 B3 hf
  go_wp2_with fail
  go_loopw [18] (fun i wi => ∃ k : Nat, k ≤ 4 ∧ i = .int .i64 k ∧ OwnB wi w1.heap.size 5 (.slice B xs.length c') (sealN xs q s k) ∧ Below w1.heap.size w1 wi) (fun i _ => 4 - (intOf i).toNat)
  case atStart => exact ⟨0, Nat.zero_le _, rfl, o3, B4⟩
  case round =>
    clear o3 B4
    obtain ⟨k, hk, rfl, oi, Bi⟩ := hrel
    rcases (show k = 0 ∨ k = 1 ∨ k = 2 ∨ k = 3 ∨ k = 4 by omega) with rfl | rfl | rfl | rfl | rfl
    · obtain ⟨ai, rfl, -, ⟨x, hcx⟩, hfx, hbx, hst⟩ := own_put oi (q) (by omega)
      have hs2 := hst (s / 256 ^ 0 % 256)
      have ea : ai.add (q) = ai.add q := by first | rfl | simp [Addr.add]
      rw [ea] at hcx hfx hbx hs2
      clear ea
      have b1 : (q : Int) + 0 < xs.length := by omega
      have b0 : (0 : Int) ≤ (q : Int) + 0 := by omega
      have ht : ((q : Int) + 0).toNat = q := by omega
      have HK := Lib.hid (show s / 256 ^ 0 % 256 = s % 256 from by (try simp) <;> omega)
      rw [HK.out] at hs2
      have HS2 := Lib.hid hs2
      clear oi hst hs2 hk
      go_wp2
      go_roundw
      case rel => exact ⟨0 + 1, by omega, rfl, by rw [sealN, HK.out]; exact HS2.out, Bi.setCell hbx _⟩
      case measure => simp [intOf]
    · obtain ⟨ai, rfl, -, ⟨x, hcx⟩, hfx, hbx, hst⟩ := own_put oi (q + 1) (by omega)
      have hs2 := hst (s / 256 ^ 1 % 256)
      have ea : ai.add (q + 1) = ⟨ai.block, ai.off + (q + 1), none⟩ := by first | rfl | simp [Addr.add]
      rw [ea] at hcx hfx hbx hs2
      clear ea
      have b1 : (q : Int) + 1 < xs.length := by omega
      have b0 : (0 : Int) ≤ (q : Int) + 1 := by omega
      have ht : ((q : Int) + 1).toNat = q + 1 := by omega
      have HK := Lib.hid (show s / 256 ^ 1 % 256 = s / 256 % 256 from by (try simp) <;> omega)
      rw [HK.out] at hs2
      have HS2 := Lib.hid hs2
      clear oi hst hs2 hk
      go_wp2
      go_roundw
      case rel => exact ⟨1 + 1, by omega, rfl, by rw [sealN, HK.out]; exact HS2.out, Bi.setCell hbx _⟩
      case measure => simp [intOf]
    · obtain ⟨ai, rfl, -, ⟨x, hcx⟩, hfx, hbx, hst⟩ := own_put oi (q + 2) (by omega)
      have hs2 := hst (s / 256 ^ 2 % 256)
      have ea : ai.add (q + 2) = ⟨ai.block, ai.off + (q + 1 + 1), none⟩ := by first | rfl | simp [Addr.add]
      rw [ea] at hcx hfx hbx hs2
      clear ea
      have b1 : (q : Int) + 2 < xs.length := by omega
      have b0 : (0 : Int) ≤ (q : Int) + 2 := by omega
      have ht : ((q : Int) + 2).toNat = q + 2 := by omega
      have HK := Lib.hid (show s / 256 ^ 2 % 256 = s / 65536 % 256 from by (try simp) <;> omega)
      rw [HK.out] at hs2
      have HS2 := Lib.hid hs2
      clear oi hst hs2 hk
      go_wp2
      go_roundw
      case rel => exact ⟨2 + 1, by omega, rfl, by rw [sealN, HK.out]; exact HS2.out, Bi.setCell hbx _⟩
      case measure => simp [intOf]
    · obtain ⟨ai, rfl, -, ⟨x, hcx⟩, hfx, hbx, hst⟩ := own_put oi (q + 3) (by omega)
      have hs2 := hst (s / 256 ^ 3 % 256)
      have ea : ai.add (q + 3) = ⟨ai.block, ai.off + (q + 1 + 1 + 1), none⟩ := by first | rfl | simp [Addr.add]
      rw [ea] at hcx hfx hbx hs2
      clear ea
      have b1 : (q : Int) + 3 < xs.length := by omega
      have b0 : (0 : Int) ≤ (q : Int) + 3 := by omega
      have ht : ((q : Int) + 3).toNat = q + 3 := by omega
      have HK := Lib.hid (show s / 256 ^ 3 % 256 = s / 16777216 from by (try simp) <;> omega)
      rw [HK.out] at hs2
      have HS2 := Lib.hid hs2
      clear oi hst hs2 hk
      go_wp2
      go_roundw
      case rel => exact ⟨3 + 1, by omega, rfl, by rw [sealN, HK.out]; exact HS2.out, Bi.setCell hbx _⟩
      case measure => simp [intOf]
    · go_wp2
      go_ret2
      exact ⟨B, c', rfl, by rw [HS.out]; exact oi, Bi⟩
theorem sealW_len (xs : List Int) (q : Nat) : (sealW xs q).length = xs.length := sealN_len _ _ _ _
theorem sealN_get (xs : List Int) (q : Nat) (s : Int) (k i : Nat) (hi : i < xs.length) : (sealN xs q s k)[i]? = if q ≤ i ∧ i < q + k then some (s / 256 ^ (i - q) % 256) else xs[i]? := by
  induction k with
  | zero => rw [if_neg (by omega)]; rfl
  | succ k ih =>
    rw [sealN, List.getElem?_set, ih]
    by_cases h : q + k = i
    · subst h
      rw [if_pos rfl, sealN_len, if_pos hi, if_pos (by omega)]
      simp
    · rw [if_neg h]
      by_cases h2 : q ≤ i ∧ i < q + k
      · rw [if_pos h2, if_pos (by omega)]
      · rw [if_neg h2, if_neg (by omega)]
/-- What stood in the seal's place does not matter. -/
theorem seal_same {xs ys : List Int} {q : Nat} (hl : ys.length = xs.length) (hq : q + 4 ≤ xs.length) (h : ∀ i, i < xs.length → ¬ (q ≤ i ∧ i < q + 4) → ys[i]? = xs[i]?) : sealW ys q = sealW xs q := by
  have hz : zeroed ys q = zeroed xs q := by
    unfold zeroed
    congr 1
    · apply List.ext_getElem?
      intro i
      rw [List.getElem?_take, List.getElem?_take]
      split
      · exact h i (by omega) (by omega)
      · rfl
    · congr 1
      apply List.ext_getElem?
      intro i
      rw [List.getElem?_drop, List.getElem?_drop]
      by_cases hi : q + 4 + i < xs.length
      · exact h _ hi (by omega)
      · rw [List.getElem?_eq_none (by omega), List.getElem?_eq_none (by omega)]
  unfold sealW
  rw [hz]
  apply List.ext_getElem?
  intro i
  by_cases hi : i < xs.length
  · rw [sealN_get _ _ _ _ _ (by omega), sealN_get _ _ _ _ _ hi]
    split
    · rfl
    · exact h i hi (by omega)
  · rw [List.getElem?_eq_none (by rw [sealN_len]; omega), List.getElem?_eq_none (by rw [sealN_len]; omega)]
theorem seal_twice {xs : List Int} {q : Nat} (hq : q + 4 ≤ xs.length) : sealW (sealW xs q) q = sealW xs q :=
  seal_same (sealW_len xs q) hq (fun i hi hn => by unfold sealW; rw [sealN_get _ _ _ _ _ hi, if_neg hn])
theorem isb_sealW {xs : List Int} (h : IsB xs) (q : Nat) : IsB (sealW xs q) := by
  unfold sealW
  generalize crcS (zeroed xs q) = s
  suffices ∀ k, IsB (sealN xs q s k) from this 4
  intro k
  induction k with
  | zero => exact h
  | succ k ih =>
    intro x hx
    rcases List.mem_or_eq_of_mem_set hx with hx | rfl
    · exact ih x hx
    · exact ⟨Int.emod_nonneg _ (by decide), Int.emod_lt_of_pos _ (by decide)⟩
end Go.Proofs.Ytnhkmapeleomkaa.Crc
