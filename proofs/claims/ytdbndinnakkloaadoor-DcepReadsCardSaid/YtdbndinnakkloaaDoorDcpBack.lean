/- Bytes that are an offer, put again. Plain law. -/
import Derived.Test.YtdbndinnakkloaaDoorDcpSee
namespace Go.Proofs.YtdbndinnakkloaaDoor.Dcp
open Go.RowKit Go.Proofs.YtdbndinnakkloaaDoor.Mem Go.Proofs.YtdbndinnakkloaaDoor.Octet
set_option linter.unusedVariables false
set_option linter.unusedSimpArgs false
theorem sb_bstr {xs : List Int} (h : IsB xs) : sb (bstr xs) = xs := by
  unfold sb
  rw [bstr_data]
  unfold u8s
  rw [List.map_map]
  conv => rhs; rw [← List.map_id xs]
  apply List.map_congr_left
  intro x hx
  have := h x hx
  simp [UInt8.toNat_ofNat']
  omega
theorem re_put {bs : List Int} (hB : IsB bs) (h : gE bs = 0) :
    putE (gK bs) (gN bs) (gL bs) (gR bs) = 0 ∧ obytes (decide (128 ≤ hd bs 1)) (gK bs) (gN bs) (gP bs) (gL bs) (gR bs) = bs := by
  have h0 := h
  unfold gE at h
  split at h
  · cases h
  rename_i h12
  split at h
  · cases h
  rename_i hr
  split at h
  · cases h
  rename_i hs
  split at h
  · cases h
  rename_i hl1
  split at h
  · cases h
  rename_i hl2
  split at h
  case isFalse => cases h
  rename_i hv
  have hr1 : hd bs 0 = 3 := Decidable.not_not.1 (fun e => hr (.inl e))
  have hr2 : rightB (gK bs) (gN bs) = true := by
    cases e : rightB (gK bs) (gN bs)
    · exact absurd (.inr e) hr
    · rfl
  have hlen : bs.length = 12 + gA bs + gB bs := by omega
  have IL : IsB ((bs.drop 12).take (gA bs)) := fun x hx => hB x (List.mem_of_mem_drop (List.mem_of_mem_take hx))
  have IR : IsB ((bs.drop (12 + gA bs)).take (gB bs)) := fun x hx => hB x (List.mem_of_mem_drop (List.mem_of_mem_take hx))
  have zL : (gL bs).size = gA bs := by unfold gL; rw [bstr_size]; simp; omega
  have zR : (gR bs).size = gB bs := by unfold gR; rw [bstr_size]; simp; omega
  refine ⟨?_, ?_⟩
  · unfold putE textE
    rw [if_pos hr2, if_neg (by omega), if_pos hv]
  · obtain ⟨a0, a1, a2, a3, a4, a5, a6, a7, a8, a9, a10, a11, r, eb, z0, z1, z2, z3, z4, z5, z6, z7, z8, z9, z10, z11, hr⟩ := bytes12 h12 hB
    have e0 : hd bs 0 = a0 := by rw [eb]; rfl
    have e1 : hd bs 1 = a1 := by rw [eb]; rfl
    have eK : gK bs = a1 % 128 := by unfold gK; rw [eb]; rfl
    have eP : gP bs = a2 * 256 + a3 := by unfold gP; rw [eb]; rfl
    have eN : gN bs = ((a4 * 256 + a5) * 256 + a6) * 256 + a7 := by unfold gN; rw [eb]; rfl
    have eA : (gA bs : Int) = a8 * 256 + a9 := by
      have : gA bs = (a8 * 256 + a9).toNat := by unfold gA; rw [eb]; rfl
      omega
    have eB : (gB bs : Int) = a10 * 256 + a11 := by
      have : gB bs = (a10 * 256 + a11).toNat := by unfold gB; rw [eb]; rfl
      omega
    have eR : bs.drop 12 = r := by rw [eb]; rfl
    have sL : sb (gL bs) = r.take (gA bs) := by unfold gL; rw [sb_bstr IL, eR]
    have sR : sb (gR bs) = r.drop (gA bs) := by
      unfold gR
      rw [sb_bstr IR, ← List.drop_drop, eR, List.take_of_length_le]
      have : r.length = gA bs + gB bs := by rw [← eR, List.length_drop]; omega
      rw [List.length_drop]
      omega
    unfold obytes
    rw [zL, zR, sL, sR, eA, eB, e1, eK, eP, eN, List.append_assoc _ (r.take (gA bs)) (r.drop (gA bs)), List.take_append_drop]
    conv => rhs; rw [eb]
    have k1 : (if decide (128 ≤ a1) = true then a1 % 128 + 128 else a1 % 128) = a1 := by
      by_cases h : 128 ≤ a1
      · rw [if_pos (by simpa using h)]; omega
      · rw [if_neg (by simpa using h)]; omega
    rw [k1, show (3 : Int) = a0 by rw [← e0, hr1], show (a2 * 256 + a3) / 256 % 256 = a2 by omega, show (a2 * 256 + a3) % 256 = a3 by omega, show (a8 * 256 + a9) / 256 % 256 = a8 by omega, show (a8 * 256 + a9) % 256 = a9 by omega,
      show (a10 * 256 + a11) / 256 % 256 = a10 by omega, show (a10 * 256 + a11) % 256 = a11 by omega, show (((a4 * 256 + a5) * 256 + a6) * 256 + a7) / 16777216 % 256 = a4 by omega, show (((a4 * 256 + a5) * 256 + a6) * 256 + a7) / 65536 % 256 = a5 by omega,
      show (((a4 * 256 + a5) * 256 + a6) * 256 + a7) / 256 % 256 = a6 by omega, show (((a4 * 256 + a5) * 256 + a6) * 256 + a7) % 256 = a7 by omega]
    simp
end Go.Proofs.YtdbndinnakkloaaDoor.Dcp
