/- crc.sum: the sum of a packet with noughts at a place. Conditions: each names its blocks and the bounds. -/
import Derived.Test.YtnhkmapeleomkaaCrcFirst
import Derived.Deep.RegionHeldLaw
namespace Go.Proofs.Ytnhkmapeleomkaa.Crc
open Go.RowKit Go.Proofs.Ytnhkmapeleomkaa.Mem Go.Proofs.Ytnhkmapeleomkaa.Octet
set_option linter.unusedVariables false
set_option linter.unusedSimpArgs false
/-- A packet with noughts at a place. -/
def zeroed (xs : List Int) (q : Nat) : List Int := xs.take q ++ ([0, 0, 0, 0] ++ xs.drop (q + 4))
set_option maxHeartbeats 2000000 in
set_option maxRecDepth 100000 in
theorem psum_calls (lo hi : Nat) (A : Option Addr) (c : Nat) (xs : List Int) (q : Nat) (w : World) (h : RdB w lo hi A xs) (hc : xs.length ≤ c) (hcm : c ≤ 9223372036854775807) (hb : IsB xs) (hq : q + 4 ≤ xs.length) :
    Calls Try.prog 36 #[.slice A xs.length c, .int .i64 q] w fun e w' => e = .returned (.int .u32 (crcS (zeroed xs q))) ∧ Below w.heap.size w w' := by
  obtain ⟨T, hT⟩ : ∃ T, ((q : Int) + 4).toNat = T := ⟨_, rfl⟩
  have en : T = q + 4 := by omega
  have hdr := h.drop (n := T) (by omega) hc
  obtain ⟨E, hE⟩ : ∃ E, (if c = T then A else A.map (fun x => x.add T)) = E := ⟨_, rfl⟩
  rw [hE] at hdr
  have HBL := Lib.hid (((Below.refl w.heap.size w).alloc (Nat.le_refl _) (.cells #[.int .u8 0, .int .u8 0, .int .u8 0, .int .u8 0] 5)).alloc (by simp) (.cells #[.slice A q c, .slice (some ⟨w.heap.size, 0, none⟩) 4 4, .slice E (xs.length - T) (c - T)] 24))
  have HZ := Lib.hid (show crcS [xs.take q, [0, 0, 0, 0], xs.drop T].flatten = crcS (zeroed xs q) by rw [en]; simp [zeroed])
  have HB := Lib.hid (show ∀ ys ∈ [xs.take q, [0, 0, 0, 0], xs.drop T], IsB ys ∧ ys.length ≤ 9223372036854775807 by
    intro ys hy
    simp only [List.mem_cons, List.not_mem_nil, or_false] at hy
    rcases hy with rfl | rfl | rfl
    · exact ⟨fun x hx => hb x (List.mem_of_mem_take hx), by rw [List.length_take]; omega⟩
    · exact ⟨by intro x hx; simp at hx; omega, by decide⟩
    · exact ⟨fun x hx => hb x (List.mem_of_mem_drop hx), by rw [List.length_drop]; omega⟩)
  have HP := Lib.hid (show Parts (((w.alloc (.cells #[.int .u8 0, .int .u8 0, .int .u8 0, .int .u8 0] 5)).alloc (.cells #[.slice A q c, .slice (some ⟨w.heap.size, 0, none⟩) 4 4, .slice E (xs.length - T) (c - T)] 24)).drew) 0 (hi + w.heap.size + 1) (some ⟨w.heap.size + 1, 0, none⟩) [xs.take q, [0, 0, 0, 0], xs.drop T] by
    have hr : RdB (w.alloc (.cells #[.int .u8 0, .int .u8 0, .int .u8 0, .int .u8 0] 5)) lo hi A xs := h.fr (S := nothing) ((Fr.refl _ w).alloc _) (fun _ _ _ h => h)
    have hz := lit_rd w #[.int .u8 0, .int .u8 0, .int .u8 0, .int .u8 0] (0, 0) [0, 0, 0, 0] (by intro i hi; match i, hi with | 0, _ => rfl | 1, _ => rfl | 2, _ => rfl | 3, _ => rfl)
    have P := parts_row (w.alloc (.cells #[.int .u8 0, .int .u8 0, .int .u8 0, .int .u8 0] 5)) #[.slice A q c, .slice (some ⟨w.heap.size, 0, none⟩) 4 4, .slice E (xs.length - T) (c - T)] 0 (hi + w.heap.size + 1) [xs.take q, [0, 0, 0, 0], xs.drop T] (by
      intro i hi2
      match i, hi2 with
      | 0, _ => exact ⟨A, c, by simp [Nat.min_eq_left (show q ≤ xs.length by omega)], (hr.take q).more (Nat.zero_le _) (by omega)⟩
      | 1, _ => exact ⟨_, _, rfl, hz.more (Nat.zero_le _) (by omega)⟩
      | 2, _ => exact ⟨_, _, by simp; rfl, (RdB.fr hdr (S := nothing) ((Fr.refl _ w).alloc (.cells #[.int .u8 0, .int .u8 0, .int .u8 0, .int .u8 0] 5)) (fun _ _ _ h => h)).more (Nat.zero_le _) (by omega)⟩)
    rw [show (w.alloc (.cells #[.int .u8 0, .int .u8 0, .int .u8 0, .int .u8 0] 5)).heap.size = w.heap.size + 1 by simp] at P
    exact P)
  have HC := Lib.hid (sum_calls 0 (hi + w.heap.size + 1) _ 3 [xs.take q, [0, 0, 0, 0], xs.drop T] _ HP.out HB.out (by simp))
  clear en hdr
  have hw : IntKind.i64.wrap ((q : Int) + 4) = (q : Int) + 4 := by rw [IntKind.wrap_i64]; omega
  have b0 : (q : Int) ≤ c := by omega
  have b1 : (q : Int) + 4 ≤ xs.length := by omega
  have b2 : (0 : Int) ≤ (q : Int) + 4 := by omega
  have b3 : (xs.length : Int) ≤ c := by omega
  have b4 : (q : Int) + 4 ≤ c := by omega
  have hmk : ∀ w' : World, (Instr.makeSlice 24 (.int .i64 4) (.int .i64 4)).run Try.prog w' = .ok (.slice (some ⟨w'.heap.size, 0, none⟩) 4 4) (w'.alloc (.cells #[.int .u8 0, .int .u8 0, .int .u8 0, .int .u8 0] 5)) := fun w' =>
    by
      have h := run_make_row' (P := Try.prog) 24 5 (.int .u8 0) 1 Try.underlying24 info_b rfl .i64 .i64 4 (by decide) (by decide) w'
      rw [show madeCells #[Value.int .u8 0] 4 = #[.int .u8 0, .int .u8 0, .int .u8 0, .int .u8 0] from by rw [← Array.toList_inj]; simp [madeCells, List.range, List.range.loop]] at h
      exact h
  go_enter Try.func36, Try.ntmps36
  go_wp2_with fail
  go_region_held_law (fun wq => True) (trivial) (first
    | (go_at_call 40; refine HC.out.mono ?_; rintro e w' ⟨he, rfl⟩; rw [HZ.out] at he; subst he))
  all_goals
    rename_i hK hH
    refine hK _ _ ?_
    clear hK hH
    go_wp2
    go_ret
    exact ⟨rfl, HBL.out.drew⟩
theorem eq_of_take {xs ys : List Int} (hl : xs.length = ys.length) (h : ∀ i (h1 : i < xs.length) (h2 : i < ys.length), xs[i] = ys[i]) : xs = ys :=
  List.ext_getElem hl h
end Go.Proofs.Ytnhkmapeleomkaa.Crc
