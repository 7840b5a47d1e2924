/- The walk of flumelaw21.IdentAll: true for both ends and every number. No conditions but the row's own. -/
import Derived.Test.YticlgonbbaodpaaIdent
namespace Go.Proofs.Yticlgonbbaodpaa.IdentAll
open Go.RowKit Go.Maps Go.Proofs.Yticlgonbbaodpaa.Mem Go.Proofs.Yticlgonbbaodpaa.Ident
set_option linter.unusedVariables false
set_option linter.unusedSimpArgs false

/-- The first k numbers of an end, the last ahead. -/
def fsts (first : Int) : Nat → List Int
  | 0 => []
  | k + 1 => (first + 2 * k) :: fsts first k
theorem mem_fsts (first : Int) (k : Nat) (x : Int) : x ∈ fsts first k ↔ ∃ i : Nat, i < k ∧ x = first + 2 * i := by
  induction k with
  | zero => simp [fsts]
  | succ k ih =>
    simp only [fsts, List.mem_cons, ih]
    constructor
    · rintro (rfl | ⟨i, h, rfl⟩)
      · exact ⟨k, by omega, rfl⟩
      · exact ⟨i, by omega, rfl⟩
    · rintro ⟨i, h, rfl⟩
      rcases Nat.lt_succ_iff_lt_or_eq.1 h with h | rfl
      · exact .inr ⟨i, h, rfl⟩
      · exact .inl rfl
theorem len_fsts (first : Int) (k : Nat) : (fsts first k).length = k := by induction k with | zero => rfl | succ k ih => simp [fsts, ih]
def um (x m : Int) : Int := wrap64 ((IntKind.u64.wrap x).tmod m)
theorem um_range (x m : Int) (h0 : 0 < m) (h1 : m ≤ 1000000) : 0 ≤ um x m ∧ um x m < m := by
  have e : IntKind.u64.wrap x = x % 18446744073709551616 := by simp [IntKind.wrap, IntKind.bits, IntKind.signed]
  unfold um
  rw [e, Int.tmod_eq_emod_of_nonneg (by omega)]
  have h2 := Int.emod_nonneg (x % 18446744073709551616) (show m ≠ 0 by omega)
  have h3 := Int.emod_lt_of_pos (x % 18446744073709551616) h0
  unfold wrap64
  omega

set_option maxHeartbeats 2000000 in
set_option maxRecDepth 100000 in
theorem walk (client : Bool) (free : Int) (w : World) (hwn : (Lit.int .i64 free).wf = true) :
    Calls Try.prog 5 #[.bool client, .int .i64 free] w fun e w' => e = .returned (.bool true) ∧ Below w.heap.size w w' := by
  go_enter Try.func5, Try.ntmps5
  go_wp2_with fail
  refine (first_calls w).mono ?_
  rintro e w0 ⟨rfl, B0⟩
  go_wp2_with fail
  refine (new_calls client w0).mono ?_
  rintro e w1 ⟨g, b, rfl, P, hb1, hb2, B⟩
  replace B := Bl.trans B0 (Bl.low B B0.size)
  have hf := P.2.2
  generalize (if client then (0 : Int) else 1) = first at P hf
  have hbb : ∀ k, only b k → w.heap.size ≤ k := fun k hk => by have e : k = b := hk; have := B0.size; omega
  clear B0 hb1 hb2
  go_wp2_with fail
  go_loopw [19] (fun i wr => ∃ k : Nat, k ≤ 512 ∧ i = .int .i64 k ∧ Poo wr g b first (fsts first k) ∧ Below w.heap.size w wr) (fun i _ => 512 - (intOf i).toNat)
  case atStart => exact ⟨0, Nat.zero_le _, rfl, P, B⟩
  case round =>
    clear P B
    obtain ⟨k, hk, rfl, P, B⟩ := hrel
    by_cases hlt : k < 512
    · go_wp2_with fail
      refine (take_calls g b first _ wr P).mono ?_
      rintro e wa ⟨⟨j, hj, hall, hout, rfl, P2⟩ | ⟨hall, _⟩, f⟩
      rotate_left
      · obtain ⟨i, h1, h2⟩ := (mem_fsts first k _).1 (hall k hlt)
        omega
      obtain rfl : j = k := by
        rcases Nat.lt_or_ge k j with h | h
        · obtain ⟨i, h1, h2⟩ := (mem_fsts first k _).1 (hall k h)
          omega
        · rcases Nat.eq_or_lt_of_le h with h | h
          · exact h
          · exact absurd ((mem_fsts first k _).2 ⟨j, h, rfl⟩) hout
      replace B := Bl.trans B (Bl.of_fr f B.size hbb)
      replace P2 : Poo wa g b first (fsts first (j + 1)) := P2
      clear hall hout f P
      have hm : mine first (first + 2 * (j : Int)) = true := by rcases hf with rfl | rfl <;> simp [mine] <;> omega
      go_wp2_with fail
      refine (mine_calls g b first _ _ wa P2).mono ?_
      rintro e w3 ⟨he, rfl⟩
      rw [hm] at he
      subst he
      have hu : useOf first (fsts first (j + 1)) (first + 2 * (j : Int)) = 2 := by simp [useOf, hm]
      have hu2 : useL first (fsts first (j + 1)) (first + 2 * (j : Int)) = fsts first (j + 1) := by simp [useL, hm]
      rcases Nat.eq_zero_or_pos j with hj0 | hj0
      · have hj1 : ¬ (0 : Int) < j := by omega
        clear hj0
        go_wp2_with fail
        refine (use_calls g b first _ _ _ P2).mono ?_
        rintro e w4 ⟨he, P3, f⟩
        rw [hu] at he
        rw [hu2] at P3
        subst he
        replace B := Bl.trans B (Bl.of_fr f B.size hbb)
        clear P2 f hu hu2 hm
        go_wp2
        go_roundw
        case rel => exact ⟨j + 1, by omega, by go_num, P3, B⟩
        case measure => simp [intOf]; omega
      · have hj1 : (0 : Int) < j := by omega
        have hin : first + 2 * (j : Int) - 2 ∈ fsts first (j + 1) := (mem_fsts _ _ _).2 ⟨j - 1, by omega, by omega⟩
        have hd := Lib.hid (show decide (first + 2 * (j : Int) - 2 ∈ fsts first (j + 1)) = true by simpa using hin)
        clear hin
        go_wp2_with fail
        refine (has_calls g b first _ _ _ P2 (by omega) (by omega)).mono ?_
        rintro e w5 ⟨he, B2⟩
        rw [hd.out] at he
        subst he
        replace P2 := P2.bl B2
        replace B := Bl.trans B (Bl.low B2 B.size)
        clear B2 hd hj0
        go_wp2_with fail
        refine (use_calls g b first _ _ _ P2).mono ?_
        rintro e w4 ⟨he, P3, f⟩
        rw [hu] at he
        rw [hu2] at P3
        subst he
        replace B := Bl.trans B (Bl.of_fr f B.size hbb)
        clear P2 f hu hu2 hm
        go_wp2
        go_roundw
        case rel => exact ⟨j + 1, by omega, by go_num, P3, B⟩
        case measure => simp [intOf]; omega
    · have hk512 : ¬ (k : Int) < 512 := by omega
      have hF : ∀ i : Nat, i < 512 → first + 2 * i ∈ fsts first k := fun i hi => (mem_fsts _ _ _).2 ⟨i, by omega, rfl⟩
      have hF2 : ∀ x, x ∈ fsts first k ↔ mine first x = true := by
        intro x
        rw [mem_fsts]
        simp only [mine, decide_eq_true_eq]
        constructor
        · rintro ⟨i, h, rfl⟩
          omega
        · rintro ⟨h1, h2, h3⟩
          exact ⟨((x - first) / 2).toNat, by omega, by omega⟩
      have hlen : (fsts first k).length = 512 := by rw [len_fsts]; omega
      have HL := Lib.hid hlen
      have hnd : (fsts first k).Nodup := by obtain ⟨_, ⟨D, _, _, _, h, _⟩, _⟩ := P; exact h
      clear hlen hk hlt
      generalize fsts first k = L at P hF hF2 HL hnd
      have HF2 := Lib.hid hF2
      clear hF2
      have HU := um_range free 1024 (by omega) (by omega)
      unfold um at HU
      go_wp2_with fail
      refine (take_calls g b first _ wr P).mono ?_
      rintro e wa ⟨⟨j, hj, hall, hout, rfl, P2⟩ | ⟨hall, rfl, P2⟩, f⟩
      · exact absurd (hF j hj) hout
      replace B := Bl.trans B (Bl.of_fr f B.size hbb)
      clear P hall f
      go_wp2_with fail
      generalize wrap64 ((IntKind.u64.wrap free).tmod 1024) = u at HU ⊢
      obtain ⟨hu0, hu1⟩ := HU
      refine (free_calls g b first L u _ P2 (by omega) (by omega)).mono ?_
      rintro e wb ⟨he, P3, f⟩
      replace B := Bl.trans B (Bl.of_fr f B.size hbb)
      clear P2 f
      by_cases hin : u ∈ L
      · have hm : mine first u = true := (HF2.out u).1 hin
        rw [show decide (u ∈ L) = true by simpa using hin] at he
        subst he
        obtain ⟨q, hq, hq2⟩ : ∃ q : Nat, q < 512 ∧ u = first + 2 * q := by
          simp only [mine, decide_eq_true_eq] at hm
          exact ⟨((u - first) / 2).toNat, by omega, by omega⟩
        have HQ := Lib.hid hq2
        clear hq2
        go_wp2_with fail
        refine (take_calls g b first _ _ P3).mono ?_
        rintro e wc ⟨⟨j, hj, hall, hout, rfl, P4⟩ | ⟨hall, _⟩, f⟩
        rotate_left
        · exact absurd (HQ.out ▸ hall q hq) (by rw [hnd.mem_erase_iff]; simp)
        have hju : first + 2 * (j : Int) = u := by
          rw [hnd.mem_erase_iff] at hout
          by_cases h : first + 2 * (j : Int) = u
          · exact h
          · exact absurd ⟨h, hF j hj⟩ hout
        rw [hju] at P4 ⊢
        replace B := Bl.trans B (Bl.of_fr f B.size hbb)
        have hl4 : (u :: L.erase u).length = 512 := by
          have := HL.out
          rw [List.length_cons, List.length_erase_of_mem hin]
          have := List.length_pos_of_mem hin
          omega
        clear P3 hall hout hju f HQ hF
        go_wp2_with fail
        refine (mine_calls g b first _ u _ P4).mono ?_
        rintro e wd ⟨he, rfl⟩
        rw [hm] at he
        subst he
        go_wp2_with fail
        refine (len_calls g b first _ _ P4).mono ?_
        rintro e we ⟨he, rfl⟩
        rw [hl4] at he
        subst he
        go_wp2
        go_ret
        exact ⟨rfl, B⟩
      · have hm : mine first u = false := by
          rcases h : mine first u with _ | _
          · rfl
          · exact absurd ((HF2.out u).2 h) hin
        rw [show decide (u ∈ L) = false by simpa using hin] at he
        rw [List.erase_of_not_mem hin] at P3
        subst he
        go_wp2_with fail
        refine (take_calls g b first _ _ P3).mono ?_
        rintro e wc ⟨⟨j, hj, hall, hout, rfl, P4⟩ | ⟨hall, rfl, P4⟩, f⟩
        · exact absurd (hF j hj) hout
        replace B := Bl.trans B (Bl.of_fr f B.size hbb)
        clear P3 hall f hF
        go_wp2_with fail
        refine (mine_calls g b first _ u _ P4).mono ?_
        rintro e wd ⟨he, rfl⟩
        rw [hm] at he
        subst he
        go_wp2_with fail
        refine (len_calls g b first _ _ P4).mono ?_
        rintro e we ⟨he, rfl⟩
        rw [HL.out] at he
        subst he
        go_wp2
        go_ret
        exact ⟨rfl, B⟩
end Go.Proofs.Yticlgonbbaodpaa.IdentAll
