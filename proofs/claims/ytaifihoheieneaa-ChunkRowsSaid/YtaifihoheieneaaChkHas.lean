/- Is a byte of a padding no nought: as param's, under chunk's own function. Conditions: each names its blocks. -/
import Derived.Test.YtaifihoheieneaaChkRd
namespace Go.Proofs.Ytaifihoheieneaa.Chk
open Go.RowKit Go.Proofs.Ytaifihoheieneaa.Mem Go.Proofs.Ytaifihoheieneaa.Octet Go.Proofs.Ytaifihoheieneaa.Prm
set_option linter.unusedVariables false
set_option linter.unusedSimpArgs false
theorem nz2_calls (x : Int) (w : World) : Calls Try.prog 41 #[.int .u8 x] w fun e w' => e = .returned (.bool (x != 0)) ∧ w' = w := by
  go_enter Try.func41, Try.ntmps41
  go_wp2
  go_ret
  exact ⟨rfl, rfl⟩
set_option maxHeartbeats 1000000 in
theorem index2_calls (lo hi : Nat) (A : Option Addr) (c : Nat) (xs : List Int) (w : World) (h : RdB w lo hi A xs) (hl : xs.length ≤ 140737488355328) :
    Calls Try.prog 53 #[.slice A xs.length c, .func (.func 41) #[] #[]] w fun e w' => ∃ r : Int, e = .returned (.int .i64 r) ∧ decide (0 ≤ r) = xs.any (fun x => x != 0) ∧ w' = w := by
  go_enter Try.func53, Try.ntmps53
  go_wp2_with fail
  go_loopw [8] (fun i wr => ∃ k : Nat, k ≤ xs.length ∧ i = .int .i64 k ∧ (∀ j (h1 : j < xs.length), j < k → xs[j] = 0) ∧ wr = w) (fun i _ => xs.length - (intOf i).toNat)
  case atStart => exact ⟨0, Nat.zero_le _, rfl, (fun j _ h => by omega), rfl⟩
  case round =>
    obtain ⟨k, hk, rfl, hall, rfl⟩ := hrel
    by_cases hlt : k < xs.length
    · obtain ⟨ad, rfl, hc⟩ := h.at_ k hlt
      have HA := Lib.hid hall
      clear hall
      have hlt' : (k : Int) < xs.length := by omega
      by_cases hz : xs[k] = 0
      · have hz2 : (xs[k] != 0) = false := by simp [hz]
        have HZ := Lib.hid hz
        clear hz
        generalize hxk : xs[k] = x at hc hz2 HZ
        have HXK := Lib.hid hxk
        clear hxk
        go_wp2_with fail
        refine (nz2_calls x _).mono ?_
        rintro e w1 ⟨he, rfl⟩
        rw [hz2] at he
        subst he
        go_wp2
        go_roundw
        case rel =>
          refine ⟨k + 1, by omega, by go_num, fun j h1 hj => ?_, by first | rfl | trivial⟩
          rcases Nat.lt_succ_iff_lt_or_eq.1 hj with hj | rfl
          · exact HA.out j h1 hj
          · exact HXK.out.trans HZ.out
        case measure => simp [intOf]; omega
      · have hz2 : (xs[k] != 0) = true := by simp [hz]
        have HF := Lib.hid (show xs.any (fun x => x != 0) = true from List.any_eq_true.2 ⟨xs[k], List.getElem_mem hlt, hz2⟩)
        clear hz
        generalize xs[k] = x at hc hz2
        go_wp2_with fail
        refine (nz2_calls x _).mono ?_
        rintro e w1 ⟨he, rfl⟩
        rw [hz2] at he
        subst he
        go_wp2
        go_ret
        exact ⟨_, rfl, by rw [HF.out]; simp, rfl⟩
    · have HF := Lib.hid (show xs.any (fun x => x != 0) = false by
        rw [List.any_eq_false]
        intro x hx
        obtain ⟨j, hj, rfl⟩ := List.mem_iff_getElem.1 hx
        simp [hall j hj (by omega)])
      have hlt' : ¬ (k : Int) < xs.length := by omega
      clear hall
      go_wp2
      go_ret
      exact ⟨_, rfl, by rw [HF.out]; rfl, rfl⟩
set_option maxHeartbeats 1000000 in
theorem has2_calls (lo hi : Nat) (A : Option Addr) (c : Nat) (xs : List Int) (w : World) (h : RdB w lo hi A xs) (hl : xs.length ≤ 140737488355328) :
    Calls Try.prog 40 #[.slice A xs.length c, .func (.func 41) #[] #[]] w fun e w' => e = .returned (.bool (xs.any (fun x => x != 0))) ∧ w' = w := by
  go_enter Try.func40, Try.ntmps40
  go_wp2_with fail
  refine (index2_calls lo hi A c xs w h hl).mono ?_
  rintro e w1 ⟨r, rfl, hr, rfl⟩
  generalize hb : xs.any (fun x => x != 0) = b at hr
  have HB := Lib.hid hb
  clear hb
  go_wp2
  go_ret
  exact ⟨by rw [HB.out]; rfl, rfl⟩
end Go.Proofs.Ytaifihoheieneaa.Chk
