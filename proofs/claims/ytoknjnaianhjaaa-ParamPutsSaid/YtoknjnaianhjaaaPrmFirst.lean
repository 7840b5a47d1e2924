/- What must be answered ahead of everything else, in package param's laws. Conditions: none. -/
import Derived.Test.YtoknjnaianhjaaaPrmSize
namespace Go.Proofs.Ytoknjnaianhjaaa.Prm
open Go.RowKit Go.Proofs.Ytoknjnaianhjaaa.Mem Go.Proofs.Ytoknjnaianhjaaa.Octet
set_option linter.unusedVariables false
set_option linter.unusedSimpArgs false
def FirstP (w : World) (e : Ending) (w' : World) : Prop := e = .returned (.bool true) ∧ Below w.heap.size w w'
set_option maxHeartbeats 2000000 in
theorem first_calls (w : World) : Calls Try.prog 9 #[] w (FirstP w) := by
  have kc := Lib.run_convert_bytes_const (P := Try.prog) w 26 5 #[.int .u8 97, .int .u8 98] 2 2 Try.underlying26 Try.underlying5
  have P0 : PmC ((w.alloc (.cells #[.int .u8 97, .int .u8 98] 5 (2, 3))).alloc (.cells #[.int .u16 8, .slice (some ⟨w.heap.size, 0, none⟩) 2 2] 43)) 0 (w.heap.size + 2) (some ⟨w.heap.size + 1, 0, none⟩) [(8, [97, 98])] := by
    have hl := lit_slb w #[.int .u8 97, .int .u8 98] (2, 3) [97, 98] (by simp) (by decide) (by intro i hi; match i, hi with | 0, _ => rfl | 1, _ => rfl)
    have hl2 := SlB.fr hl (S := nothing) ((Fr.refl _ _).alloc (.cells #[.int .u16 8, .slice (some ⟨w.heap.size, 0, none⟩) 2 2] 43)) (fun _ _ _ h => h)
    have hn := new_two (w.alloc (.cells #[.int .u8 97, .int .u8 98] 5 (2, 3))) (.int .u16 8) (.slice (some ⟨w.heap.size, 0, none⟩) 2 2) 43
    rw [show (w.alloc (.cells #[.int .u8 97, .int .u8 98] 5 (2, 3))).heap.size = w.heap.size + 1 by simp] at hn
    intro i hi
    match i, hi with
    | 0, _ =>
      obtain ⟨A', c', e, g1, g2, g3, g4⟩ := hl2
      exact ⟨_, _, rfl, Nat.zero_le _, by show w.heap.size + 1 < w.heap.size + 2; omega, hn 0 _ rfl, hn 1 _ rfl, ⟨A', c', e, g1, g2, g3, g4.more (Nat.le_refl _) (by omega)⟩⟩
  have B0 := ((Below.refl w.heap.size w).alloc (Nat.le_refl _) (.cells #[.int .u8 97, .int .u8 98] 5 (2, 3))).alloc (by simp) (.cells #[.int .u16 8, .slice (some ⟨w.heap.size, 0, none⟩) 2 2] 43)
  have hsz : ((w.alloc (.cells #[.int .u8 97, .int .u8 98] 5 (2, 3))).alloc (.cells #[.int .u16 8, .slice (some ⟨w.heap.size, 0, none⟩) 2 2] 43)).heap.size = w.heap.size + 2 := by simp
  have HSZ := Lib.hid hsz
  clear hsz
  go_enter Try.func9, Try.ntmps9
  go_wp2_with fail
  have hsz := HSZ.out
  generalize (w.alloc (.cells #[.int .u8 97, .int .u8 98] 5 (2, 3))).alloc (.cells #[.int .u16 8, .slice (some ⟨w.heap.size, 0, none⟩) 2 2] 43) = w1 at P0 B0 hsz ⊢
  have HP := put_calls 0 (w.heap.size + 2) _ 1 [(8, [97, 98])] w1 P0 (by omega) (by intro p hp; simp at hp; subst hp; exact ⟨by decide, by decide, by intro x hx; simp at hx; omega⟩) (by decide) (by decide)
  clear HSZ kc P0 hsz
  refine HP.mono ?_
  rintro e w2 ⟨B1, hr⟩
  rw [if_pos (by decide), show enc [(8, [97, 98])] = [0, 8, 0, 6, 97, 98, 0, 0] by decide +kernel] at hr
  obtain ⟨Bs, cs, rfl, o⟩ := hr
  have S2 := SlB.of_own o
  have hib : IsB [0, 8, 0, 6, 97, 98, 0, 0] := by intro x hx; simp at hx; omega
  have B2 := Bl.trans B0 (Bl.low B1 B0.size)
  clear B0 B1 HP
  go_wp2_with fail
  refine (get_calls _ _ _ _ w2 S2 hib (by decide)).mono ?_
  rintro e w3 ⟨B3, B, c, rfl, o3⟩
  have hd : dec [0, 8, 0, 6, 97, 98, 0, 0] = ([(8, [97, 98])], 0) := by decide +kernel
  rw [hd] at o3 ⊢
  have SB := SlB.bl S2 B3 (Nat.le_refl _)
  have P3 := OwnPm.pms o3
  replace B2 := Bl.trans B2 (Bl.low B3 B2.size)
  clear B3 S2 hib o3 hd o
  have S4 := lit_slb w3 #[.int .u8 0, .int .u8 8, .int .u8 0, .int .u8 3] (0, 0) [0, 8, 0, 3] (by simp) (by decide) (by intro i hi; match i, hi with | 0, _ => rfl | 1, _ => rfl | 2, _ => rfl | 3, _ => rfl)
  have B4 := B2.alloc B2.size (.cells #[.int .u8 0, .int .u8 8, .int .u8 0, .int .u8 3] 5)
  replace SB := SlB.fr SB (S := nothing) ((Fr.refl _ w3).alloc (.cells #[.int .u8 0, .int .u8 8, .int .u8 0, .int .u8 3] 5)) (fun _ _ _ h => h)
  replace P3 := P3.fr (S := nothing) ((Fr.refl _ w3).alloc (.cells #[.int .u8 0, .int .u8 8, .int .u8 0, .int .u8 3] 5)) (fun _ _ _ h => h)
  have hsz : w2.heap.size ≤ (w3.alloc (.cells #[.int .u8 0, .int .u8 8, .int .u8 0, .int .u8 3] 5)).heap.size ∧ w3.heap.size ≤ (w3.alloc (.cells #[.int .u8 0, .int .u8 8, .int .u8 0, .int .u8 3] 5)).heap.size := by
    obtain ⟨A1, c1, e, P⟩ := P3
    obtain ⟨ad, s, _, h1, h2, _⟩ := P 0 (by simp)
    simp
    omega
  have HSZ := Lib.hid hsz
  clear hsz
  go_wp2_with fail
  have hsz := HSZ.out
  generalize w3.alloc (.cells #[.int .u8 0, .int .u8 8, .int .u8 0, .int .u8 3] 5) = w4 at S4 B4 SB P3 hsz ⊢
  refine (get_calls _ _ _ [0, 8, 0, 3] w4 S4 (by intro x hx; simp at hx; omega) (by decide)).mono ?_
  rintro e w5 ⟨B5, B', c', rfl, o5⟩
  rw [show dec [0, 8, 0, 3] = ([], 42) by decide +kernel]
  replace SB := SlB.bl SB B5 hsz.1
  replace P3 := P3.bl B5 hsz.2
  replace B4 := Bl.trans B4 (Bl.low B5 B4.size)
  have ts := slb_str (n := 8) SB
  obtain ⟨A1, c1, e, P⟩ := P3
  injection e with e1 e2 e3
  subst e1; subst e3
  obtain ⟨ad, s, rfl, h1, h2, hc0, -⟩ := P 0 (by simp)
  have hc : w5.cell? ad = some (.int .u16 8) := by have := hc0; rwa [show 0 * 2 = 0 from rfl, add_zero_] at this
  have hbb : ((bstr [0, 8, 0, 6, 97, 98, 0, 0]).toList == ([0, 8, 0, 6, 97, 98, 0, 0] : List UInt8)) = true := by rw [bstr_list]; decide +kernel
  clear hc0 P h1 h2 S4 SB o5 HSZ B2
  go_wp2
  go_ret
  exact ⟨rfl, B4⟩
end Go.Proofs.Ytoknjnaianhjaaa.Prm
