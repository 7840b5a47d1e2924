/- Contract of flumeref20.Get. Conditions: each names its blocks. -/
import Derived.Test.YtdbndinnakkloaaDoorDcpUtf
import Derived.Test.YtdbndinnakkloaaDoorDcpGet
import Derived.Test.YtdbndinnakkloaaDoorOcTape
import Derived.Test.YtdbndinnakkloaaDoorRegInv
namespace Go.Proofs.YtdbndinnakkloaaDoor.Dcp
open Go.RowKit Go.Proofs.YtdbndinnakkloaaDoor.Mem Go.Proofs.YtdbndinnakkloaaDoor.Octet
set_option linter.unusedVariables false
set_option linter.unusedSimpArgs false
theorem slb_sub {w : World} {lo hi : Nat} {A : Option Addr} {c : Nat} {bs : List Int} (h : SlB w lo hi (.slice A bs.length c) bs) (l n : Nat) (hl : l ≤ n) (hn : n ≤ bs.length) : SlB w lo hi (.slice (if c = l then A else A.map (·.add l)) (n - l) (c - l)) ((bs.take n).drop l) := by
  obtain ⟨A', c', e, h1, h2, h3, h4⟩ := h
  injection e with e1 e2 e3
  subst e1; subst e3
  refine ⟨_, _, by rw [List.length_drop, List.length_take, Nat.min_eq_left hn], by rw [List.length_drop, List.length_take, Nat.min_eq_left hn]; omega, by omega, fun h => ?_, (h4.take n).drop (by rw [List.length_take, Nat.min_eq_left hn]; exact hl) (by rw [List.length_take, Nat.min_eq_left hn]; omega)⟩
  by_cases hc : c = l
  · omega
  · rw [if_neg hc] at h
    have := h3 (by simpa using h)
    omega
theorem len_lt {L r a b : Nat} (h : L = 12 + r) (h2 : r < a + b) : decide ((L : Int) < 12 + (a : Int) + (b : Int)) = true := decide_eq_true (by omega)
theorem len_nlt {L r a b : Nat} (h : L = 12 + r) (h2 : ¬ r < a + b) : decide ((L : Int) < 12 + (a : Int) + (b : Int)) = false := decide_eq_false (by omega)
theorem len_gt {L r a b : Nat} (h : L = 12 + r) (h2 : a + b < r) : decide (12 + (a : Int) + (b : Int) < (L : Int)) = true := decide_eq_true (by omega)
theorem len_ngt {L r a b : Nat} (h : L = 12 + r) (h2 : ¬ a + b < r) : decide (12 + (a : Int) + (b : Int) < (L : Int)) = false := decide_eq_false (by omega)
theorem len_is {L r a b : Nat} (h : L = 12 + r) (h1 : ¬ r < a + b) (h2 : ¬ a + b < r) : L = 12 + a + b := by omega
theorem ww1 {a : Nat} (h : a ≤ 255) : wrap64 (12 + (a : Int)) = 12 + (a : Int) := by unfold wrap64; omega
theorem ww3 {a : Nat} (h : a ≤ 255) : IntKind.i64.wrap (12 + (a : Int)) = 12 + (a : Int) := by rw [IntKind.wrap_i64]; omega
theorem sl_a {a c : Nat} (h : 12 + a ≤ c) : 0 ≤ 12 + (a : Int) ∧ 12 + (a : Int) ≤ (c : Int) := by omega
theorem sl_b (a : Nat) : (12 : Int) ≤ max (12 + (a : Int)) 0 := by omega
theorem sl_c (a : Nat) : (12 + (a : Int)).toNat = 12 + a := by omega
theorem ww2 {a b : Nat} (h : a ≤ 255) (h2 : b ≤ 255) : wrap64 (12 + (a : Int) + (b : Int)) = 12 + (a : Int) + (b : Int) := by unfold wrap64; omega
set_option maxHeartbeats 1000000 in
set_option maxRecDepth 100000 in
theorem rright_calls (k n : Int) (w : World) : Calls Tryd.prog 26 #[.int .i64 k, .int .u32 n] w fun e w' => e = .returned (.bool (rightB k n)) ∧ w' = w := by
  unfold rightB
  rcases Bool.eq_false_or_eq_true (k == 1) with h0 | h0
  · go_enter Tryd.func26, Tryd.ntmps26
    go_wp2
    go_ret
    exact ⟨by simp [h0], rfl⟩
  · rcases Bool.eq_false_or_eq_true (k == 2) with h1 | h1
    · go_enter Tryd.func26, Tryd.ntmps26
      go_wp2
      go_ret
      exact ⟨by simp [h0, h1], rfl⟩
    · rcases Bool.eq_false_or_eq_true (k == 0) with h2 | h2
      · go_enter Tryd.func26, Tryd.ntmps26
        go_wp2
        go_ret
        exact ⟨by simp [h0, h1, h2], rfl⟩
      · go_enter Tryd.func26, Tryd.ntmps26
        go_wp2
        go_ret
        exact ⟨by simp [h0, h1, h2], rfl⟩
set_option maxHeartbeats 4000000 in
set_option maxRecDepth 100000 in
theorem rget_calls (lo hi : Nat) (v : Value) (bs : List Int) (w : World) (h : SlB w lo hi v bs) (hhi : hi ≤ w.heap.size) (hB : IsB bs) (hlen : bs.length ≤ 140737488355328) :
    Calls Tryd.prog 9 #[v] w fun e w' => e = .returned (.tuple #[.agg (gV bs), .int .i64 (gE bs)]) ∧ Below w.heap.size w w' := by
  have hup := Tryd.underlying30
  have hupL := Tryd.underlying27
  have B1 : Below w.heap.size w (w.alloc (.cells #[.bool false, .int .i64 0, .int .u32 0, .int .u16 0, .string ⟨#[]⟩, .string ⟨#[]⟩] 30)) := (Below.refl _ w).alloc (Nat.le_refl _) _
  have bR := Blk.new w #[.bool false, .int .i64 0, .int .u32 0, .int .u16 0, .string ⟨#[]⟩, .string ⟨#[]⟩] 30
  have X1 := SlB.bl h B1 hhi
  obtain ⟨A, c, rfl, -⟩ := id h
  by_cases h12 : bs.length < 12
  · have hE : gE bs = 40 := by unfold gE; rw [if_pos h12]
    have hV := gV_bad (bs := bs) (by rw [hE]; decide)
    have HE := Lib.hid hE
    have HV := Lib.hid hV
    have hd1 : decide ((bs.length : Int) < 12) = true := decide_eq_true (by omega)
    clear hE hV h12 h
    go_enter Tryd.func9, Tryd.ntmps9
    go_upto_region 2 with fail
    generalize w.alloc (.cells #[.bool false, .int .i64 0, .int .u32 0, .int .u16 0, .string ⟨#[]⟩, .string ⟨#[]⟩] 30) = w1 at *
    refine wp_region_lit ?_
    refine wpList_plain rfl (fun K hK => ?_)
    go_simp
    refine hK _ _ ?_
    clear hK K
    refine wpList_plain rfl (fun K hK => ?_)
    refine oper_store (cs0 := #[.bool false, .int .i64 0, .int .u32 0, .int .u16 0, .string ⟨#[]⟩, .string ⟨#[]⟩]) rfl rfl rfl bR (by kernel_rfl) rfl (by simp [Value.oneCell']) ?_
    refine hK _ _ ?_
    clear hK K
    refine wpList_plain rfl (fun K hK => ?_)
    go_simp
    refine hK _ _ ?_
    clear hK K
    refine wpList_nil ?_
    have bZ := blk_row #[.bool false, .int .i64 0, .int .u32 0, .int .u16 0, .string ⟨#[]⟩, .string ⟨#[]⟩] bR
    have fZ := fr_row (w := w1) w.heap.size #[.bool false, .int .i64 0, .int .u32 0, .int .u16 0, .string ⟨#[]⟩, .string ⟨#[]⟩]
    generalize World.setRow w1 w.heap.size #[.bool false, .int .i64 0, .int .u32 0, .int .u16 0, .string ⟨#[]⟩, .string ⟨#[]⟩] = wz at *
    go_wp2
    (try simp only [Exit.inBlock, Exit.then])
    refine bodyPost_ret (results_blk rfl _ rfl bZ hup rfl (by kernel_rfl)) rfl ?_
    rw [HE.out, HV.out]
    exact ⟨rfl, Bl.trans B1 (Bl.of_fr fZ (B1).size (fun k h => by have h9 : k = w.heap.size := h; omega))⟩
  · obtain ⟨a0, a1, a2, a3, a4, a5, a6, a7, a8, a9, a10, a11, r, eb, z0, z1, z2, z3, z4, z5, z6, z7, z8, z9, z10, z11, hr⟩ := bytes12 h12 hB
    have hd1 : decide ((bs.length : Int) < 12) = false := decide_eq_false (by omega)
    have I0 : IsB ([a0] ++ ([a1] ++ ([a2, a3] ++ ([a4, a5, a6, a7] ++ ([a8, a9] ++ ([a10, a11] ++ r)))))) := eb ▸ hB
    have I1 := isb_tail I0
    have I2 := isb_tail I1
    have I3 := isb_tail I2
    have I4 := isb_tail I3
    have I5 := isb_tail I4
    have e0 : hd bs 0 = a0 := by rw [eb]; rfl
    have e1 : hd bs 1 = a1 := by rw [eb]; rfl
    have eK : gK bs = a1 % 128 := by unfold gK; rw [eb]; rfl
    have eP : gP bs = a2 * 256 + a3 := by unfold gP; rw [eb]; rfl
    have eN : gN bs = ((a4 * 256 + a5) * 256 + a6) * 256 + a7 := by unfold gN; rw [eb]; rfl
    have eA : gA bs = (a8 * 256 + a9).toNat := by unfold gA; rw [eb]; rfl
    have eB : gB bs = (a10 * 256 + a11).toNat := by unfold gB; rw [eb]; rfl
    have eR : bs.drop 12 = r := by rw [eb]; rfl
    have eL : bs.length = 12 + r.length := by rw [eb]; simp; omega
    obtain ⟨nA, hnA⟩ : ∃ nA : Nat, gA bs = nA := ⟨_, rfl⟩
    obtain ⟨nB, hnB⟩ : ∃ nB : Nat, gB bs = nB := ⟨_, rfl⟩
    have hA2 : a8 * 256 + a9 = (nA : Int) := by rw [← hnA, eA]; omega
    have hB2 : a10 * 256 + a11 = (nB : Int) := by rw [← hnB, eB]; omega
    obtain ⟨N, hN⟩ : ∃ N : Int, gN bs = N := ⟨_, rfl⟩
    obtain ⟨P, hP⟩ : ∃ P : Int, gP bs = P := ⟨_, rfl⟩
    have hLs : gL bs = bstr (r.take nA) := by unfold gL; rw [hnA, eR]
    have hRs : gR bs = bstr ((r.drop nA).take nB) := by unfold gR; rw [hnA, hnB, ← List.drop_drop, eR]
    have HGE : gE bs = (if a0 ≠ 3 ∨ rightB (a1 % 128) N = false then 60 else if 255 < nA ∨ 255 < nB then 43 else if r.length < nA + nB then 40 else if nA + nB < r.length then 41 else if (vd (bstr (r.take nA)) && vd (bstr ((r.drop nA).take nB))) = true then 0 else 200) := by
      unfold gE
      rw [if_neg h12, e0, eK, hN, hnA, hnB, hLs, hRs, eL]
      congr 2
      by_cases q1 : r.length < nA + nB
      · rw [if_pos (by omega), if_pos q1]
      · rw [if_neg (by omega), if_neg q1]
        by_cases q2 : nA + nB < r.length
        · rw [if_pos (by omega), if_pos q2]
        · rw [if_neg (by omega), if_neg q2]
    have HVV : gE bs = 0 → gV bs = off (decide (128 ≤ a1)) (a1 % 128) N P (bstr (r.take nA)) (bstr ((r.drop nA).take nB)) := fun h => by
      unfold gV
      rw [if_pos h, e1, eK, hN, hP, hLs, hRs]
    have hNz : num [a4, a5, a6, a7] = N := by rw [num_four z4 z5 z6 z7, ← hN, eN]
    have hPz : num [a2, a3] = P := by rw [num_two z2 z3, ← hP, eP]
    have hAz : num [a8, a9] = nA := by rw [num_two z8 z9, hA2]
    have hBz : num [a10, a11] = nB := by rw [num_two z10 z11, hB2]
    have hnA1 : nA < 65536 := by omega
    have hnB1 : nB < 65536 := by omega
    have hkr : 0 ≤ a1 % 128 ∧ a1 % 128 < 128 := by omega
    have HEB := Lib.hid eb
    have hGE := Lib.hid HGE
    have hVV := Lib.hid HVV
    have hEL := Lib.hid eL
    have hER := Lib.hid eR
    have hLS := Lib.hid hLs
    have hRS := Lib.hid hRs
    have hrl : r.length ≤ 140737488355328 := by omega
    have z1a : 0 ≤ a1 := z1.1
    have z1b : a1 < 256 := z1.2
    have hm1 : a1.tmod 128 = a1 % 128 := Int.tmod_eq_emod_of_nonneg z1a
    have hX1 := Lib.hid X1
    have hNr : 0 ≤ N ∧ N < 4294967296 := by omega
    have hwN : IntKind.u32.wrap N = N := by rw [IntKind.wrap_u32]; omega
    have hPr : 0 ≤ P ∧ P < 65536 := by omega
    have hwP : IntKind.u16.wrap P = P := by rw [IntKind.wrap_u16]; omega
    clear eb HGE HVV e0 e1 eK eP eN eA eB eR eL hLs hRs hN hP hnA hnB hA2 hB2 z2 z3 z4 z5 z6 z7 z8 z9 z10 z11 hB
    obtain ⟨A1, c1, e1, q1, q2, q3, q4⟩ := X1
    injection e1 with e11 e12 e13
    subst e11; subst e13
    clear e12
    have hlo : lo ≤ lo := Nat.le_refl _
    go_enter Tryd.func9, Tryd.ntmps9
    go_upto_region 4 with fail
    have hs1 : (w.alloc (.cells #[.bool false, .int .i64 0, .int .u32 0, .int .u16 0, .string ⟨#[]⟩, .string ⟨#[]⟩] 30)).heap.size = w.heap.size + 1 := by simp
    generalize w.alloc (.cells #[.bool false, .int .i64 0, .int .u32 0, .int .u16 0, .string ⟨#[]⟩, .string ⟨#[]⟩] 30) = w1 at *
    have bT := Blk.new w1 #[.slice A bs.length c, .int .i64 0, .bool false] 63
    rw [hs1] at bT
    have FT : Fr nothing w1 (w1.alloc (.cells #[.slice A bs.length c, .int .i64 0, .bool false] 63)) := (Fr.refl _ w1).alloc _
    have bR2 := Blk.fr bR FT id
    have B2 := Bl.trans B1 (Bl.of_fr FT B1.size (fun k h => False.elim h))
    have T0 : Tap (w1.alloc (.cells #[.slice A bs.length c, .int .i64 0, .bool false] 63)) (w.heap.size + 1) lo hi bs false := ⟨A, c, bs, 0, bT, Nat.zero_le _, List.drop_zero.symm, (fun h => by cases h), q1, q2, q3, RdB.fr q4 FT (fun _ _ _ h => h)⟩
    generalize w1.alloc (.cells #[.slice A bs.length c, .int .i64 0, .bool false] 63) = w2 at *
    rw [HEB.out] at T0
    have hrg : ¬ (lo ≤ w.heap.size + 1 ∧ w.heap.size + 1 < hi) := by omega
    clear bT FT B1 bR hs1
    have P1 := tnum_calls (w.heap.size + 1) lo hi _ false 1 w2 T0 hrg I0 (by decide)
    unfold TNum at P1
    rw [(tk_in (xs := [a0]) (n := ((1 : Nat) : Int)) rfl).1, (tk_in (xs := [a0]) (n := ((1 : Nat) : Int)) rfl).2.1, (tk_in (xs := [a0]) (n := ((1 : Nat) : Int)) rfl).2.2, num_one z0] at P1
    have HP1 := Lib.hid P1
    clear P1
    go_wp2_with fail
    refine HP1.out.mono ?_
    rintro e w3 ⟨rfl, T3, f3⟩
    clear HP1
    have P2 := tnum_calls (w.heap.size + 1) lo hi _ false 1 w3 T3 hrg I1 (by decide)
    unfold TNum at P2
    rw [(tk_in (xs := [a1]) (n := ((1 : Nat) : Int)) rfl).1, (tk_in (xs := [a1]) (n := ((1 : Nat) : Int)) rfl).2.1, (tk_in (xs := [a1]) (n := ((1 : Nat) : Int)) rfl).2.2, num_one z1] at P2
    have HP2 := Lib.hid P2
    clear P2
    go_wp2_with fail
    refine HP2.out.mono ?_
    rintro e w4 ⟨rfl, T4, f4⟩
    clear HP2
    have P3 := tnum_calls (w.heap.size + 1) lo hi _ false 2 w4 T4 hrg I2 (by decide)
    unfold TNum at P3
    rw [(tk_in (xs := [a2, a3]) (n := ((2 : Nat) : Int)) rfl).1, (tk_in (xs := [a2, a3]) (n := ((2 : Nat) : Int)) rfl).2.1, (tk_in (xs := [a2, a3]) (n := ((2 : Nat) : Int)) rfl).2.2, hPz] at P3
    have HP3 := Lib.hid P3
    clear P3
    go_wp2_with fail
    refine HP3.out.mono ?_
    rintro e w5 ⟨rfl, T5, f5⟩
    clear HP3
    have P4 := tnum_calls (w.heap.size + 1) lo hi _ false 4 w5 T5 hrg I3 (by decide)
    unfold TNum at P4
    rw [(tk_in (xs := [a4, a5, a6, a7]) (n := ((4 : Nat) : Int)) rfl).1, (tk_in (xs := [a4, a5, a6, a7]) (n := ((4 : Nat) : Int)) rfl).2.1, (tk_in (xs := [a4, a5, a6, a7]) (n := ((4 : Nat) : Int)) rfl).2.2, hNz] at P4
    have HP4 := Lib.hid P4
    clear P4
    go_wp2_with fail
    refine HP4.out.mono ?_
    rintro e w6 ⟨rfl, T6, f6⟩
    clear HP4
    have P5 := tnum_calls (w.heap.size + 1) lo hi _ false 2 w6 T6 hrg I4 (by decide)
    unfold TNum at P5
    rw [(tk_in (xs := [a8, a9]) (n := ((2 : Nat) : Int)) rfl).1, (tk_in (xs := [a8, a9]) (n := ((2 : Nat) : Int)) rfl).2.1, (tk_in (xs := [a8, a9]) (n := ((2 : Nat) : Int)) rfl).2.2, hAz] at P5
    have HP5 := Lib.hid P5
    clear P5
    go_wp2_with fail
    refine HP5.out.mono ?_
    rintro e w7 ⟨rfl, T7, f7⟩
    clear HP5
    have P6 := tnum_calls (w.heap.size + 1) lo hi _ false 2 w7 T7 hrg I5 (by decide)
    unfold TNum at P6
    rw [(tk_in (xs := [a10, a11]) (n := ((2 : Nat) : Int)) rfl).1, (tk_in (xs := [a10, a11]) (n := ((2 : Nat) : Int)) rfl).2.1, (tk_in (xs := [a10, a11]) (n := ((2 : Nat) : Int)) rfl).2.2, hBz] at P6
    have HP6 := Lib.hid P6
    clear P6
    go_wp2_with fail
    refine HP6.out.mono ?_
    rintro e w8 ⟨rfl, T8, f8⟩
    clear HP6
    have F8 := (f3.trans f4 (fun _ _ h => h)).trans ((f5.trans f6 (fun _ _ h => h)).trans (f7.trans f8 (fun _ _ h => h)) (fun _ _ h => h)) (fun _ _ h => h)
    have bR8 := bR2.fr F8 (fun h => by have h9 : w.heap.size = w.heap.size + 1 := h; omega)
    have B8 := Bl.trans B2 (Bl.of_fr F8 B2.size (fun k h => by have h9 : k = w.heap.size + 1 := h; omega))
    clear f3 f4 f5 f6 f7 f8 F8 T0 T3 T4 T5 T6 T7 T8 bR2 B2 I0 I1 I2 I3 I4 I5 hNz hPz hAz hBz z0 z1
    go_upto_region 10 with fail
    by_cases h3 : a0 = 3
    · have hne : (a0 != 3) = false := by simp [h3]
      have CR := rright_calls (a1 % 128) N w8
      rcases hq : rightB (a1 % 128) N with _ | _
      · have hE : gE bs = 60 := by rw [hGE.out, if_pos (.inr hq)]
        have HE := Lib.hid hE
        have HV := Lib.hid (gV_bad (bs := bs) (by rw [hE]; decide))
        rw [hq] at CR
        have HCR := Lib.hid CR
        clear hE h3 CR
        go_wp2_with fail
        refine HCR.out.mono ?_
        rintro e w10 ⟨rfl, rfl⟩
        clear HCR
        go_upto_region 11 with fail
        refine wp_region_lit ?_
        refine wpList_plain rfl (fun K hK => ?_)
        go_simp
        refine hK _ _ ?_
        clear hK K
        refine wpList_plain rfl (fun K hK => ?_)
        refine oper_store (cs0 := #[.bool false, .int .i64 0, .int .u32 0, .int .u16 0, .string ⟨#[]⟩, .string ⟨#[]⟩]) rfl rfl rfl bR8 (by kernel_rfl) rfl (by simp [Value.oneCell']) ?_
        refine hK _ _ ?_
        clear hK K
        refine wpList_plain rfl (fun K hK => ?_)
        go_simp
        refine hK _ _ ?_
        clear hK K
        refine wpList_nil ?_
        have bZ := blk_row #[.bool false, .int .i64 0, .int .u32 0, .int .u16 0, .string ⟨#[]⟩, .string ⟨#[]⟩] bR8
        have fZ := fr_row (w := w10) w.heap.size #[.bool false, .int .i64 0, .int .u32 0, .int .u16 0, .string ⟨#[]⟩, .string ⟨#[]⟩]
        generalize World.setRow w10 w.heap.size #[.bool false, .int .i64 0, .int .u32 0, .int .u16 0, .string ⟨#[]⟩, .string ⟨#[]⟩] = wz at *
        go_wp2
        (try simp only [Exit.inBlock, Exit.then])
        refine bodyPost_ret (results_blk rfl _ rfl bZ hup rfl (by kernel_rfl)) rfl ?_
        rw [HE.out, HV.out]
        exact ⟨rfl, Bl.trans B8 (Bl.of_fr fZ (B8).size (fun k h => by have h9 : k = w.heap.size := h; omega))⟩
      · have hnq : ¬ (a0 ≠ 3 ∨ rightB (a1 % 128) N = false) := by rw [hq]; simp [h3]
        rw [hq] at CR
        have HCR := Lib.hid CR
        replace hGE := Lib.hid (show gE bs = _ by rw [hGE.out, if_neg hnq])
        clear h3 CR hnq
        go_wp2_with fail
        refine HCR.out.mono ?_
        rintro e w10 ⟨rfl, rfl⟩
        clear HCR
        go_upto_region 12 with fail
        by_cases h4 : 255 < nA ∨ 255 < nB
        · have hE : gE bs = 43 := by rw [hGE.out, if_pos h4]
          have HE := Lib.hid hE
          have HV := Lib.hid (gV_bad (bs := bs) (by rw [hE]; decide))
          clear hE
          by_cases h5 : 255 < nA
          · have hd5 : decide ((255 : Int) < nA) = true := decide_eq_true (by omega)
            clear h4 h5
            go_upto_region 13 with fail
            refine wp_region_lit ?_
            refine wpList_plain rfl (fun K hK => ?_)
            go_simp
            refine hK _ _ ?_
            clear hK K
            refine wpList_plain rfl (fun K hK => ?_)
            refine oper_store (cs0 := #[.bool false, .int .i64 0, .int .u32 0, .int .u16 0, .string ⟨#[]⟩, .string ⟨#[]⟩]) rfl rfl rfl bR8 (by kernel_rfl) rfl (by simp [Value.oneCell']) ?_
            refine hK _ _ ?_
            clear hK K
            refine wpList_plain rfl (fun K hK => ?_)
            go_simp
            refine hK _ _ ?_
            clear hK K
            refine wpList_nil ?_
            have bZ := blk_row #[.bool false, .int .i64 0, .int .u32 0, .int .u16 0, .string ⟨#[]⟩, .string ⟨#[]⟩] bR8
            have fZ := fr_row (w := w10) w.heap.size #[.bool false, .int .i64 0, .int .u32 0, .int .u16 0, .string ⟨#[]⟩, .string ⟨#[]⟩]
            generalize World.setRow w10 w.heap.size #[.bool false, .int .i64 0, .int .u32 0, .int .u16 0, .string ⟨#[]⟩, .string ⟨#[]⟩] = wz at *
            go_wp2
            (try simp only [Exit.inBlock, Exit.then])
            refine bodyPost_ret (results_blk rfl _ rfl bZ hup rfl (by kernel_rfl)) rfl ?_
            rw [HE.out, HV.out]
            exact ⟨rfl, Bl.trans B8 (Bl.of_fr fZ (B8).size (fun k h => by have h9 : k = w.heap.size := h; omega))⟩
          · have hd5 : decide ((255 : Int) < nA) = false := decide_eq_false (by omega)
            have hd6 : decide ((255 : Int) < nB) = true := decide_eq_true (by omega)
            clear h4 h5
            go_upto_region 13 with fail
            refine wp_region_lit ?_
            refine wpList_plain rfl (fun K hK => ?_)
            go_simp
            refine hK _ _ ?_
            clear hK K
            refine wpList_plain rfl (fun K hK => ?_)
            refine oper_store (cs0 := #[.bool false, .int .i64 0, .int .u32 0, .int .u16 0, .string ⟨#[]⟩, .string ⟨#[]⟩]) rfl rfl rfl bR8 (by kernel_rfl) rfl (by simp [Value.oneCell']) ?_
            refine hK _ _ ?_
            clear hK K
            refine wpList_plain rfl (fun K hK => ?_)
            go_simp
            refine hK _ _ ?_
            clear hK K
            refine wpList_nil ?_
            have bZ := blk_row #[.bool false, .int .i64 0, .int .u32 0, .int .u16 0, .string ⟨#[]⟩, .string ⟨#[]⟩] bR8
            have fZ := fr_row (w := w10) w.heap.size #[.bool false, .int .i64 0, .int .u32 0, .int .u16 0, .string ⟨#[]⟩, .string ⟨#[]⟩]
            generalize World.setRow w10 w.heap.size #[.bool false, .int .i64 0, .int .u32 0, .int .u16 0, .string ⟨#[]⟩, .string ⟨#[]⟩] = wz at *
            go_wp2
            (try simp only [Exit.inBlock, Exit.then])
            refine bodyPost_ret (results_blk rfl _ rfl bZ hup rfl (by kernel_rfl)) rfl ?_
            rw [HE.out, HV.out]
            exact ⟨rfl, Bl.trans B8 (Bl.of_fr fZ (B8).size (fun k h => by have h9 : k = w.heap.size := h; omega))⟩
        · have hd5 : decide ((255 : Int) < nA) = false := decide_eq_false (by omega)
          have hd6 : decide ((255 : Int) < nB) = false := decide_eq_false (by omega)
          replace hGE := Lib.hid (show gE bs = _ by rw [hGE.out, if_neg h4])
          have hA5 : nA ≤ 255 := by omega
          have hB5 : nB ≤ 255 := by omega
          clear h4
          have hww1 : wrap64 (12 + (nA : Int)) = 12 + (nA : Int) := ww1 hA5
          have hww2 : wrap64 (12 + (nA : Int) + (nB : Int)) = 12 + (nA : Int) + (nB : Int) := ww2 hA5 hB5
          have HW1 := Lib.hid hww1
          have HW2 := Lib.hid hww2
          clear hww1 hww2
          by_cases s1 : r.length < nA + nB
          · have hE : gE bs = 40 := by rw [hGE.out, if_pos s1]
            have HE := Lib.hid hE
            have HV := Lib.hid (gV_bad (bs := bs) (by rw [hE]; decide))
            have hd7 : decide ((bs.length : Int) < 12 + (nA : Int) + (nB : Int)) = true := len_lt hEL.out s1
            clear hE s1
            go_upto_region 15 with fail
            refine wp_region_lit ?_
            refine wpList_plain rfl (fun K hK => ?_)
            go_simp
            refine hK _ _ ?_
            clear hK K
            refine wpList_plain rfl (fun K hK => ?_)
            refine oper_store (cs0 := #[.bool false, .int .i64 0, .int .u32 0, .int .u16 0, .string ⟨#[]⟩, .string ⟨#[]⟩]) rfl rfl rfl bR8 (by kernel_rfl) rfl (by simp [Value.oneCell']) ?_
            refine hK _ _ ?_
            clear hK K
            refine wpList_plain rfl (fun K hK => ?_)
            go_simp
            refine hK _ _ ?_
            clear hK K
            refine wpList_nil ?_
            have bZ := blk_row #[.bool false, .int .i64 0, .int .u32 0, .int .u16 0, .string ⟨#[]⟩, .string ⟨#[]⟩] bR8
            have fZ := fr_row (w := w10) w.heap.size #[.bool false, .int .i64 0, .int .u32 0, .int .u16 0, .string ⟨#[]⟩, .string ⟨#[]⟩]
            generalize World.setRow w10 w.heap.size #[.bool false, .int .i64 0, .int .u32 0, .int .u16 0, .string ⟨#[]⟩, .string ⟨#[]⟩] = wz at *
            go_wp2
            (try simp only [Exit.inBlock, Exit.then])
            refine bodyPost_ret (results_blk rfl _ rfl bZ hup rfl (by kernel_rfl)) rfl ?_
            rw [HE.out, HV.out]
            exact ⟨rfl, Bl.trans B8 (Bl.of_fr fZ (B8).size (fun k h => by have h9 : k = w.heap.size := h; omega))⟩
          · have hd7 : decide ((bs.length : Int) < 12 + (nA : Int) + (nB : Int)) = false := len_nlt hEL.out s1
            by_cases s2 : nA + nB < r.length
            · have hE : gE bs = 41 := by rw [hGE.out, if_neg s1, if_pos s2]
              have HE := Lib.hid hE
              have HV := Lib.hid (gV_bad (bs := bs) (by rw [hE]; decide))
              have hd8 : decide (12 + (nA : Int) + (nB : Int) < (bs.length : Int)) = true := len_gt hEL.out s2
              clear hE s1 s2
              go_upto_region 17 with fail
              refine wp_region_lit ?_
              refine wpList_plain rfl (fun K hK => ?_)
              go_simp
              refine hK _ _ ?_
              clear hK K
              refine wpList_plain rfl (fun K hK => ?_)
              refine oper_store (cs0 := #[.bool false, .int .i64 0, .int .u32 0, .int .u16 0, .string ⟨#[]⟩, .string ⟨#[]⟩]) rfl rfl rfl bR8 (by kernel_rfl) rfl (by simp [Value.oneCell']) ?_
              refine hK _ _ ?_
              clear hK K
              refine wpList_plain rfl (fun K hK => ?_)
              go_simp
              refine hK _ _ ?_
              clear hK K
              refine wpList_nil ?_
              have bZ := blk_row #[.bool false, .int .i64 0, .int .u32 0, .int .u16 0, .string ⟨#[]⟩, .string ⟨#[]⟩] bR8
              have fZ := fr_row (w := w10) w.heap.size #[.bool false, .int .i64 0, .int .u32 0, .int .u16 0, .string ⟨#[]⟩, .string ⟨#[]⟩]
              generalize World.setRow w10 w.heap.size #[.bool false, .int .i64 0, .int .u32 0, .int .u16 0, .string ⟨#[]⟩, .string ⟨#[]⟩] = wz at *
              go_wp2
              (try simp only [Exit.inBlock, Exit.then])
              refine bodyPost_ret (results_blk rfl _ rfl bZ hup rfl (by kernel_rfl)) rfl ?_
              rw [HE.out, HV.out]
              exact ⟨rfl, Bl.trans B8 (Bl.of_fr fZ (B8).size (fun k h => by have h9 : k = w.heap.size := h; omega))⟩
            · have hd8 : decide (12 + (nA : Int) + (nB : Int) < (bs.length : Int)) = false := len_ngt hEL.out s2
              replace hGE := Lib.hid (show gE bs = _ by rw [hGE.out, if_neg s1, if_neg s2])
              have hLL := Lib.hid (len_is hEL.out s1 s2)
              clear s1 s2
              go_upto_region 18 with fail
              obtain ⟨s1, hs1⟩ : ∃ x, (bs.take (12 + nA)).drop 12 = x := ⟨_, rfl⟩
              obtain ⟨s2, hs2⟩ : ∃ x, bs.drop (12 + nA) = x := ⟨_, rfl⟩
              obtain ⟨L1, hL1⟩ : ∃ x, bstr s1 = x := ⟨_, rfl⟩
              obtain ⟨L2, hL2⟩ : ∃ x, bstr s2 = x := ⟨_, rfl⟩
              have HS := Lib.hid (And.intro hs1 (And.intro hs2 (And.intro hL1 hL2)))
              clear hs1 hs2 hL1 hL2
              have hbc : 12 + nA ≤ c := by have := hLL.out; omega
              have hbl : 12 + nA ≤ bs.length := by have := hLL.out; omega
              refine wp_region_any (by kernel_rfl) ?_
              refine Reg.wpAny_inv (I := fun listed act wq => ∃ (c0 c1 c2 c3 c4 c5 c6 c7 c8 c9 c10 c11 c12 c13 c14 c15 c16 c17 c18 c19 c20 : Bool) (q1 q2 : Value) (q : Nat), listed = #[c0, c1, c2, c3, c4, c5, c6, c7, c8, c9, c10, c11, c12, c13, c14, c15, c16, c17, c18, c19, c20] ∧ act = ⟨#[.slice A bs.length c, undef, .pointer (some ⟨w.heap.size, 0, none⟩), .int .i64 0, .pointer (some ⟨w.heap.size + 1, 0, none⟩), .int .u64 a0, .int .i64 a1, .int .u64 P, .int .u32 N, .int .i64 nA, .int .i64 nB, (bif c19 then (.pointer (some ⟨q, 0, none⟩)) else undef), .slice A bs.length c, .int .i64 bs.length, .bool false, undef, .slice A bs.length c, .agg #[.slice A bs.length c, .int .i64 0, .bool false], .pointer (some ⟨w.heap.size + 1, 0, none⟩), .pointer (some ⟨w.heap.size + 1, 0, none⟩), .int .u64 a0, .pointer (some ⟨w.heap.size + 1, 0, none⟩), .int .u64 a1, .int .i64 a1, .pointer (some ⟨w.heap.size + 1, 0, none⟩), .int .u64 P, .pointer (some ⟨w.heap.size + 1, 0, none⟩), .int .u64 N, .int .u32 N, .pointer (some ⟨w.heap.size + 1, 0, none⟩), .int .u64 nA, .int .i64 nA, .pointer (some ⟨w.heap.size + 1, 0, none⟩), .int .u64 nB, .int .i64 nB, .bool false, .int .u64 a0, .bool false, .bool false, .int .i64 a1, .int .i64 (a1 % 128), .int .u32 N, .bool true, .bool false, .bool false, undef, .bool false, .int .i64 nA, .bool false, .bool false, .int .i64 nB, .bool false, .bool false, undef, .bool false, .slice A bs.length c, .int .i64 bs.length, .int .i64 nA, .int .i64 (12 + nA), .int .i64 nB, .int .i64 (12 + nA + nB), .bool false, undef, .bool false, .slice A bs.length c, .int .i64 bs.length, .int .i64 nA, .int .i64 (12 + nA), .int .i64 nB, .int .i64 (12 + nA + nB), .bool false, undef, (bif c0 then (.int .i64 a1) else undef), (bif c1 then (.bool (decide (128 ≤ a1))) else undef), (bif c2 then (.int .u64 P) else undef), (bif c3 then (.int .u16 P) else undef), (bif c4 then (.int .i64 a1) else undef), (bif c5 then (.int .i64 (a1 % 128)) else undef), (bif c6 then (.int .u32 N) else undef), (bif c7 then (.agg #[.int .i64 (a1 % 128), .int .u32 N]) else undef), (bif c8 then (.slice A bs.length c) else undef), (bif c9 then (.int .i64 nA) else undef), (bif c10 then (.int .i64 (12 + nA)) else undef), (bif c11 then (q1) else undef), (bif c12 then (.string L1) else undef), (bif c13 then (.slice A bs.length c) else undef), (bif c14 then (.int .i64 nA) else undef), (bif c15 then (.int .i64 (12 + nA)) else undef), (bif c16 then (q2) else undef), (bif c17 then (.string L2) else undef), (bif c18 then (.agg #[.bool (decide (128 ≤ a1)), .int .i64 (a1 % 128), .int .u32 N, .int .u16 P, .string L1, .string L2]) else undef), undef, undef, undef, undef, undef, undef, undef, undef, undef, undef, undef, undef], []⟩ ∧ Blk wq w.heap.size 30 #[.bool false, .int .i64 0, .int .u32 0, .int .u16 0, .string ⟨#[]⟩, .string ⟨#[]⟩] ∧ Below w.heap.size w wq ∧ SlB wq lo hi (.slice A bs.length c) bs ∧ (c19 = true → Blk wq q 30 (bif c20 then #[.bool (decide (128 ≤ a1)), .int .i64 (a1 % 128), .int .u32 N, .int .u16 P, .string L1, .string L2] else #[.bool false, .int .i64 0, .int .u32 0, .int .u16 0, .string ⟨#[]⟩, .string ⟨#[]⟩]) ∧ w.heap.size < q) ∧ (c11 = true → SlB wq lo hi q1 s1) ∧ (c16 = true → SlB wq lo hi q2 s2) ∧ (c20 = true → c19 = true)) ?_ ?_ _ _ _ _ (by decide) ?_
              · intro i o listed act wq hi hI hun hdeps K hK
                obtain ⟨c0, c1, c2, c3, c4, c5, c6, c7, c8, c9, c10, c11, c12, c13, c14, c15, c16, c17, c18, c19, c20, q1, q2, q, rfl, rfl, hZ, hB, hS, hO, h1, h2, hD⟩ := hI
                have hlt : i < 21 := (Array.getElem?_eq_some_iff.1 hi).1
                rcases (show i = 0 ∨ i = 1 ∨ i = 2 ∨ i = 3 ∨ i = 4 ∨ i = 5 ∨ i = 6 ∨ i = 7 ∨ i = 8 ∨ i = 9 ∨ i = 10 ∨ i = 11 ∨ i = 12 ∨ i = 13 ∨ i = 14 ∨ i = 15 ∨ i = 16 ∨ i = 17 ∨ i = 18 ∨ i = 19 ∨ i = 20 by omega) with rfl | rfl | rfl | rfl | rfl | rfl | rfl | rfl | rfl | rfl | rfl | rfl | rfl | rfl | rfl | rfl | rfl | rfl | rfl | rfl | rfl
                · skip
                  obtain rfl : _ = o := Option.some.inj hi
                  obtain rfl : c0 = false := by simpa using hun
                  clear hun hdeps hi
                  go_simp
                  exact hK _ _ ⟨true, c1, c2, c3, c4, c5, c6, c7, c8, c9, c10, c11, c12, c13, c14, c15, c16, c17, c18, c19, c20, q1, q2, q, rfl, rfl, hZ, hB, hS, hO, h1, h2, hD⟩
                · skip
                  obtain rfl : _ = o := Option.some.inj hi
                  obtain rfl : c1 = false := by simpa using hun
                  obtain rfl : c0 = true := hdeps _ (Array.mem_of_getElem? (i := 0) rfl) rfl
                  clear hun hdeps hi
                  go_simp
                  exact hK _ _ ⟨true, true, c2, c3, c4, c5, c6, c7, c8, c9, c10, c11, c12, c13, c14, c15, c16, c17, c18, c19, c20, q1, q2, q, rfl, rfl, hZ, hB, hS, hO, h1, h2, hD⟩
                · skip
                  obtain rfl : _ = o := Option.some.inj hi
                  obtain rfl : c2 = false := by simpa using hun
                  clear hun hdeps hi
                  go_simp
                  exact hK _ _ ⟨c0, c1, true, c3, c4, c5, c6, c7, c8, c9, c10, c11, c12, c13, c14, c15, c16, c17, c18, c19, c20, q1, q2, q, rfl, rfl, hZ, hB, hS, hO, h1, h2, hD⟩
                · skip
                  obtain rfl : _ = o := Option.some.inj hi
                  obtain rfl : c3 = false := by simpa using hun
                  obtain rfl : c2 = true := hdeps _ (Array.mem_of_getElem? (i := 0) rfl) rfl
                  clear hun hdeps hi
                  go_simp
                  exact hK _ _ ⟨c0, c1, true, true, c4, c5, c6, c7, c8, c9, c10, c11, c12, c13, c14, c15, c16, c17, c18, c19, c20, q1, q2, q, rfl, rfl, hZ, hB, hS, hO, h1, h2, hD⟩
                · skip
                  obtain rfl : _ = o := Option.some.inj hi
                  obtain rfl : c4 = false := by simpa using hun
                  clear hun hdeps hi
                  go_simp
                  exact hK _ _ ⟨c0, c1, c2, c3, true, c5, c6, c7, c8, c9, c10, c11, c12, c13, c14, c15, c16, c17, c18, c19, c20, q1, q2, q, rfl, rfl, hZ, hB, hS, hO, h1, h2, hD⟩
                · skip
                  obtain rfl : _ = o := Option.some.inj hi
                  obtain rfl : c5 = false := by simpa using hun
                  obtain rfl : c4 = true := hdeps _ (Array.mem_of_getElem? (i := 0) rfl) rfl
                  clear hun hdeps hi
                  go_simp
                  exact hK _ _ ⟨c0, c1, c2, c3, true, true, c6, c7, c8, c9, c10, c11, c12, c13, c14, c15, c16, c17, c18, c19, c20, q1, q2, q, rfl, rfl, hZ, hB, hS, hO, h1, h2, hD⟩
                · skip
                  obtain rfl : _ = o := Option.some.inj hi
                  obtain rfl : c6 = false := by simpa using hun
                  clear hun hdeps hi
                  go_simp
                  exact hK _ _ ⟨c0, c1, c2, c3, c4, c5, true, c7, c8, c9, c10, c11, c12, c13, c14, c15, c16, c17, c18, c19, c20, q1, q2, q, rfl, rfl, hZ, hB, hS, hO, h1, h2, hD⟩
                · skip
                  obtain rfl : _ = o := Option.some.inj hi
                  obtain rfl : c7 = false := by simpa using hun
                  obtain rfl : c5 = true := hdeps _ (Array.mem_of_getElem? (i := 0) rfl) rfl
                  obtain rfl : c6 = true := hdeps _ (Array.mem_of_getElem? (i := 1) rfl) rfl
                  clear hun hdeps hi
                  go_simp
                  exact hK _ _ ⟨c0, c1, c2, c3, c4, true, true, true, c8, c9, c10, c11, c12, c13, c14, c15, c16, c17, c18, c19, c20, q1, q2, q, rfl, rfl, hZ, hB, hS, hO, h1, h2, hD⟩
                · skip
                  obtain rfl : _ = o := Option.some.inj hi
                  obtain rfl : c8 = false := by simpa using hun
                  clear hun hdeps hi
                  go_simp
                  exact hK _ _ ⟨c0, c1, c2, c3, c4, c5, c6, c7, true, c9, c10, c11, c12, c13, c14, c15, c16, c17, c18, c19, c20, q1, q2, q, rfl, rfl, hZ, hB, hS, hO, h1, h2, hD⟩
                · skip
                  obtain rfl : _ = o := Option.some.inj hi
                  obtain rfl : c9 = false := by simpa using hun
                  clear hun hdeps hi
                  go_simp
                  exact hK _ _ ⟨c0, c1, c2, c3, c4, c5, c6, c7, c8, true, c10, c11, c12, c13, c14, c15, c16, c17, c18, c19, c20, q1, q2, q, rfl, rfl, hZ, hB, hS, hO, h1, h2, hD⟩
                · skip
                  obtain rfl : _ = o := Option.some.inj hi
                  obtain rfl : c10 = false := by simpa using hun
                  obtain rfl : c9 = true := hdeps _ (Array.mem_of_getElem? (i := 0) rfl) rfl
                  clear hun hdeps hi
                  have hw := ww3 hA5
                  go_simp
                  exact hK _ _ ⟨c0, c1, c2, c3, c4, c5, c6, c7, c8, true, true, c11, c12, c13, c14, c15, c16, c17, c18, c19, c20, q1, q2, q, rfl, rfl, hZ, hB, hS, hO, h1, h2, hD⟩
                · skip
                  obtain rfl : _ = o := Option.some.inj hi
                  obtain rfl : c11 = false := by simpa using hun
                  obtain rfl : c8 = true := hdeps _ (Array.mem_of_getElem? (i := 0) rfl) rfl
                  obtain rfl : c10 = true := hdeps _ (Array.mem_of_getElem? (i := 1) rfl) rfl
                  clear hun hdeps hi
                  have hS1 := slb_sub hS 12 (12 + nA) (Nat.le_add_right _ _) hbl
                  go_simp
                  rw [if_pos (sl_a hbc), if_pos (sl_b nA), sl_c nA]
                  go_simp
                  exact hK _ _ ⟨c0, c1, c2, c3, c4, c5, c6, c7, true, c9, true, true, c12, c13, c14, c15, c16, c17, c18, c19, c20, _, q2, q, rfl, rfl, hZ, hB, hS, hO, (fun _ => by have h := hS1; rw [HS.out.1] at h; simpa [Addr.add] using h), h2, hD⟩
                · skip
                  obtain rfl : _ = o := Option.some.inj hi
                  obtain rfl : c12 = false := by simpa using hun
                  obtain rfl : c11 = true := hdeps _ (Array.mem_of_getElem? (i := 0) rfl) rfl
                  clear hun hdeps hi
                  have sq := h1 rfl
                  obtain ⟨Aq, kq, eq, -, -, -, -⟩ := id sq
                  have cv := sq
                  rw [eq] at cv
                  replace cv := slb_str cv
                  rw [show bstr s1 = L1 from HS.out.2.2.1] at cv
                  subst eq
                  go_simp
                  exact hK _ _ ⟨c0, c1, c2, c3, c4, c5, c6, c7, c8, c9, c10, true, true, c13, c14, c15, c16, c17, c18, c19, c20, _, q2, q, rfl, rfl, hZ, hB, hS, hO, h1, h2, hD⟩
                · skip
                  obtain rfl : _ = o := Option.some.inj hi
                  obtain rfl : c13 = false := by simpa using hun
                  clear hun hdeps hi
                  go_simp
                  exact hK _ _ ⟨c0, c1, c2, c3, c4, c5, c6, c7, c8, c9, c10, c11, c12, true, c14, c15, c16, c17, c18, c19, c20, q1, q2, q, rfl, rfl, hZ, hB, hS, hO, h1, h2, hD⟩
                · skip
                  obtain rfl : _ = o := Option.some.inj hi
                  obtain rfl : c14 = false := by simpa using hun
                  clear hun hdeps hi
                  go_simp
                  exact hK _ _ ⟨c0, c1, c2, c3, c4, c5, c6, c7, c8, c9, c10, c11, c12, c13, true, c15, c16, c17, c18, c19, c20, q1, q2, q, rfl, rfl, hZ, hB, hS, hO, h1, h2, hD⟩
                · skip
                  obtain rfl : _ = o := Option.some.inj hi
                  obtain rfl : c15 = false := by simpa using hun
                  obtain rfl : c14 = true := hdeps _ (Array.mem_of_getElem? (i := 0) rfl) rfl
                  clear hun hdeps hi
                  have hw := ww3 hA5
                  go_simp
                  exact hK _ _ ⟨c0, c1, c2, c3, c4, c5, c6, c7, c8, c9, c10, c11, c12, c13, true, true, c16, c17, c18, c19, c20, q1, q2, q, rfl, rfl, hZ, hB, hS, hO, h1, h2, hD⟩
                · skip
                  obtain rfl : _ = o := Option.some.inj hi
                  obtain rfl : c16 = false := by simpa using hun
                  obtain rfl : c13 = true := hdeps _ (Array.mem_of_getElem? (i := 0) rfl) rfl
                  obtain rfl : c15 = true := hdeps _ (Array.mem_of_getElem? (i := 1) rfl) rfl
                  clear hun hdeps hi
                  have hS2 := slb_sub hS (12 + nA) bs.length hbl (Nat.le_refl _)
                  go_simp
                  rw [if_pos (sl_a hbl), sl_c nA]
                  go_simp
                  exact hK _ _ ⟨c0, c1, c2, c3, c4, c5, c6, c7, c8, c9, c10, c11, c12, true, c14, true, true, c17, c18, c19, c20, q1, _, q, rfl, rfl, hZ, hB, hS, hO, h1, (fun _ => by have h := hS2; rw [List.take_length, HS.out.2.1] at h; first | exact h | simpa using h), hD⟩
                · skip
                  obtain rfl : _ = o := Option.some.inj hi
                  obtain rfl : c17 = false := by simpa using hun
                  obtain rfl : c16 = true := hdeps _ (Array.mem_of_getElem? (i := 0) rfl) rfl
                  clear hun hdeps hi
                  have sq := h2 rfl
                  obtain ⟨Aq, kq, eq, -, -, -, -⟩ := id sq
                  have cv := sq
                  rw [eq] at cv
                  replace cv := slb_str cv
                  rw [show bstr s2 = L2 from HS.out.2.2.2] at cv
                  subst eq
                  go_simp
                  exact hK _ _ ⟨c0, c1, c2, c3, c4, c5, c6, c7, c8, c9, c10, c11, c12, c13, c14, c15, true, true, c18, c19, c20, q1, _, q, rfl, rfl, hZ, hB, hS, hO, h1, h2, hD⟩
                · skip
                  obtain rfl : _ = o := Option.some.inj hi
                  obtain rfl : c18 = false := by simpa using hun
                  obtain rfl : c1 = true := hdeps _ (Array.mem_of_getElem? (i := 0) rfl) rfl
                  obtain rfl : c3 = true := hdeps _ (Array.mem_of_getElem? (i := 1) rfl) rfl
                  obtain rfl : c7 = true := hdeps _ (Array.mem_of_getElem? (i := 2) rfl) rfl
                  obtain rfl : c12 = true := hdeps _ (Array.mem_of_getElem? (i := 3) rfl) rfl
                  obtain rfl : c17 = true := hdeps _ (Array.mem_of_getElem? (i := 4) rfl) rfl
                  clear hun hdeps hi
                  go_simp
                  exact hK _ _ ⟨c0, true, c2, true, c4, c5, c6, true, c8, c9, c10, c11, true, c13, c14, c15, c16, true, true, c19, c20, q1, q2, q, rfl, rfl, hZ, hB, hS, hO, h1, h2, hD⟩
                · skip
                  obtain rfl : _ = o := Option.some.inj hi
                  obtain rfl : c19 = false := by simpa using hun
                  clear hun hdeps hi
                  obtain rfl : c20 = false := Bool.eq_false_iff.2 (fun h => by have := hD h; cases this)
                  go_simp
                  have f1 : Fr nothing wq (wq.alloc (.cells #[.bool false, .int .i64 0, .int .u32 0, .int .u16 0, .string ⟨#[]⟩, .string ⟨#[]⟩] 30)) := (Fr.refl _ wq).alloc _
                  exact hK _ _ ⟨c0, c1, c2, c3, c4, c5, c6, c7, c8, c9, c10, c11, c12, c13, c14, c15, c16, c17, c18, true, false, q1, q2, wq.heap.size, rfl, rfl, hZ.fr f1 id, Bl.trans hB (Bl.of_fr f1 hB.size (fun k h => False.elim h)), hS.fr f1 (fun _ _ _ h => h), (fun _ => ⟨Blk.new wq _ _, hZ.lt⟩), (fun h => (h1 h).fr f1 (fun _ _ _ h => h)), (fun h => (h2 h).fr f1 (fun _ _ _ h => h)), (fun h => by cases h)⟩
                · skip
                  obtain rfl : _ = o := Option.some.inj hi
                  obtain rfl : c20 = false := by simpa using hun
                  obtain rfl : c19 = true := hdeps _ (Array.mem_of_getElem? (i := 0) rfl) rfl
                  obtain rfl : c18 = true := hdeps _ (Array.mem_of_getElem? (i := 1) rfl) rfl
                  obtain rfl : c0 = true := hdeps _ (Array.mem_of_getElem? (i := 2) rfl) rfl
                  obtain rfl : c1 = true := hdeps _ (Array.mem_of_getElem? (i := 3) rfl) rfl
                  obtain rfl : c2 = true := hdeps _ (Array.mem_of_getElem? (i := 4) rfl) rfl
                  obtain rfl : c3 = true := hdeps _ (Array.mem_of_getElem? (i := 5) rfl) rfl
                  obtain rfl : c4 = true := hdeps _ (Array.mem_of_getElem? (i := 6) rfl) rfl
                  obtain rfl : c5 = true := hdeps _ (Array.mem_of_getElem? (i := 7) rfl) rfl
                  obtain rfl : c6 = true := hdeps _ (Array.mem_of_getElem? (i := 8) rfl) rfl
                  obtain rfl : c7 = true := hdeps _ (Array.mem_of_getElem? (i := 9) rfl) rfl
                  obtain rfl : c8 = true := hdeps _ (Array.mem_of_getElem? (i := 10) rfl) rfl
                  obtain rfl : c9 = true := hdeps _ (Array.mem_of_getElem? (i := 11) rfl) rfl
                  obtain rfl : c10 = true := hdeps _ (Array.mem_of_getElem? (i := 12) rfl) rfl
                  obtain rfl : c11 = true := hdeps _ (Array.mem_of_getElem? (i := 13) rfl) rfl
                  obtain rfl : c12 = true := hdeps _ (Array.mem_of_getElem? (i := 14) rfl) rfl
                  obtain rfl : c13 = true := hdeps _ (Array.mem_of_getElem? (i := 15) rfl) rfl
                  obtain rfl : c14 = true := hdeps _ (Array.mem_of_getElem? (i := 16) rfl) rfl
                  obtain rfl : c15 = true := hdeps _ (Array.mem_of_getElem? (i := 17) rfl) rfl
                  obtain rfl : c16 = true := hdeps _ (Array.mem_of_getElem? (i := 18) rfl) rfl
                  obtain rfl : c17 = true := hdeps _ (Array.mem_of_getElem? (i := 19) rfl) rfl
                  clear hun hdeps hi
                  obtain ⟨hq, hqw⟩ := hO rfl
                  simp only [cond_false] at hq
                  rw [if_pos (show Region.wanted _ _ = true from rfl)]
                  refine oper_store (cs0 := #[.bool false, .int .i64 0, .int .u32 0, .int .u16 0, .string ⟨#[]⟩, .string ⟨#[]⟩]) rfl rfl rfl hq (by kernel_rfl) rfl (by simp [Value.oneCell']) ?_
                  have f1 := fr_row (w := wq) q #[.bool (decide (128 ≤ a1)), .int .i64 (a1 % 128), .int .u32 N, .int .u16 P, .string L1, .string L2]
                  exact hK _ _ ⟨true, true, true, true, true, true, true, true, true, true, true, true, true, true, true, true, true, true, true, true, true, q1, q2, q, rfl, rfl, hZ.fr f1 (fun h => by have h9 : w.heap.size = q := h; omega), Bl.trans hB (Bl.of_fr f1 hB.size (fun k h => by have h9 : k = q := h; omega)), hS.fr f1 (fun k h1 h2 h3 => by have h9 : k = q := h3; omega), (fun _ => ⟨blk_row _ hq, hqw⟩), (fun h => (h1 h).fr f1 (fun k h1 h2 h3 => by have h9 : k = q := h3; omega)), (fun h => (h2 h).fr f1 (fun k h1 h2 h3 => by have h9 : k = q := h3; omega)), (fun _ => rfl)⟩
              · intro listed act wq hI hr0
                obtain ⟨c0, c1, c2, c3, c4, c5, c6, c7, c8, c9, c10, c11, c12, c13, c14, c15, c16, c17, c18, c19, c20, q1, q2, q, rfl, rfl, hZ, hB, hS, hO, h1, h2, hD⟩ := hI
                have hall := Reg.all_of_done (by kernel_rfl) rfl hr0
                obtain rfl : c0 = true := hall 0 (by decide)
                obtain rfl : c1 = true := hall 1 (by decide)
                obtain rfl : c2 = true := hall 2 (by decide)
                obtain rfl : c3 = true := hall 3 (by decide)
                obtain rfl : c4 = true := hall 4 (by decide)
                obtain rfl : c5 = true := hall 5 (by decide)
                obtain rfl : c6 = true := hall 6 (by decide)
                obtain rfl : c7 = true := hall 7 (by decide)
                obtain rfl : c8 = true := hall 8 (by decide)
                obtain rfl : c9 = true := hall 9 (by decide)
                obtain rfl : c10 = true := hall 10 (by decide)
                obtain rfl : c11 = true := hall 11 (by decide)
                obtain rfl : c12 = true := hall 12 (by decide)
                obtain rfl : c13 = true := hall 13 (by decide)
                obtain rfl : c14 = true := hall 14 (by decide)
                obtain rfl : c15 = true := hall 15 (by decide)
                obtain rfl : c16 = true := hall 16 (by decide)
                obtain rfl : c17 = true := hall 17 (by decide)
                obtain rfl : c18 = true := hall 18 (by decide)
                obtain rfl : c19 = true := hall 19 (by decide)
                obtain rfl : c20 = true := hall 20 (by decide)
                obtain ⟨hOq, hqw⟩ := hO rfl
                clear hall hr0 h1 h2 hD hO
                simp only [cond_true] at hOq ⊢
                have eT1 : L1 = bstr (r.take nA) := by rw [← HS.out.2.2.1, ← HS.out.1, List.drop_take, hER.out, show 12 + nA - 12 = nA by omega]
                have eT2 : L2 = bstr ((r.drop nA).take nB) := by
                  rw [← HS.out.2.2.2, ← HS.out.2.1, ← List.drop_drop, hER.out, List.take_of_length_le]
                  rw [List.length_drop]
                  have h1 := hEL.out
                  have h2 := hLL.out
                  omega
                have hz1 : L1.size ≤ 255 := by rw [eT1, bstr_size, List.length_take]; exact Nat.le_trans (Nat.min_le_left _ _) hA5
                have hz2 : L2.size ≤ 255 := by rw [eT2, bstr_size, List.length_take]; exact Nat.le_trans (Nat.min_le_left _ _) hB5
                have HG2 := Lib.hid (show gE bs = if (vd L1 && vd L2) = true then 0 else 200 by rw [hGE.out, ← eT1, ← eT2])
                have HVO := Lib.hid (show gE bs = 0 → gV bs = #[.bool (decide (128 ≤ a1)), .int .i64 (a1 % 128), .int .u32 N, .int .u16 P, .string L1, .string L2] from fun h => by rw [hVV.out h, ← eT1, ← eT2]; rfl)
                have cO4 := hOq.cell 4
                have cO5 := hOq.cell 5
                simp at cO4 cO5
                have CV1 := rvalid_calls L1 wq (by omega)
                have CV2 := Lib.hid (rvalid_calls L2 wq (by omega))
                clear eT1 eT2 hz1 hz2
                rcases hv1 : vd L1 with _ | _
                · rw [hv1] at CV1
                  have hE : gE bs = 200 := by rw [HG2.out, hv1]; rfl
                  have HE := Lib.hid hE
                  have HV := Lib.hid (gV_bad (bs := bs) (by rw [hE]; decide))
                  clear hE hv1
                  have HC1 := Lib.hid CV1
                  clear CV1
                  go_wp2_with fail
                  refine HC1.out.mono ?_
                  rintro e wx ⟨rfl, rfl⟩
                  clear HC1
                  go_upto_region 20 with fail
                  refine wp_region_lit ?_
                  refine wpList_plain rfl (fun K hK => ?_)
                  go_simp
                  refine hK _ _ ?_
                  clear hK K
                  refine wpList_plain rfl (fun K hK => ?_)
                  refine oper_store (cs0 := #[.bool false, .int .i64 0, .int .u32 0, .int .u16 0, .string ⟨#[]⟩, .string ⟨#[]⟩]) rfl rfl rfl hZ (by kernel_rfl) rfl (by simp [Value.oneCell']) ?_
                  refine hK _ _ ?_
                  clear hK K
                  refine wpList_plain rfl (fun K hK => ?_)
                  go_simp
                  refine hK _ _ ?_
                  clear hK K
                  refine wpList_nil ?_
                  have bZ := blk_row #[.bool false, .int .i64 0, .int .u32 0, .int .u16 0, .string ⟨#[]⟩, .string ⟨#[]⟩] hZ
                  have fZ := fr_row (w := wx) w.heap.size #[.bool false, .int .i64 0, .int .u32 0, .int .u16 0, .string ⟨#[]⟩, .string ⟨#[]⟩]
                  generalize World.setRow wx w.heap.size #[.bool false, .int .i64 0, .int .u32 0, .int .u16 0, .string ⟨#[]⟩, .string ⟨#[]⟩] = wz at *
                  go_wp2
                  (try simp only [Exit.inBlock, Exit.then])
                  refine bodyPost_ret (results_blk rfl _ rfl bZ hup rfl (by kernel_rfl)) rfl ?_
                  rw [HE.out, HV.out]
                  exact ⟨rfl, Bl.trans hB (Bl.of_fr fZ (hB).size (fun k h => by have h9 : k = w.heap.size := h; omega))⟩
                · rw [hv1] at CV1
                  rcases hv2 : vd L2 with _ | _
                  · rw [hv2] at CV2
                    have hE : gE bs = 200 := by rw [HG2.out, hv1, hv2]; rfl
                    have HE := Lib.hid hE
                    have HV := Lib.hid (gV_bad (bs := bs) (by rw [hE]; decide))
                    clear hE hv1 hv2
                    have HC1 := Lib.hid CV1
                    clear CV1
                    go_wp2_with fail
                    refine HC1.out.mono ?_
                    rintro e wx ⟨rfl, rfl⟩
                    clear HC1
                    go_wp2_with fail
                    refine CV2.out.mono ?_
                    rintro e wy ⟨rfl, rfl⟩
                    go_upto_region 20 with fail
                    refine wp_region_lit ?_
                    refine wpList_plain rfl (fun K hK => ?_)
                    go_simp
                    refine hK _ _ ?_
                    clear hK K
                    refine wpList_plain rfl (fun K hK => ?_)
                    refine oper_store (cs0 := #[.bool false, .int .i64 0, .int .u32 0, .int .u16 0, .string ⟨#[]⟩, .string ⟨#[]⟩]) rfl rfl rfl hZ (by kernel_rfl) rfl (by simp [Value.oneCell']) ?_
                    refine hK _ _ ?_
                    clear hK K
                    refine wpList_plain rfl (fun K hK => ?_)
                    go_simp
                    refine hK _ _ ?_
                    clear hK K
                    refine wpList_nil ?_
                    have bZ := blk_row #[.bool false, .int .i64 0, .int .u32 0, .int .u16 0, .string ⟨#[]⟩, .string ⟨#[]⟩] hZ
                    have fZ := fr_row (w := wy) w.heap.size #[.bool false, .int .i64 0, .int .u32 0, .int .u16 0, .string ⟨#[]⟩, .string ⟨#[]⟩]
                    generalize World.setRow wy w.heap.size #[.bool false, .int .i64 0, .int .u32 0, .int .u16 0, .string ⟨#[]⟩, .string ⟨#[]⟩] = wz at *
                    go_wp2
                    (try simp only [Exit.inBlock, Exit.then])
                    refine bodyPost_ret (results_blk rfl _ rfl bZ hup rfl (by kernel_rfl)) rfl ?_
                    rw [HE.out, HV.out]
                    exact ⟨rfl, Bl.trans hB (Bl.of_fr fZ (hB).size (fun k h => by have h9 : k = w.heap.size := h; omega))⟩
                  · rw [hv2] at CV2
                    have hE : gE bs = 0 := by rw [HG2.out, hv1, hv2]; rfl
                    have HE := Lib.hid hE
                    have HV := Lib.hid (HVO.out hE)
                    clear hE hv1 hv2
                    have HC1 := Lib.hid CV1
                    clear CV1
                    go_wp2_with fail
                    refine HC1.out.mono ?_
                    rintro e wx ⟨rfl, rfl⟩
                    clear HC1
                    go_wp2_with fail
                    refine CV2.out.mono ?_
                    rintro e wy ⟨rfl, rfl⟩
                    go_upto_region 21 with fail
                    refine wp_region_lit ?_
                    refine wpList_plain rfl (fun K hK => ?_)
                    refine oper_load rfl rfl hOq hup rfl (by kernel_rfl) ?_
                    refine hK _ _ ?_
                    clear hK K
                    refine wpList_plain rfl (fun K hK => ?_)
                    refine oper_store (cs0 := #[.bool false, .int .i64 0, .int .u32 0, .int .u16 0, .string ⟨#[]⟩, .string ⟨#[]⟩]) rfl rfl rfl hZ (by kernel_rfl) rfl (by simp [Value.oneCell']) ?_
                    refine hK _ _ ?_
                    clear hK K
                    refine wpList_plain rfl (fun K hK => ?_)
                    go_simp
                    refine hK _ _ ?_
                    clear hK K
                    refine wpList_nil ?_
                    have bZ := blk_row #[.bool (decide (128 ≤ a1)), .int .i64 (a1 % 128), .int .u32 N, .int .u16 P, .string L1, .string L2] hZ
                    have fZ := fr_row (w := wy) w.heap.size #[.bool (decide (128 ≤ a1)), .int .i64 (a1 % 128), .int .u32 N, .int .u16 P, .string L1, .string L2]
                    generalize World.setRow wy w.heap.size #[.bool (decide (128 ≤ a1)), .int .i64 (a1 % 128), .int .u32 N, .int .u16 P, .string L1, .string L2] = wz at *
                    go_wp2
                    (try simp only [Exit.inBlock, Exit.then])
                    refine bodyPost_ret (results_blk rfl _ rfl bZ hup rfl (by kernel_rfl)) rfl ?_
                    rw [HE.out, HV.out]
                    exact ⟨rfl, Bl.trans hB (Bl.of_fr fZ hB.size (fun k h => by have h9 : k = w.heap.size := h; omega))⟩
              · exact ⟨false, false, false, false, false, false, false, false, false, false, false, false, false, false, false, false, false, false, false, false, false, undef, undef, 0, rfl, rfl, bR8, B8.drew, (SlB.bl h B8 hhi).fr ((Fr.refl nothing _).drew) (fun _ _ _ h => h), (fun h => by cases h), (fun h => by cases h), (fun h => by cases h), (fun h => by cases h)⟩
    · have hne : (a0 != 3) = true := by simp [h3]
      have hE : gE bs = 60 := by rw [hGE.out, if_pos (.inl h3)]
      have HE := Lib.hid hE
      have HV := Lib.hid (gV_bad (bs := bs) (by rw [hE]; decide))
      clear hE h3
      go_upto_region 11 with fail
      refine wp_region_lit ?_
      refine wpList_plain rfl (fun K hK => ?_)
      go_simp
      refine hK _ _ ?_
      clear hK K
      refine wpList_plain rfl (fun K hK => ?_)
      refine oper_store (cs0 := #[.bool false, .int .i64 0, .int .u32 0, .int .u16 0, .string ⟨#[]⟩, .string ⟨#[]⟩]) rfl rfl rfl bR8 (by kernel_rfl) rfl (by simp [Value.oneCell']) ?_
      refine hK _ _ ?_
      clear hK K
      refine wpList_plain rfl (fun K hK => ?_)
      go_simp
      refine hK _ _ ?_
      clear hK K
      refine wpList_nil ?_
      have bZ := blk_row #[.bool false, .int .i64 0, .int .u32 0, .int .u16 0, .string ⟨#[]⟩, .string ⟨#[]⟩] bR8
      have fZ := fr_row (w := w8) w.heap.size #[.bool false, .int .i64 0, .int .u32 0, .int .u16 0, .string ⟨#[]⟩, .string ⟨#[]⟩]
      generalize World.setRow w8 w.heap.size #[.bool false, .int .i64 0, .int .u32 0, .int .u16 0, .string ⟨#[]⟩, .string ⟨#[]⟩] = wz at *
      go_wp2
      (try simp only [Exit.inBlock, Exit.then])
      refine bodyPost_ret (results_blk rfl _ rfl bZ hup rfl (by kernel_rfl)) rfl ?_
      rw [HE.out, HV.out]
      exact ⟨rfl, Bl.trans B8 (Bl.of_fr fZ (B8).size (fun k h => by have h9 : k = w.heap.size := h; omega))⟩
end Go.Proofs.YtdbndinnakkloaaDoor.Dcp
