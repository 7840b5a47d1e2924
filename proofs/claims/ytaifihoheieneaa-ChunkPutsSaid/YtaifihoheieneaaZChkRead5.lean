/- What the chunk's reader reads: chunks of data. Conditions: each names its blocks. -/
import Derived.Test.YtaifihoheieneaaZChkRead3
namespace Go.Proofs.Ytaifihoheieneaa.Chk
open Go.RowKit Go.Proofs.Ytaifihoheieneaa.Mem Go.Proofs.Ytaifihoheieneaa.Octet Go.Proofs.Ytaifihoheieneaa.Prm
set_option linter.unusedVariables false
set_option linter.unusedSimpArgs false
attribute [local go_sem ↓] Go.wp_at_zero Go.wp_at_succ
set_option maxHeartbeats 4000000 in
set_option maxRecDepth 100000 in
theorem read_1 (gX gR gC lo hi : Nat) (f : Int) (xs : List Int) (w : World) (H0 : Rg w w gX gR gC lo hi xs false false (z19 1)) (S : Sp w gX gR gC lo hi) (hB : IsB xs) (hl : xs.length ≤ 100000) (hf : 0 ≤ f ∧ f < 256) :
    Calls Try.prog 42 #[.pointer (some ⟨gX, 0, none⟩), .pointer (some ⟨gC, 0, none⟩), .int .u8 f] w (ReadP w gX gR gC 1 f xs) := by
  have hF := Blk.new w #[.int .u8 f] 5
  have H := H0.away S ((Fr.refl nothing w).alloc (.cells #[.int .u8 f] 5)) (fun k h => h.elim)
  have cx0 := H.x.cell 0
  have cx1 := H.x.cell 1
  have cf := hF.cell 0
  have ck : (w.alloc (.cells #[.int .u8 f] 5)).cell? ⟨gC, 0, none⟩ = some (.int .u8 1) := H.c.cell 0
  simp at cx0 cx1 cf
  have HS := Lib.hid S
  have HBB := Lib.hid hB
  clear H0 hB
  have hok : rOk 1 f xs = decide (f = 0 ∧ 16 ≤ xs.length ∧ (dec (xs.drop 16)).2 = 0) := rfl
  have HOK := Lib.hid hok
  clear hok
  have H : Rg w (w.alloc (.cells #[.int .u8 f] 5)) gX gR gC lo hi (xs.drop 0) (decide (xs.length < 0)) false (z19 1) := by simpa using H
  go_enter Try.func42, Try.ntmps42
  go_upto_region 49 with fail
  have HD0 := Lib.hid (H.away HS.out (Fr.refl nothing (w.alloc (.cells #[.int .u8 f] 5))).drew (fun k h => h.elim))
  have hD0 := Lib.hid (hF.fr (Fr.refl nothing (w.alloc (.cells #[.int .u8 f] 5))).drew id)
  have cxa0 : (w.alloc (.cells #[.int .u8 f] 5)).drew.cell? ⟨gX, 0, none⟩ = some (.pointer (some ⟨gR, 0, none⟩)) := HD0.out.x.cell 0
  clear cx0 cx1 cf ck
  go_region_held_law (fun wq => wq.cell? ⟨gX, 0, none⟩ = some (.pointer (some ⟨gR, 0, none⟩))) (first | with_reducible exact cxa0 | with_reducible exact cxa1 | with_reducible exact cxa2 | with_reducible exact cxa3 | with_reducible exact cxa4 | with_reducible exact cxa5 | with_reducible exact cya1 | with_reducible exact cya2 | with_reducible exact cya3 | with_reducible exact cya4 | with_reducible exact cya5) (first
    | ((have hDx := HD4; clear hDx; go_at_call 55; refine (rd4_calls _ _ _ xs 12 _ HD4.out.r HBB.out).mono ?_; rintro e ar5 ⟨rfl, r5, fr5⟩; have HD5 := Lib.hid (HD4.out.num HS.out r5 fr5); have hD5 := Lib.hid (hD4.out.fr fr5 (fun h => by have := HS.out.lr; have h9 : w.heap.size = gR := h; omega)); clear r5 fr5; have cxa5 : ar5.cell? ⟨gX, 0, none⟩ = some (.pointer (some ⟨gR, 0, none⟩)) := HD5.out.x.cell 0; have k10 : ar5.cell? ⟨gC, 10, none⟩ = some (.int .u32 0) := HD5.out.c.cell 10; have q10 := HD5.out.c.frozen 10; have k11 : ar5.cell? ⟨gC, 11, none⟩ = some (.int .u32 0) := HD5.out.c.cell 11; have q11 := HD5.out.c.frozen 11; have k12 : ar5.cell? ⟨gC, 12, none⟩ = some (.int .u16 0) := HD5.out.c.cell 12; have q12 := HD5.out.c.frozen 12; have k13 : ar5.cell? ⟨gC, 13, none⟩ = some (.int .u16 0) := HD5.out.c.cell 13; have q13 := HD5.out.c.frozen 13; have k5 : ar5.cell? ⟨gC, 5, none⟩ = some (.int .u32 0) := HD5.out.c.cell 5; have q5 := HD5.out.c.frozen 5; have cya1 : (ar5.setCell ⟨gC, 10, none⟩ (.int .u32 (at4 xs 0))).cell? ⟨gX, 0, none⟩ = some (.pointer (some ⟨gR, 0, none⟩)) := (HD5.out.put HS.out 10 (.int .u32 (at4 xs 0))).x.cell 0; have cya2 : ((ar5.setCell ⟨gC, 10, none⟩ (.int .u32 (at4 xs 0))).setCell ⟨gC, 11, none⟩ (.int .u32 (at4 xs 4))).cell? ⟨gX, 0, none⟩ = some (.pointer (some ⟨gR, 0, none⟩)) := ((HD5.out.put HS.out 10 (.int .u32 (at4 xs 0))).put HS.out 11 (.int .u32 (at4 xs 4))).x.cell 0; have cya3 : (((ar5.setCell ⟨gC, 10, none⟩ (.int .u32 (at4 xs 0))).setCell ⟨gC, 11, none⟩ (.int .u32 (at4 xs 4))).setCell ⟨gC, 12, none⟩ (.int .u16 (at2 xs 8))).cell? ⟨gX, 0, none⟩ = some (.pointer (some ⟨gR, 0, none⟩)) := (((HD5.out.put HS.out 10 (.int .u32 (at4 xs 0))).put HS.out 11 (.int .u32 (at4 xs 4))).put HS.out 12 (.int .u16 (at2 xs 8))).x.cell 0; have cya4 : ((((ar5.setCell ⟨gC, 10, none⟩ (.int .u32 (at4 xs 0))).setCell ⟨gC, 11, none⟩ (.int .u32 (at4 xs 4))).setCell ⟨gC, 12, none⟩ (.int .u16 (at2 xs 8))).setCell ⟨gC, 13, none⟩ (.int .u16 (at2 xs 10))).cell? ⟨gX, 0, none⟩ = some (.pointer (some ⟨gR, 0, none⟩)) := ((((HD5.out.put HS.out 10 (.int .u32 (at4 xs 0))).put HS.out 11 (.int .u32 (at4 xs 4))).put HS.out 12 (.int .u16 (at2 xs 8))).put HS.out 13 (.int .u16 (at2 xs 10))).x.cell 0; have cya5 : (((((ar5.setCell ⟨gC, 10, none⟩ (.int .u32 (at4 xs 0))).setCell ⟨gC, 11, none⟩ (.int .u32 (at4 xs 4))).setCell ⟨gC, 12, none⟩ (.int .u16 (at2 xs 8))).setCell ⟨gC, 13, none⟩ (.int .u16 (at2 xs 10))).setCell ⟨gC, 5, none⟩ (.int .u32 (at4 xs 12))).cell? ⟨gX, 0, none⟩ = some (.pointer (some ⟨gR, 0, none⟩)) := (((((HD5.out.put HS.out 10 (.int .u32 (at4 xs 0))).put HS.out 11 (.int .u32 (at4 xs 4))).put HS.out 12 (.int .u16 (at2 xs 8))).put HS.out 13 (.int .u16 (at2 xs 10))).put HS.out 5 (.int .u32 (at4 xs 12))).x.cell 0))
    | ((have hDx := HD3; clear hDx; go_at_call 37; refine (rd2_calls _ _ _ xs 10 _ HD3.out.r HBB.out).mono ?_; rintro e ar4 ⟨rfl, r4, fr4⟩; have HD4 := Lib.hid (HD3.out.num HS.out r4 fr4); have hD4 := Lib.hid (hD3.out.fr fr4 (fun h => by have := HS.out.lr; have h9 : w.heap.size = gR := h; omega)); clear r4 fr4; have cxa4 : ar4.cell? ⟨gX, 0, none⟩ = some (.pointer (some ⟨gR, 0, none⟩)) := HD4.out.x.cell 0))
    | ((have hDx := HD2; clear hDx; go_at_call 37; refine (rd2_calls _ _ _ xs 8 _ HD2.out.r HBB.out).mono ?_; rintro e ar3 ⟨rfl, r3, fr3⟩; have HD3 := Lib.hid (HD2.out.num HS.out r3 fr3); have hD3 := Lib.hid (hD2.out.fr fr3 (fun h => by have := HS.out.lr; have h9 : w.heap.size = gR := h; omega)); clear r3 fr3; have cxa3 : ar3.cell? ⟨gX, 0, none⟩ = some (.pointer (some ⟨gR, 0, none⟩)) := HD3.out.x.cell 0))
    | ((have hDx := HD1; clear hDx; go_at_call 55; refine (rd4_calls _ _ _ xs 4 _ HD1.out.r HBB.out).mono ?_; rintro e ar2 ⟨rfl, r2, fr2⟩; have HD2 := Lib.hid (HD1.out.num HS.out r2 fr2); have hD2 := Lib.hid (hD1.out.fr fr2 (fun h => by have := HS.out.lr; have h9 : w.heap.size = gR := h; omega)); clear r2 fr2; have cxa2 : ar2.cell? ⟨gX, 0, none⟩ = some (.pointer (some ⟨gR, 0, none⟩)) := HD2.out.x.cell 0))
    | ((have hDx := HD0; clear hDx; go_at_call 55; refine (rd4_calls _ _ _ xs 0 _ HD0.out.r HBB.out).mono ?_; rintro e ar1 ⟨rfl, r1, fr1⟩; have HD1 := Lib.hid (HD0.out.num HS.out r1 fr1); have hD1 := Lib.hid (hD0.out.fr fr1 (fun h => by have := HS.out.lr; have h9 : w.heap.size = gR := h; omega)); clear r1 fr1; have cxa1 : ar1.cell? ⟨gX, 0, none⟩ = some (.pointer (some ⟨gR, 0, none⟩)) := HD1.out.x.cell 0)))
  rename_i hK hH
  refine hK _ _ ?_
  clear hK hH
  have HN := HD5.out
  have hFN := hD5.out
  clear H hF HD0 hD0 HD1 hD1 HD2 hD2 HD3 hD3 HD4 hD4 HD5 hD5 cxa0 cxa1 cxa2 cxa3 cxa4 cxa5 cya1 cya2 cya3 cya4 cya5 k10 q10 k11 q11 k12 q12 k13 q13 k5 q5
  have H := HN
  have hF := hFN
  clear HN hFN
  replace H := H.put HS.out 10 (.int .u32 (at4 xs 0))
  rw [ckA_10] at H
  replace hF := hF.far (p := ⟨gC, 10, none⟩) (by show w.heap.size ≠ gC; have := HS.out.lc; omega) (.int .u32 (at4 xs 0))
  generalize ar5.setCell ⟨gC, 10, none⟩ (.int .u32 (at4 xs 0)) = as1 at *
  replace H := H.put HS.out 11 (.int .u32 (at4 xs 4))
  rw [ckA_11] at H
  replace hF := hF.far (p := ⟨gC, 11, none⟩) (by show w.heap.size ≠ gC; have := HS.out.lc; omega) (.int .u32 (at4 xs 4))
  generalize as1.setCell ⟨gC, 11, none⟩ (.int .u32 (at4 xs 4)) = as2 at *
  replace H := H.put HS.out 12 (.int .u16 (at2 xs 8))
  rw [ckA_12] at H
  replace hF := hF.far (p := ⟨gC, 12, none⟩) (by show w.heap.size ≠ gC; have := HS.out.lc; omega) (.int .u16 (at2 xs 8))
  generalize as2.setCell ⟨gC, 12, none⟩ (.int .u16 (at2 xs 8)) = as3 at *
  replace H := H.put HS.out 13 (.int .u16 (at2 xs 10))
  rw [ckA_13] at H
  replace hF := hF.far (p := ⟨gC, 13, none⟩) (by show w.heap.size ≠ gC; have := HS.out.lc; omega) (.int .u16 (at2 xs 10))
  generalize as3.setCell ⟨gC, 13, none⟩ (.int .u16 (at2 xs 10)) = as4 at *
  replace H := H.put HS.out 5 (.int .u32 (at4 xs 12))
  rw [ckA_5] at H
  replace hF := hF.far (p := ⟨gC, 5, none⟩) (by show w.heap.size ≠ gC; have := HS.out.lc; omega) (.int .u32 (at4 xs 12))
  generalize as4.setCell ⟨gC, 5, none⟩ (.int .u32 (at4 xs 12)) = as5 at *
  obtain ⟨bd, hbd⟩ : ∃ x, xs.drop 16 = x := ⟨_, rfl⟩
  have hbi : IsB bd := hbd ▸ isb_drop HBB.out 16
  have hbl : bd.length ≤ 100000 := by rw [← hbd, List.length_drop]; omega
  rw [hbd] at H
  have HBD := Lib.hid hbd
  clear hbd
  have cx0 := H.x.cell 0
  have cx1 := H.x.cell 1
  have cf := hF.cell 0
  simp at cx0 cx1 cf
  have ck : as5.cell? ⟨gC, 0, none⟩ = some (.int .u8 1) := H.c.cell 0
  have k17 : as5.cell? ⟨gC, 17, none⟩ = some (.slice none 0 0) := H.c.cell 17
  have q17 := H.c.frozen 17
  have hs9 := H.t.size
  obtain ⟨ps, hps⟩ : ∃ x, (dec bd).1 = x := ⟨_, rfl⟩
  obtain ⟨E, hE⟩ : ∃ x, (dec bd).2 = x := ⟨_, rfl⟩
  have CP := params_calls gX gR lo hi bd _ _ _ H.x H.r hbi (by omega) (fun h => HS.out.x _ h.1 h.2 rfl)
  rw [hps, hE] at CP
  have HCP := Lib.hid CP
  clear CP
  go_wp2_with fail
  refine HCP.out.mono ?_
  rintro e x1 ⟨Ap, pp, rfl, op, bx, r, fr⟩
  clear HCP
  have hb9 := fr.size
  have fx : Fr (S3 gX gR gC) w x1 := H.t.trans fr (fun k _ h => by rcases h with h | h; exact .inr (.inl h); exact .inl h)
  have bc := H.c.fr fr (fun h => by rcases h with h | h; exact HS.out.rc h.symm; exact HS.out.xc h.symm)
  replace hF := hF.fr fr (fun h => by have := HS.out.lr; have := HS.out.lx; rcases h with h | h <;> omega)
  have H2 : Rg w x1 gX gR gC lo hi [] _ _ _ := ⟨bx, r, bc, fx⟩
  clear H k17 q17 bx r bc fx fr
  have H := H2
  clear H2
  replace op := OwnPm.low op hs9
  have k17 : x1.cell? ⟨gC, 17, none⟩ = some (.slice none 0 0) := H.c.cell 17
  have q17 := H.c.frozen 17
  go_upto_region 54 with fail
  have fp : Fr (only gC) x1 (x1.setCell ⟨gC, 17, none⟩ (.slice Ap ps.length pp)) := (Fr.refl _ _).set_only 17 none _
  replace op := OwnPm.fr op fp (fun k h1 h2 => by have h9 : k = gC := h2; have := HS.out.lc; omega)
  clear fp
  replace H := H.put HS.out 17 (.slice Ap ps.length pp)
  rw [ckA_17] at H
  replace hF := hF.far (p := ⟨gC, 17, none⟩) (by show w.heap.size ≠ gC; have := HS.out.lc; omega) (.slice Ap ps.length pp)
  generalize x1.setCell ⟨gC, 17, none⟩ (.slice Ap ps.length pp) = x2 at *
  clear k17 q17 cx0 cx1 cf ck
  have cx0 := H.x.cell 0
  have cx1 := H.x.cell 1
  have cf := hF.cell 0
  simp at cx0 cx1 cf
  by_cases hz : f = 0
  · have hzb : (f == 0) = true := beq_iff_eq.2 hz
    have HZ := Lib.hid hz
    clear hz
    go_wp2_with fail
    refine (end_calls _ _ _ _ _ _ H.r).mono ?_
    rintro e we ⟨rfl, hwe⟩
    rw [hwe]
    clear hwe
    go_wp2_with fail
    refine (must_calls gX _ _ _ _ H.x).mono ?_
    rintro e wz ⟨rfl, bz, fz⟩
    go_wp2
    first | go_end0 | ((try simp only [Exit.inBlock, Exit.then]); refine bodyPost_ret (results_none rfl _ _ _) rfl ?_)
    refine ⟨rfl, _, Blk.bool bz ?okT, H.c.fr fz (fun h => HS.out.xc (show gC = gX from h).symm), H.t.trans fz (fun k _ hk => .inl hk), fun hok => ?ckT⟩
    case okT => rw [end_eq, HOK.out, show (dec (xs.drop 16)).2 = E by rw [HBD.out]; exact hE, Bool.eq_iff_iff]; have hz := HZ.out; by_cases he : E = 0 <;> simp [hz, he]
    case ckT => exact ⟨rfl, ckA_one rfl rfl rfl rfl rfl, rfl, rfl, rfl, rfl, rfl, rfl, rfl, rfl, rfl, rfl, rfl, rfl, rfl, rfl, ⟨none, 0, rfl, fun i h => absurd (show i < 0 from h) (Nat.not_lt_zero i)⟩, ⟨none, 0, rfl, fun i h => absurd (show i < 0 from h) (Nat.not_lt_zero i)⟩, ⟨none, 0, rfl, fun i h => absurd (show i < 0 from h) (Nat.not_lt_zero i)⟩, ⟨Ap, pp, by show _ = some (Value.slice Ap (dec (xs.drop 16)).1.length pp); rw [HBD.out, hps]; rfl, by show PmC _ _ _ _ (dec (xs.drop 16)).1; rw [HBD.out, hps]; exact ckv_ps (OwnPm.fr op fz (fun k h1 h2 => by have h9 : k = gX := h2; have := HS.out.lx; omega))⟩, ⟨none, 0, rfl, nilv _ _ _⟩⟩
  · have hzb : (f == 0) = false := beq_eq_false_iff_ne.2 hz
    have HZ := Lib.hid hz
    clear hz
    go_wp2_with fail
    refine (must_calls gX _ _ _ _ H.x).mono ?_
    rintro e wz ⟨rfl, bz, fz⟩
    go_wp2
    first | go_end0 | ((try simp only [Exit.inBlock, Exit.then]); refine bodyPost_ret (results_none rfl _ _ _) rfl ?_)
    have hno : rOk 1 f xs = false := (by rw [HOK.out]; simp [HZ.out])
    refine ⟨rfl, _, Blk.bool bz (by rw [hno]; simp), H.c.fr fz (fun h => HS.out.xc (show gC = gX from h).symm), H.t.trans fz (fun k _ hk => .inl hk), fun hok => by rw [hno] at hok; cases hok⟩
end Go.Proofs.Ytaifihoheieneaa.Chk
