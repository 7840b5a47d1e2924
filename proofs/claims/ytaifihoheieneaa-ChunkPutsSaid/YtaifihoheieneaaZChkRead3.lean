/- What the chunk's reader reads: chunks of data. Conditions: each names its blocks. -/
import Derived.Test.YtaifihoheieneaaZChkRead2
namespace Go.Proofs.Ytaifihoheieneaa.Chk
open Go.RowKit Go.Proofs.Ytaifihoheieneaa.Mem Go.Proofs.Ytaifihoheieneaa.Octet Go.Proofs.Ytaifihoheieneaa.Prm
set_option linter.unusedVariables false
set_option linter.unusedSimpArgs false
attribute [local go_sem ↓] Go.wp_at_zero Go.wp_at_succ
theorem wr32 {x : Int} (h : 0 ≤ x ∧ x < 65536) : IntKind.u32.wrap x = x := by
  simp [IntKind.wrap, IntKind.bits, IntKind.signed]
  omega
theorem f_three (F : Fin 256) : (bits .and .u8 ((F.val / 2 * 2 : Nat) : Int) 2 != 0) = flB (F.val : Nat) ∧ bits .andNot .u8 ((F.val / 2 * 2 : Nat) : Int) 2 = ((F.val / 4 * 4 : Nat) : Int) ∧
    (bits .and .u8 ((F.val / 4 * 4 : Nat) : Int) 4 != 0) = flL (F.val : Nat) ∧ bits .andNot .u8 ((F.val / 4 * 4 : Nat) : Int) 4 = ((F.val / 8 * 8 : Nat) : Int) := by
  revert F; decide +kernel
theorem f_three' {f : Int} (h : 0 ≤ f ∧ f < 256) : (bits .and .u8 (f / 2 * 2) 2 != 0) = flB f ∧ bits .andNot .u8 (f / 2 * 2) 2 = f / 4 * 4 ∧ (bits .and .u8 (f / 4 * 4) 4 != 0) = flL f ∧ bits .andNot .u8 (f / 4 * 4) 4 = f / 8 * 8 := by
  have := f_three ⟨f.toNat, by omega⟩
  have e : ((f.toNat : Nat) : Int) = f := by omega
  simp only [Int.natCast_mul, Int.natCast_ediv, e] at this
  exact this
set_option maxHeartbeats 4000000 in
set_option maxRecDepth 100000 in
theorem read_0 (gX gR gC lo hi : Nat) (f : Int) (xs : List Int) (w : World) (H0 : Rg w w gX gR gC lo hi xs false false (z19 0)) (S : Sp w gX gR gC lo hi) (hB : IsB xs) (hl : xs.length ≤ 100000) (hf : 0 ≤ f ∧ f < 256) :
    Calls Try.prog 42 #[.pointer (some ⟨gX, 0, none⟩), .pointer (some ⟨gC, 0, none⟩), .int .u8 f] w (ReadP w gX gR gC 0 f xs) := by
  have hF := Blk.new w #[.int .u8 f] 5
  have H := H0.away S ((Fr.refl nothing w).alloc (.cells #[.int .u8 f] 5)) (fun k h => h.elim)
  have cx0 := H.x.cell 0
  have cx1 := H.x.cell 1
  have cf := hF.cell 0
  have ck : (w.alloc (.cells #[.int .u8 f] 5)).cell? ⟨gC, 0, none⟩ = some (.int .u8 0) := H.c.cell 0
  simp at cx0 cx1 cf
  have HS := Lib.hid S
  have HBB := Lib.hid hB
  clear H0 hB
  have hok : rOk 0 f xs = decide (f < 8 ∧ 13 ≤ xs.length) := rfl
  have HOK := Lib.hid hok
  clear hok
  have H : Rg w (w.alloc (.cells #[.int .u8 f] 5)) gX gR gC lo hi (xs.drop 0) (decide (xs.length < 0)) false (z19 0) := by simpa using H
  obtain ⟨p1, p2⟩ := f_one' hf
  obtain ⟨p3, p4, p5, p6⟩ := f_three' hf
  have C1 := fun w1 h => flag_calls w.heap.size f 1 w1 h
  have C2 := fun w1 h => flag_calls w.heap.size (f / 2 * 2) 2 w1 h
  have C3 := fun w1 h => flag_calls w.heap.size (f / 4 * 4) 4 w1 h
  rw [p1, p2] at C1
  rw [p3, p4] at C2
  rw [p5, p6] at C3
  obtain ⟨fe, hfe⟩ : ∃ x, flE f = x := ⟨_, rfl⟩
  obtain ⟨fb, hfb⟩ : ∃ x, flB f = x := ⟨_, rfl⟩
  obtain ⟨fl3, hfl⟩ : ∃ x, flL f = x := ⟨_, rfl⟩
  obtain ⟨f3, hf3⟩ : ∃ x, f / 8 * 8 = x := ⟨_, rfl⟩
  rw [hfe] at C1
  rw [hfb] at C2
  rw [hfl, hf3] at C3
  have HC1 := Lib.hid C1
  have HC2 := Lib.hid C2
  have HC3 := Lib.hid C3
  have HFE := Lib.hid hfe
  have HFB := Lib.hid hfb
  have HFL := Lib.hid hfl
  have HF3 := Lib.hid hf3
  clear C1 C2 C3 p1 p2 p3 p4 p5 p6 hfe hfb hfl hf3
  go_enter Try.func42, Try.ntmps42
  go_wp2_with fail
  refine (HC1.out _ hF).mono ?_
  rintro e w1 ⟨rfl, hF1, fr⟩
  clear HC1 hF
  have hF := hF1
  clear hF1
  replace H := H.away HS.out fr (fun k h => by have h9 : k = w.heap.size := h; omega)
  clear fr
  go_wp2_with fail
  refine (HC2.out _ hF).mono ?_
  rintro e w2 ⟨rfl, hF2, fr⟩
  clear HC2 hF
  have hF := hF2
  clear hF2
  replace H := H.away HS.out fr (fun k h => by have h9 : k = w.heap.size := h; omega)
  clear fr
  go_wp2_with fail
  refine (HC3.out _ hF).mono ?_
  rintro e w3 ⟨rfl, hF3, fr⟩
  clear HC3 hF
  have hF := hF3
  clear hF3
  replace H := H.away HS.out fr (fun k h => by have h9 : k = w.heap.size := h; omega)
  clear fr
  clear cx0 cx1 cf ck
  have k1 : w3.cell? ⟨gC, 1, none⟩ = some (.bool false) := H.c.cell 1
  have q1 := H.c.frozen 1
  have k2 : w3.cell? ⟨gC, 2, none⟩ = some (.bool false) := H.c.cell 2
  have q2 := H.c.frozen 2
  have k3 : w3.cell? ⟨gC, 3, none⟩ = some (.bool false) := H.c.cell 3
  have q3 := H.c.frozen 3
  go_upto_region 18 with fail
  replace H := H.put HS.out 2 (.bool fe)
  rw [ckA_2] at H
  replace hF := hF.far (p := ⟨gC, 2, none⟩) (by show w.heap.size ≠ gC; have := HS.out.lc; omega) (.bool fe)
  generalize w3.setCell ⟨gC, 2, none⟩ (.bool fe) = w4 at *
  replace H := H.put HS.out 1 (.bool fb)
  rw [ckA_1] at H
  replace hF := hF.far (p := ⟨gC, 1, none⟩) (by show w.heap.size ≠ gC; have := HS.out.lc; omega) (.bool fb)
  generalize w4.setCell ⟨gC, 1, none⟩ (.bool fb) = w5 at *
  replace H := H.put HS.out 3 (.bool fl3)
  rw [ckA_3] at H
  replace hF := hF.far (p := ⟨gC, 3, none⟩) (by show w.heap.size ≠ gC; have := HS.out.lc; omega) (.bool fl3)
  generalize w5.setCell ⟨gC, 3, none⟩ (.bool fl3) = w6 at *
  clear k1 k2 k3 q1 q2 q3
  have cx0 := H.x.cell 0
  have cx1 := H.x.cell 1
  have cf := hF.cell 0
  simp at cx0 cx1 cf
  have ck : w6.cell? ⟨gC, 0, none⟩ = some (.int .u8 0) := H.c.cell 0
  have HD0 := Lib.hid (H.away HS.out (Fr.refl nothing w6).drew (fun k h => h.elim))
  have hD0 := Lib.hid (hF.fr (Fr.refl nothing w6).drew id)
  have cxa0 : w6.drew.cell? ⟨gX, 0, none⟩ = some (.pointer (some ⟨gR, 0, none⟩)) := HD0.out.x.cell 0
  clear cx0 cx1 cf ck
  go_region_held_law (fun wq => wq.cell? ⟨gX, 0, none⟩ = some (.pointer (some ⟨gR, 0, none⟩))) (first | exact cxa0 | exact cxa1 | exact cxa2 | exact cya1 | exact cya2) (first
    | ((go_at_call 37; refine (rd2_calls _ _ _ xs 4 _ HD1.out.r HBB.out).mono ?_; rintro e ar2 ⟨rfl, r2, fr2⟩; have HD2 := Lib.hid (HD1.out.num HS.out r2 fr2); have hD2 := Lib.hid (hD1.out.fr fr2 (fun h => by have := HS.out.lr; have h9 : w.heap.size = gR := h; omega)); clear r2 fr2; have cxa2 : ar2.cell? ⟨gX, 0, none⟩ = some (.pointer (some ⟨gR, 0, none⟩)) := HD2.out.x.cell 0; have k5 : ar2.cell? ⟨gC, 5, none⟩ = some (.int .u32 0) := HD2.out.c.cell 5; have q5 := HD2.out.c.frozen 5; have k6 : ar2.cell? ⟨gC, 6, none⟩ = some (.int .u16 0) := HD2.out.c.cell 6; have q6 := HD2.out.c.frozen 6; have cya1 : (ar2.setCell ⟨gC, 5, none⟩ (.int .u32 (at4 xs 0))).cell? ⟨gX, 0, none⟩ = some (.pointer (some ⟨gR, 0, none⟩)) := (HD2.out.put HS.out 5 (.int .u32 (at4 xs 0))).x.cell 0; have cya2 : ((ar2.setCell ⟨gC, 5, none⟩ (.int .u32 (at4 xs 0))).setCell ⟨gC, 6, none⟩ (.int .u16 (at2 xs 4))).cell? ⟨gX, 0, none⟩ = some (.pointer (some ⟨gR, 0, none⟩)) := ((HD2.out.put HS.out 5 (.int .u32 (at4 xs 0))).put HS.out 6 (.int .u16 (at2 xs 4))).x.cell 0))
    | ((go_at_call 55; refine (rd4_calls _ _ _ xs 0 _ HD0.out.r HBB.out).mono ?_; rintro e ar1 ⟨rfl, r1, fr1⟩; have HD1 := Lib.hid (HD0.out.num HS.out r1 fr1); have hD1 := Lib.hid (hD0.out.fr fr1 (fun h => by have := HS.out.lr; have h9 : w.heap.size = gR := h; omega)); clear r1 fr1; have cxa1 : ar1.cell? ⟨gX, 0, none⟩ = some (.pointer (some ⟨gR, 0, none⟩)) := HD1.out.x.cell 0)))
  rename_i hK hH
  refine hK _ _ ?_
  clear hK hH
  have HN := HD2.out
  have hFN := hD2.out
  clear H hF HD0 hD0 HD1 hD1 HD2 hD2 cxa0 cxa1 cxa2 cya1 cya2 k5 q5 k6 q6
  have H := HN
  have hF := hFN
  clear HN hFN
  replace H := H.put HS.out 5 (.int .u32 (at4 xs 0))
  rw [ckA_5] at H
  replace hF := hF.far (p := ⟨gC, 5, none⟩) (by show w.heap.size ≠ gC; have := HS.out.lc; omega) (.int .u32 (at4 xs 0))
  generalize ar2.setCell ⟨gC, 5, none⟩ (.int .u32 (at4 xs 0)) = as1 at *
  replace H := H.put HS.out 6 (.int .u16 (at2 xs 4))
  rw [ckA_6] at H
  replace hF := hF.far (p := ⟨gC, 6, none⟩) (by show w.heap.size ≠ gC; have := HS.out.lc; omega) (.int .u16 (at2 xs 4))
  generalize as1.setCell ⟨gC, 6, none⟩ (.int .u16 (at2 xs 4)) = as2 at *
  have cx0 := H.x.cell 0
  have cx1 := H.x.cell 1
  have cf := hF.cell 0
  simp at cx0 cx1 cf
  have ck : as2.cell? ⟨gC, 0, none⟩ = some (.int .u8 0) := H.c.cell 0
  have h2r := at2_rng HBB.out 6
  go_upto_region 20 with fail
  have HD0 := Lib.hid (H.away HS.out (Fr.refl nothing as2).drew (fun k h => h.elim))
  have hD0 := Lib.hid (hF.fr (Fr.refl nothing as2).drew id)
  have cxb0 : as2.drew.cell? ⟨gX, 0, none⟩ = some (.pointer (some ⟨gR, 0, none⟩)) := HD0.out.x.cell 0
  clear cx0 cx1 cf ck
  go_region_held_law (fun wq => wq.cell? ⟨gX, 0, none⟩ = some (.pointer (some ⟨gR, 0, none⟩))) (first | exact cxb0 | exact cxb1 | exact cxb2 | exact cyb1 | exact cyb2) (first
    | ((go_at_call 55; refine (rd4_calls _ _ _ xs 8 _ HD1.out.r HBB.out).mono ?_; rintro e br2 ⟨rfl, r2, fr2⟩; have HD2 := Lib.hid (HD1.out.num HS.out r2 fr2); have hD2 := Lib.hid (hD1.out.fr fr2 (fun h => by have := HS.out.lr; have h9 : w.heap.size = gR := h; omega)); clear r2 fr2; have cxb2 : br2.cell? ⟨gX, 0, none⟩ = some (.pointer (some ⟨gR, 0, none⟩)) := HD2.out.x.cell 0; have k7 : br2.cell? ⟨gC, 7, none⟩ = some (.int .u32 0) := HD2.out.c.cell 7; have q7 := HD2.out.c.frozen 7; have k8 : br2.cell? ⟨gC, 8, none⟩ = some (.int .u32 0) := HD2.out.c.cell 8; have q8 := HD2.out.c.frozen 8; have cyb1 : (br2.setCell ⟨gC, 7, none⟩ (.int .u32 (IntKind.u32.wrap (at2 xs 6)))).cell? ⟨gX, 0, none⟩ = some (.pointer (some ⟨gR, 0, none⟩)) := (HD2.out.put HS.out 7 (.int .u32 (IntKind.u32.wrap (at2 xs 6)))).x.cell 0; have cyb2 : ((br2.setCell ⟨gC, 7, none⟩ (.int .u32 (IntKind.u32.wrap (at2 xs 6)))).setCell ⟨gC, 8, none⟩ (.int .u32 (at4 xs 8))).cell? ⟨gX, 0, none⟩ = some (.pointer (some ⟨gR, 0, none⟩)) := ((HD2.out.put HS.out 7 (.int .u32 (IntKind.u32.wrap (at2 xs 6)))).put HS.out 8 (.int .u32 (at4 xs 8))).x.cell 0))
    | ((go_at_call 37; refine (rd2_calls _ _ _ xs 6 _ HD0.out.r HBB.out).mono ?_; rintro e br1 ⟨rfl, r1, fr1⟩; have HD1 := Lib.hid (HD0.out.num HS.out r1 fr1); have hD1 := Lib.hid (hD0.out.fr fr1 (fun h => by have := HS.out.lr; have h9 : w.heap.size = gR := h; omega)); clear r1 fr1; have cxb1 : br1.cell? ⟨gX, 0, none⟩ = some (.pointer (some ⟨gR, 0, none⟩)) := HD1.out.x.cell 0)))
  rename_i hK hH
  refine hK _ _ ?_
  clear hK hH
  have HN := HD2.out
  have hFN := hD2.out
  clear H hF HD0 hD0 HD1 hD1 HD2 hD2 cxb0 cxb1 cxb2 cyb1 cyb2 k7 q7 k8 q8
  have H := HN
  have hF := hFN
  clear HN hFN
  replace H := H.put HS.out 7 (.int .u32 (IntKind.u32.wrap (at2 xs 6)))
  rw [ckA_7] at H
  replace hF := hF.far (p := ⟨gC, 7, none⟩) (by show w.heap.size ≠ gC; have := HS.out.lc; omega) (.int .u32 (IntKind.u32.wrap (at2 xs 6)))
  generalize br2.setCell ⟨gC, 7, none⟩ (.int .u32 (IntKind.u32.wrap (at2 xs 6))) = bs1 at *
  replace H := H.put HS.out 8 (.int .u32 (at4 xs 8))
  rw [ckA_8] at H
  replace hF := hF.far (p := ⟨gC, 8, none⟩) (by show w.heap.size ≠ gC; have := HS.out.lc; omega) (.int .u32 (at4 xs 8))
  generalize bs1.setCell ⟨gC, 8, none⟩ (.int .u32 (at4 xs 8)) = bs2 at *
  rw [wr32 h2r] at H
  clear h2r
  have cx0 := H.x.cell 0
  have cx1 := H.x.cell 1
  have cf := hF.cell 0
  simp at cx0 cx1 cf
  have ck : bs2.cell? ⟨gC, 0, none⟩ = some (.int .u8 0) := H.c.cell 0
  obtain ⟨bd, hbd⟩ : ∃ x, xs.drop 12 = x := ⟨_, rfl⟩
  rw [hbd] at H
  have HBD := Lib.hid hbd
  clear hbd
  have k18 : bs2.cell? ⟨gC, 18, none⟩ = some (.slice none 0 0) := H.c.cell 18
  have q18 := H.c.frozen 18
  have hs9 := H.t.size
  go_wp2_with fail
  refine (rest_calls gX gR _ _ _ _ _ _ H.x H.r).mono ?_
  rintro e x1 ⟨vb, rfl, ob, r, fr⟩
  replace hF := hF.fr fr (fun h => by have := HS.out.lr; have h9 : w.heap.size = gR := h; omega)
  replace H := H.num HS.out r fr
  have hb9 := fr.size
  replace ob := OwnB.low ob hs9
  obtain ⟨Ab, pb, rfl, -, -⟩ := OwnB.slice ob
  clear r fr k18 q18
  have k18 : x1.cell? ⟨gC, 18, none⟩ = some (.slice none 0 0) := H.c.cell 18
  have q18 := H.c.frozen 18
  go_upto_region 27 with fail
  have fp : Fr (only gC) x1 (x1.setCell ⟨gC, 18, none⟩ (.slice Ab (bd).length pb)) := (Fr.refl _ _).set_only 18 none _
  replace ob := OwnB.fr ob fp (fun k h1 h2 => by have h9 : k = gC := h2; have := OwnB.ge ob k h1; have := HS.out.lc; omega)
  clear fp
  replace H := H.put HS.out 18 (.slice Ab (bd).length pb)
  rw [ckA_18] at H
  replace hF := hF.far (p := ⟨gC, 18, none⟩) (by show w.heap.size ≠ gC; have := HS.out.lc; omega) (.slice Ab (bd).length pb)
  generalize x1.setCell ⟨gC, 18, none⟩ (.slice Ab (bd).length pb) = x2 at *
  clear k18 q18 cx0 cx1 cf ck
  have cx0 := H.x.cell 0
  have cx1 := H.x.cell 1
  have cf := hF.cell 0
  simp at cx0 cx1 cf
  have k18 : x2.cell? ⟨gC, 18, none⟩ = some (.slice Ab bd.length pb) := H.c.cell 18
  go_wp2_with fail
  refine (must_calls gX _ _ _ _ H.x).mono ?_
  rintro e x3 ⟨rfl, bm, fm⟩
  replace hF := hF.fr fm (fun h => by have := HS.out.lx; have h9 : w.heap.size = gX := h; omega)
  replace ob := OwnB.fr ob fm (fun k h1 h2 => by have h9 : k = gX := h2; have := OwnB.ge ob k h1; have := HS.out.lx; omega)
  replace H := H.must HS.out bm fm
  clear bm fm cx0 cx1 cf k18
  have cx0 := H.x.cell 0
  have cx1 := H.x.cell 1
  have cf := hF.cell 0
  simp at cx0 cx1 cf
  by_cases hz : f3 = 0
  · have hzb : (f3 == 0) = true := beq_iff_eq.2 hz
    have HZ := Lib.hid hz
    clear hz
    go_wp2_with fail
    refine (end_calls _ _ _ _ _ _ H.r).mono ?_
    rintro e we ⟨rfl, hwe⟩
    rw [hwe]
    clear hwe
    go_wp2_with fail
    refine (must_calls gX _ _ _ _ H.x).mono ?_
    rintro e wz ⟨rfl, bz, fz⟩
    go_wp2
    first | go_end0 | ((try simp only [Exit.inBlock, Exit.then]); refine bodyPost_ret (results_none rfl _ _ _) rfl ?_)
    refine ⟨rfl, _, Blk.bool bz ?okT, H.c.fr fz (fun h => HS.out.xc (show gC = gX from h).symm), H.t.trans fz (fun k _ hk => .inl hk), fun hok => ?ckT⟩
    case okT => rw [end_eq, HOK.out, Bool.eq_iff_iff]; have hz := HZ.out; have hz3 := HF3.out; have hbl : bd.length = xs.length - 12 := (by rw [← HBD.out, List.length_drop]); simp only [Bool.or_eq_true, decide_eq_true_eq, Bool.not_eq_true', decide_eq_false_iff_not, Bool.false_eq_true, false_or, List.length_drop, List.length_nil]; omega
    case ckT => exact ⟨rfl, ckA_one rfl rfl rfl rfl rfl, rfl, by rw [← HFB.out]; rfl, by rw [← HFE.out]; rfl, by rw [← HFL.out]; rfl, rfl, rfl, rfl, rfl, rfl, rfl, rfl, rfl, rfl, rfl, ⟨none, 0, rfl, fun i h => absurd (show i < 0 from h) (Nat.not_lt_zero i)⟩, ⟨none, 0, rfl, fun i h => absurd (show i < 0 from h) (Nat.not_lt_zero i)⟩, ⟨none, 0, rfl, fun i h => absurd (show i < 0 from h) (Nat.not_lt_zero i)⟩, ⟨none, 0, rfl, fun i h => absurd (show i < 0 from h) (Nat.not_lt_zero i)⟩, ⟨Ab, pb, by show _ = some (Value.slice Ab (xs.drop 12).length pb); rw [HBD.out]; rfl, by show SlB _ _ _ (Value.slice Ab (xs.drop 12).length pb) (xs.drop 12); rw [HBD.out]; exact SlB.of_own (OwnB.fr ob fz (fun k h1 h2 => by have h9 : k = gX := h2; have := OwnB.ge ob k h1; have := HS.out.lx; omega))⟩⟩
  · have hzb : (f3 == 0) = false := beq_eq_false_iff_ne.2 hz
    have HZ := Lib.hid hz
    clear hz
    go_wp2_with fail
    refine (must_calls gX _ _ _ _ H.x).mono ?_
    rintro e wz ⟨rfl, bz, fz⟩
    go_wp2
    first | go_end0 | ((try simp only [Exit.inBlock, Exit.then]); refine bodyPost_ret (results_none rfl _ _ _) rfl ?_)
    have hno : rOk 0 f xs = false := (by rw [HOK.out]; have hz := HZ.out; have hz3 := HF3.out; exact decide_eq_false (fun h => by omega))
    refine ⟨rfl, _, Blk.bool bz (by rw [hno]; simp), H.c.fr fz (fun h => HS.out.xc (show gC = gX from h).symm), H.t.trans fz (fun k _ hk => .inl hk), fun hok => by rw [hno] at hok; cases hok⟩
end Go.Proofs.Ytaifihoheieneaa.Chk
