/- What the chunk's reader reads, kind by kind: those with flags. Conditions: each names its blocks. -/
import Derived.Test.YtaifihoheieneaaZChkRead
namespace Go.Proofs.Ytaifihoheieneaa.Chk
open Go.RowKit Go.Proofs.Ytaifihoheieneaa.Mem Go.Proofs.Ytaifihoheieneaa.Octet Go.Proofs.Ytaifihoheieneaa.Prm
set_option linter.unusedVariables false
set_option linter.unusedSimpArgs false
attribute [local go_sem ↓] Go.wp_at_zero Go.wp_at_succ
set_option maxHeartbeats 4000000 in
set_option maxRecDepth 100000 in
theorem read_14 (gX gR gC lo hi : Nat) (f : Int) (xs : List Int) (w : World) (H0 : Rg w w gX gR gC lo hi xs false false (z19 14)) (S : Sp w gX gR gC lo hi) (hB : IsB xs) (hl : xs.length ≤ 100000) (hf : 0 ≤ f ∧ f < 256) :
    Calls Try.prog 42 #[.pointer (some ⟨gX, 0, none⟩), .pointer (some ⟨gC, 0, none⟩), .int .u8 f] w (ReadP w gX gR gC 14 f xs) := by
  have hF := Blk.new w #[.int .u8 f] 5
  have H := H0.away S ((Fr.refl nothing w).alloc (.cells #[.int .u8 f] 5)) (fun k h => h.elim)
  have cx0 := H.x.cell 0
  have cx1 := H.x.cell 1
  have cf := hF.cell 0
  have ck : (w.alloc (.cells #[.int .u8 f] 5)).cell? ⟨gC, 0, none⟩ = some (.int .u8 14) := H.c.cell 0
  simp at cx0 cx1 cf
  have HS := Lib.hid S
  have HBB := Lib.hid hB
  clear H0 hB
  have hok : rOk 14 f xs = decide (f < 2 ∧ xs.length = 0) := rfl
  have HOK := Lib.hid hok
  clear hok
  go_enter Try.func42, Try.ntmps42
  obtain ⟨f1, hf1⟩ : ∃ x, bits .andNot .u8 f 1 = x := ⟨_, rfl⟩
  have HF1 := Lib.hid ((f_one' hf).2.symm.trans hf1)
  have HFE := Lib.hid (f_one' hf).1
  have CFL := flag_calls w.heap.size f 1 _ hF
  rw [hf1] at CFL
  have HCFL := Lib.hid CFL
  clear CFL hf1
  go_wp2_with fail
  refine HCFL.out.mono ?_
  rintro e w1 ⟨rfl, hF1, fr⟩
  clear HCFL hF
  have hF := hF1
  clear hF1
  rw [HFE.out]
  replace H := H.away HS.out fr (fun k h => by have h9 : k = w.heap.size := h; omega)
  clear fr cx0 cx1 cf ck
  have cx0 := H.x.cell 0
  have cx1 := H.x.cell 1
  have cf := hF.cell 0
  simp at cx0 cx1 cf
  have ck : w1.cell? ⟨gC, 0, none⟩ = some (.int .u8 14) := H.c.cell 0
  have k4 : w1.cell? ⟨gC, 4, none⟩ = some (.bool false) := H.c.cell 4
  have q4 := H.c.frozen 4
  go_upto_region 52 with fail
  generalize hfe : flE f = fe at *
  replace H := H.put HS.out 4 (.bool fe)
  rw [ckA_4] at H
  replace hF := hF.far (p := ⟨gC, 4, none⟩) (by show w.heap.size ≠ gC; have := HS.out.lc; omega) (.bool fe)
  generalize w1.setCell ⟨gC, 4, none⟩ (.bool fe) = w2 at *
  clear k4 q4 cx0 cx1 cf ck
  have cx0 := H.x.cell 0
  have cx1 := H.x.cell 1
  have cf := hF.cell 0
  simp at cx0 cx1 cf
  have ck : w2.cell? ⟨gC, 0, none⟩ = some (.int .u8 14) := H.c.cell 0
  by_cases hz : f1 = 0
  · have hzb : (f1 == 0) = true := beq_iff_eq.2 hz
    have HZ := Lib.hid hz
    clear hz
    go_wp2_with fail
    refine (end_calls _ _ _ _ _ _ H.r).mono ?_
    rintro e we ⟨rfl, hwe⟩
    rw [hwe]
    clear hwe
    go_wp2_with fail
    refine (must_calls gX _ _ _ _ H.x).mono ?_
    rintro e wz ⟨rfl, bz, fz⟩
    go_wp2
    first | go_end0 | ((try simp only [Exit.inBlock, Exit.then]); refine bodyPost_ret (results_none rfl _ _ _) rfl ?_)
    refine ⟨rfl, _, Blk.bool bz ?okT, H.c.fr fz (fun h => HS.out.xc (show gC = gX from h).symm), H.t.trans fz (fun k _ hk => .inl hk), fun hok => ?ckT⟩
    case okT => rw [end_eq, HOK.out, Bool.eq_iff_iff]; have hz := HZ.out; have hz1 := HF1.out; simp only [Bool.or_eq_true, decide_eq_true_eq, Bool.not_eq_true', decide_eq_false_iff_not, Bool.false_eq_true, false_or, List.length_drop]; omega
    case ckT => exact ⟨rfl, ckA_one rfl rfl rfl rfl rfl, rfl, rfl, rfl, rfl, by rw [← hfe]; rfl, rfl, rfl, rfl, rfl, rfl, rfl, rfl, rfl, rfl, ⟨none, 0, rfl, fun i h => absurd (show i < 0 from h) (Nat.not_lt_zero i)⟩, ⟨none, 0, rfl, fun i h => absurd (show i < 0 from h) (Nat.not_lt_zero i)⟩, ⟨none, 0, rfl, fun i h => absurd (show i < 0 from h) (Nat.not_lt_zero i)⟩, ⟨none, 0, rfl, fun i h => absurd (show i < 0 from h) (Nat.not_lt_zero i)⟩, ⟨none, 0, rfl, nilv _ _ _⟩⟩
  · have hzb : (f1 == 0) = false := beq_eq_false_iff_ne.2 hz
    have HZ := Lib.hid hz
    clear hz
    go_wp2_with fail
    refine (must_calls gX _ _ _ _ H.x).mono ?_
    rintro e wz ⟨rfl, bz, fz⟩
    go_wp2
    first | go_end0 | ((try simp only [Exit.inBlock, Exit.then]); refine bodyPost_ret (results_none rfl _ _ _) rfl ?_)
    have hno : rOk 14 f xs = false := (by rw [HOK.out]; have hz := HZ.out; have hz1 := HF1.out; exact decide_eq_false (fun h => by omega))
    refine ⟨rfl, _, Blk.bool bz (by rw [hno]; simp), H.c.fr fz (fun h => HS.out.xc (show gC = gX from h).symm), H.t.trans fz (fun k _ hk => .inl hk), fun hok => by rw [hno] at hok; cases hok⟩
set_option maxHeartbeats 4000000 in
set_option maxRecDepth 100000 in
theorem read_6 (gX gR gC lo hi : Nat) (f : Int) (xs : List Int) (w : World) (H0 : Rg w w gX gR gC lo hi xs false false (z19 6)) (S : Sp w gX gR gC lo hi) (hB : IsB xs) (hl : xs.length ≤ 100000) (hf : 0 ≤ f ∧ f < 256) :
    Calls Try.prog 42 #[.pointer (some ⟨gX, 0, none⟩), .pointer (some ⟨gC, 0, none⟩), .int .u8 f] w (ReadP w gX gR gC 6 f xs) := by
  have hF := Blk.new w #[.int .u8 f] 5
  have H := H0.away S ((Fr.refl nothing w).alloc (.cells #[.int .u8 f] 5)) (fun k h => h.elim)
  have cx0 := H.x.cell 0
  have cx1 := H.x.cell 1
  have cf := hF.cell 0
  have ck : (w.alloc (.cells #[.int .u8 f] 5)).cell? ⟨gC, 0, none⟩ = some (.int .u8 6) := H.c.cell 0
  simp at cx0 cx1 cf
  have HS := Lib.hid S
  have HBB := Lib.hid hB
  clear H0 hB
  have hok : rOk 6 f xs = decide (f < 2 ∧ (dec xs).2 = 0) := rfl
  have HOK := Lib.hid hok
  clear hok
  go_enter Try.func42, Try.ntmps42
  obtain ⟨f1, hf1⟩ : ∃ x, bits .andNot .u8 f 1 = x := ⟨_, rfl⟩
  have HF1 := Lib.hid ((f_one' hf).2.symm.trans hf1)
  have HFE := Lib.hid (f_one' hf).1
  have CFL := flag_calls w.heap.size f 1 _ hF
  rw [hf1] at CFL
  have HCFL := Lib.hid CFL
  clear CFL hf1
  go_wp2_with fail
  refine HCFL.out.mono ?_
  rintro e w1 ⟨rfl, hF1, fr⟩
  clear HCFL hF
  have hF := hF1
  clear hF1
  rw [HFE.out]
  replace H := H.away HS.out fr (fun k h => by have h9 : k = w.heap.size := h; omega)
  clear fr cx0 cx1 cf ck
  have cx0 := H.x.cell 0
  have cx1 := H.x.cell 1
  have cf := hF.cell 0
  simp at cx0 cx1 cf
  have ck : w1.cell? ⟨gC, 0, none⟩ = some (.int .u8 6) := H.c.cell 0
  have k4 : w1.cell? ⟨gC, 4, none⟩ = some (.bool false) := H.c.cell 4
  have q4 := H.c.frozen 4
  go_upto_region 52 with fail
  generalize hfe : flE f = fe at *
  replace H := H.put HS.out 4 (.bool fe)
  rw [ckA_4] at H
  replace hF := hF.far (p := ⟨gC, 4, none⟩) (by show w.heap.size ≠ gC; have := HS.out.lc; omega) (.bool fe)
  generalize w1.setCell ⟨gC, 4, none⟩ (.bool fe) = w2 at *
  clear k4 q4 cx0 cx1 cf ck
  have cx0 := H.x.cell 0
  have cx1 := H.x.cell 1
  have cf := hF.cell 0
  simp at cx0 cx1 cf
  have ck : w2.cell? ⟨gC, 0, none⟩ = some (.int .u8 6) := H.c.cell 0
  have k17 : w2.cell? ⟨gC, 17, none⟩ = some (.slice none 0 0) := H.c.cell 17
  have q17 := H.c.frozen 17
  have hs9 := H.t.size
  obtain ⟨ps, hps⟩ : ∃ x, (dec xs).1 = x := ⟨_, rfl⟩
  obtain ⟨E, hE⟩ : ∃ x, (dec xs).2 = x := ⟨_, rfl⟩
  have CP := params_calls gX gR lo hi xs _ _ _ H.x H.r (by first | exact HBB.out | exact isb_drop HBB.out _) (by first | omega | (simp; omega)) (fun h => HS.out.x _ h.1 h.2 rfl)
  rw [hps, hE] at CP
  have HCP := Lib.hid CP
  clear CP
  go_wp2_with fail
  refine HCP.out.mono ?_
  rintro e w3 ⟨Ap, pp, rfl, op, bx, r, fr⟩
  clear HCP
  have hb9 := fr.size
  have fx : Fr (S3 gX gR gC) w w3 := H.t.trans fr (fun k _ h => by rcases h with h | h; exact .inr (.inl h); exact .inl h)
  have bc := H.c.fr fr (fun h => by rcases h with h | h; exact HS.out.rc h.symm; exact HS.out.xc h.symm)
  replace hF := hF.fr fr (fun h => by have := HS.out.lr; have := HS.out.lx; rcases h with h | h <;> omega)
  have H2 : Rg w w3 gX gR gC lo hi [] _ _ _ := ⟨bx, r, bc, fx⟩
  clear H k17 q17 bx r bc fx fr
  have H := H2
  clear H2
  replace op := OwnPm.low op hs9
  have k17 : w3.cell? ⟨gC, 17, none⟩ = some (.slice none 0 0) := H.c.cell 17
  have q17 := H.c.frozen 17
  go_upto_region 54 with fail
  have fp : Fr (only gC) w3 (w3.setCell ⟨gC, 17, none⟩ (.slice Ap ps.length pp)) := (Fr.refl _ _).set_only 17 none _
  replace op := OwnPm.fr op fp (fun k h1 h2 => by have h9 : k = gC := h2; have := HS.out.lc; omega)
  clear fp
  replace H := H.put HS.out 17 (.slice Ap ps.length pp)
  rw [ckA_17] at H
  replace hF := hF.far (p := ⟨gC, 17, none⟩) (by show w.heap.size ≠ gC; have := HS.out.lc; omega) (.slice Ap ps.length pp)
  generalize w3.setCell ⟨gC, 17, none⟩ (.slice Ap ps.length pp) = w4 at *
  clear k17 q17 cx0 cx1 cf ck
  have cx0 := H.x.cell 0
  have cx1 := H.x.cell 1
  have cf := hF.cell 0
  simp at cx0 cx1 cf
  by_cases hz : f1 = 0
  · have hzb : (f1 == 0) = true := beq_iff_eq.2 hz
    have HZ := Lib.hid hz
    clear hz
    go_wp2_with fail
    refine (end_calls _ _ _ _ _ _ H.r).mono ?_
    rintro e we ⟨rfl, hwe⟩
    rw [hwe]
    clear hwe
    go_wp2_with fail
    refine (must_calls gX _ _ _ _ H.x).mono ?_
    rintro e wz ⟨rfl, bz, fz⟩
    go_wp2
    first | go_end0 | ((try simp only [Exit.inBlock, Exit.then]); refine bodyPost_ret (results_none rfl _ _ _) rfl ?_)
    refine ⟨rfl, _, Blk.bool bz ?okT, H.c.fr fz (fun h => HS.out.xc (show gC = gX from h).symm), H.t.trans fz (fun k _ hk => .inl hk), fun hok => ?ckT⟩
    case okT => rw [end_eq, HOK.out, hE, Bool.eq_iff_iff]; have hz := HZ.out; have hz1 := HF1.out; have hz2 : f < 2 := (by omega); by_cases he : E = 0 <;> simp [hz2, he]
    case ckT => exact ⟨rfl, ckA_one rfl rfl rfl rfl rfl, rfl, rfl, rfl, rfl, by rw [← hfe]; rfl, rfl, rfl, rfl, rfl, rfl, rfl, rfl, rfl, rfl, ⟨none, 0, rfl, fun i h => absurd (show i < 0 from h) (Nat.not_lt_zero i)⟩, ⟨none, 0, rfl, fun i h => absurd (show i < 0 from h) (Nat.not_lt_zero i)⟩, ⟨none, 0, rfl, fun i h => absurd (show i < 0 from h) (Nat.not_lt_zero i)⟩, ⟨Ap, pp, by show _ = some (Value.slice Ap (dec xs).1.length pp); rw [hps]; rfl, by show PmC _ _ _ _ (dec xs).1; rw [hps]; exact ckv_ps (OwnPm.fr op fz (fun k h1 h2 => by have h9 : k = gX := h2; have := HS.out.lx; omega))⟩, ⟨none, 0, rfl, nilv _ _ _⟩⟩
  · have hzb : (f1 == 0) = false := beq_eq_false_iff_ne.2 hz
    have HZ := Lib.hid hz
    clear hz
    go_wp2_with fail
    refine (must_calls gX _ _ _ _ H.x).mono ?_
    rintro e wz ⟨rfl, bz, fz⟩
    go_wp2
    first | go_end0 | ((try simp only [Exit.inBlock, Exit.then]); refine bodyPost_ret (results_none rfl _ _ _) rfl ?_)
    have hno : rOk 6 f xs = false := (by rw [HOK.out]; have hz := HZ.out; have hz1 := HF1.out; exact decide_eq_false (fun h => by omega))
    refine ⟨rfl, _, Blk.bool bz (by rw [hno]; simp), H.c.fr fz (fun h => HS.out.xc (show gC = gX from h).symm), H.t.trans fz (fun k _ hk => .inl hk), fun hok => by rw [hno] at hok; cases hok⟩
end Go.Proofs.Ytaifihoheieneaa.Chk
