/- What the chunk's reader reads: lists. Conditions: each names its blocks. -/
import Derived.Test.YtaifihoheieneaaZChkList
import Derived.Deep.AppendLies
import Derived.Deep.RegionLaw
namespace Go.Proofs.Ytaifihoheieneaa.Chk
open Go.RowKit Go.Proofs.Ytaifihoheieneaa.Mem Go.Proofs.Ytaifihoheieneaa.Octet Go.Proofs.Ytaifihoheieneaa.Prm
set_option linter.unusedVariables false
set_option linter.unusedSimpArgs false
attribute [local go_sem ↓] Go.wp_at_zero Go.wp_at_succ
set_option maxHeartbeats 4000000 in
set_option maxRecDepth 100000 in
theorem read_192 (gX gR gC lo hi : Nat) (f : Int) (xs : List Int) (w : World) (H0 : Rg w w gX gR gC lo hi xs false false (z19 192)) (S : Sp w gX gR gC lo hi) (hB : IsB xs) (hl : xs.length ≤ 100000) (hf : 0 ≤ f ∧ f < 256) :
    Calls Try.prog 42 #[.pointer (some ⟨gX, 0, none⟩), .pointer (some ⟨gC, 0, none⟩), .int .u8 f] w (ReadP w gX gR gC 192 f xs) := by
  have hF := Blk.new w #[.int .u8 f] 5
  have H := H0.away S ((Fr.refl nothing w).alloc (.cells #[.int .u8 f] 5)) (fun k h => h.elim)
  have cx0 := H.x.cell 0
  have cx1 := H.x.cell 1
  have cf := hF.cell 0
  have ck : (w.alloc (.cells #[.int .u8 f] 5)).cell? ⟨gC, 0, none⟩ = some (.int .u8 192) := H.c.cell 0
  simp at cx0 cx1 cf
  have HS := Lib.hid S
  have HBB := Lib.hid hB
  clear H0 hB
  have hok : rOk 192 f xs = decide (f = 0 ∧ 4 ≤ xs.length ∧ (xs.length - 4) % 4 = 0) := rfl
  have HOK := Lib.hid hok
  clear hok
  have H : Rg w (w.alloc (.cells #[.int .u8 f] 5)) gX gR gC lo hi (xs.drop 0) (decide (xs.length < 0)) false (z19 192) := by simpa using H
  go_enter Try.func42, Try.ntmps42
  go_wp2_with fail
  refine (rd4_calls _ _ _ xs 0 _ H.r HBB.out).mono ?_
  rintro e w1 ⟨rfl, r, fr⟩
  replace hF := hF.fr fr (fun h => by have := HS.out.lr; have h9 : w.heap.size = gR := h; omega)
  replace H := H.num HS.out r fr
  clear r fr
  have k5 : w1.cell? ⟨gC, 5, none⟩ = some (.int .u32 0) := H.c.cell 5
  have q5 := H.c.frozen 5
  go_upto_region 40 with fail
  replace H := H.put HS.out 5 (.int .u32 (at4 xs 0))
  rw [ckA_5] at H
  replace hF := hF.far (p := ⟨gC, 5, none⟩) (by show w.heap.size ≠ gC; have := HS.out.lc; omega) (.int .u32 (at4 xs 0))
  generalize w1.setCell ⟨gC, 5, none⟩ (.int .u32 (at4 xs 0)) = w2 at *
  clear k5 q5 cx0 cx1 cf ck
  have hZ0 : w.heap.size + 1 ≤ w2.heap.size := by have := hF.lt; omega
  go_loopw [254] (fun v0 wr => ∃ (j : Nat) (As : Option Addr) (pS : Nat), Rg w wr gX gR gC lo hi (xs.drop (4 + 4 * j)) (decide (xs.length < 4 + 4 * j)) false (ckA 192 false false false false (at4 xs 0) 0 0 0 0 0 0 0 0 (.slice none 0 0) (.slice none 0 0) (.slice As j pS) (.slice none 0 0) (.slice none 0 0)) ∧ Blk wr w.heap.size 5 #[.int .u8 f] ∧ wr.ownsRow (w.heap.size + 1) 75 3 (.slice As j pS) j (scells (skipsAt xs j)) ∧ w.heap.size + 1 ≤ wr.heap.size ∧ (j = 0 ∨ 4 + 4 * (j - 1) < xs.length)) (fun _ wr => leftIn wr gR)
  case atStart => exact ⟨0, none, 0, H, hF, World.ownsRow_nil _ _ _ _, hZ0, .inl rfl⟩
  case round =>
    clear H hF hZ0
    obtain ⟨j, As, pS, H, hF, O, hZ, hj⟩ := hrel
    have hZ := Lib.hid hZ
    have cx0 := H.x.cell 0
    have cx1 := H.x.cell 1
    have cf := hF.cell 0
    simp at cx0 cx1 cf
    have ck : wr.cell? ⟨gC, 0, none⟩ = some (.int .u8 192) := H.c.cell 0
    have hll := Rdr.left H.r
    have hdl : (xs.drop (4 + 4 * j)).length = xs.length - (4 + 4 * j) := List.length_drop
    have HLL := Lib.hid hll
    clear hll
    by_cases hlt : 4 + 4 * j < xs.length
    · have hlp : decide ((0 : Int) < (xs.drop (4 + 4 * j)).length) = true := decide_eq_true (by omega)
      have hnb := Lib.hid (show j ≤ 100000 by omega)
      clear hdl
      go_wp2_with fail
      refine (left_calls _ _ _ _ _ _ H.r).mono ?_
      rintro e we ⟨rfl, hwe⟩
      rw [hwe]
      clear hwe
      have H2r := Lib.hid (wr32 (at2_rng HBB.out (4 + 4 * j + 2)))
      clear cx0 cx1 cf
      go_upto_region 41 with fail
      have HD0 := Lib.hid (H.away HS.out (Fr.refl nothing wr).drew (fun k h => h.elim))
      have hD0 := Lib.hid (hF.fr (Fr.refl nothing wr).drew id)
      have OD0 := Lib.hid (row_fr (S := nothing) O (Fr.refl nothing wr).drew (fun _ _ h => h))
      have hz0 := Lib.hid (show w.heap.size + 1 ≤ wr.drew.heap.size from hZ.out)
      have cx0 : wr.drew.cell? ⟨gX, 0, none⟩ = some (.pointer (some ⟨gR, 0, none⟩)) := HD0.out.x.cell 0
      have cz0 : wr.drew.cell? ⟨gC, 16, none⟩ = some (.slice As (j) pS) := HD0.out.c.cell 16
      obtain ⟨ii, hii, hi0, hi1, hi2⟩ := info_of info_skip
      go_region_law (first
        | ((refine step_append_lies _ (by rfl) (.tmp 264) (.tmp 277) _ (by rfl) (w.heap.size + 1) 75 ii (.agg #[.int .u16 0, .bool false, .int .u32 0]) 3 8 Try.underlying27 hii hi0 hi1 hi2 rfl (by omega) (.slice As (j) pS) (j) (scells (skipsAt xs j)) (by rfl) OA.out ⟨ar2.heap.size, 0, none⟩ 1 1 [.int .u16 (at2 xs (4 + 4 * j)), .bool false, .int .u32 (IntKind.u32.wrap (at2 xs (4 + 4 * j + 2)))] (by rfl) rfl (World.news_of_block (heap_alloc_new ar2 _)) (by intro u hu; simp at hu; first | (rcases hu with rfl | rfl | rfl <;> rfl) | (rcases hu with rfl | rfl <;> rfl) | (subst hu; rfl)) (by omega) (by have := hnb.out; simp [maxLen]; omega) (by have := hnb.out; omega) hzA.out (ar2.heap.size + 1) (by simp) ?_; intro gn cn wa hown hgrow hat hlt; have HE0 := Lib.hid (HA.out.away HS.out ((Fr.refl _ _).grown (S := OfV (.slice As (j) pS)) hgrow (fun k hk => .inl hk)) (fun k hk => by have := (OA.out.lt k hk).1; omega)); have hE0 := Lib.hid (hA.out.fr ((Fr.refl _ _).grown (S := OfV (.slice As (j) pS)) hgrow (fun k hk => .inl hk)) (fun h => by have := (OA.out.lt _ h).1; omega)); have OE := Lib.hid hown; have hzE := Lib.hid (Nat.le_trans hzA.out hgrow.size); clear hown hat; have cx4 : wa.cell? ⟨gX, 0, none⟩ = some (.pointer (some ⟨gR, 0, none⟩)) := HE0.out.x.cell 0; have cz4 : wa.cell? ⟨gC, 16, none⟩ = some (.slice As (j) pS) := HE0.out.c.cell 16; have qz := HE0.out.c.frozen 16; have cx5 : (wa.setCell ⟨gC, 16, none⟩ (.slice (some ⟨gn, 0, none⟩) (j + 1) cn)).cell? ⟨gX, 0, none⟩ = some (.pointer (some ⟨gR, 0, none⟩)) := (HE0.out.put HS.out 16 (.slice (some ⟨gn, 0, none⟩) (j + 1) cn)).x.cell 0))
        | (((first | go_at_call 37 | (go_simp; go_at_call 37)); refine (rd2_calls _ _ _ xs (4 + 4 * j + 2) _ HD1.out.r HBB.out).mono ?_; rintro e ar2 ⟨rfl, r2, fr2⟩; have HD2 := Lib.hid (HD1.out.num HS.out r2 fr2); have hD2 := Lib.hid (hD1.out.fr fr2 (fun h => by have := HS.out.lr; have h9 : w.heap.size = gR := h; omega)); have OD2 := Lib.hid (row_fr OD1.out fr2 (fun k h1 h2 => by have h9 : k = gR := h2; have := (OD1.out.lt k h1).1; have := HS.out.lr; omega)); have hz2 := Lib.hid (Nat.le_trans hz1.out fr2.size); clear r2 fr2; have cx2 : ar2.cell? ⟨gX, 0, none⟩ = some (.pointer (some ⟨gR, 0, none⟩)) := HD2.out.x.cell 0; have cz2 : ar2.cell? ⟨gC, 16, none⟩ = some (.slice As (j) pS) := HD2.out.c.cell 16; have HA := Lib.hid (HD2.out.away HS.out ((Fr.refl nothing ar2).alloc (.cells #[.int .u16 (at2 xs (4 + 4 * j)), .bool false, .int .u32 (IntKind.u32.wrap (at2 xs (4 + 4 * j + 2)))] 75)) (fun k h => h.elim)); have hA := Lib.hid (hD2.out.alloc (.cells #[.int .u16 (at2 xs (4 + 4 * j)), .bool false, .int .u32 (IntKind.u32.wrap (at2 xs (4 + 4 * j + 2)))] 75)); have OA := Lib.hid (row_fr (S := nothing) OD2.out ((Fr.refl nothing ar2).alloc (.cells #[.int .u16 (at2 xs (4 + 4 * j)), .bool false, .int .u32 (IntKind.u32.wrap (at2 xs (4 + 4 * j + 2)))] 75)) (fun _ _ h => h)); have hzA := Lib.hid (show w.heap.size + 1 ≤ (ar2.alloc (.cells #[.int .u16 (at2 xs (4 + 4 * j)), .bool false, .int .u32 (IntKind.u32.wrap (at2 xs (4 + 4 * j + 2)))] 75)).heap.size by have := hz2.out; simp; omega); have cx3 : (ar2.alloc (.cells #[.int .u16 (at2 xs (4 + 4 * j)), .bool false, .int .u32 (IntKind.u32.wrap (at2 xs (4 + 4 * j + 2)))] 75)).cell? ⟨gX, 0, none⟩ = some (.pointer (some ⟨gR, 0, none⟩)) := HA.out.x.cell 0; have cz3 : (ar2.alloc (.cells #[.int .u16 (at2 xs (4 + 4 * j)), .bool false, .int .u32 (IntKind.u32.wrap (at2 xs (4 + 4 * j + 2)))] 75)).cell? ⟨gC, 16, none⟩ = some (.slice As (j) pS) := HA.out.c.cell 16))
        | (((first | go_at_call 37 | (go_simp; go_at_call 37)); refine (rd2_calls _ _ _ xs (4 + 4 * j) _ HD0.out.r HBB.out).mono ?_; rintro e ar1 ⟨rfl, r1, fr1⟩; have HD1 := Lib.hid (HD0.out.num HS.out r1 fr1); have hD1 := Lib.hid (hD0.out.fr fr1 (fun h => by have := HS.out.lr; have h9 : w.heap.size = gR := h; omega)); have OD1 := Lib.hid (row_fr OD0.out fr1 (fun k h1 h2 => by have h9 : k = gR := h2; have := (OD0.out.lt k h1).1; have := HS.out.lr; omega)); have hz1 := Lib.hid (Nat.le_trans hz0.out fr1.size); clear r1 fr1; have cx1 : ar1.cell? ⟨gX, 0, none⟩ = some (.pointer (some ⟨gR, 0, none⟩)) := HD1.out.x.cell 0; have cz1 : ar1.cell? ⟨gC, 16, none⟩ = some (.slice As (j) pS) := HD1.out.c.cell 16)))
      all_goals (
        have HP := HE0.out.put HS.out 16 (.slice (some ⟨gn, 0, none⟩) (j + 1) cn)
        rw [ckA_16] at HP
        have hP := Lib.hid (hE0.out.far (p := ⟨gC, 16, none⟩) (by show w.heap.size ≠ gC; have := HS.out.lc; omega) (.slice (some ⟨gn, 0, none⟩) (j + 1) cn))
        have fP : Fr (only gC) wa (wa.setCell ⟨gC, 16, none⟩ (.slice (some ⟨gn, 0, none⟩) (j + 1) cn)) := (Fr.refl _ _).set_only 16 none _
        have OP := row_fr OE.out fP (fun k h1 h2 => by have h9 : k = gC := h2; have := (OE.out.lt k h1).1; have := HS.out.lc; omega)
        rw [H2r.out] at OP
        have HOP := Lib.hid (show World.ownsRow _ (w.heap.size + 1) 75 3 (.slice (some ⟨gn, 0, none⟩) (j + 1) cn) (j + 1) (scells (skipsAt xs (j + 1))) by rw [skipsAt_snoc, scells_snoc]; exact OP)
        have hZP := Lib.hid (Nat.le_trans hzE.out fP.size)
        have HHP := Lib.hid HP
        clear HP fP OP OE hzE HE0 hE0 HA hA OA OD0 OD1 OD2 HD0 HD1 HD2 hD0 hD1 hD2 H hF O cx0 cx1 cx2 cx3 cx4 cx5 cz0 cz1 cz2 cz3 cz4 qz hgrow hlt hlp ck
        generalize wa.setCell ⟨gC, 16, none⟩ (.slice (some ⟨gn, 0, none⟩) (j + 1) cn) = wz at *
        go_wp2
        go_roundw
        case rel => exact ⟨j + 1, _, cn, HHP.out, hP.out, HOP.out, hZP.out, .inr (by omega)⟩
        case measure => rw [Rdr.left HHP.out.r, HLL.out, List.length_drop, List.length_drop]; omega)
    · have hln : decide ((0 : Int) < (xs.drop (4 + 4 * j)).length) = false := decide_eq_false (by omega)
      have hsl := Lib.hid (skipsAt_len xs j)
      clear hdl
      go_wp2_with fail
      refine (left_calls _ _ _ _ _ _ H.r).mono ?_
      rintro e we ⟨rfl, hwe⟩
      rw [hwe]
      clear hwe
      by_cases hz : f = 0
      · have hzb : (f == 0) = true := beq_iff_eq.2 hz
        have HZ := Lib.hid hz
        clear hz
        go_wp2_with fail
        refine (end_calls _ _ _ _ _ _ H.r).mono ?_
        rintro e we ⟨rfl, hwe⟩
        rw [hwe]
        clear hwe
        go_wp2_with fail
        refine (must_calls gX _ _ _ _ H.x).mono ?_
        rintro e wz ⟨rfl, bz, fz⟩
        go_wp2
        first | go_end0 | ((try simp only [Exit.inBlock, Exit.then]); refine bodyPost_ret (results_none rfl _ _ _) rfl ?_)
        refine ⟨rfl, _, Blk.bool bz ?okT, H.c.fr fz (fun h => HS.out.xc (show gC = gX from h).symm), H.t.trans fz (fun k _ hk => .inl hk), fun hok => ?ckT⟩
        case okT => rw [end_eq, HOK.out, Bool.eq_iff_iff]; have hz := HZ.out; simp only [Bool.or_eq_true, decide_eq_true_eq, Bool.not_eq_true', decide_eq_false_iff_not, Bool.false_eq_true, false_or, List.length_drop]; omega
        case ckT => rw [HOK.out] at hok; have hokk := of_decide_eq_true hok; have hj2 : (xs.length - 4) / 4 = j := (by omega); have hrc : (rC 192 f xs).skips = skipsAt xs j := (by show skipsAt xs ((xs.length - 4) / 4) = _; rw [hj2]); exact ⟨rfl, ckA_one rfl rfl rfl rfl rfl, rfl, rfl, rfl, rfl, rfl, rfl, rfl, rfl, rfl, rfl, rfl, rfl, rfl, rfl, ⟨none, 0, rfl, fun i h => absurd (show i < 0 from h) (Nat.not_lt_zero i)⟩, ⟨none, 0, rfl, fun i h => absurd (show i < 0 from h) (Nat.not_lt_zero i)⟩, ⟨As, pS, by rw [hrc, hsl.out]; rfl, by rw [hrc]; exact (own_skp (by rw [hsl.out]; exact row_fr O fz (fun k h1 h2 => by have h9 : k = gX := h2; have := (O.lt k h1).1; have := HS.out.lx; omega))).low (by omega)⟩, ⟨none, 0, rfl, fun i h => absurd (show i < 0 from h) (Nat.not_lt_zero i)⟩, ⟨none, 0, rfl, nilv _ _ _⟩⟩
      · have hzb : (f == 0) = false := beq_eq_false_iff_ne.2 hz
        have HZ := Lib.hid hz
        clear hz
        go_wp2_with fail
        refine (must_calls gX _ _ _ _ H.x).mono ?_
        rintro e wz ⟨rfl, bz, fz⟩
        go_wp2
        first | go_end0 | ((try simp only [Exit.inBlock, Exit.then]); refine bodyPost_ret (results_none rfl _ _ _) rfl ?_)
        have hno : rOk 192 f xs = false := (by rw [HOK.out]; simp [HZ.out])
        refine ⟨rfl, _, Blk.bool bz (by rw [hno]; simp), H.c.fr fz (fun h => HS.out.xc (show gC = gX from h).symm), H.t.trans fz (fun k _ hk => .inl hk), fun hok => by rw [hno] at hok; cases hok⟩
end Go.Proofs.Ytaifihoheieneaa.Chk
