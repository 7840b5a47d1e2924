/- What the chunk's reader reads: lists. Conditions: each names its blocks. -/
import Derived.Test.YtaifihoheieneaaZChkList
import Derived.Deep.AppendLies
import Derived.Deep.RegionLaw
import Derived.IntWalk
namespace Go.Proofs.Ytaifihoheieneaa.Chk
open Go.RowKit Go.Proofs.Ytaifihoheieneaa.Mem Go.Proofs.Ytaifihoheieneaa.Octet Go.Proofs.Ytaifihoheieneaa.Prm
set_option linter.unusedVariables false
set_option linter.unusedSimpArgs false
attribute [local go_sem ↓] Go.wp_at_zero Go.wp_at_succ
set_option maxHeartbeats 4000000 in
set_option maxRecDepth 100000 in
theorem read_3 (gX gR gC lo hi : Nat) (f : Int) (xs : List Int) (w : World) (H0 : Rg w w gX gR gC lo hi xs false false (z19 3)) (S : Sp w gX gR gC lo hi) (hB : IsB xs) (hl : xs.length ≤ 100000) (hf : 0 ≤ f ∧ f < 256) :
    Calls Try.prog 42 #[.pointer (some ⟨gX, 0, none⟩), .pointer (some ⟨gC, 0, none⟩), .int .u8 f] w (ReadP w gX gR gC 3 f xs) := by
  have hF := Blk.new w #[.int .u8 f] 5
  have H := H0.away S ((Fr.refl nothing w).alloc (.cells #[.int .u8 f] 5)) (fun k h => h.elim)
  have cx0 := H.x.cell 0
  have cx1 := H.x.cell 1
  have cf := hF.cell 0
  have ck : (w.alloc (.cells #[.int .u8 f] 5)).cell? ⟨gC, 0, none⟩ = some (.int .u8 3) := H.c.cell 0
  simp at cx0 cx1 cf
  have HS := Lib.hid S
  have HBB := Lib.hid hB
  clear H0 hB
  have hok : rOk 3 f xs = decide (f = 0 ∧ 12 ≤ xs.length ∧ (xs.length : Int) = 12 + 4 * (at2 xs 8 + at2 xs 10)) := rfl
  have HOK := Lib.hid hok
  clear hok
  have H : Rg w (w.alloc (.cells #[.int .u8 f] 5)) gX gR gC lo hi (xs.drop 0) (decide (xs.length < 0)) false (z19 3) := by simpa using H
  obtain ⟨G, hG⟩ : ∃ G : Nat, at2 xs 8 = (G : Int) := ⟨(at2 xs 8).toNat, by have := at2_rng HBB.out 8; omega⟩
  obtain ⟨D, hD⟩ : ∃ D : Nat, at2 xs 10 = (D : Int) := ⟨(at2 xs 10).toNat, by have := at2_rng HBB.out 10; omega⟩
  have hGb : G < 65536 := by have := at2_rng HBB.out 8; omega
  have hDb : D < 65536 := by have := at2_rng HBB.out 10; omega
  have HG := Lib.hid hG
  have HD := Lib.hid hD
  clear hG hD
  go_enter Try.func42, Try.ntmps42
  go_upto_region 28 with fail
  have HD0 := Lib.hid (H.away HS.out (Fr.refl nothing (w.alloc (.cells #[.int .u8 f] 5))).drew (fun k h => h.elim))
  have hD0 := Lib.hid (hF.fr (Fr.refl nothing (w.alloc (.cells #[.int .u8 f] 5))).drew id)
  have cxa0 : (w.alloc (.cells #[.int .u8 f] 5)).drew.cell? ⟨gX, 0, none⟩ = some (.pointer (some ⟨gR, 0, none⟩)) := HD0.out.x.cell 0
  clear cx0 cx1 cf ck
  go_region_held_law (fun wq => wq.cell? ⟨gX, 0, none⟩ = some (.pointer (some ⟨gR, 0, none⟩))) (first | exact cxa0 | exact cxa1 | exact cxa2 | exact cya1 | exact cya2) (first
    | ((go_at_call 55; refine (rd4_calls _ _ _ xs 4 _ HD1.out.r HBB.out).mono ?_; rintro e ar2 ⟨rfl, r2, fr2⟩; have HD2 := Lib.hid (HD1.out.num HS.out r2 fr2); have hD2 := Lib.hid (hD1.out.fr fr2 (fun h => by have := HS.out.lr; have h9 : w.heap.size = gR := h; omega)); clear r2 fr2; have cxa2 : ar2.cell? ⟨gX, 0, none⟩ = some (.pointer (some ⟨gR, 0, none⟩)) := HD2.out.x.cell 0; have k5 : ar2.cell? ⟨gC, 5, none⟩ = some (.int .u32 0) := HD2.out.c.cell 5; have q5 := HD2.out.c.frozen 5; have k11 : ar2.cell? ⟨gC, 11, none⟩ = some (.int .u32 0) := HD2.out.c.cell 11; have q11 := HD2.out.c.frozen 11; have cya1 : (ar2.setCell ⟨gC, 5, none⟩ (.int .u32 (at4 xs 0))).cell? ⟨gX, 0, none⟩ = some (.pointer (some ⟨gR, 0, none⟩)) := (HD2.out.put HS.out 5 (.int .u32 (at4 xs 0))).x.cell 0; have cya2 : ((ar2.setCell ⟨gC, 5, none⟩ (.int .u32 (at4 xs 0))).setCell ⟨gC, 11, none⟩ (.int .u32 (at4 xs 4))).cell? ⟨gX, 0, none⟩ = some (.pointer (some ⟨gR, 0, none⟩)) := ((HD2.out.put HS.out 5 (.int .u32 (at4 xs 0))).put HS.out 11 (.int .u32 (at4 xs 4))).x.cell 0))
    | ((go_at_call 55; refine (rd4_calls _ _ _ xs 0 _ HD0.out.r HBB.out).mono ?_; rintro e ar1 ⟨rfl, r1, fr1⟩; have HD1 := Lib.hid (HD0.out.num HS.out r1 fr1); have hD1 := Lib.hid (hD0.out.fr fr1 (fun h => by have := HS.out.lr; have h9 : w.heap.size = gR := h; omega)); clear r1 fr1; have cxa1 : ar1.cell? ⟨gX, 0, none⟩ = some (.pointer (some ⟨gR, 0, none⟩)) := HD1.out.x.cell 0)))
  rename_i hK hH
  refine hK _ _ ?_
  clear hK hH
  have HN := HD2.out
  have hFN := hD2.out
  clear H hF HD0 hD0 HD1 hD1 HD2 hD2 cxa0 cxa1 cxa2 cya1 cya2 k5 q5 k11 q11
  have H := HN
  have hF := hFN
  clear HN hFN
  replace H := H.put HS.out 5 (.int .u32 (at4 xs 0))
  rw [ckA_5] at H
  replace hF := hF.far (p := ⟨gC, 5, none⟩) (by show w.heap.size ≠ gC; have := HS.out.lc; omega) (.int .u32 (at4 xs 0))
  generalize ar2.setCell ⟨gC, 5, none⟩ (.int .u32 (at4 xs 0)) = as1 at *
  replace H := H.put HS.out 11 (.int .u32 (at4 xs 4))
  rw [ckA_11] at H
  replace hF := hF.far (p := ⟨gC, 11, none⟩) (by show w.heap.size ≠ gC; have := HS.out.lc; omega) (.int .u32 (at4 xs 4))
  generalize as1.setCell ⟨gC, 11, none⟩ (.int .u32 (at4 xs 4)) = as2 at *
  have cx0 := H.x.cell 0
  have cx1 := H.x.cell 1
  have cf := hF.cell 0
  simp at cx0 cx1 cf
  have ck : as2.cell? ⟨gC, 0, none⟩ = some (.int .u8 3) := H.c.cell 0
  go_upto_region 29 with fail
  have HD0 := Lib.hid (H.away HS.out (Fr.refl nothing as2).drew (fun k h => h.elim))
  have hD0 := Lib.hid (hF.fr (Fr.refl nothing as2).drew id)
  have cxb0 : as2.drew.cell? ⟨gX, 0, none⟩ = some (.pointer (some ⟨gR, 0, none⟩)) := HD0.out.x.cell 0
  clear cx0 cx1 cf ck
  go_region_held_law (fun wq => wq.cell? ⟨gX, 0, none⟩ = some (.pointer (some ⟨gR, 0, none⟩))) (first | exact cxb0 | exact cxb1 | exact cxb2) (first
    | ((go_at_call 37; refine (rd2_calls _ _ _ xs 10 _ HD1.out.r HBB.out).mono ?_; rintro e br2 ⟨rfl, r2, fr2⟩; have HD2 := Lib.hid (HD1.out.num HS.out r2 fr2); have hD2 := Lib.hid (hD1.out.fr fr2 (fun h => by have := HS.out.lr; have h9 : w.heap.size = gR := h; omega)); clear r2 fr2; have cxb2 : br2.cell? ⟨gX, 0, none⟩ = some (.pointer (some ⟨gR, 0, none⟩)) := HD2.out.x.cell 0))
    | ((go_at_call 37; refine (rd2_calls _ _ _ xs 8 _ HD0.out.r HBB.out).mono ?_; rintro e br1 ⟨rfl, r1, fr1⟩; have HD1 := Lib.hid (HD0.out.num HS.out r1 fr1); have hD1 := Lib.hid (hD0.out.fr fr1 (fun h => by have := HS.out.lr; have h9 : w.heap.size = gR := h; omega)); clear r1 fr1; have cxb1 : br1.cell? ⟨gX, 0, none⟩ = some (.pointer (some ⟨gR, 0, none⟩)) := HD1.out.x.cell 0)))
  rename_i hK hH
  refine hK _ _ ?_
  clear hK hH
  have HN := HD2.out
  have hFN := hD2.out
  clear H hF HD0 hD0 HD1 hD1 HD2 hD2 cxb0 cxb1 cxb2  
  have H := HN
  have hF := hFN
  clear HN hFN
  rw [HG.out, HD.out]
  have hwG : IntKind.i64.wrap (G : Int) = G := IntWalk.i64_in _ (by omega)
  have hwD : IntKind.i64.wrap (D : Int) = D := IntWalk.i64_in _ (by omega)
  try rw [hwG]
  try rw [hwD]
  clear hwG hwD
  have cx0 := H.x.cell 0
  have cx1 := H.x.cell 1
  have cf := hF.cell 0
  simp at cx0 cx1 cf
  have hdl : ((xs.drop 12).length : Int) = ((xs.length - 12 : Nat) : Int) := by rw [List.length_drop]
  obtain ⟨L, hL⟩ : ∃ L : Nat, (xs.drop 12).length = L := ⟨_, rfl⟩
  have HL := Lib.hid hL
  have CL := left_calls _ _ _ _ _ _ H.r
  rw [hL] at CL
  have HCL := Lib.hid CL
  clear CL hL hdl
  go_wp2_with fail
  refine HCL.out.mono ?_
  rintro e we ⟨rfl, hwe⟩
  rw [hwe]
  clear hwe HCL
  go_wp2_with fail
  by_cases hm : L = 4 * (G + D)
  · have hmb : ((L : Int) == 4 * ((G : Int) + D)) = true := beq_iff_eq.2 (by omega)
    refine (must_calls gX _ _ _ _ H.x).mono ?_
    rintro e wm ⟨rfl, bm, fm⟩
    replace bm := Blk.bool (b := false) bm (by first | rfl | simp [hmb])
    replace hF := hF.fr fm (fun h => by have := HS.out.lx; have h9 : w.heap.size = gX := h; omega)
    replace H := H.must HS.out bm fm
    clear bm fm cx0 cx1 cf hmb
    have hZ0 : w.heap.size + 1 ≤ wm.heap.size := by have := hF.lt; omega
    have cx0 := H.x.cell 0
    have cx1 := H.x.cell 1
    have cf := hF.cell 0
    simp at cx0 cx1 cf
    go_wp2_with fail
    go_loopw [6] (fun v6 wr => ∃ (j : Nat) (As : Option Addr) (pS : Nat), j ≤ G ∧ v6 = .int .i64 ((G : Int) - (j : Int)) ∧ Rg w wr gX gR gC lo hi (xs.drop (12 + 4 * j)) (decide (xs.length < 12 + 4 * j)) false (ckA 3 false false false false (at4 xs 0) 0 0 0 0 0 (at4 xs 4) 0 0 (.slice As j pS) (.slice none 0 0) (.slice none 0 0) (.slice none 0 0) (.slice none 0 0)) ∧ Blk wr w.heap.size 5 #[.int .u8 f] ∧ wr.ownsRow (w.heap.size + 1) 73 2 (.slice As j pS) j (gcells (gapsAt xs 12 j)) ∧ w.heap.size + 1 ≤ wr.heap.size) (fun v6 _ => (intOf v6).toNat)
    case atStart => exact ⟨0, none, 0, Nat.zero_le _, by simp, H, hF, World.ownsRow_nil _ _ _ _, hZ0⟩
    case round =>
      clear H hF hZ0 cx0 cx1 cf
      obtain ⟨j, As, pS, hj, rfl, H, hF, O, hZ⟩ := hrel
      have hZ := Lib.hid hZ
      have cx0 := H.x.cell 0
      have cx1 := H.x.cell 1
      have cf := hF.cell 0
      simp at cx0 cx1 cf
      by_cases hlt : j < G
      · have hgp : decide ((0 : Int) < (G : Int) - (j : Int)) = true := decide_eq_true (by omega)
        have hnb := Lib.hid (show j ≤ 100000 by omega)
        go_upto_region 33 with fail
        clear cx0 cx1 cf
        have HD0 := Lib.hid (H.away HS.out (Fr.refl nothing wr).drew (fun k h => h.elim))
        have hD0 := Lib.hid (hF.fr (Fr.refl nothing wr).drew id)
        have OD0 := Lib.hid (row_fr (S := nothing) O (Fr.refl nothing wr).drew (fun _ _ h => h))
        have hz0 := Lib.hid (show w.heap.size + 1 ≤ wr.drew.heap.size from hZ.out)
        have cx0 : wr.drew.cell? ⟨gX, 0, none⟩ = some (.pointer (some ⟨gR, 0, none⟩)) := HD0.out.x.cell 0
        have cz0 : wr.drew.cell? ⟨gC, 14, none⟩ = some (.slice As (j) pS) := HD0.out.c.cell 14
        obtain ⟨ii, hii, hi0, hi1, hi2⟩ := info_of info_gap
        go_region_law (first
          | ((refine step_append_lies _ (by rfl) (.tmp 192) (.tmp 204) _ (by rfl) (w.heap.size + 1) 73 ii (.agg #[.int .u16 0, .int .u16 0]) 2 4 Try.underlying25 hii hi0 hi1 hi2 rfl (by omega) (.slice As (j) pS) (j) (gcells (gapsAt xs 12 j)) (by rfl) OA.out ⟨cr2.heap.size, 0, none⟩ 1 1 [.int .u16 (at2 xs (12 + 4 * j)), .int .u16 (at2 xs (12 + 4 * j + 2))] (by rfl) rfl (World.news_of_block (heap_alloc_new cr2 _)) (by intro u hu; simp at hu; first | (rcases hu with rfl | rfl | rfl <;> rfl) | (rcases hu with rfl | rfl <;> rfl) | (subst hu; rfl)) (by omega) (by have := hnb.out; simp [maxLen]; omega) (by have := hnb.out; omega) hzA.out (cr2.heap.size + 1) (by simp) ?_; intro gn cn wa hown hgrow hat hlt; have HE0 := Lib.hid (HA.out.away HS.out ((Fr.refl _ _).grown (S := OfV (.slice As (j) pS)) hgrow (fun k hk => .inl hk)) (fun k hk => by have := (OA.out.lt k hk).1; omega)); have hE0 := Lib.hid (hA.out.fr ((Fr.refl _ _).grown (S := OfV (.slice As (j) pS)) hgrow (fun k hk => .inl hk)) (fun h => by have := (OA.out.lt _ h).1; omega)); have OE := Lib.hid hown; have hzE := Lib.hid (Nat.le_trans hzA.out hgrow.size); clear hown hat; have cx4 : wa.cell? ⟨gX, 0, none⟩ = some (.pointer (some ⟨gR, 0, none⟩)) := HE0.out.x.cell 0; have cz4 : wa.cell? ⟨gC, 14, none⟩ = some (.slice As (j) pS) := HE0.out.c.cell 14; have qz := HE0.out.c.frozen 14; have cx5 : (wa.setCell ⟨gC, 14, none⟩ (.slice (some ⟨gn, 0, none⟩) (j + 1) cn)).cell? ⟨gX, 0, none⟩ = some (.pointer (some ⟨gR, 0, none⟩)) := (HE0.out.put HS.out 14 (.slice (some ⟨gn, 0, none⟩) (j + 1) cn)).x.cell 0))
          | (((first | go_at_call 37 | (go_simp; go_at_call 37)); refine (rd2_calls _ _ _ xs (12 + 4 * j + 2) _ HD1.out.r HBB.out).mono ?_; rintro e cr2 ⟨rfl, r2, fr2⟩; have HD2 := Lib.hid (HD1.out.num HS.out r2 fr2); have hD2 := Lib.hid (hD1.out.fr fr2 (fun h => by have := HS.out.lr; have h9 : w.heap.size = gR := h; omega)); have OD2 := Lib.hid (row_fr OD1.out fr2 (fun k h1 h2 => by have h9 : k = gR := h2; have := (OD1.out.lt k h1).1; have := HS.out.lr; omega)); have hz2 := Lib.hid (Nat.le_trans hz1.out fr2.size); clear r2 fr2; have cx2 : cr2.cell? ⟨gX, 0, none⟩ = some (.pointer (some ⟨gR, 0, none⟩)) := HD2.out.x.cell 0; have cz2 : cr2.cell? ⟨gC, 14, none⟩ = some (.slice As (j) pS) := HD2.out.c.cell 14; have HA := Lib.hid (HD2.out.away HS.out ((Fr.refl nothing cr2).alloc (.cells #[.int .u16 (at2 xs (12 + 4 * j)), .int .u16 (at2 xs (12 + 4 * j + 2))] 73)) (fun k h => h.elim)); have hA := Lib.hid (hD2.out.alloc (.cells #[.int .u16 (at2 xs (12 + 4 * j)), .int .u16 (at2 xs (12 + 4 * j + 2))] 73)); have OA := Lib.hid (row_fr (S := nothing) OD2.out ((Fr.refl nothing cr2).alloc (.cells #[.int .u16 (at2 xs (12 + 4 * j)), .int .u16 (at2 xs (12 + 4 * j + 2))] 73)) (fun _ _ h => h)); have hzA := Lib.hid (show w.heap.size + 1 ≤ (cr2.alloc (.cells #[.int .u16 (at2 xs (12 + 4 * j)), .int .u16 (at2 xs (12 + 4 * j + 2))] 73)).heap.size by have h9 : w.heap.size + 1 ≤ cr2.heap.size := hz2.out; simp; omega); have cx3 : (cr2.alloc (.cells #[.int .u16 (at2 xs (12 + 4 * j)), .int .u16 (at2 xs (12 + 4 * j + 2))] 73)).cell? ⟨gX, 0, none⟩ = some (.pointer (some ⟨gR, 0, none⟩)) := HA.out.x.cell 0; have cz3 : (cr2.alloc (.cells #[.int .u16 (at2 xs (12 + 4 * j)), .int .u16 (at2 xs (12 + 4 * j + 2))] 73)).cell? ⟨gC, 14, none⟩ = some (.slice As (j) pS) := HA.out.c.cell 14))
          | (((first | go_at_call 37 | (go_simp; go_at_call 37)); refine (rd2_calls _ _ _ xs (12 + 4 * j) _ HD0.out.r HBB.out).mono ?_; rintro e cr1 ⟨rfl, r1, fr1⟩; have HD1 := Lib.hid (HD0.out.num HS.out r1 fr1); have hD1 := Lib.hid (hD0.out.fr fr1 (fun h => by have := HS.out.lr; have h9 : w.heap.size = gR := h; omega)); have OD1 := Lib.hid (row_fr OD0.out fr1 (fun k h1 h2 => by have h9 : k = gR := h2; have := (OD0.out.lt k h1).1; have := HS.out.lr; omega)); have hz1 := Lib.hid (Nat.le_trans hz0.out fr1.size); clear r1 fr1; have cx1 : cr1.cell? ⟨gX, 0, none⟩ = some (.pointer (some ⟨gR, 0, none⟩)) := HD1.out.x.cell 0; have cz1 : cr1.cell? ⟨gC, 14, none⟩ = some (.slice As (j) pS) := HD1.out.c.cell 14)))
        all_goals (
          have HP := HE0.out.put HS.out 14 (.slice (some ⟨gn, 0, none⟩) (j + 1) cn)
          rw [ckA_14] at HP
          have hP := Lib.hid (hE0.out.far (p := ⟨gC, 14, none⟩) (by show w.heap.size ≠ gC; have := HS.out.lc; omega) (.slice (some ⟨gn, 0, none⟩) (j + 1) cn))
          have fP : Fr (only gC) wa (wa.setCell ⟨gC, 14, none⟩ (.slice (some ⟨gn, 0, none⟩) (j + 1) cn)) := (Fr.refl _ _).set_only 14 none _
          have OP := row_fr OE.out fP (fun k h1 h2 => by have h9 : k = gC := h2; have := (OE.out.lt k h1).1; have := HS.out.lc; omega)
          have HOP := Lib.hid (show World.ownsRow _ (w.heap.size + 1) 73 2 (.slice (some ⟨gn, 0, none⟩) (j + 1) cn) (j + 1) (gcells (gapsAt xs 12 (j + 1))) by rw [gapsAt_snoc, gcells_snoc]; exact OP)
          have hZP := Lib.hid (Nat.le_trans hzE.out fP.size)
          have HHP := Lib.hid HP
          clear HP fP OP OE hzE HE0 hE0 HA hA OA OD0 HD0 hD0 OD1 HD1 hD1 OD2 HD2 hD2 H hF O cx0 cx1 cx2 cx3 cx4 cx5 cz0 cz1 cz2 cz3 cz4 qz hgrow
          generalize wa.setCell ⟨gC, 14, none⟩ (.slice (some ⟨gn, 0, none⟩) (j + 1) cn) = wz at *
          go_wp2
          go_roundw
          case rel => exact ⟨j + 1, _, cn, by omega, by go_num, HHP.out, hP.out, HOP.out, hZP.out⟩
          case measure => simp [intOf]; omega)
      · obtain rfl : j = G := by omega
        have hgp : decide ((0 : Int) < (j : Int) - (j : Int)) = false := decide_eq_false (by omega)
        have hgq : ((j : Int) - (j : Int)) = 0 := by omega
        go_wp2_with fail
        clear cx0 cx1 cf hgp hgq
        try simp only [Int.sub_self]
        go_loopw [7] (fun v7 wq => ∃ (i : Nat) (At : Option Addr) (pT : Nat), i ≤ D ∧ v7 = .int .i64 ((D : Int) - (i : Int)) ∧ Rg w wq gX gR gC lo hi (xs.drop (12 + 4 * j + 4 * i)) (decide (xs.length < 12 + 4 * j + 4 * i)) false (ckA 3 false false false false (at4 xs 0) 0 0 0 0 0 (at4 xs 4) 0 0 (.slice As j pS) (.slice At i pT) (.slice none 0 0) (.slice none 0 0) (.slice none 0 0)) ∧ Blk wq w.heap.size 5 #[.int .u8 f] ∧ wq.ownsRow (w.heap.size + 1) 73 2 (.slice As j pS) j (gcells (gapsAt xs 12 j)) ∧ wq.ownsRow (w.heap.size + 1) 23 1 (.slice At i pT) i (dcells (dupsAt xs (12 + 4 * j) i)) ∧ (∀ k, (Value.slice At i pT).ownBlock = some k → (Value.slice As j pS).ownBlock ≠ some k) ∧ w.heap.size + 1 ≤ wq.heap.size) (fun v7 _ => (intOf v7).toNat)
        case atStart => exact ⟨0, none, 0, Nat.zero_le _, by simp, H, hF, O, World.ownsRow_nil _ _ _ _, (fun k h => by cases h), hZ.out⟩
        case round =>
          clear H hF O hZ
          obtain ⟨i, At, pT, hi9, rfl, H, hF, OG, O, hsep, hZ⟩ := hrel
          have hZ := Lib.hid hZ
          have cx0 := H.x.cell 0
          have cx1 := H.x.cell 1
          have cf := hF.cell 0
          simp at cx0 cx1 cf
          by_cases hlt2 : i < D
          · have hgp : decide ((0 : Int) < (D : Int) - (i : Int)) = true := decide_eq_true (by omega)
            have hnb := Lib.hid (show i ≤ 100000 by omega)
            go_upto_region 36 with fail
            clear cx0 cx1 cf
            have HSP := Lib.hid hsep
            have HOG := Lib.hid OG
            clear hsep OG
            have HD0 := Lib.hid (H.away HS.out (Fr.refl nothing wr).drew (fun k h => h.elim))
            have hD0 := Lib.hid (hF.fr (Fr.refl nothing wr).drew id)
            have OD0 := Lib.hid (row_fr (S := nothing) O (Fr.refl nothing wr).drew (fun _ _ h => h))
            have hz0 := Lib.hid (show w.heap.size + 1 ≤ wr.drew.heap.size from hZ.out)
            have cx0 : wr.drew.cell? ⟨gX, 0, none⟩ = some (.pointer (some ⟨gR, 0, none⟩)) := HD0.out.x.cell 0
            have cz0 : wr.drew.cell? ⟨gC, 15, none⟩ = some (.slice At (i) pT) := HD0.out.c.cell 15
            obtain ⟨ii, hii, hi0, hi1, hi2⟩ := info_of info_u32
            go_region_law (first
              | ((refine step_append_lies _ (by rfl) (.tmp 223) (.tmp 229) _ (by rfl) (w.heap.size + 1) 23 ii (.int .u32 0) 1 4 Try.underlying26 hii hi0 hi1 hi2 rfl (by omega) (.slice At (i) pT) (i) (dcells (dupsAt xs (12 + 4 * j) i)) (by rfl) OA.out ⟨dr1.heap.size, 0, none⟩ 1 1 [.int .u32 (at4 xs (12 + 4 * j + 4 * i))] (by rfl) rfl (World.news_of_block (heap_alloc_new dr1 _)) (by intro u hu; simp at hu; first | (rcases hu with rfl | rfl | rfl <;> rfl) | (rcases hu with rfl | rfl <;> rfl) | (subst hu; rfl)) (by omega) (by have := hnb.out; simp [maxLen]; omega) (by have := hnb.out; omega) hzA.out (dr1.heap.size + 1) (by simp) ?_; intro gn cn wa hown hgrow hat hlt; have HE0 := Lib.hid (HA.out.away HS.out ((Fr.refl _ _).grown (S := OfV (.slice At (i) pT)) hgrow (fun k hk => .inl hk)) (fun k hk => by have := (OA.out.lt k hk).1; omega)); have hE0 := Lib.hid (hA.out.fr ((Fr.refl _ _).grown (S := OfV (.slice At (i) pT)) hgrow (fun k hk => .inl hk)) (fun h => by have := (OA.out.lt _ h).1; omega)); have OE := Lib.hid hown; have hzE := Lib.hid (Nat.le_trans hzA.out hgrow.size); have hsz := (row_fr (row_fr (row_fr HOG.out (Fr.refl nothing wr).drew (fun _ _ h => h)) frd (fun k h1 h2 => by have h9 : k = gR := h2; have := (HOG.out.lt k h1).1; have := HS.out.lr; omega)) fra (fun _ _ h => h)).lt; have HSEP2 := Lib.hid (show ∀ k, (Value.slice (some ⟨gn, 0, none⟩) (i + 1) cn).ownBlock = some k → (Value.slice As j pS).ownBlock ≠ some k from fun k h1 h2 => by have h3 : some gn = some k := h1; injection h3 with h3; subst h3; rcases hat with h4 | h4; exact HSP.out _ h4 h2; have := (hsz _ h2).2; simp at this; omega); clear hown hat hsz; have cx3 : wa.cell? ⟨gX, 0, none⟩ = some (.pointer (some ⟨gR, 0, none⟩)) := HE0.out.x.cell 0; have cz3 : wa.cell? ⟨gC, 15, none⟩ = some (.slice At (i) pT) := HE0.out.c.cell 15; have qz := HE0.out.c.frozen 15; have cx4 : (wa.setCell ⟨gC, 15, none⟩ (.slice (some ⟨gn, 0, none⟩) (i + 1) cn)).cell? ⟨gX, 0, none⟩ = some (.pointer (some ⟨gR, 0, none⟩)) := (HE0.out.put HS.out 15 (.slice (some ⟨gn, 0, none⟩) (i + 1) cn)).x.cell 0))
              | (((first | go_at_call 55 | (go_simp; go_at_call 55)); refine (rd4_calls _ _ _ xs (12 + 4 * j + 4 * i) _ HD0.out.r HBB.out).mono ?_; rintro e dr1 ⟨rfl, r1, fr1⟩; have HD1 := Lib.hid (HD0.out.num HS.out r1 fr1); have hD1 := Lib.hid (hD0.out.fr fr1 (fun h => by have := HS.out.lr; have h9 : w.heap.size = gR := h; omega)); have OD1 := Lib.hid (row_fr OD0.out fr1 (fun k h1 h2 => by have h9 : k = gR := h2; have := (OD0.out.lt k h1).1; have := HS.out.lr; omega)); have hz1 := Lib.hid (Nat.le_trans hz0.out fr1.size); have frd := fr1; clear r1 fr1; have cx1 : dr1.cell? ⟨gX, 0, none⟩ = some (.pointer (some ⟨gR, 0, none⟩)) := HD1.out.x.cell 0; have cz1 : dr1.cell? ⟨gC, 15, none⟩ = some (.slice At (i) pT) := HD1.out.c.cell 15; have fra : Fr nothing dr1 (dr1.alloc (.cells #[.int .u32 (at4 xs (12 + 4 * j + 4 * i))] 23)) := (Fr.refl nothing dr1).alloc _; have HA := Lib.hid (HD1.out.away HS.out ((Fr.refl nothing dr1).alloc (.cells #[.int .u32 (at4 xs (12 + 4 * j + 4 * i))] 23)) (fun k h => h.elim)); have hA := Lib.hid (hD1.out.alloc (.cells #[.int .u32 (at4 xs (12 + 4 * j + 4 * i))] 23)); have OA := Lib.hid (row_fr (S := nothing) OD1.out ((Fr.refl nothing dr1).alloc (.cells #[.int .u32 (at4 xs (12 + 4 * j + 4 * i))] 23)) (fun _ _ h => h)); have hzA := Lib.hid (show w.heap.size + 1 ≤ (dr1.alloc (.cells #[.int .u32 (at4 xs (12 + 4 * j + 4 * i))] 23)).heap.size by have h9 : w.heap.size + 1 ≤ dr1.heap.size := hz1.out; simp; omega); have cx2 : (dr1.alloc (.cells #[.int .u32 (at4 xs (12 + 4 * j + 4 * i))] 23)).cell? ⟨gX, 0, none⟩ = some (.pointer (some ⟨gR, 0, none⟩)) := HA.out.x.cell 0; have cz2 : (dr1.alloc (.cells #[.int .u32 (at4 xs (12 + 4 * j + 4 * i))] 23)).cell? ⟨gC, 15, none⟩ = some (.slice At (i) pT) := HA.out.c.cell 15)))
            all_goals (
              have HP := HE0.out.put HS.out 15 (.slice (some ⟨gn, 0, none⟩) (i + 1) cn)
              rw [ckA_15] at HP
              have hP := Lib.hid (hE0.out.far (p := ⟨gC, 15, none⟩) (by show w.heap.size ≠ gC; have := HS.out.lc; omega) (.slice (some ⟨gn, 0, none⟩) (i + 1) cn))
              have fP : Fr (only gC) wa (wa.setCell ⟨gC, 15, none⟩ (.slice (some ⟨gn, 0, none⟩) (i + 1) cn)) := (Fr.refl _ _).set_only 15 none _
              have OP := row_fr OE.out fP (fun k h1 h2 => by have h9 : k = gC := h2; have := (OE.out.lt k h1).1; have := HS.out.lc; omega)
              have HOP := Lib.hid (show World.ownsRow _ (w.heap.size + 1) 23 1 (.slice (some ⟨gn, 0, none⟩) (i + 1) cn) (i + 1) (dcells (dupsAt xs (12 + 4 * j) (i + 1))) by rw [dupsAt_snoc, dcells_snoc]; exact OP)
              have hZP := Lib.hid (Nat.le_trans hzE.out fP.size)
              have HHP := Lib.hid HP
              have HOG2 := Lib.hid (row_fr (row_fr (row_fr (row_fr HOG.out (Fr.refl nothing wr).drew (fun _ _ h => h)) frd (fun k h1 h2 => by have h9 : k = gR := h2; have := (HOG.out.lt k h1).1; have := HS.out.lr; omega)) fra (fun _ _ h => h)) ((Fr.refl _ _).grown (S := OfV (.slice At i pT)) hgrow (fun k hk => .inl hk)) (fun k h1 h2 => HSP.out k h2 h1)); have HOG3 := Lib.hid (row_fr HOG2.out fP (fun k h1 h2 => by have h9 : k = gC := h2; have := (HOG2.out.lt k h1).1; have := HS.out.lc; omega)); clear HOG2 HOG HSP frd fra
              clear HP fP OP OE hzE HE0 hE0 HA hA OA OD0 HD0 hD0 OD1 HD1 hD1 H hF O cx0 cx1 cx2 cx3 cx4 cz0 cz1 cz2 cz3 qz hgrow
              generalize wa.setCell ⟨gC, 15, none⟩ (.slice (some ⟨gn, 0, none⟩) (i + 1) cn) = wz at *
              go_wp2
              go_roundw
              case rel => exact ⟨i + 1, _, cn, by omega, by go_num, HHP.out, hP.out, HOG3.out, HOP.out, HSEP2.out, hZP.out⟩
              case measure => simp [intOf]; omega)
          · obtain rfl : i = D := by omega
            have hgp : decide ((0 : Int) < (i : Int) - (i : Int)) = false := decide_eq_false (by omega)
            have hgq : ((i : Int) - (i : Int)) = 0 := by omega
            have hgl := Lib.hid (gapsAt_len xs 12 j)
            have hdl2 := Lib.hid (dupsAt_len xs (12 + 4 * j) i)
            have hLl : L = xs.length - 12 := by rw [← HL.out, List.length_drop]
            by_cases hz : f = 0
            · have hzb : (f == 0) = true := beq_iff_eq.2 hz
              have HZ := Lib.hid hz
              clear hz
              go_wp2_with fail
              refine (end_calls _ _ _ _ _ _ H.r).mono ?_
              rintro e we ⟨rfl, hwe⟩
              rw [hwe]
              clear hwe
              go_wp2_with fail
              refine (must_calls gX _ _ _ _ H.x).mono ?_
              rintro e wz ⟨rfl, bz, fz⟩
              go_wp2
              first | go_end0 | ((try simp only [Exit.inBlock, Exit.then]); refine bodyPost_ret (results_none rfl _ _ _) rfl ?_)
              refine ⟨rfl, _, Blk.bool bz ?okT, H.c.fr fz (fun h => HS.out.xc (show gC = gX from h).symm), H.t.trans fz (fun k _ hk => .inl hk), fun hok => ?ckT⟩
              case okT => rw [end_eq, HOK.out, HG.out, HD.out, Bool.eq_iff_iff]; have hz := HZ.out; simp only [Bool.or_eq_true, decide_eq_true_eq, Bool.not_eq_true', decide_eq_false_iff_not, Bool.false_eq_true, false_or, List.length_drop]; omega
              case ckT => have hrg : (rC 3 f xs).gaps = gapsAt xs 12 j := (by show gapsAt xs 12 (at2 xs 8).toNat = _; rw [HG.out]; rfl); have hrd : (rC 3 f xs).dups = dupsAt xs (12 + 4 * j) i := (by show dupsAt xs (12 + 4 * (at2 xs 8).toNat) (at2 xs 10).toNat = _; rw [HG.out, HD.out]; rfl); exact ⟨rfl, ckA_one rfl rfl rfl rfl rfl, rfl, rfl, rfl, rfl, rfl, rfl, rfl, rfl, rfl, rfl, rfl, rfl, rfl, rfl, ⟨As, pS, by rw [hrg, hgl.out]; rfl, by rw [hrg]; exact (own_gap (by rw [hgl.out]; exact row_fr OG fz (fun k h1 h2 => by have h9 : k = gX := h2; have := (OG.lt k h1).1; have := HS.out.lx; omega))).low (by omega)⟩, ⟨At, pT, by rw [hrd, hdl2.out]; rfl, by rw [hrd]; exact (own_dup (by rw [hdl2.out]; exact row_fr O fz (fun k h1 h2 => by have h9 : k = gX := h2; have := (O.lt k h1).1; have := HS.out.lx; omega))).low (by omega)⟩, ⟨none, 0, rfl, fun i h => absurd (show i < 0 from h) (Nat.not_lt_zero i)⟩, ⟨none, 0, rfl, fun i h => absurd (show i < 0 from h) (Nat.not_lt_zero i)⟩, ⟨none, 0, rfl, nilv _ _ _⟩⟩
            · have hzb : (f == 0) = false := beq_eq_false_iff_ne.2 hz
              have HZ := Lib.hid hz
              clear hz
              go_wp2_with fail
              refine (must_calls gX _ _ _ _ H.x).mono ?_
              rintro e wz ⟨rfl, bz, fz⟩
              go_wp2
              first | go_end0 | ((try simp only [Exit.inBlock, Exit.then]); refine bodyPost_ret (results_none rfl _ _ _) rfl ?_)
              have hno : rOk 3 f xs = false := (by rw [HOK.out]; simp [HZ.out])
              refine ⟨rfl, _, Blk.bool bz (by rw [hno]; simp), H.c.fr fz (fun h => HS.out.xc (show gC = gX from h).symm), H.t.trans fz (fun k _ hk => .inl hk), fun hok => by rw [hno] at hok; cases hok⟩
  · have hmb : ((L : Int) == 4 * ((G : Int) + D)) = false := beq_eq_false_iff_ne.2 (by omega)
    have hLl : L = xs.length - 12 := by rw [← HL.out, List.length_drop]
    refine (must_calls gX _ _ _ _ H.x).mono ?_
    rintro e wm ⟨rfl, bm, fm⟩
    replace bm := Blk.bool (b := true) bm (by first | rfl | simp [hmb])
    replace hF := hF.fr fm (fun h => by have := HS.out.lx; have h9 : w.heap.size = gX := h; omega)
    replace H := H.must HS.out bm fm
    clear bm fm cx0 cx1 cf hmb
    have cx0 := H.x.cell 0
    have cx1 := H.x.cell 1
    have cf := hF.cell 0
    simp at cx0 cx1 cf
    have hno : rOk 3 f xs = false := by rw [HOK.out, HG.out, HD.out]; exact decide_eq_false (fun h => by omega)
    have HNO := Lib.hid hno
    clear hno hLl hm
    go_wp2_with fail
    go_loopw [6] (fun v6 wr => v6 = .int .i64 (G : Int) ∧ wr = wm) (fun _ _ => 0)
    case atStart => exact ⟨rfl, rfl⟩
    case round =>
      obtain ⟨rfl, rfl⟩ := hrel
      go_wp2_with fail
      go_loopw [7] (fun v7 wq => v7 = .int .i64 (D : Int) ∧ wq = wr) (fun _ _ => 0)
      case atStart => exact ⟨rfl, rfl⟩
      case round =>
        obtain ⟨rfl, rfl⟩ := hrel
        by_cases hz : f = 0
        · have hzb : (f == 0) = true := beq_iff_eq.2 hz
          have HZ := Lib.hid hz
          clear hz
          go_wp2_with fail
          refine (end_calls _ _ _ _ _ _ H.r).mono ?_
          rintro e we ⟨rfl, hwe⟩
          rw [hwe]
          clear hwe
          go_wp2_with fail
          refine (must_calls gX _ _ _ _ H.x).mono ?_
          rintro e wz ⟨rfl, bz, fz⟩
          go_wp2
          first | go_end0 | ((try simp only [Exit.inBlock, Exit.then]); refine bodyPost_ret (results_none rfl _ _ _) rfl ?_)
          refine ⟨rfl, _, Blk.bool bz ?okT, H.c.fr fz (fun h => HS.out.xc (show gC = gX from h).symm), H.t.trans fz (fun k _ hk => .inl hk), fun hok => ?ckT⟩
          case okT => rw [end_eq, HNO.out]; simp
          case ckT => rw [HNO.out] at hok; cases hok
        · have hzb : (f == 0) = false := beq_eq_false_iff_ne.2 hz
          have HZ := Lib.hid hz
          clear hz
          go_wp2_with fail
          refine (must_calls gX _ _ _ _ H.x).mono ?_
          rintro e wz ⟨rfl, bz, fz⟩
          go_wp2
          first | go_end0 | ((try simp only [Exit.inBlock, Exit.then]); refine bodyPost_ret (results_none rfl _ _ _) rfl ?_)
          have hno : rOk 3 f xs = false := HNO.out
          refine ⟨rfl, _, Blk.bool bz (by rw [hno]; simp), H.c.fr fz (fun h => HS.out.xc (show gC = gX from h).symm), H.t.trans fz (fun k _ hk => .inl hk), fun hok => by rw [hno] at hok; cases hok⟩
end Go.Proofs.Ytaifihoheieneaa.Chk
