/- Contract of flumeref06.Strip, kind by kind. Conditions: the chunk's lists lie in blocks of before. -/
import Derived.Test.YtaifihoheieneaaZChkRS1
namespace Go.Proofs.Ytaifihoheieneaa.Chk
open Go.RowKit Go.Proofs.Ytaifihoheieneaa.Mem Go.Proofs.Ytaifihoheieneaa.Octet Go.Proofs.Ytaifihoheieneaa.Prm
set_option linter.unusedVariables false
set_option linter.unusedSimpArgs false
set_option maxHeartbeats 8000000 in
set_option maxRecDepth 100000 in
theorem rstrip_1 (lo hi : Nat) (cs : Array Value) (c : Ck) (w : World) (hC : CkV w lo hi cs c) (hhi : hi ≤ w.heap.size) (hBd : CkB c) (hL : CkL c) (hk : c.k = 1) :
    Calls Try.prog 19 #[.agg cs] w (StripC w c) := by
  have hup := Try.underlying31
  have hsz := hC.size
  have B0 : Below w.heap.size w ((w.alloc (.cells cs 31)).alloc (.cells zch 31)) := ((Below.refl _ w).alloc (Nat.le_refl _) _).alloc (by simp) _
  have bB := (Blk.new w cs 31).alloc (.cells zch 31)
  have bR : Blk ((w.alloc (.cells cs 31)).alloc (.cells zch 31)) (w.heap.size + 1) 31 zch := by simpa using Blk.new (w.alloc (.cells cs 31)) zch 31
  have hs1 : ((w.alloc (.cells cs 31)).alloc (.cells zch 31)).heap.size = w.heap.size + 2 := by simp
  have c0 := hC.c0
  rw [hk] at c0
  have HK := Lib.hid hk
  obtain ⟨A14, p14, e14, -⟩ := hC.c14
  obtain ⟨A15, p15, e15, -⟩ := hC.c15
  obtain ⟨A16, p16, e16, -⟩ := hC.c16
  obtain ⟨A17, p17, e17, -⟩ := hC.c17
  obtain ⟨A18, p18, e18, -⟩ := hC.c18
  have cc0 := (bB.cell 0).trans c0
  clear hk
  go_enter Try.func19, Try.ntmps19
  go_upto_region 1 with fail
  generalize (w.alloc (.cells cs 31)).alloc (.cells zch 31) = w1 at *
  have HB0 := Lib.hid B0
  obtain ⟨gB, hgB⟩ : ∃ gB, w.heap.size = gB := ⟨_, rfl⟩
  obtain ⟨gR, hgR⟩ : ∃ gR, w.heap.size + 1 = gR := ⟨_, rfl⟩
  rw [hgR] at bR ⊢
  rw [hgB] at bB cc0 ⊢
  have HG := Lib.hid (And.intro hgB (And.intro hgR hs1))
  have hbR : gR ≠ gB := by omega
  clear hs1 hgR hgB B0
  go_upto_region 2 with fail
  refine wp_region_lit ?_
  refine wpList_plain rfl (fun K hK => ?_)
  go_simp
  refine hK _ _ ?_
  clear hK K
  refine wpList_plain rfl (fun K hK => ?_)
  go_simp
  refine hK _ _ ?_
  clear hK K
  refine wpList_plain rfl (fun K hK => ?_)
  go_simp
  refine hK _ _ ?_
  clear hK K
  refine wpList_plain rfl (fun K hK => ?_)
  go_simp
  refine hK _ _ ?_
  clear hK K
  refine wpList_plain rfl (fun K hK => ?_)
  refine Mem.oper_store (cs0 := zch) (cs := (kz 1)) rfl rfl rfl (Blk.new w1 zch 31) (by kernel_rfl) rfl (kz_one _) ?_
  refine hK _ _ ?_
  clear hK K
  refine wpList_nil ?_
  have F0 : Fr nothing w1 ((w1.alloc (.cells zch 31)).setRow w1.heap.size (kz 1)) := ((Fr.refl nothing w1).alloc _).trans (fr_row w1.heap.size (kz 1)) (fun k hk h => by have h9 : k = w1.heap.size := h; omega)
  have bO := blk_row (kz 1) (Blk.new w1 zch 31)
  have bB1 := bB.fr F0 id
  have bR1 := bR.fr F0 id
  have hltO := bO.lt
  have hgO : gR < w1.heap.size ∧ gB < w1.heap.size := ⟨bR.lt, bB.lt⟩
  have HB1 := Lib.hid (Bl.trans HB0.out (Bl.of_fr F0 HB0.out.size (fun k h => h.elim)))
  have HGO := Lib.hid (show w.heap.size + 2 ≤ w1.heap.size from by have := HG.out; omega)
  generalize (w1.alloc (.cells zch 31)).setRow w1.heap.size (kz 1) = wk at *
  generalize w1.heap.size = gO at *
  clear bB bR F0 HB0 cc0 hltO
  have bB := bB1
  have bR := bR1
  have HB0 := HB1
  have hBO : ¬ only gO gB := fun h => by have h9 : gB = gO := h; omega
  have hRO : ¬ only gO gR := fun h => by have h9 : gR = gO := h; omega
  have szz := kz_size 1
  clear bB1 bR1 HB1
  obtain ⟨q0, q1, q2, q3, q4, q5, q6, q7, q8, q9, q10, q11, q12, q13, q14, q15, q16, q17, q18⟩ := kz_at 1
  generalize hKL : (kz 1) = z0 at *
  clear hKL
  go_upto_region 12 with fail
  refine wp_region_any (by kernel_rfl) ?_
  refine Reg.wpAny_inv (I := fun listed act wq => ∃ (d0 d1 d2 d3 d4 d5 d6 d7 d8 d9 d10 d11 d12 d13 d14 d15 d16 d17 d18 d19 : Bool) (cs' : Array Value), listed = #[d0, d1, d2, d3, d4, d5, d6, d7, d8, d9, d10, d11, d12, d13, d14, d15, d16, d17, d18, d19] ∧ act = ⟨#[Value.agg cs, Value.pointer (some { block := gB, off := 0 }), Value.pointer (some { block := gR, off := 0 }), Value.int IntKind.i64 1, Value.pointer (some { block := gO, off := 0 }), undef, undef, Value.pointer (some { block := gB, off := 0 }), Value.int IntKind.u8 1, Value.int IntKind.i64 1, Value.pointer (some { block := gB, off := 0 }), Value.int IntKind.u8 1, Value.agg #[Value.int IntKind.u8 1, Value.bool false, Value.bool false, Value.bool false, Value.bool false, Value.int IntKind.u32 0, Value.int IntKind.u16 0, Value.int IntKind.u32 0, Value.int IntKind.u32 0, Value.int IntKind.u32 0, Value.int IntKind.u32 0, Value.int IntKind.u32 0, Value.int IntKind.u16 0, Value.int IntKind.u16 0, Value.slice none 0 0, Value.slice none 0 0, Value.slice none 0 0, Value.slice none 0 0, Value.slice none 0 0], Value.int IntKind.i64 1, Value.bool false, Value.bool false, Value.int IntKind.i64 1, Value.bool false, Value.bool false, undef, undef, undef, undef, undef, undef, undef, undef, undef, undef, undef, undef, undef, undef, undef, undef, undef, undef, undef, undef, undef, undef, undef, undef, undef, undef, undef, undef, undef, undef, undef, undef, undef, undef, undef, undef, undef, Value.int IntKind.i64 1, Value.bool true, Value.bool true, undef, undef, Value.bool true, (bif d0 then (.pointer (some ⟨gB, 10, none⟩)) else undef), (bif d1 then (.int .u32 c.tag) else undef), (bif d2 then (.pointer (some ⟨gB, 11, none⟩)) else undef), (bif d3 then (.int .u32 c.win) else undef), (bif d4 then (.pointer (some ⟨gB, 12, none⟩)) else undef), (bif d5 then (.int .u16 c.out) else undef), (bif d6 then (.pointer (some ⟨gB, 13, none⟩)) else undef), (bif d7 then (.int .u16 c.inn) else undef), (bif d8 then (.pointer (some ⟨gB, 5, none⟩)) else undef), (bif d9 then (.int .u32 c.tsn) else undef), (bif d10 then (.pointer (some ⟨gO, 10, none⟩)) else undef), (bif d12 then (.pointer (some ⟨gO, 11, none⟩)) else undef), (bif d14 then (.pointer (some ⟨gO, 12, none⟩)) else undef), (bif d16 then (.pointer (some ⟨gO, 13, none⟩)) else undef), (bif d18 then (.pointer (some ⟨gO, 5, none⟩)) else undef), undef, undef, undef, undef, undef, undef, undef, undef, undef, undef, undef, undef, undef, undef, undef, undef, undef, undef, undef, undef, undef, undef, undef, undef, undef, undef, undef, undef, undef, undef, undef, undef, undef, undef, undef, undef, undef, undef, undef, undef, undef, undef, undef, undef, undef, undef, undef, undef, undef, undef, undef, undef, undef, undef, undef, undef, undef, undef, undef, undef, undef, undef, undef, undef, undef, undef, undef, undef, undef, undef, undef, undef, undef, undef, undef, undef, undef, undef, undef, undef, undef, undef, undef, undef, undef, undef, undef, undef, undef, undef, undef, undef, undef, undef, undef, undef, undef, undef, undef, undef, undef, undef, undef, undef, undef, undef], []⟩ ∧ Mix (z0) cs (fun i => (d11 && i == 10) || ((d13 && i == 11) || ((d15 && i == 12) || ((d17 && i == 13) || ((d19 && i == 5)))))) cs' ∧ Blk wq gO 31 cs' ∧ Fr (only gO) wk wq) ?_ ?_ _ _ _ _ (by decide) ?_
  · intro i o listed act wq hi hI hun hdeps K hK
    obtain ⟨d0, d1, d2, d3, d4, d5, d6, d7, d8, d9, d10, d11, d12, d13, d14, d15, d16, d17, d18, d19, cs', rfl, rfl, hM, hZ, hF⟩ := hI
    have hlt : i < 20 := (Array.getElem?_eq_some_iff.1 hi).1
    rcases (show i = 0 ∨ i = 1 ∨ i = 2 ∨ i = 3 ∨ i = 4 ∨ i = 5 ∨ i = 6 ∨ i = 7 ∨ i = 8 ∨ i = 9 ∨ i = 10 ∨ i = 11 ∨ i = 12 ∨ i = 13 ∨ i = 14 ∨ i = 15 ∨ i = 16 ∨ i = 17 ∨ i = 18 ∨ i = 19 by omega) with rfl | rfl | rfl | rfl | rfl | rfl | rfl | rfl | rfl | rfl | rfl | rfl | rfl | rfl | rfl | rfl | rfl | rfl | rfl | rfl
    · skip
      obtain rfl : _ = o := Option.some.inj hi
      obtain rfl : d0 = false := by simpa using hun
      clear hun hdeps hi hlt
      go_simp
      exact hK _ _ ⟨true, d1, d2, d3, d4, d5, d6, d7, d8, d9, d10, d11, d12, d13, d14, d15, d16, d17, d18, d19, cs', rfl, rfl, hM, hZ, hF⟩
    · skip
      obtain rfl : _ = o := Option.some.inj hi
      obtain rfl : d1 = false := by simpa using hun
      obtain rfl : d0 = true := hdeps _ (Array.mem_of_getElem? (i := 0) rfl) rfl
      clear hun hdeps hi hlt
      have cc := ((bB.fr hF hBO).cell 10).trans hC.c10
      go_simp
      exact hK _ _ ⟨true, true, d2, d3, d4, d5, d6, d7, d8, d9, d10, d11, d12, d13, d14, d15, d16, d17, d18, d19, cs', rfl, rfl, hM, hZ, hF⟩
    · skip
      obtain rfl : _ = o := Option.some.inj hi
      obtain rfl : d2 = false := by simpa using hun
      clear hun hdeps hi hlt
      go_simp
      exact hK _ _ ⟨d0, d1, true, d3, d4, d5, d6, d7, d8, d9, d10, d11, d12, d13, d14, d15, d16, d17, d18, d19, cs', rfl, rfl, hM, hZ, hF⟩
    · skip
      obtain rfl : _ = o := Option.some.inj hi
      obtain rfl : d3 = false := by simpa using hun
      obtain rfl : d2 = true := hdeps _ (Array.mem_of_getElem? (i := 0) rfl) rfl
      clear hun hdeps hi hlt
      have cc := ((bB.fr hF hBO).cell 11).trans hC.c11
      go_simp
      exact hK _ _ ⟨d0, d1, true, true, d4, d5, d6, d7, d8, d9, d10, d11, d12, d13, d14, d15, d16, d17, d18, d19, cs', rfl, rfl, hM, hZ, hF⟩
    · skip
      obtain rfl : _ = o := Option.some.inj hi
      obtain rfl : d4 = false := by simpa using hun
      clear hun hdeps hi hlt
      go_simp
      exact hK _ _ ⟨d0, d1, d2, d3, true, d5, d6, d7, d8, d9, d10, d11, d12, d13, d14, d15, d16, d17, d18, d19, cs', rfl, rfl, hM, hZ, hF⟩
    · skip
      obtain rfl : _ = o := Option.some.inj hi
      obtain rfl : d5 = false := by simpa using hun
      obtain rfl : d4 = true := hdeps _ (Array.mem_of_getElem? (i := 0) rfl) rfl
      clear hun hdeps hi hlt
      have cc := ((bB.fr hF hBO).cell 12).trans hC.c12
      go_simp
      exact hK _ _ ⟨d0, d1, d2, d3, true, true, d6, d7, d8, d9, d10, d11, d12, d13, d14, d15, d16, d17, d18, d19, cs', rfl, rfl, hM, hZ, hF⟩
    · skip
      obtain rfl : _ = o := Option.some.inj hi
      obtain rfl : d6 = false := by simpa using hun
      clear hun hdeps hi hlt
      go_simp
      exact hK _ _ ⟨d0, d1, d2, d3, d4, d5, true, d7, d8, d9, d10, d11, d12, d13, d14, d15, d16, d17, d18, d19, cs', rfl, rfl, hM, hZ, hF⟩
    · skip
      obtain rfl : _ = o := Option.some.inj hi
      obtain rfl : d7 = false := by simpa using hun
      obtain rfl : d6 = true := hdeps _ (Array.mem_of_getElem? (i := 0) rfl) rfl
      clear hun hdeps hi hlt
      have cc := ((bB.fr hF hBO).cell 13).trans hC.c13
      go_simp
      exact hK _ _ ⟨d0, d1, d2, d3, d4, d5, true, true, d8, d9, d10, d11, d12, d13, d14, d15, d16, d17, d18, d19, cs', rfl, rfl, hM, hZ, hF⟩
    · skip
      obtain rfl : _ = o := Option.some.inj hi
      obtain rfl : d8 = false := by simpa using hun
      clear hun hdeps hi hlt
      go_simp
      exact hK _ _ ⟨d0, d1, d2, d3, d4, d5, d6, d7, true, d9, d10, d11, d12, d13, d14, d15, d16, d17, d18, d19, cs', rfl, rfl, hM, hZ, hF⟩
    · skip
      obtain rfl : _ = o := Option.some.inj hi
      obtain rfl : d9 = false := by simpa using hun
      obtain rfl : d8 = true := hdeps _ (Array.mem_of_getElem? (i := 0) rfl) rfl
      clear hun hdeps hi hlt
      have cc := ((bB.fr hF hBO).cell 5).trans hC.c5
      go_simp
      exact hK _ _ ⟨d0, d1, d2, d3, d4, d5, d6, d7, true, true, d10, d11, d12, d13, d14, d15, d16, d17, d18, d19, cs', rfl, rfl, hM, hZ, hF⟩
    · skip
      obtain rfl : _ = o := Option.some.inj hi
      obtain rfl : d10 = false := by simpa using hun
      clear hun hdeps hi hlt
      go_simp
      exact hK _ _ ⟨d0, d1, d2, d3, d4, d5, d6, d7, d8, d9, true, d11, d12, d13, d14, d15, d16, d17, d18, d19, cs', rfl, rfl, hM, hZ, hF⟩
    · skip
      obtain rfl : _ = o := Option.some.inj hi
      obtain rfl : d11 = false := by simpa using hun
      obtain rfl : d10 = true := hdeps _ (Array.mem_of_getElem? (i := 0) rfl) rfl
      obtain rfl : d1 = true := hdeps _ (Array.mem_of_getElem? (i := 1) rfl) rfl
      clear hun hdeps hi hlt
      have cz := hZ.cell 10
      have fz := hZ.frozen 10
      have fm := Array.getElem?_eq_getElem (xs := cs') (i := 10) (by rw [hM.size]; decide)
      rw [fm] at cz
      clear fm
      go_simp
      exact hK _ _ ⟨d0, true, d2, d3, d4, d5, d6, d7, d8, d9, true, true, d12, d13, d14, d15, d16, d17, d18, d19, cs'.setIfInBounds 10 (.int .u32 c.tag), rfl, rfl, (hM.set hC.c10 (by decide)).congr (fun i => by simp only [Bool.false_and, Bool.true_and, Bool.false_or]; ac_rfl), hZ.set 10 _, hF.set_only 10 none _⟩
    · skip
      obtain rfl : _ = o := Option.some.inj hi
      obtain rfl : d12 = false := by simpa using hun
      clear hun hdeps hi hlt
      go_simp
      exact hK _ _ ⟨d0, d1, d2, d3, d4, d5, d6, d7, d8, d9, d10, d11, true, d13, d14, d15, d16, d17, d18, d19, cs', rfl, rfl, hM, hZ, hF⟩
    · skip
      obtain rfl : _ = o := Option.some.inj hi
      obtain rfl : d13 = false := by simpa using hun
      obtain rfl : d12 = true := hdeps _ (Array.mem_of_getElem? (i := 0) rfl) rfl
      obtain rfl : d3 = true := hdeps _ (Array.mem_of_getElem? (i := 1) rfl) rfl
      obtain rfl : d11 = true := hdeps _ (Array.mem_of_getElem? (i := 2) rfl) rfl
      clear hun hdeps hi hlt
      have cz := hZ.cell 11
      have fz := hZ.frozen 11
      have fm := Array.getElem?_eq_getElem (xs := cs') (i := 11) (by rw [hM.size]; decide)
      rw [fm] at cz
      clear fm
      go_simp
      exact hK _ _ ⟨d0, d1, d2, true, d4, d5, d6, d7, d8, d9, d10, true, true, true, d14, d15, d16, d17, d18, d19, cs'.setIfInBounds 11 (.int .u32 c.win), rfl, rfl, (hM.set hC.c11 (by decide)).congr (fun i => by simp only [Bool.false_and, Bool.true_and, Bool.false_or]; ac_rfl), hZ.set 11 _, hF.set_only 11 none _⟩
    · skip
      obtain rfl : _ = o := Option.some.inj hi
      obtain rfl : d14 = false := by simpa using hun
      clear hun hdeps hi hlt
      go_simp
      exact hK _ _ ⟨d0, d1, d2, d3, d4, d5, d6, d7, d8, d9, d10, d11, d12, d13, true, d15, d16, d17, d18, d19, cs', rfl, rfl, hM, hZ, hF⟩
    · skip
      obtain rfl : _ = o := Option.some.inj hi
      obtain rfl : d15 = false := by simpa using hun
      obtain rfl : d14 = true := hdeps _ (Array.mem_of_getElem? (i := 0) rfl) rfl
      obtain rfl : d5 = true := hdeps _ (Array.mem_of_getElem? (i := 1) rfl) rfl
      obtain rfl : d13 = true := hdeps _ (Array.mem_of_getElem? (i := 2) rfl) rfl
      clear hun hdeps hi hlt
      have cz := hZ.cell 12
      have fz := hZ.frozen 12
      have fm := Array.getElem?_eq_getElem (xs := cs') (i := 12) (by rw [hM.size]; decide)
      rw [fm] at cz
      clear fm
      go_simp
      exact hK _ _ ⟨d0, d1, d2, d3, d4, true, d6, d7, d8, d9, d10, d11, d12, true, true, true, d16, d17, d18, d19, cs'.setIfInBounds 12 (.int .u16 c.out), rfl, rfl, (hM.set hC.c12 (by decide)).congr (fun i => by simp only [Bool.false_and, Bool.true_and, Bool.false_or]; ac_rfl), hZ.set 12 _, hF.set_only 12 none _⟩
    · skip
      obtain rfl : _ = o := Option.some.inj hi
      obtain rfl : d16 = false := by simpa using hun
      clear hun hdeps hi hlt
      go_simp
      exact hK _ _ ⟨d0, d1, d2, d3, d4, d5, d6, d7, d8, d9, d10, d11, d12, d13, d14, d15, true, d17, d18, d19, cs', rfl, rfl, hM, hZ, hF⟩
    · skip
      obtain rfl : _ = o := Option.some.inj hi
      obtain rfl : d17 = false := by simpa using hun
      obtain rfl : d16 = true := hdeps _ (Array.mem_of_getElem? (i := 0) rfl) rfl
      obtain rfl : d7 = true := hdeps _ (Array.mem_of_getElem? (i := 1) rfl) rfl
      obtain rfl : d15 = true := hdeps _ (Array.mem_of_getElem? (i := 2) rfl) rfl
      clear hun hdeps hi hlt
      have cz := hZ.cell 13
      have fz := hZ.frozen 13
      have fm := Array.getElem?_eq_getElem (xs := cs') (i := 13) (by rw [hM.size]; decide)
      rw [fm] at cz
      clear fm
      go_simp
      exact hK _ _ ⟨d0, d1, d2, d3, d4, d5, d6, true, d8, d9, d10, d11, d12, d13, d14, true, true, true, d18, d19, cs'.setIfInBounds 13 (.int .u16 c.inn), rfl, rfl, (hM.set hC.c13 (by decide)).congr (fun i => by simp only [Bool.false_and, Bool.true_and, Bool.false_or]; ac_rfl), hZ.set 13 _, hF.set_only 13 none _⟩
    · skip
      obtain rfl : _ = o := Option.some.inj hi
      obtain rfl : d18 = false := by simpa using hun
      clear hun hdeps hi hlt
      go_simp
      exact hK _ _ ⟨d0, d1, d2, d3, d4, d5, d6, d7, d8, d9, d10, d11, d12, d13, d14, d15, d16, d17, true, d19, cs', rfl, rfl, hM, hZ, hF⟩
    · skip
      obtain rfl : _ = o := Option.some.inj hi
      obtain rfl : d19 = false := by simpa using hun
      obtain rfl : d18 = true := hdeps _ (Array.mem_of_getElem? (i := 0) rfl) rfl
      obtain rfl : d9 = true := hdeps _ (Array.mem_of_getElem? (i := 1) rfl) rfl
      obtain rfl : d17 = true := hdeps _ (Array.mem_of_getElem? (i := 2) rfl) rfl
      clear hun hdeps hi hlt
      have cz := hZ.cell 5
      have fz := hZ.frozen 5
      have fm := Array.getElem?_eq_getElem (xs := cs') (i := 5) (by rw [hM.size]; decide)
      rw [fm] at cz
      clear fm
      go_simp
      exact hK _ _ ⟨d0, d1, d2, d3, d4, d5, d6, d7, d8, true, d10, d11, d12, d13, d14, d15, d16, true, true, true, cs'.setIfInBounds 5 (.int .u32 c.tsn), rfl, rfl, (hM.set hC.c5 (by decide)).congr (fun i => by simp only [Bool.false_and, Bool.true_and, Bool.false_or]; ac_rfl), hZ.set 5 _, hF.set_only 5 none _⟩
  · intro listed act wq hI hr0
    obtain ⟨d0, d1, d2, d3, d4, d5, d6, d7, d8, d9, d10, d11, d12, d13, d14, d15, d16, d17, d18, d19, cs', rfl, rfl, hM, hZ, hF⟩ := hI
    have hall := Reg.all_of_done (by kernel_rfl) rfl hr0
    obtain rfl : d0 = true := hall 0 (by decide)
    obtain rfl : d1 = true := hall 1 (by decide)
    obtain rfl : d2 = true := hall 2 (by decide)
    obtain rfl : d3 = true := hall 3 (by decide)
    obtain rfl : d4 = true := hall 4 (by decide)
    obtain rfl : d5 = true := hall 5 (by decide)
    obtain rfl : d6 = true := hall 6 (by decide)
    obtain rfl : d7 = true := hall 7 (by decide)
    obtain rfl : d8 = true := hall 8 (by decide)
    obtain rfl : d9 = true := hall 9 (by decide)
    obtain rfl : d10 = true := hall 10 (by decide)
    obtain rfl : d11 = true := hall 11 (by decide)
    obtain rfl : d12 = true := hall 12 (by decide)
    obtain rfl : d13 = true := hall 13 (by decide)
    obtain rfl : d14 = true := hall 14 (by decide)
    obtain rfl : d15 = true := hall 15 (by decide)
    obtain rfl : d16 = true := hall 16 (by decide)
    obtain rfl : d17 = true := hall 17 (by decide)
    obtain rfl : d18 = true := hall 18 (by decide)
    obtain rfl : d19 = true := hall 19 (by decide)
    clear hall hr0
    simp only [cond_true]
    have m1 := hM.congr (S' := fun i => i == 10 || (i == 11 || (i == 12 || (i == 13 || (i == 5))))) (fun i => by simp)
    have sz1 := m1.size
    have FS := hF
    have bO1 := hZ
    have bB1 := bB.fr FS hBO
    have bR1 := bR.fr FS hRO
    clear hM hZ hF
    have HB1 := Lib.hid (Bl.trans HB0.out (Bl.of_fr FS HB0.out.size (fun k h => by have h9 : k = gO := h; have := HGO.out; omega)))
    clear bB bR bO HB0
    have bB := bB1
    have bR := bR1
    have bO := bO1
    have HB0 := HB1
    clear bB1 bR1 bO1 HB1 FS
    generalize wq = wQ1 at *
    generalize cs' = cQ1 at *
    go_upto_region 29 with fail
    have cL := (bB.cell 17).trans e17
    have cz := (bO.cell 17).trans (((m1.at_ 17).trans (if_neg (by decide))).trans q17)
    have fz := bO.frozen 17
    refine wp_region_lit ?_
    refine wpList_plain rfl (fun K hK => ?_)
    go_simp
    refine hK _ _ ?_
    clear hK K
    refine wpList_plain rfl (fun K hK => ?_)
    go_simp
    refine hK _ _ ?_
    clear hK K
    refine wpList_plain rfl (fun K hK => ?_)
    go_simp
    refine hK _ _ ?_
    clear hK K
    refine wpList_plain rfl (fun K hK => ?_)
    go_simp
    refine hK _ _ ?_
    clear hK K
    refine wpList_nil ?_
    have FS : Fr (only gO) wQ1 (wQ1.setCell ⟨gO, 17, none⟩ (.slice A17 c.ps.length p17)) := (Fr.refl _ _).set_only 17 none _
    have bO1 := bO.set 17 (.slice A17 c.ps.length p17)
    have bB1 := bB.fr FS hBO
    have bR1 := bR.fr FS hRO
    obtain ⟨sz2, g2, n2⟩ := set_get sz1 17 (by decide) (.slice A17 c.ps.length p17)
    generalize hX2 : (cQ1).setIfInBounds 17 (.slice A17 c.ps.length p17) = cX2 at *
    generalize wQ1.setCell ⟨gO, 17, none⟩ (.slice A17 c.ps.length p17) = wX2 at *
    clear cL cz fz hX2
    have HB1 := Lib.hid (Bl.trans HB0.out (Bl.of_fr FS HB0.out.size (fun k h => by have h9 : k = gO := h; have := HGO.out; omega)))
    clear bB bR bO HB0
    have bB := bB1
    have bR := bR1
    have bO := bO1
    have HB0 := HB1
    clear bB1 bR1 bO1 HB1 FS
    go_upto_region 32 with fail
    refine wp_region_lit ?_
    refine wpList_plain rfl (fun K hK => ?_)
    refine Mem.oper_load rfl rfl bO hup rfl (by rw [sz2]; kernel_rfl) ?_
    refine hK _ _ ?_
    clear hK K
    have hC9 := (hC.bl HB0.out hhi).more (Nat.zero_le lo) hhi
    obtain ⟨B14, u14, z14, y14⟩ := hC9.c14
    obtain ⟨B15, u15, z15, y15⟩ := hC9.c15
    obtain ⟨B16, u16, z16, y16⟩ := hC9.c16
    obtain ⟨B17, u17, z17, y17⟩ := hC9.c17
    obtain ⟨B18, u18, z18, y18⟩ := hC9.c18
    have hst : strip c = ⟨1, false, false, false, false, c.tsn, 0, 0, 0, 0, c.tag, c.win, c.out, c.inn, [], [], [], c.ps, []⟩ := by unfold strip zC; simp [HK.out]
    have V := Lib.hid (show CkV wX2 0 w.heap.size (cX2) (strip c) from by
      rw [hst]
      exact ckv_mk sz2 ((n2 0 (by decide)).trans (((m1.at_ 0).trans (if_neg (by decide))).trans q0)) ((n2 1 (by decide)).trans (((m1.at_ 1).trans (if_neg (by decide))).trans q1)) ((n2 2 (by decide)).trans (((m1.at_ 2).trans (if_neg (by decide))).trans q2)) ((n2 3 (by decide)).trans (((m1.at_ 3).trans (if_neg (by decide))).trans q3)) ((n2 4 (by decide)).trans (((m1.at_ 4).trans (if_neg (by decide))).trans q4)) ((n2 5 (by decide)).trans ((m1.at_ 5).trans ((if_pos (by decide)).trans hC.c5))) ((n2 6 (by decide)).trans (((m1.at_ 6).trans (if_neg (by decide))).trans q6)) ((n2 7 (by decide)).trans (((m1.at_ 7).trans (if_neg (by decide))).trans q7)) ((n2 8 (by decide)).trans (((m1.at_ 8).trans (if_neg (by decide))).trans q8)) ((n2 9 (by decide)).trans (((m1.at_ 9).trans (if_neg (by decide))).trans q9)) ((n2 10 (by decide)).trans ((m1.at_ 10).trans ((if_pos (by decide)).trans hC.c10))) ((n2 11 (by decide)).trans ((m1.at_ 11).trans ((if_pos (by decide)).trans hC.c11))) ((n2 12 (by decide)).trans ((m1.at_ 12).trans ((if_pos (by decide)).trans hC.c12))) ((n2 13 (by decide)).trans ((m1.at_ 13).trans ((if_pos (by decide)).trans hC.c13))) ⟨none, 0, ((n2 14 (by decide)).trans (((m1.at_ 14).trans (if_neg (by decide))).trans q14)), no_gap⟩ ⟨none, 0, ((n2 15 (by decide)).trans (((m1.at_ 15).trans (if_neg (by decide))).trans q15)), no_dup⟩ ⟨none, 0, ((n2 16 (by decide)).trans (((m1.at_ 16).trans (if_neg (by decide))).trans q16)), no_skp⟩ ⟨B17, u17, g2.trans (e17.symm.trans z17), y17⟩ ⟨none, 0, ((n2 18 (by decide)).trans (((m1.at_ 18).trans (if_neg (by decide))).trans q18)), no_by⟩)
    clear hst hC9 z14 y14 z15 y15 z16 y16 z17 y17 z18 y18
    refine wpList_plain rfl (fun K hK => ?_)
    refine Mem.oper_store (cs0 := zch) (cs := cX2) rfl rfl rfl bR (by rw [sz2]; kernel_rfl) (by rw [sz2]; rfl) V.out.one ?_
    refine hK _ _ ?_
    clear hK K
    refine wpList_nil ?_
    have FR := fr_row (w := wX2) gR (cX2)
    have bR9 := blk_row (cX2) bR
    have HB9 := Lib.hid (Bl.trans HB0.out (Bl.of_fr FR HB0.out.size (fun k h => by have h9 : k = gR := h; have := HG.out; omega)))
    have HVV := Lib.hid ((V.out.fr FR (fun k _ h2 h3 => by have h9 : k = gR := h3; have := HG.out; omega)).more (Nat.le_refl 0) HB9.out.size)
    have hi9 : (Try.prog.info? 31).map (fun i => i.size) = some (cX2).size := by rw [sz2]; kernel_rfl
    generalize wX2.setRow gR (cX2) = w9 at *
    clear bR bB FR V
    go_wp2
    (try simp only [Exit.inBlock, Exit.then])
    refine bodyPost_ret (results_blk1 rfl _ rfl bR9 hup rfl hi9) rfl ?_
    exact ⟨HB9.out, cX2, rfl, HVV.out⟩
  · exact ⟨false, false, false, false, false, false, false, false, false, false, false, false, false, false, false, false, false, false, false, false, z0, rfl, rfl, (Mix.refl cs szz).congr (fun i => by simp), bO, (Fr.refl _ wk).drew⟩
set_option maxHeartbeats 8000000 in
set_option maxRecDepth 100000 in
theorem rstrip_2 (lo hi : Nat) (cs : Array Value) (c : Ck) (w : World) (hC : CkV w lo hi cs c) (hhi : hi ≤ w.heap.size) (hBd : CkB c) (hL : CkL c) (hk : c.k = 2) :
    Calls Try.prog 19 #[.agg cs] w (StripC w c) := by
  have hup := Try.underlying31
  have hsz := hC.size
  have B0 : Below w.heap.size w ((w.alloc (.cells cs 31)).alloc (.cells zch 31)) := ((Below.refl _ w).alloc (Nat.le_refl _) _).alloc (by simp) _
  have bB := (Blk.new w cs 31).alloc (.cells zch 31)
  have bR : Blk ((w.alloc (.cells cs 31)).alloc (.cells zch 31)) (w.heap.size + 1) 31 zch := by simpa using Blk.new (w.alloc (.cells cs 31)) zch 31
  have hs1 : ((w.alloc (.cells cs 31)).alloc (.cells zch 31)).heap.size = w.heap.size + 2 := by simp
  have c0 := hC.c0
  rw [hk] at c0
  have HK := Lib.hid hk
  obtain ⟨A14, p14, e14, -⟩ := hC.c14
  obtain ⟨A15, p15, e15, -⟩ := hC.c15
  obtain ⟨A16, p16, e16, -⟩ := hC.c16
  obtain ⟨A17, p17, e17, -⟩ := hC.c17
  obtain ⟨A18, p18, e18, -⟩ := hC.c18
  have cc0 := (bB.cell 0).trans c0
  clear hk
  go_enter Try.func19, Try.ntmps19
  go_upto_region 1 with fail
  generalize (w.alloc (.cells cs 31)).alloc (.cells zch 31) = w1 at *
  have HB0 := Lib.hid B0
  obtain ⟨gB, hgB⟩ : ∃ gB, w.heap.size = gB := ⟨_, rfl⟩
  obtain ⟨gR, hgR⟩ : ∃ gR, w.heap.size + 1 = gR := ⟨_, rfl⟩
  rw [hgR] at bR ⊢
  rw [hgB] at bB cc0 ⊢
  have HG := Lib.hid (And.intro hgB (And.intro hgR hs1))
  have hbR : gR ≠ gB := by omega
  clear hs1 hgR hgB B0
  go_upto_region 2 with fail
  refine wp_region_lit ?_
  refine wpList_plain rfl (fun K hK => ?_)
  go_simp
  refine hK _ _ ?_
  clear hK K
  refine wpList_plain rfl (fun K hK => ?_)
  go_simp
  refine hK _ _ ?_
  clear hK K
  refine wpList_plain rfl (fun K hK => ?_)
  go_simp
  refine hK _ _ ?_
  clear hK K
  refine wpList_plain rfl (fun K hK => ?_)
  go_simp
  refine hK _ _ ?_
  clear hK K
  refine wpList_plain rfl (fun K hK => ?_)
  refine Mem.oper_store (cs0 := zch) (cs := (kz 2)) rfl rfl rfl (Blk.new w1 zch 31) (by kernel_rfl) rfl (kz_one _) ?_
  refine hK _ _ ?_
  clear hK K
  refine wpList_nil ?_
  have F0 : Fr nothing w1 ((w1.alloc (.cells zch 31)).setRow w1.heap.size (kz 2)) := ((Fr.refl nothing w1).alloc _).trans (fr_row w1.heap.size (kz 2)) (fun k hk h => by have h9 : k = w1.heap.size := h; omega)
  have bO := blk_row (kz 2) (Blk.new w1 zch 31)
  have bB1 := bB.fr F0 id
  have bR1 := bR.fr F0 id
  have hltO := bO.lt
  have hgO : gR < w1.heap.size ∧ gB < w1.heap.size := ⟨bR.lt, bB.lt⟩
  have HB1 := Lib.hid (Bl.trans HB0.out (Bl.of_fr F0 HB0.out.size (fun k h => h.elim)))
  have HGO := Lib.hid (show w.heap.size + 2 ≤ w1.heap.size from by have := HG.out; omega)
  generalize (w1.alloc (.cells zch 31)).setRow w1.heap.size (kz 2) = wk at *
  generalize w1.heap.size = gO at *
  clear bB bR F0 HB0 cc0 hltO
  have bB := bB1
  have bR := bR1
  have HB0 := HB1
  have hBO : ¬ only gO gB := fun h => by have h9 : gB = gO := h; omega
  have hRO : ¬ only gO gR := fun h => by have h9 : gR = gO := h; omega
  have szz := kz_size 2
  clear bB1 bR1 HB1
  obtain ⟨q0, q1, q2, q3, q4, q5, q6, q7, q8, q9, q10, q11, q12, q13, q14, q15, q16, q17, q18⟩ := kz_at 2
  generalize hKL : (kz 2) = z0 at *
  clear hKL
  go_upto_region 12 with fail
  refine wp_region_any (by kernel_rfl) ?_
  refine Reg.wpAny_inv (I := fun listed act wq => ∃ (d0 d1 d2 d3 d4 d5 d6 d7 d8 d9 d10 d11 d12 d13 d14 d15 d16 d17 d18 d19 : Bool) (cs' : Array Value), listed = #[d0, d1, d2, d3, d4, d5, d6, d7, d8, d9, d10, d11, d12, d13, d14, d15, d16, d17, d18, d19] ∧ act = ⟨#[Value.agg cs, Value.pointer (some { block := gB, off := 0 }), Value.pointer (some { block := gR, off := 0 }), Value.int IntKind.i64 2, Value.pointer (some { block := gO, off := 0 }), undef, undef, Value.pointer (some { block := gB, off := 0 }), Value.int IntKind.u8 2, Value.int IntKind.i64 2, Value.pointer (some { block := gB, off := 0 }), Value.int IntKind.u8 2, Value.agg #[Value.int IntKind.u8 2, Value.bool false, Value.bool false, Value.bool false, Value.bool false, Value.int IntKind.u32 0, Value.int IntKind.u16 0, Value.int IntKind.u32 0, Value.int IntKind.u32 0, Value.int IntKind.u32 0, Value.int IntKind.u32 0, Value.int IntKind.u32 0, Value.int IntKind.u16 0, Value.int IntKind.u16 0, Value.slice none 0 0, Value.slice none 0 0, Value.slice none 0 0, Value.slice none 0 0, Value.slice none 0 0], Value.int IntKind.i64 2, Value.bool false, Value.bool false, Value.int IntKind.i64 2, Value.bool false, Value.bool false, undef, undef, undef, undef, undef, undef, undef, undef, undef, undef, undef, undef, undef, undef, undef, undef, undef, undef, undef, undef, undef, undef, undef, undef, undef, undef, undef, undef, undef, undef, undef, undef, undef, undef, undef, undef, undef, Value.int IntKind.i64 2, Value.bool false, Value.bool false, Value.int IntKind.i64 2, Value.bool true, Value.bool true, (bif d0 then (.pointer (some ⟨gB, 10, none⟩)) else undef), (bif d1 then (.int .u32 c.tag) else undef), (bif d2 then (.pointer (some ⟨gB, 11, none⟩)) else undef), (bif d3 then (.int .u32 c.win) else undef), (bif d4 then (.pointer (some ⟨gB, 12, none⟩)) else undef), (bif d5 then (.int .u16 c.out) else undef), (bif d6 then (.pointer (some ⟨gB, 13, none⟩)) else undef), (bif d7 then (.int .u16 c.inn) else undef), (bif d8 then (.pointer (some ⟨gB, 5, none⟩)) else undef), (bif d9 then (.int .u32 c.tsn) else undef), (bif d10 then (.pointer (some ⟨gO, 10, none⟩)) else undef), (bif d12 then (.pointer (some ⟨gO, 11, none⟩)) else undef), (bif d14 then (.pointer (some ⟨gO, 12, none⟩)) else undef), (bif d16 then (.pointer (some ⟨gO, 13, none⟩)) else undef), (bif d18 then (.pointer (some ⟨gO, 5, none⟩)) else undef), undef, undef, undef, undef, undef, undef, undef, undef, undef, undef, undef, undef, undef, undef, undef, undef, undef, undef, undef, undef, undef, undef, undef, undef, undef, undef, undef, undef, undef, undef, undef, undef, undef, undef, undef, undef, undef, undef, undef, undef, undef, undef, undef, undef, undef, undef, undef, undef, undef, undef, undef, undef, undef, undef, undef, undef, undef, undef, undef, undef, undef, undef, undef, undef, undef, undef, undef, undef, undef, undef, undef, undef, undef, undef, undef, undef, undef, undef, undef, undef, undef, undef, undef, undef, undef, undef, undef, undef, undef, undef, undef, undef, undef, undef, undef, undef, undef, undef, undef, undef, undef, undef, undef, undef, undef, undef], []⟩ ∧ Mix (z0) cs (fun i => (d11 && i == 10) || ((d13 && i == 11) || ((d15 && i == 12) || ((d17 && i == 13) || ((d19 && i == 5)))))) cs' ∧ Blk wq gO 31 cs' ∧ Fr (only gO) wk wq) ?_ ?_ _ _ _ _ (by decide) ?_
  · intro i o listed act wq hi hI hun hdeps K hK
    obtain ⟨d0, d1, d2, d3, d4, d5, d6, d7, d8, d9, d10, d11, d12, d13, d14, d15, d16, d17, d18, d19, cs', rfl, rfl, hM, hZ, hF⟩ := hI
    have hlt : i < 20 := (Array.getElem?_eq_some_iff.1 hi).1
    rcases (show i = 0 ∨ i = 1 ∨ i = 2 ∨ i = 3 ∨ i = 4 ∨ i = 5 ∨ i = 6 ∨ i = 7 ∨ i = 8 ∨ i = 9 ∨ i = 10 ∨ i = 11 ∨ i = 12 ∨ i = 13 ∨ i = 14 ∨ i = 15 ∨ i = 16 ∨ i = 17 ∨ i = 18 ∨ i = 19 by omega) with rfl | rfl | rfl | rfl | rfl | rfl | rfl | rfl | rfl | rfl | rfl | rfl | rfl | rfl | rfl | rfl | rfl | rfl | rfl | rfl
    · skip
      obtain rfl : _ = o := Option.some.inj hi
      obtain rfl : d0 = false := by simpa using hun
      clear hun hdeps hi hlt
      go_simp
      exact hK _ _ ⟨true, d1, d2, d3, d4, d5, d6, d7, d8, d9, d10, d11, d12, d13, d14, d15, d16, d17, d18, d19, cs', rfl, rfl, hM, hZ, hF⟩
    · skip
      obtain rfl : _ = o := Option.some.inj hi
      obtain rfl : d1 = false := by simpa using hun
      obtain rfl : d0 = true := hdeps _ (Array.mem_of_getElem? (i := 0) rfl) rfl
      clear hun hdeps hi hlt
      have cc := ((bB.fr hF hBO).cell 10).trans hC.c10
      go_simp
      exact hK _ _ ⟨true, true, d2, d3, d4, d5, d6, d7, d8, d9, d10, d11, d12, d13, d14, d15, d16, d17, d18, d19, cs', rfl, rfl, hM, hZ, hF⟩
    · skip
      obtain rfl : _ = o := Option.some.inj hi
      obtain rfl : d2 = false := by simpa using hun
      clear hun hdeps hi hlt
      go_simp
      exact hK _ _ ⟨d0, d1, true, d3, d4, d5, d6, d7, d8, d9, d10, d11, d12, d13, d14, d15, d16, d17, d18, d19, cs', rfl, rfl, hM, hZ, hF⟩
    · skip
      obtain rfl : _ = o := Option.some.inj hi
      obtain rfl : d3 = false := by simpa using hun
      obtain rfl : d2 = true := hdeps _ (Array.mem_of_getElem? (i := 0) rfl) rfl
      clear hun hdeps hi hlt
      have cc := ((bB.fr hF hBO).cell 11).trans hC.c11
      go_simp
      exact hK _ _ ⟨d0, d1, true, true, d4, d5, d6, d7, d8, d9, d10, d11, d12, d13, d14, d15, d16, d17, d18, d19, cs', rfl, rfl, hM, hZ, hF⟩
    · skip
      obtain rfl : _ = o := Option.some.inj hi
      obtain rfl : d4 = false := by simpa using hun
      clear hun hdeps hi hlt
      go_simp
      exact hK _ _ ⟨d0, d1, d2, d3, true, d5, d6, d7, d8, d9, d10, d11, d12, d13, d14, d15, d16, d17, d18, d19, cs', rfl, rfl, hM, hZ, hF⟩
    · skip
      obtain rfl : _ = o := Option.some.inj hi
      obtain rfl : d5 = false := by simpa using hun
      obtain rfl : d4 = true := hdeps _ (Array.mem_of_getElem? (i := 0) rfl) rfl
      clear hun hdeps hi hlt
      have cc := ((bB.fr hF hBO).cell 12).trans hC.c12
      go_simp
      exact hK _ _ ⟨d0, d1, d2, d3, true, true, d6, d7, d8, d9, d10, d11, d12, d13, d14, d15, d16, d17, d18, d19, cs', rfl, rfl, hM, hZ, hF⟩
    · skip
      obtain rfl : _ = o := Option.some.inj hi
      obtain rfl : d6 = false := by simpa using hun
      clear hun hdeps hi hlt
      go_simp
      exact hK _ _ ⟨d0, d1, d2, d3, d4, d5, true, d7, d8, d9, d10, d11, d12, d13, d14, d15, d16, d17, d18, d19, cs', rfl, rfl, hM, hZ, hF⟩
    · skip
      obtain rfl : _ = o := Option.some.inj hi
      obtain rfl : d7 = false := by simpa using hun
      obtain rfl : d6 = true := hdeps _ (Array.mem_of_getElem? (i := 0) rfl) rfl
      clear hun hdeps hi hlt
      have cc := ((bB.fr hF hBO).cell 13).trans hC.c13
      go_simp
      exact hK _ _ ⟨d0, d1, d2, d3, d4, d5, true, true, d8, d9, d10, d11, d12, d13, d14, d15, d16, d17, d18, d19, cs', rfl, rfl, hM, hZ, hF⟩
    · skip
      obtain rfl : _ = o := Option.some.inj hi
      obtain rfl : d8 = false := by simpa using hun
      clear hun hdeps hi hlt
      go_simp
      exact hK _ _ ⟨d0, d1, d2, d3, d4, d5, d6, d7, true, d9, d10, d11, d12, d13, d14, d15, d16, d17, d18, d19, cs', rfl, rfl, hM, hZ, hF⟩
    · skip
      obtain rfl : _ = o := Option.some.inj hi
      obtain rfl : d9 = false := by simpa using hun
      obtain rfl : d8 = true := hdeps _ (Array.mem_of_getElem? (i := 0) rfl) rfl
      clear hun hdeps hi hlt
      have cc := ((bB.fr hF hBO).cell 5).trans hC.c5
      go_simp
      exact hK _ _ ⟨d0, d1, d2, d3, d4, d5, d6, d7, true, true, d10, d11, d12, d13, d14, d15, d16, d17, d18, d19, cs', rfl, rfl, hM, hZ, hF⟩
    · skip
      obtain rfl : _ = o := Option.some.inj hi
      obtain rfl : d10 = false := by simpa using hun
      clear hun hdeps hi hlt
      go_simp
      exact hK _ _ ⟨d0, d1, d2, d3, d4, d5, d6, d7, d8, d9, true, d11, d12, d13, d14, d15, d16, d17, d18, d19, cs', rfl, rfl, hM, hZ, hF⟩
    · skip
      obtain rfl : _ = o := Option.some.inj hi
      obtain rfl : d11 = false := by simpa using hun
      obtain rfl : d10 = true := hdeps _ (Array.mem_of_getElem? (i := 0) rfl) rfl
      obtain rfl : d1 = true := hdeps _ (Array.mem_of_getElem? (i := 1) rfl) rfl
      clear hun hdeps hi hlt
      have cz := hZ.cell 10
      have fz := hZ.frozen 10
      have fm := Array.getElem?_eq_getElem (xs := cs') (i := 10) (by rw [hM.size]; decide)
      rw [fm] at cz
      clear fm
      go_simp
      exact hK _ _ ⟨d0, true, d2, d3, d4, d5, d6, d7, d8, d9, true, true, d12, d13, d14, d15, d16, d17, d18, d19, cs'.setIfInBounds 10 (.int .u32 c.tag), rfl, rfl, (hM.set hC.c10 (by decide)).congr (fun i => by simp only [Bool.false_and, Bool.true_and, Bool.false_or]; ac_rfl), hZ.set 10 _, hF.set_only 10 none _⟩
    · skip
      obtain rfl : _ = o := Option.some.inj hi
      obtain rfl : d12 = false := by simpa using hun
      clear hun hdeps hi hlt
      go_simp
      exact hK _ _ ⟨d0, d1, d2, d3, d4, d5, d6, d7, d8, d9, d10, d11, true, d13, d14, d15, d16, d17, d18, d19, cs', rfl, rfl, hM, hZ, hF⟩
    · skip
      obtain rfl : _ = o := Option.some.inj hi
      obtain rfl : d13 = false := by simpa using hun
      obtain rfl : d12 = true := hdeps _ (Array.mem_of_getElem? (i := 0) rfl) rfl
      obtain rfl : d3 = true := hdeps _ (Array.mem_of_getElem? (i := 1) rfl) rfl
      obtain rfl : d11 = true := hdeps _ (Array.mem_of_getElem? (i := 2) rfl) rfl
      clear hun hdeps hi hlt
      have cz := hZ.cell 11
      have fz := hZ.frozen 11
      have fm := Array.getElem?_eq_getElem (xs := cs') (i := 11) (by rw [hM.size]; decide)
      rw [fm] at cz
      clear fm
      go_simp
      exact hK _ _ ⟨d0, d1, d2, true, d4, d5, d6, d7, d8, d9, d10, true, true, true, d14, d15, d16, d17, d18, d19, cs'.setIfInBounds 11 (.int .u32 c.win), rfl, rfl, (hM.set hC.c11 (by decide)).congr (fun i => by simp only [Bool.false_and, Bool.true_and, Bool.false_or]; ac_rfl), hZ.set 11 _, hF.set_only 11 none _⟩
    · skip
      obtain rfl : _ = o := Option.some.inj hi
      obtain rfl : d14 = false := by simpa using hun
      clear hun hdeps hi hlt
      go_simp
      exact hK _ _ ⟨d0, d1, d2, d3, d4, d5, d6, d7, d8, d9, d10, d11, d12, d13, true, d15, d16, d17, d18, d19, cs', rfl, rfl, hM, hZ, hF⟩
    · skip
      obtain rfl : _ = o := Option.some.inj hi
      obtain rfl : d15 = false := by simpa using hun
      obtain rfl : d14 = true := hdeps _ (Array.mem_of_getElem? (i := 0) rfl) rfl
      obtain rfl : d5 = true := hdeps _ (Array.mem_of_getElem? (i := 1) rfl) rfl
      obtain rfl : d13 = true := hdeps _ (Array.mem_of_getElem? (i := 2) rfl) rfl
      clear hun hdeps hi hlt
      have cz := hZ.cell 12
      have fz := hZ.frozen 12
      have fm := Array.getElem?_eq_getElem (xs := cs') (i := 12) (by rw [hM.size]; decide)
      rw [fm] at cz
      clear fm
      go_simp
      exact hK _ _ ⟨d0, d1, d2, d3, d4, true, d6, d7, d8, d9, d10, d11, d12, true, true, true, d16, d17, d18, d19, cs'.setIfInBounds 12 (.int .u16 c.out), rfl, rfl, (hM.set hC.c12 (by decide)).congr (fun i => by simp only [Bool.false_and, Bool.true_and, Bool.false_or]; ac_rfl), hZ.set 12 _, hF.set_only 12 none _⟩
    · skip
      obtain rfl : _ = o := Option.some.inj hi
      obtain rfl : d16 = false := by simpa using hun
      clear hun hdeps hi hlt
      go_simp
      exact hK _ _ ⟨d0, d1, d2, d3, d4, d5, d6, d7, d8, d9, d10, d11, d12, d13, d14, d15, true, d17, d18, d19, cs', rfl, rfl, hM, hZ, hF⟩
    · skip
      obtain rfl : _ = o := Option.some.inj hi
      obtain rfl : d17 = false := by simpa using hun
      obtain rfl : d16 = true := hdeps _ (Array.mem_of_getElem? (i := 0) rfl) rfl
      obtain rfl : d7 = true := hdeps _ (Array.mem_of_getElem? (i := 1) rfl) rfl
      obtain rfl : d15 = true := hdeps _ (Array.mem_of_getElem? (i := 2) rfl) rfl
      clear hun hdeps hi hlt
      have cz := hZ.cell 13
      have fz := hZ.frozen 13
      have fm := Array.getElem?_eq_getElem (xs := cs') (i := 13) (by rw [hM.size]; decide)
      rw [fm] at cz
      clear fm
      go_simp
      exact hK _ _ ⟨d0, d1, d2, d3, d4, d5, d6, true, d8, d9, d10, d11, d12, d13, d14, true, true, true, d18, d19, cs'.setIfInBounds 13 (.int .u16 c.inn), rfl, rfl, (hM.set hC.c13 (by decide)).congr (fun i => by simp only [Bool.false_and, Bool.true_and, Bool.false_or]; ac_rfl), hZ.set 13 _, hF.set_only 13 none _⟩
    · skip
      obtain rfl : _ = o := Option.some.inj hi
      obtain rfl : d18 = false := by simpa using hun
      clear hun hdeps hi hlt
      go_simp
      exact hK _ _ ⟨d0, d1, d2, d3, d4, d5, d6, d7, d8, d9, d10, d11, d12, d13, d14, d15, d16, d17, true, d19, cs', rfl, rfl, hM, hZ, hF⟩
    · skip
      obtain rfl : _ = o := Option.some.inj hi
      obtain rfl : d19 = false := by simpa using hun
      obtain rfl : d18 = true := hdeps _ (Array.mem_of_getElem? (i := 0) rfl) rfl
      obtain rfl : d9 = true := hdeps _ (Array.mem_of_getElem? (i := 1) rfl) rfl
      obtain rfl : d17 = true := hdeps _ (Array.mem_of_getElem? (i := 2) rfl) rfl
      clear hun hdeps hi hlt
      have cz := hZ.cell 5
      have fz := hZ.frozen 5
      have fm := Array.getElem?_eq_getElem (xs := cs') (i := 5) (by rw [hM.size]; decide)
      rw [fm] at cz
      clear fm
      go_simp
      exact hK _ _ ⟨d0, d1, d2, d3, d4, d5, d6, d7, d8, true, d10, d11, d12, d13, d14, d15, d16, true, true, true, cs'.setIfInBounds 5 (.int .u32 c.tsn), rfl, rfl, (hM.set hC.c5 (by decide)).congr (fun i => by simp only [Bool.false_and, Bool.true_and, Bool.false_or]; ac_rfl), hZ.set 5 _, hF.set_only 5 none _⟩
  · intro listed act wq hI hr0
    obtain ⟨d0, d1, d2, d3, d4, d5, d6, d7, d8, d9, d10, d11, d12, d13, d14, d15, d16, d17, d18, d19, cs', rfl, rfl, hM, hZ, hF⟩ := hI
    have hall := Reg.all_of_done (by kernel_rfl) rfl hr0
    obtain rfl : d0 = true := hall 0 (by decide)
    obtain rfl : d1 = true := hall 1 (by decide)
    obtain rfl : d2 = true := hall 2 (by decide)
    obtain rfl : d3 = true := hall 3 (by decide)
    obtain rfl : d4 = true := hall 4 (by decide)
    obtain rfl : d5 = true := hall 5 (by decide)
    obtain rfl : d6 = true := hall 6 (by decide)
    obtain rfl : d7 = true := hall 7 (by decide)
    obtain rfl : d8 = true := hall 8 (by decide)
    obtain rfl : d9 = true := hall 9 (by decide)
    obtain rfl : d10 = true := hall 10 (by decide)
    obtain rfl : d11 = true := hall 11 (by decide)
    obtain rfl : d12 = true := hall 12 (by decide)
    obtain rfl : d13 = true := hall 13 (by decide)
    obtain rfl : d14 = true := hall 14 (by decide)
    obtain rfl : d15 = true := hall 15 (by decide)
    obtain rfl : d16 = true := hall 16 (by decide)
    obtain rfl : d17 = true := hall 17 (by decide)
    obtain rfl : d18 = true := hall 18 (by decide)
    obtain rfl : d19 = true := hall 19 (by decide)
    clear hall hr0
    simp only [cond_true]
    have m1 := hM.congr (S' := fun i => i == 10 || (i == 11 || (i == 12 || (i == 13 || (i == 5))))) (fun i => by simp)
    have sz1 := m1.size
    have FS := hF
    have bO1 := hZ
    have bB1 := bB.fr FS hBO
    have bR1 := bR.fr FS hRO
    clear hM hZ hF
    have HB1 := Lib.hid (Bl.trans HB0.out (Bl.of_fr FS HB0.out.size (fun k h => by have h9 : k = gO := h; have := HGO.out; omega)))
    clear bB bR bO HB0
    have bB := bB1
    have bR := bR1
    have bO := bO1
    have HB0 := HB1
    clear bB1 bR1 bO1 HB1 FS
    generalize wq = wQ1 at *
    generalize cs' = cQ1 at *
    go_upto_region 29 with fail
    have cL := (bB.cell 17).trans e17
    have cz := (bO.cell 17).trans (((m1.at_ 17).trans (if_neg (by decide))).trans q17)
    have fz := bO.frozen 17
    refine wp_region_lit ?_
    refine wpList_plain rfl (fun K hK => ?_)
    go_simp
    refine hK _ _ ?_
    clear hK K
    refine wpList_plain rfl (fun K hK => ?_)
    go_simp
    refine hK _ _ ?_
    clear hK K
    refine wpList_plain rfl (fun K hK => ?_)
    go_simp
    refine hK _ _ ?_
    clear hK K
    refine wpList_plain rfl (fun K hK => ?_)
    go_simp
    refine hK _ _ ?_
    clear hK K
    refine wpList_nil ?_
    have FS : Fr (only gO) wQ1 (wQ1.setCell ⟨gO, 17, none⟩ (.slice A17 c.ps.length p17)) := (Fr.refl _ _).set_only 17 none _
    have bO1 := bO.set 17 (.slice A17 c.ps.length p17)
    have bB1 := bB.fr FS hBO
    have bR1 := bR.fr FS hRO
    obtain ⟨sz2, g2, n2⟩ := set_get sz1 17 (by decide) (.slice A17 c.ps.length p17)
    generalize hX2 : (cQ1).setIfInBounds 17 (.slice A17 c.ps.length p17) = cX2 at *
    generalize wQ1.setCell ⟨gO, 17, none⟩ (.slice A17 c.ps.length p17) = wX2 at *
    clear cL cz fz hX2
    have HB1 := Lib.hid (Bl.trans HB0.out (Bl.of_fr FS HB0.out.size (fun k h => by have h9 : k = gO := h; have := HGO.out; omega)))
    clear bB bR bO HB0
    have bB := bB1
    have bR := bR1
    have bO := bO1
    have HB0 := HB1
    clear bB1 bR1 bO1 HB1 FS
    go_upto_region 32 with fail
    refine wp_region_lit ?_
    refine wpList_plain rfl (fun K hK => ?_)
    refine Mem.oper_load rfl rfl bO hup rfl (by rw [sz2]; kernel_rfl) ?_
    refine hK _ _ ?_
    clear hK K
    have hC9 := (hC.bl HB0.out hhi).more (Nat.zero_le lo) hhi
    obtain ⟨B14, u14, z14, y14⟩ := hC9.c14
    obtain ⟨B15, u15, z15, y15⟩ := hC9.c15
    obtain ⟨B16, u16, z16, y16⟩ := hC9.c16
    obtain ⟨B17, u17, z17, y17⟩ := hC9.c17
    obtain ⟨B18, u18, z18, y18⟩ := hC9.c18
    have hst : strip c = ⟨2, false, false, false, false, c.tsn, 0, 0, 0, 0, c.tag, c.win, c.out, c.inn, [], [], [], c.ps, []⟩ := by unfold strip zC; simp [HK.out]
    have V := Lib.hid (show CkV wX2 0 w.heap.size (cX2) (strip c) from by
      rw [hst]
      exact ckv_mk sz2 ((n2 0 (by decide)).trans (((m1.at_ 0).trans (if_neg (by decide))).trans q0)) ((n2 1 (by decide)).trans (((m1.at_ 1).trans (if_neg (by decide))).trans q1)) ((n2 2 (by decide)).trans (((m1.at_ 2).trans (if_neg (by decide))).trans q2)) ((n2 3 (by decide)).trans (((m1.at_ 3).trans (if_neg (by decide))).trans q3)) ((n2 4 (by decide)).trans (((m1.at_ 4).trans (if_neg (by decide))).trans q4)) ((n2 5 (by decide)).trans ((m1.at_ 5).trans ((if_pos (by decide)).trans hC.c5))) ((n2 6 (by decide)).trans (((m1.at_ 6).trans (if_neg (by decide))).trans q6)) ((n2 7 (by decide)).trans (((m1.at_ 7).trans (if_neg (by decide))).trans q7)) ((n2 8 (by decide)).trans (((m1.at_ 8).trans (if_neg (by decide))).trans q8)) ((n2 9 (by decide)).trans (((m1.at_ 9).trans (if_neg (by decide))).trans q9)) ((n2 10 (by decide)).trans ((m1.at_ 10).trans ((if_pos (by decide)).trans hC.c10))) ((n2 11 (by decide)).trans ((m1.at_ 11).trans ((if_pos (by decide)).trans hC.c11))) ((n2 12 (by decide)).trans ((m1.at_ 12).trans ((if_pos (by decide)).trans hC.c12))) ((n2 13 (by decide)).trans ((m1.at_ 13).trans ((if_pos (by decide)).trans hC.c13))) ⟨none, 0, ((n2 14 (by decide)).trans (((m1.at_ 14).trans (if_neg (by decide))).trans q14)), no_gap⟩ ⟨none, 0, ((n2 15 (by decide)).trans (((m1.at_ 15).trans (if_neg (by decide))).trans q15)), no_dup⟩ ⟨none, 0, ((n2 16 (by decide)).trans (((m1.at_ 16).trans (if_neg (by decide))).trans q16)), no_skp⟩ ⟨B17, u17, g2.trans (e17.symm.trans z17), y17⟩ ⟨none, 0, ((n2 18 (by decide)).trans (((m1.at_ 18).trans (if_neg (by decide))).trans q18)), no_by⟩)
    clear hst hC9 z14 y14 z15 y15 z16 y16 z17 y17 z18 y18
    refine wpList_plain rfl (fun K hK => ?_)
    refine Mem.oper_store (cs0 := zch) (cs := cX2) rfl rfl rfl bR (by rw [sz2]; kernel_rfl) (by rw [sz2]; rfl) V.out.one ?_
    refine hK _ _ ?_
    clear hK K
    refine wpList_nil ?_
    have FR := fr_row (w := wX2) gR (cX2)
    have bR9 := blk_row (cX2) bR
    have HB9 := Lib.hid (Bl.trans HB0.out (Bl.of_fr FR HB0.out.size (fun k h => by have h9 : k = gR := h; have := HG.out; omega)))
    have HVV := Lib.hid ((V.out.fr FR (fun k _ h2 h3 => by have h9 : k = gR := h3; have := HG.out; omega)).more (Nat.le_refl 0) HB9.out.size)
    have hi9 : (Try.prog.info? 31).map (fun i => i.size) = some (cX2).size := by rw [sz2]; kernel_rfl
    generalize wX2.setRow gR (cX2) = w9 at *
    clear bR bB FR V
    go_wp2
    (try simp only [Exit.inBlock, Exit.then])
    refine bodyPost_ret (results_blk1 rfl _ rfl bR9 hup rfl hi9) rfl ?_
    exact ⟨HB9.out, cX2, rfl, HVV.out⟩
  · exact ⟨false, false, false, false, false, false, false, false, false, false, false, false, false, false, false, false, false, false, false, false, z0, rfl, rfl, (Mix.refl cs szz).congr (fun i => by simp), bO, (Fr.refl _ wk).drew⟩
end Go.Proofs.Ytaifihoheieneaa.Chk
namespace Go.Proofs.Ytaifihoheieneaa.Chk
open Go.RowKit Go.Proofs.Ytaifihoheieneaa.Mem Go.Proofs.Ytaifihoheieneaa.Octet Go.Proofs.Ytaifihoheieneaa.Prm
set_option linter.unusedVariables false
set_option linter.unusedSimpArgs false
set_option maxHeartbeats 8000000 in
set_option maxRecDepth 100000 in
theorem rstrip_3 (lo hi : Nat) (cs : Array Value) (c : Ck) (w : World) (hC : CkV w lo hi cs c) (hhi : hi ≤ w.heap.size) (hBd : CkB c) (hL : CkL c) (hk : c.k = 3) :
    Calls Try.prog 19 #[.agg cs] w (StripC w c) := by
  have hup := Try.underlying31
  have hsz := hC.size
  have B0 : Below w.heap.size w ((w.alloc (.cells cs 31)).alloc (.cells zch 31)) := ((Below.refl _ w).alloc (Nat.le_refl _) _).alloc (by simp) _
  have bB := (Blk.new w cs 31).alloc (.cells zch 31)
  have bR : Blk ((w.alloc (.cells cs 31)).alloc (.cells zch 31)) (w.heap.size + 1) 31 zch := by simpa using Blk.new (w.alloc (.cells cs 31)) zch 31
  have hs1 : ((w.alloc (.cells cs 31)).alloc (.cells zch 31)).heap.size = w.heap.size + 2 := by simp
  have c0 := hC.c0
  rw [hk] at c0
  have HK := Lib.hid hk
  obtain ⟨A14, p14, e14, -⟩ := hC.c14
  obtain ⟨A15, p15, e15, -⟩ := hC.c15
  obtain ⟨A16, p16, e16, -⟩ := hC.c16
  obtain ⟨A17, p17, e17, -⟩ := hC.c17
  obtain ⟨A18, p18, e18, -⟩ := hC.c18
  have cc0 := (bB.cell 0).trans c0
  clear hk
  go_enter Try.func19, Try.ntmps19
  go_upto_region 1 with fail
  generalize (w.alloc (.cells cs 31)).alloc (.cells zch 31) = w1 at *
  have HB0 := Lib.hid B0
  obtain ⟨gB, hgB⟩ : ∃ gB, w.heap.size = gB := ⟨_, rfl⟩
  obtain ⟨gR, hgR⟩ : ∃ gR, w.heap.size + 1 = gR := ⟨_, rfl⟩
  rw [hgR] at bR ⊢
  rw [hgB] at bB cc0 ⊢
  have HG := Lib.hid (And.intro hgB (And.intro hgR hs1))
  have hbR : gR ≠ gB := by omega
  clear hs1 hgR hgB B0
  go_upto_region 2 with fail
  refine wp_region_lit ?_
  refine wpList_plain rfl (fun K hK => ?_)
  go_simp
  refine hK _ _ ?_
  clear hK K
  refine wpList_plain rfl (fun K hK => ?_)
  go_simp
  refine hK _ _ ?_
  clear hK K
  refine wpList_plain rfl (fun K hK => ?_)
  go_simp
  refine hK _ _ ?_
  clear hK K
  refine wpList_plain rfl (fun K hK => ?_)
  go_simp
  refine hK _ _ ?_
  clear hK K
  refine wpList_plain rfl (fun K hK => ?_)
  refine Mem.oper_store (cs0 := zch) (cs := (kz 3)) rfl rfl rfl (Blk.new w1 zch 31) (by kernel_rfl) rfl (kz_one _) ?_
  refine hK _ _ ?_
  clear hK K
  refine wpList_nil ?_
  have F0 : Fr nothing w1 ((w1.alloc (.cells zch 31)).setRow w1.heap.size (kz 3)) := ((Fr.refl nothing w1).alloc _).trans (fr_row w1.heap.size (kz 3)) (fun k hk h => by have h9 : k = w1.heap.size := h; omega)
  have bO := blk_row (kz 3) (Blk.new w1 zch 31)
  have bB1 := bB.fr F0 id
  have bR1 := bR.fr F0 id
  have hltO := bO.lt
  have hgO : gR < w1.heap.size ∧ gB < w1.heap.size := ⟨bR.lt, bB.lt⟩
  have HB1 := Lib.hid (Bl.trans HB0.out (Bl.of_fr F0 HB0.out.size (fun k h => h.elim)))
  have HGO := Lib.hid (show w.heap.size + 2 ≤ w1.heap.size from by have := HG.out; omega)
  generalize (w1.alloc (.cells zch 31)).setRow w1.heap.size (kz 3) = wk at *
  generalize w1.heap.size = gO at *
  clear bB bR F0 HB0 cc0 hltO
  have bB := bB1
  have bR := bR1
  have HB0 := HB1
  have hBO : ¬ only gO gB := fun h => by have h9 : gB = gO := h; omega
  have hRO : ¬ only gO gR := fun h => by have h9 : gR = gO := h; omega
  have szz := kz_size 3
  clear bB1 bR1 HB1
  obtain ⟨q0, q1, q2, q3, q4, q5, q6, q7, q8, q9, q10, q11, q12, q13, q14, q15, q16, q17, q18⟩ := kz_at 3
  generalize hKL : (kz 3) = z0 at *
  clear hKL
  go_upto_region 14 with fail
  refine wp_region_any (by kernel_rfl) ?_
  refine Reg.wpAny_inv (I := fun listed act wq => ∃ (d0 d1 d2 d3 d4 d5 d6 d7 d8 d9 d10 d11 d12 d13 d14 d15 : Bool) (cs' : Array Value), listed = #[d0, d1, d2, d3, d4, d5, d6, d7, d8, d9, d10, d11, d12, d13, d14, d15] ∧ act = ⟨#[Value.agg cs, Value.pointer (some { block := gB, off := 0 }), Value.pointer (some { block := gR, off := 0 }), Value.int IntKind.i64 3, Value.pointer (some { block := gO, off := 0 }), undef, undef, Value.pointer (some { block := gB, off := 0 }), Value.int IntKind.u8 3, Value.int IntKind.i64 3, Value.pointer (some { block := gB, off := 0 }), Value.int IntKind.u8 3, Value.agg #[Value.int IntKind.u8 3, Value.bool false, Value.bool false, Value.bool false, Value.bool false, Value.int IntKind.u32 0, Value.int IntKind.u16 0, Value.int IntKind.u32 0, Value.int IntKind.u32 0, Value.int IntKind.u32 0, Value.int IntKind.u32 0, Value.int IntKind.u32 0, Value.int IntKind.u16 0, Value.int IntKind.u16 0, Value.slice none 0 0, Value.slice none 0 0, Value.slice none 0 0, Value.slice none 0 0, Value.slice none 0 0], Value.int IntKind.i64 3, Value.bool false, Value.bool false, Value.int IntKind.i64 3, Value.bool false, Value.bool false, undef, undef, undef, undef, undef, undef, undef, undef, undef, undef, undef, undef, undef, undef, undef, undef, undef, undef, undef, undef, undef, undef, undef, undef, undef, undef, undef, undef, undef, undef, undef, undef, undef, undef, undef, undef, undef, Value.int IntKind.i64 3, Value.bool false, Value.bool false, Value.int IntKind.i64 3, Value.bool false, Value.bool false, undef, undef, undef, undef, undef, undef, undef, undef, undef, undef, undef, undef, undef, undef, undef, Value.int IntKind.i64 3, Value.bool true, (bif d0 then (.pointer (some ⟨gB, 5, none⟩)) else undef), (bif d1 then (.int .u32 c.tsn) else undef), (bif d2 then (.pointer (some ⟨gB, 11, none⟩)) else undef), (bif d3 then (.int .u32 c.win) else undef), (bif d4 then (.pointer (some ⟨gB, 14, none⟩)) else undef), (bif d5 then (.slice A14 c.gaps.length p14) else undef), (bif d6 then (.pointer (some ⟨gB, 15, none⟩)) else undef), (bif d7 then (.slice A15 c.dups.length p15) else undef), (bif d8 then (.pointer (some ⟨gO, 5, none⟩)) else undef), (bif d10 then (.pointer (some ⟨gO, 11, none⟩)) else undef), (bif d12 then (.pointer (some ⟨gO, 14, none⟩)) else undef), (bif d14 then (.pointer (some ⟨gO, 15, none⟩)) else undef), undef, undef, undef, undef, undef, undef, undef, undef, undef, undef, undef, undef, undef, undef, undef, undef, undef, undef, undef, undef, undef, undef, undef, undef, undef, undef, undef, undef, undef, undef, undef, undef, undef, undef, undef, undef, undef, undef, undef, undef, undef, undef, undef, undef, undef, undef, undef, undef, undef, undef, undef, undef, undef, undef, undef, undef, undef, undef, undef, undef, undef, undef, undef, undef, undef, undef, undef, undef, undef, undef, undef, undef, undef, undef, undef, undef, undef, undef, undef, undef, undef, undef, undef, undef, undef, undef, undef, undef, undef, undef, undef, undef], []⟩ ∧ Mix (z0) cs (fun i => (d9 && i == 5) || ((d11 && i == 11) || ((d13 && i == 14) || ((d15 && i == 15))))) cs' ∧ Blk wq gO 31 cs' ∧ Fr (only gO) wk wq) ?_ ?_ _ _ _ _ (by decide) ?_
  · intro i o listed act wq hi hI hun hdeps K hK
    obtain ⟨d0, d1, d2, d3, d4, d5, d6, d7, d8, d9, d10, d11, d12, d13, d14, d15, cs', rfl, rfl, hM, hZ, hF⟩ := hI
    have hlt : i < 16 := (Array.getElem?_eq_some_iff.1 hi).1
    rcases (show i = 0 ∨ i = 1 ∨ i = 2 ∨ i = 3 ∨ i = 4 ∨ i = 5 ∨ i = 6 ∨ i = 7 ∨ i = 8 ∨ i = 9 ∨ i = 10 ∨ i = 11 ∨ i = 12 ∨ i = 13 ∨ i = 14 ∨ i = 15 by omega) with rfl | rfl | rfl | rfl | rfl | rfl | rfl | rfl | rfl | rfl | rfl | rfl | rfl | rfl | rfl | rfl
    · skip
      obtain rfl : _ = o := Option.some.inj hi
      obtain rfl : d0 = false := by simpa using hun
      clear hun hdeps hi hlt
      go_simp
      exact hK _ _ ⟨true, d1, d2, d3, d4, d5, d6, d7, d8, d9, d10, d11, d12, d13, d14, d15, cs', rfl, rfl, hM, hZ, hF⟩
    · skip
      obtain rfl : _ = o := Option.some.inj hi
      obtain rfl : d1 = false := by simpa using hun
      obtain rfl : d0 = true := hdeps _ (Array.mem_of_getElem? (i := 0) rfl) rfl
      clear hun hdeps hi hlt
      have cc := ((bB.fr hF hBO).cell 5).trans hC.c5
      go_simp
      exact hK _ _ ⟨true, true, d2, d3, d4, d5, d6, d7, d8, d9, d10, d11, d12, d13, d14, d15, cs', rfl, rfl, hM, hZ, hF⟩
    · skip
      obtain rfl : _ = o := Option.some.inj hi
      obtain rfl : d2 = false := by simpa using hun
      clear hun hdeps hi hlt
      go_simp
      exact hK _ _ ⟨d0, d1, true, d3, d4, d5, d6, d7, d8, d9, d10, d11, d12, d13, d14, d15, cs', rfl, rfl, hM, hZ, hF⟩
    · skip
      obtain rfl : _ = o := Option.some.inj hi
      obtain rfl : d3 = false := by simpa using hun
      obtain rfl : d2 = true := hdeps _ (Array.mem_of_getElem? (i := 0) rfl) rfl
      clear hun hdeps hi hlt
      have cc := ((bB.fr hF hBO).cell 11).trans hC.c11
      go_simp
      exact hK _ _ ⟨d0, d1, true, true, d4, d5, d6, d7, d8, d9, d10, d11, d12, d13, d14, d15, cs', rfl, rfl, hM, hZ, hF⟩
    · skip
      obtain rfl : _ = o := Option.some.inj hi
      obtain rfl : d4 = false := by simpa using hun
      clear hun hdeps hi hlt
      go_simp
      exact hK _ _ ⟨d0, d1, d2, d3, true, d5, d6, d7, d8, d9, d10, d11, d12, d13, d14, d15, cs', rfl, rfl, hM, hZ, hF⟩
    · skip
      obtain rfl : _ = o := Option.some.inj hi
      obtain rfl : d5 = false := by simpa using hun
      obtain rfl : d4 = true := hdeps _ (Array.mem_of_getElem? (i := 0) rfl) rfl
      clear hun hdeps hi hlt
      have cc := ((bB.fr hF hBO).cell 14).trans e14
      go_simp
      exact hK _ _ ⟨d0, d1, d2, d3, true, true, d6, d7, d8, d9, d10, d11, d12, d13, d14, d15, cs', rfl, rfl, hM, hZ, hF⟩
    · skip
      obtain rfl : _ = o := Option.some.inj hi
      obtain rfl : d6 = false := by simpa using hun
      clear hun hdeps hi hlt
      go_simp
      exact hK _ _ ⟨d0, d1, d2, d3, d4, d5, true, d7, d8, d9, d10, d11, d12, d13, d14, d15, cs', rfl, rfl, hM, hZ, hF⟩
    · skip
      obtain rfl : _ = o := Option.some.inj hi
      obtain rfl : d7 = false := by simpa using hun
      obtain rfl : d6 = true := hdeps _ (Array.mem_of_getElem? (i := 0) rfl) rfl
      clear hun hdeps hi hlt
      have cc := ((bB.fr hF hBO).cell 15).trans e15
      go_simp
      exact hK _ _ ⟨d0, d1, d2, d3, d4, d5, true, true, d8, d9, d10, d11, d12, d13, d14, d15, cs', rfl, rfl, hM, hZ, hF⟩
    · skip
      obtain rfl : _ = o := Option.some.inj hi
      obtain rfl : d8 = false := by simpa using hun
      clear hun hdeps hi hlt
      go_simp
      exact hK _ _ ⟨d0, d1, d2, d3, d4, d5, d6, d7, true, d9, d10, d11, d12, d13, d14, d15, cs', rfl, rfl, hM, hZ, hF⟩
    · skip
      obtain rfl : _ = o := Option.some.inj hi
      obtain rfl : d9 = false := by simpa using hun
      obtain rfl : d8 = true := hdeps _ (Array.mem_of_getElem? (i := 0) rfl) rfl
      obtain rfl : d1 = true := hdeps _ (Array.mem_of_getElem? (i := 1) rfl) rfl
      clear hun hdeps hi hlt
      have cz := hZ.cell 5
      have fz := hZ.frozen 5
      have fm := Array.getElem?_eq_getElem (xs := cs') (i := 5) (by rw [hM.size]; decide)
      rw [fm] at cz
      clear fm
      go_simp
      exact hK _ _ ⟨d0, true, d2, d3, d4, d5, d6, d7, true, true, d10, d11, d12, d13, d14, d15, cs'.setIfInBounds 5 (.int .u32 c.tsn), rfl, rfl, (hM.set hC.c5 (by decide)).congr (fun i => by simp only [Bool.false_and, Bool.true_and, Bool.false_or]; ac_rfl), hZ.set 5 _, hF.set_only 5 none _⟩
    · skip
      obtain rfl : _ = o := Option.some.inj hi
      obtain rfl : d10 = false := by simpa using hun
      clear hun hdeps hi hlt
      go_simp
      exact hK _ _ ⟨d0, d1, d2, d3, d4, d5, d6, d7, d8, d9, true, d11, d12, d13, d14, d15, cs', rfl, rfl, hM, hZ, hF⟩
    · skip
      obtain rfl : _ = o := Option.some.inj hi
      obtain rfl : d11 = false := by simpa using hun
      obtain rfl : d10 = true := hdeps _ (Array.mem_of_getElem? (i := 0) rfl) rfl
      obtain rfl : d3 = true := hdeps _ (Array.mem_of_getElem? (i := 1) rfl) rfl
      obtain rfl : d9 = true := hdeps _ (Array.mem_of_getElem? (i := 2) rfl) rfl
      clear hun hdeps hi hlt
      have cz := hZ.cell 11
      have fz := hZ.frozen 11
      have fm := Array.getElem?_eq_getElem (xs := cs') (i := 11) (by rw [hM.size]; decide)
      rw [fm] at cz
      clear fm
      go_simp
      exact hK _ _ ⟨d0, d1, d2, true, d4, d5, d6, d7, d8, true, true, true, d12, d13, d14, d15, cs'.setIfInBounds 11 (.int .u32 c.win), rfl, rfl, (hM.set hC.c11 (by decide)).congr (fun i => by simp only [Bool.false_and, Bool.true_and, Bool.false_or]; ac_rfl), hZ.set 11 _, hF.set_only 11 none _⟩
    · skip
      obtain rfl : _ = o := Option.some.inj hi
      obtain rfl : d12 = false := by simpa using hun
      clear hun hdeps hi hlt
      go_simp
      exact hK _ _ ⟨d0, d1, d2, d3, d4, d5, d6, d7, d8, d9, d10, d11, true, d13, d14, d15, cs', rfl, rfl, hM, hZ, hF⟩
    · skip
      obtain rfl : _ = o := Option.some.inj hi
      obtain rfl : d13 = false := by simpa using hun
      obtain rfl : d12 = true := hdeps _ (Array.mem_of_getElem? (i := 0) rfl) rfl
      obtain rfl : d5 = true := hdeps _ (Array.mem_of_getElem? (i := 1) rfl) rfl
      obtain rfl : d11 = true := hdeps _ (Array.mem_of_getElem? (i := 2) rfl) rfl
      clear hun hdeps hi hlt
      have cz := hZ.cell 14
      have fz := hZ.frozen 14
      have fm := Array.getElem?_eq_getElem (xs := cs') (i := 14) (by rw [hM.size]; decide)
      rw [fm] at cz
      clear fm
      go_simp
      exact hK _ _ ⟨d0, d1, d2, d3, d4, true, d6, d7, d8, d9, d10, true, true, true, d14, d15, cs'.setIfInBounds 14 (.slice A14 c.gaps.length p14), rfl, rfl, (hM.set e14 (by decide)).congr (fun i => by simp only [Bool.false_and, Bool.true_and, Bool.false_or]; ac_rfl), hZ.set 14 _, hF.set_only 14 none _⟩
    · skip
      obtain rfl : _ = o := Option.some.inj hi
      obtain rfl : d14 = false := by simpa using hun
      clear hun hdeps hi hlt
      go_simp
      exact hK _ _ ⟨d0, d1, d2, d3, d4, d5, d6, d7, d8, d9, d10, d11, d12, d13, true, d15, cs', rfl, rfl, hM, hZ, hF⟩
    · skip
      obtain rfl : _ = o := Option.some.inj hi
      obtain rfl : d15 = false := by simpa using hun
      obtain rfl : d14 = true := hdeps _ (Array.mem_of_getElem? (i := 0) rfl) rfl
      obtain rfl : d7 = true := hdeps _ (Array.mem_of_getElem? (i := 1) rfl) rfl
      obtain rfl : d13 = true := hdeps _ (Array.mem_of_getElem? (i := 2) rfl) rfl
      clear hun hdeps hi hlt
      have cz := hZ.cell 15
      have fz := hZ.frozen 15
      have fm := Array.getElem?_eq_getElem (xs := cs') (i := 15) (by rw [hM.size]; decide)
      rw [fm] at cz
      clear fm
      go_simp
      exact hK _ _ ⟨d0, d1, d2, d3, d4, d5, d6, true, d8, d9, d10, d11, d12, true, true, true, cs'.setIfInBounds 15 (.slice A15 c.dups.length p15), rfl, rfl, (hM.set e15 (by decide)).congr (fun i => by simp only [Bool.false_and, Bool.true_and, Bool.false_or]; ac_rfl), hZ.set 15 _, hF.set_only 15 none _⟩
  · intro listed act wq hI hr0
    obtain ⟨d0, d1, d2, d3, d4, d5, d6, d7, d8, d9, d10, d11, d12, d13, d14, d15, cs', rfl, rfl, hM, hZ, hF⟩ := hI
    have hall := Reg.all_of_done (by kernel_rfl) rfl hr0
    obtain rfl : d0 = true := hall 0 (by decide)
    obtain rfl : d1 = true := hall 1 (by decide)
    obtain rfl : d2 = true := hall 2 (by decide)
    obtain rfl : d3 = true := hall 3 (by decide)
    obtain rfl : d4 = true := hall 4 (by decide)
    obtain rfl : d5 = true := hall 5 (by decide)
    obtain rfl : d6 = true := hall 6 (by decide)
    obtain rfl : d7 = true := hall 7 (by decide)
    obtain rfl : d8 = true := hall 8 (by decide)
    obtain rfl : d9 = true := hall 9 (by decide)
    obtain rfl : d10 = true := hall 10 (by decide)
    obtain rfl : d11 = true := hall 11 (by decide)
    obtain rfl : d12 = true := hall 12 (by decide)
    obtain rfl : d13 = true := hall 13 (by decide)
    obtain rfl : d14 = true := hall 14 (by decide)
    obtain rfl : d15 = true := hall 15 (by decide)
    clear hall hr0
    simp only [cond_true]
    have m1 := hM.congr (S' := fun i => i == 5 || (i == 11 || (i == 14 || (i == 15)))) (fun i => by simp)
    have sz1 := m1.size
    have FS := hF
    have bO1 := hZ
    have bB1 := bB.fr FS hBO
    have bR1 := bR.fr FS hRO
    clear hM hZ hF
    have HB1 := Lib.hid (Bl.trans HB0.out (Bl.of_fr FS HB0.out.size (fun k h => by have h9 : k = gO := h; have := HGO.out; omega)))
    clear bB bR bO HB0
    have bB := bB1
    have bR := bR1
    have bO := bO1
    have HB0 := HB1
    clear bB1 bR1 bO1 HB1 FS
    generalize wq = wQ1 at *
    generalize cs' = cQ1 at *
    go_upto_region 32 with fail
    refine wp_region_lit ?_
    refine wpList_plain rfl (fun K hK => ?_)
    refine Mem.oper_load rfl rfl bO hup rfl (by rw [sz1]; kernel_rfl) ?_
    refine hK _ _ ?_
    clear hK K
    have hC9 := (hC.bl HB0.out hhi).more (Nat.zero_le lo) hhi
    obtain ⟨B14, u14, z14, y14⟩ := hC9.c14
    obtain ⟨B15, u15, z15, y15⟩ := hC9.c15
    obtain ⟨B16, u16, z16, y16⟩ := hC9.c16
    obtain ⟨B17, u17, z17, y17⟩ := hC9.c17
    obtain ⟨B18, u18, z18, y18⟩ := hC9.c18
    have hst : strip c = ⟨3, false, false, false, false, c.tsn, 0, 0, 0, 0, 0, c.win, 0, 0, c.gaps, c.dups, [], [], []⟩ := by unfold strip zC; simp [HK.out]
    have V := Lib.hid (show CkV wQ1 0 w.heap.size (cQ1) (strip c) from by
      rw [hst]
      exact ckv_mk sz1 (((m1.at_ 0).trans (if_neg (by decide))).trans q0) (((m1.at_ 1).trans (if_neg (by decide))).trans q1) (((m1.at_ 2).trans (if_neg (by decide))).trans q2) (((m1.at_ 3).trans (if_neg (by decide))).trans q3) (((m1.at_ 4).trans (if_neg (by decide))).trans q4) ((m1.at_ 5).trans ((if_pos (by decide)).trans hC.c5)) (((m1.at_ 6).trans (if_neg (by decide))).trans q6) (((m1.at_ 7).trans (if_neg (by decide))).trans q7) (((m1.at_ 8).trans (if_neg (by decide))).trans q8) (((m1.at_ 9).trans (if_neg (by decide))).trans q9) (((m1.at_ 10).trans (if_neg (by decide))).trans q10) ((m1.at_ 11).trans ((if_pos (by decide)).trans hC.c11)) (((m1.at_ 12).trans (if_neg (by decide))).trans q12) (((m1.at_ 13).trans (if_neg (by decide))).trans q13) ⟨B14, u14, ((m1.at_ 14).trans ((if_pos (by decide)).trans e14)).trans (e14.symm.trans z14), y14⟩ ⟨B15, u15, ((m1.at_ 15).trans ((if_pos (by decide)).trans e15)).trans (e15.symm.trans z15), y15⟩ ⟨none, 0, (((m1.at_ 16).trans (if_neg (by decide))).trans q16), no_skp⟩ ⟨none, 0, (((m1.at_ 17).trans (if_neg (by decide))).trans q17), no_pm⟩ ⟨none, 0, (((m1.at_ 18).trans (if_neg (by decide))).trans q18), no_by⟩)
    clear hst hC9 z14 y14 z15 y15 z16 y16 z17 y17 z18 y18
    refine wpList_plain rfl (fun K hK => ?_)
    refine Mem.oper_store (cs0 := zch) (cs := cQ1) rfl rfl rfl bR (by rw [sz1]; kernel_rfl) (by rw [sz1]; rfl) V.out.one ?_
    refine hK _ _ ?_
    clear hK K
    refine wpList_nil ?_
    have FR := fr_row (w := wQ1) gR (cQ1)
    have bR9 := blk_row (cQ1) bR
    have HB9 := Lib.hid (Bl.trans HB0.out (Bl.of_fr FR HB0.out.size (fun k h => by have h9 : k = gR := h; have := HG.out; omega)))
    have HVV := Lib.hid ((V.out.fr FR (fun k _ h2 h3 => by have h9 : k = gR := h3; have := HG.out; omega)).more (Nat.le_refl 0) HB9.out.size)
    have hi9 : (Try.prog.info? 31).map (fun i => i.size) = some (cQ1).size := by rw [sz1]; kernel_rfl
    generalize wQ1.setRow gR (cQ1) = w9 at *
    clear bR bB FR V
    go_wp2
    (try simp only [Exit.inBlock, Exit.then])
    refine bodyPost_ret (results_blk1 rfl _ rfl bR9 hup rfl hi9) rfl ?_
    exact ⟨HB9.out, cQ1, rfl, HVV.out⟩
  · exact ⟨false, false, false, false, false, false, false, false, false, false, false, false, false, false, false, false, z0, rfl, rfl, (Mix.refl cs szz).congr (fun i => by simp), bO, (Fr.refl _ wk).drew⟩
end Go.Proofs.Ytaifihoheieneaa.Chk
namespace Go.Proofs.Ytaifihoheieneaa.Chk
open Go.RowKit Go.Proofs.Ytaifihoheieneaa.Mem Go.Proofs.Ytaifihoheieneaa.Octet Go.Proofs.Ytaifihoheieneaa.Prm
set_option linter.unusedVariables false
set_option linter.unusedSimpArgs false
set_option maxHeartbeats 8000000 in
set_option maxRecDepth 100000 in
theorem rstrip_0 (lo hi : Nat) (cs : Array Value) (c : Ck) (w : World) (hC : CkV w lo hi cs c) (hhi : hi ≤ w.heap.size) (hBd : CkB c) (hL : CkL c) (hk : c.k = 0) :
    Calls Try.prog 19 #[.agg cs] w (StripC w c) := by
  have hup := Try.underlying31
  have hsz := hC.size
  have B0 : Below w.heap.size w ((w.alloc (.cells cs 31)).alloc (.cells zch 31)) := ((Below.refl _ w).alloc (Nat.le_refl _) _).alloc (by simp) _
  have bB := (Blk.new w cs 31).alloc (.cells zch 31)
  have bR : Blk ((w.alloc (.cells cs 31)).alloc (.cells zch 31)) (w.heap.size + 1) 31 zch := by simpa using Blk.new (w.alloc (.cells cs 31)) zch 31
  have hs1 : ((w.alloc (.cells cs 31)).alloc (.cells zch 31)).heap.size = w.heap.size + 2 := by simp
  have c0 := hC.c0
  rw [hk] at c0
  have HK := Lib.hid hk
  obtain ⟨A14, p14, e14, -⟩ := hC.c14
  obtain ⟨A15, p15, e15, -⟩ := hC.c15
  obtain ⟨A16, p16, e16, -⟩ := hC.c16
  obtain ⟨A17, p17, e17, -⟩ := hC.c17
  obtain ⟨A18, p18, e18, -⟩ := hC.c18
  have cc0 := (bB.cell 0).trans c0
  clear hk
  go_enter Try.func19, Try.ntmps19
  go_upto_region 1 with fail
  generalize (w.alloc (.cells cs 31)).alloc (.cells zch 31) = w1 at *
  have HB0 := Lib.hid B0
  obtain ⟨gB, hgB⟩ : ∃ gB, w.heap.size = gB := ⟨_, rfl⟩
  obtain ⟨gR, hgR⟩ : ∃ gR, w.heap.size + 1 = gR := ⟨_, rfl⟩
  rw [hgR] at bR ⊢
  rw [hgB] at bB cc0 ⊢
  have HG := Lib.hid (And.intro hgB (And.intro hgR hs1))
  have hbR : gR ≠ gB := by omega
  clear hs1 hgR hgB B0
  go_upto_region 2 with fail
  refine wp_region_lit ?_
  refine wpList_plain rfl (fun K hK => ?_)
  go_simp
  refine hK _ _ ?_
  clear hK K
  refine wpList_plain rfl (fun K hK => ?_)
  go_simp
  refine hK _ _ ?_
  clear hK K
  refine wpList_plain rfl (fun K hK => ?_)
  go_simp
  refine hK _ _ ?_
  clear hK K
  refine wpList_plain rfl (fun K hK => ?_)
  go_simp
  refine hK _ _ ?_
  clear hK K
  refine wpList_plain rfl (fun K hK => ?_)
  refine Mem.oper_store (cs0 := zch) (cs := (kz 0)) rfl rfl rfl (Blk.new w1 zch 31) (by kernel_rfl) rfl (kz_one _) ?_
  refine hK _ _ ?_
  clear hK K
  refine wpList_nil ?_
  have F0 : Fr nothing w1 ((w1.alloc (.cells zch 31)).setRow w1.heap.size (kz 0)) := ((Fr.refl nothing w1).alloc _).trans (fr_row w1.heap.size (kz 0)) (fun k hk h => by have h9 : k = w1.heap.size := h; omega)
  have bO := blk_row (kz 0) (Blk.new w1 zch 31)
  have bB1 := bB.fr F0 id
  have bR1 := bR.fr F0 id
  have hltO := bO.lt
  have hgO : gR < w1.heap.size ∧ gB < w1.heap.size := ⟨bR.lt, bB.lt⟩
  have HB1 := Lib.hid (Bl.trans HB0.out (Bl.of_fr F0 HB0.out.size (fun k h => h.elim)))
  have HGO := Lib.hid (show w.heap.size + 2 ≤ w1.heap.size from by have := HG.out; omega)
  generalize (w1.alloc (.cells zch 31)).setRow w1.heap.size (kz 0) = wk at *
  generalize w1.heap.size = gO at *
  clear bB bR F0 HB0 cc0 hltO
  have bB := bB1
  have bR := bR1
  have HB0 := HB1
  have hBO : ¬ only gO gB := fun h => by have h9 : gB = gO := h; omega
  have hRO : ¬ only gO gR := fun h => by have h9 : gR = gO := h; omega
  have szz := kz_size 0
  clear bB1 bR1 HB1
  obtain ⟨q0, q1, q2, q3, q4, q5, q6, q7, q8, q9, q10, q11, q12, q13, q14, q15, q16, q17, q18⟩ := kz_at 0
  generalize hKL : (kz 0) = z0 at *
  clear hKL
  go_upto_region 4 with fail
  refine wp_region_any (by kernel_rfl) ?_
  refine Reg.wpAny_inv (I := fun listed act wq => ∃ (d0 d1 d2 d3 d4 d5 d6 d7 d8 d9 d10 d11 : Bool) (cs' : Array Value), listed = #[d0, d1, d2, d3, d4, d5, d6, d7, d8, d9, d10, d11] ∧ act = ⟨#[Value.agg cs, Value.pointer (some { block := gB, off := 0 }), Value.pointer (some { block := gR, off := 0 }), Value.int IntKind.i64 0, Value.pointer (some { block := gO, off := 0 }), undef, undef, Value.pointer (some { block := gB, off := 0 }), Value.int IntKind.u8 0, Value.int IntKind.i64 0, Value.pointer (some { block := gB, off := 0 }), Value.int IntKind.u8 0, Value.agg #[Value.int IntKind.u8 0, Value.bool false, Value.bool false, Value.bool false, Value.bool false, Value.int IntKind.u32 0, Value.int IntKind.u16 0, Value.int IntKind.u32 0, Value.int IntKind.u32 0, Value.int IntKind.u32 0, Value.int IntKind.u32 0, Value.int IntKind.u32 0, Value.int IntKind.u16 0, Value.int IntKind.u16 0, Value.slice none 0 0, Value.slice none 0 0, Value.slice none 0 0, Value.slice none 0 0, Value.slice none 0 0], Value.int IntKind.i64 0, Value.bool true, Value.bool true, undef, undef, Value.bool true, (bif d0 then (.pointer (some ⟨gB, 1, none⟩)) else undef), (bif d1 then (.bool c.b) else undef), (bif d2 then (.pointer (some ⟨gB, 2, none⟩)) else undef), (bif d3 then (.bool c.e) else undef), (bif d4 then (.pointer (some ⟨gB, 3, none⟩)) else undef), (bif d5 then (.bool c.l) else undef), (bif d6 then (.pointer (some ⟨gO, 1, none⟩)) else undef), (bif d8 then (.pointer (some ⟨gO, 2, none⟩)) else undef), (bif d10 then (.pointer (some ⟨gO, 3, none⟩)) else undef), undef, undef, undef, undef, undef, undef, undef, undef, undef, undef, undef, undef, undef, undef, undef, undef, undef, undef, undef, undef, undef, undef, undef, undef, undef, undef, undef, undef, undef, undef, undef, undef, undef, undef, undef, undef, undef, undef, undef, undef, undef, undef, undef, undef, undef, undef, undef, undef, undef, undef, undef, undef, undef, undef, undef, undef, undef, undef, undef, undef, undef, undef, undef, undef, undef, undef, undef, undef, undef, undef, undef, undef, undef, undef, undef, undef, undef, undef, undef, undef, undef, undef, undef, undef, undef, undef, undef, undef, undef, undef, undef, undef, undef, undef, undef, undef, undef, undef, undef, undef, undef, undef, undef, undef, undef, undef, undef, undef, undef, undef, undef, undef, undef, undef, undef, undef, undef, undef, undef, undef, undef, undef, undef, undef, undef, undef, undef, undef, undef, undef, undef, undef, undef, undef, undef, undef, undef, undef, undef, undef, undef, undef, undef, undef, undef, undef, undef, undef, undef, undef, undef, undef, undef, undef, undef], []⟩ ∧ Mix (z0) cs (fun i => (d7 && i == 1) || ((d9 && i == 2) || ((d11 && i == 3)))) cs' ∧ Blk wq gO 31 cs' ∧ Fr (only gO) wk wq) ?_ ?_ _ _ _ _ (by decide) ?_
  · intro i o listed act wq hi hI hun hdeps K hK
    obtain ⟨d0, d1, d2, d3, d4, d5, d6, d7, d8, d9, d10, d11, cs', rfl, rfl, hM, hZ, hF⟩ := hI
    have hlt : i < 12 := (Array.getElem?_eq_some_iff.1 hi).1
    rcases (show i = 0 ∨ i = 1 ∨ i = 2 ∨ i = 3 ∨ i = 4 ∨ i = 5 ∨ i = 6 ∨ i = 7 ∨ i = 8 ∨ i = 9 ∨ i = 10 ∨ i = 11 by omega) with rfl | rfl | rfl | rfl | rfl | rfl | rfl | rfl | rfl | rfl | rfl | rfl
    · skip
      obtain rfl : _ = o := Option.some.inj hi
      obtain rfl : d0 = false := by simpa using hun
      clear hun hdeps hi hlt
      go_simp
      exact hK _ _ ⟨true, d1, d2, d3, d4, d5, d6, d7, d8, d9, d10, d11, cs', rfl, rfl, hM, hZ, hF⟩
    · skip
      obtain rfl : _ = o := Option.some.inj hi
      obtain rfl : d1 = false := by simpa using hun
      obtain rfl : d0 = true := hdeps _ (Array.mem_of_getElem? (i := 0) rfl) rfl
      clear hun hdeps hi hlt
      have cc := ((bB.fr hF hBO).cell 1).trans hC.c1
      go_simp
      exact hK _ _ ⟨true, true, d2, d3, d4, d5, d6, d7, d8, d9, d10, d11, cs', rfl, rfl, hM, hZ, hF⟩
    · skip
      obtain rfl : _ = o := Option.some.inj hi
      obtain rfl : d2 = false := by simpa using hun
      clear hun hdeps hi hlt
      go_simp
      exact hK _ _ ⟨d0, d1, true, d3, d4, d5, d6, d7, d8, d9, d10, d11, cs', rfl, rfl, hM, hZ, hF⟩
    · skip
      obtain rfl : _ = o := Option.some.inj hi
      obtain rfl : d3 = false := by simpa using hun
      obtain rfl : d2 = true := hdeps _ (Array.mem_of_getElem? (i := 0) rfl) rfl
      clear hun hdeps hi hlt
      have cc := ((bB.fr hF hBO).cell 2).trans hC.c2
      go_simp
      exact hK _ _ ⟨d0, d1, true, true, d4, d5, d6, d7, d8, d9, d10, d11, cs', rfl, rfl, hM, hZ, hF⟩
    · skip
      obtain rfl : _ = o := Option.some.inj hi
      obtain rfl : d4 = false := by simpa using hun
      clear hun hdeps hi hlt
      go_simp
      exact hK _ _ ⟨d0, d1, d2, d3, true, d5, d6, d7, d8, d9, d10, d11, cs', rfl, rfl, hM, hZ, hF⟩
    · skip
      obtain rfl : _ = o := Option.some.inj hi
      obtain rfl : d5 = false := by simpa using hun
      obtain rfl : d4 = true := hdeps _ (Array.mem_of_getElem? (i := 0) rfl) rfl
      clear hun hdeps hi hlt
      have cc := ((bB.fr hF hBO).cell 3).trans hC.c3
      go_simp
      exact hK _ _ ⟨d0, d1, d2, d3, true, true, d6, d7, d8, d9, d10, d11, cs', rfl, rfl, hM, hZ, hF⟩
    · skip
      obtain rfl : _ = o := Option.some.inj hi
      obtain rfl : d6 = false := by simpa using hun
      clear hun hdeps hi hlt
      go_simp
      exact hK _ _ ⟨d0, d1, d2, d3, d4, d5, true, d7, d8, d9, d10, d11, cs', rfl, rfl, hM, hZ, hF⟩
    · skip
      obtain rfl : _ = o := Option.some.inj hi
      obtain rfl : d7 = false := by simpa using hun
      obtain rfl : d6 = true := hdeps _ (Array.mem_of_getElem? (i := 0) rfl) rfl
      obtain rfl : d1 = true := hdeps _ (Array.mem_of_getElem? (i := 1) rfl) rfl
      clear hun hdeps hi hlt
      have cz := hZ.cell 1
      have fz := hZ.frozen 1
      have fm := Array.getElem?_eq_getElem (xs := cs') (i := 1) (by rw [hM.size]; decide)
      rw [fm] at cz
      clear fm
      go_simp
      exact hK _ _ ⟨d0, true, d2, d3, d4, d5, true, true, d8, d9, d10, d11, cs'.setIfInBounds 1 (.bool c.b), rfl, rfl, (hM.set hC.c1 (by decide)).congr (fun i => by simp only [Bool.false_and, Bool.true_and, Bool.false_or]; ac_rfl), hZ.set 1 _, hF.set_only 1 none _⟩
    · skip
      obtain rfl : _ = o := Option.some.inj hi
      obtain rfl : d8 = false := by simpa using hun
      clear hun hdeps hi hlt
      go_simp
      exact hK _ _ ⟨d0, d1, d2, d3, d4, d5, d6, d7, true, d9, d10, d11, cs', rfl, rfl, hM, hZ, hF⟩
    · skip
      obtain rfl : _ = o := Option.some.inj hi
      obtain rfl : d9 = false := by simpa using hun
      obtain rfl : d8 = true := hdeps _ (Array.mem_of_getElem? (i := 0) rfl) rfl
      obtain rfl : d3 = true := hdeps _ (Array.mem_of_getElem? (i := 1) rfl) rfl
      obtain rfl : d7 = true := hdeps _ (Array.mem_of_getElem? (i := 2) rfl) rfl
      clear hun hdeps hi hlt
      have cz := hZ.cell 2
      have fz := hZ.frozen 2
      have fm := Array.getElem?_eq_getElem (xs := cs') (i := 2) (by rw [hM.size]; decide)
      rw [fm] at cz
      clear fm
      go_simp
      exact hK _ _ ⟨d0, d1, d2, true, d4, d5, d6, true, true, true, d10, d11, cs'.setIfInBounds 2 (.bool c.e), rfl, rfl, (hM.set hC.c2 (by decide)).congr (fun i => by simp only [Bool.false_and, Bool.true_and, Bool.false_or]; ac_rfl), hZ.set 2 _, hF.set_only 2 none _⟩
    · skip
      obtain rfl : _ = o := Option.some.inj hi
      obtain rfl : d10 = false := by simpa using hun
      clear hun hdeps hi hlt
      go_simp
      exact hK _ _ ⟨d0, d1, d2, d3, d4, d5, d6, d7, d8, d9, true, d11, cs', rfl, rfl, hM, hZ, hF⟩
    · skip
      obtain rfl : _ = o := Option.some.inj hi
      obtain rfl : d11 = false := by simpa using hun
      obtain rfl : d10 = true := hdeps _ (Array.mem_of_getElem? (i := 0) rfl) rfl
      obtain rfl : d5 = true := hdeps _ (Array.mem_of_getElem? (i := 1) rfl) rfl
      obtain rfl : d9 = true := hdeps _ (Array.mem_of_getElem? (i := 2) rfl) rfl
      clear hun hdeps hi hlt
      have cz := hZ.cell 3
      have fz := hZ.frozen 3
      have fm := Array.getElem?_eq_getElem (xs := cs') (i := 3) (by rw [hM.size]; decide)
      rw [fm] at cz
      clear fm
      go_simp
      exact hK _ _ ⟨d0, d1, d2, d3, d4, true, d6, d7, d8, true, true, true, cs'.setIfInBounds 3 (.bool c.l), rfl, rfl, (hM.set hC.c3 (by decide)).congr (fun i => by simp only [Bool.false_and, Bool.true_and, Bool.false_or]; ac_rfl), hZ.set 3 _, hF.set_only 3 none _⟩
  · intro listed act wq hI hr0
    obtain ⟨d0, d1, d2, d3, d4, d5, d6, d7, d8, d9, d10, d11, cs', rfl, rfl, hM, hZ, hF⟩ := hI
    have hall := Reg.all_of_done (by kernel_rfl) rfl hr0
    obtain rfl : d0 = true := hall 0 (by decide)
    obtain rfl : d1 = true := hall 1 (by decide)
    obtain rfl : d2 = true := hall 2 (by decide)
    obtain rfl : d3 = true := hall 3 (by decide)
    obtain rfl : d4 = true := hall 4 (by decide)
    obtain rfl : d5 = true := hall 5 (by decide)
    obtain rfl : d6 = true := hall 6 (by decide)
    obtain rfl : d7 = true := hall 7 (by decide)
    obtain rfl : d8 = true := hall 8 (by decide)
    obtain rfl : d9 = true := hall 9 (by decide)
    obtain rfl : d10 = true := hall 10 (by decide)
    obtain rfl : d11 = true := hall 11 (by decide)
    clear hall hr0
    simp only [cond_true]
    have m1 := hM.congr (S' := fun i => i == 1 || (i == 2 || (i == 3))) (fun i => by simp)
    have sz1 := m1.size
    have FS := hF
    have bO1 := hZ
    have bB1 := bB.fr FS hBO
    have bR1 := bR.fr FS hRO
    clear hM hZ hF
    have HB1 := Lib.hid (Bl.trans HB0.out (Bl.of_fr FS HB0.out.size (fun k h => by have h9 : k = gO := h; have := HGO.out; omega)))
    clear bB bR bO HB0
    have bB := bB1
    have bR := bR1
    have bO := bO1
    have HB0 := HB1
    clear bB1 bR1 bO1 HB1 FS
    generalize wq = wQ1 at *
    generalize cs' = cQ1 at *
    go_upto_region 5 with fail
    refine wp_region_any (by kernel_rfl) ?_
    refine Reg.wpAny_inv (I := fun listed act wq => ∃ (d0 d1 d2 d3 d4 d5 d6 d7 d8 d9 d10 d11 : Bool) (cs' : Array Value), listed = #[d0, d1, d2, d3, d4, d5, d6, d7, d8, d9, d10, d11] ∧ act = ⟨#[Value.agg cs, Value.pointer (some { block := gB, off := 0 }), Value.pointer (some { block := gR, off := 0 }), Value.int IntKind.i64 0, Value.pointer (some { block := gO, off := 0 }), undef, undef, Value.pointer (some { block := gB, off := 0 }), Value.int IntKind.u8 0, Value.int IntKind.i64 0, Value.pointer (some { block := gB, off := 0 }), Value.int IntKind.u8 0, Value.agg #[Value.int IntKind.u8 0, Value.bool false, Value.bool false, Value.bool false, Value.bool false, Value.int IntKind.u32 0, Value.int IntKind.u16 0, Value.int IntKind.u32 0, Value.int IntKind.u32 0, Value.int IntKind.u32 0, Value.int IntKind.u32 0, Value.int IntKind.u32 0, Value.int IntKind.u16 0, Value.int IntKind.u16 0, Value.slice none 0 0, Value.slice none 0 0, Value.slice none 0 0, Value.slice none 0 0, Value.slice none 0 0], Value.int IntKind.i64 0, Value.bool true, Value.bool true, undef, undef, Value.bool true, .pointer (some ⟨gB, 1, none⟩), .bool c.b, .pointer (some ⟨gB, 2, none⟩), .bool c.e, .pointer (some ⟨gB, 3, none⟩), .bool c.l, .pointer (some ⟨gO, 1, none⟩), .pointer (some ⟨gO, 2, none⟩), .pointer (some ⟨gO, 3, none⟩), (bif d0 then (.pointer (some ⟨gB, 5, none⟩)) else undef), (bif d1 then (.int .u32 c.tsn) else undef), (bif d2 then (.pointer (some ⟨gB, 6, none⟩)) else undef), (bif d3 then (.int .u16 c.st) else undef), (bif d4 then (.pointer (some ⟨gB, 7, none⟩)) else undef), (bif d5 then (.int .u32 c.mid) else undef), (bif d6 then (.pointer (some ⟨gO, 5, none⟩)) else undef), (bif d8 then (.pointer (some ⟨gO, 6, none⟩)) else undef), (bif d10 then (.pointer (some ⟨gO, 7, none⟩)) else undef), undef, undef, undef, undef, undef, undef, undef, undef, undef, undef, undef, undef, undef, undef, undef, undef, undef, undef, undef, undef, undef, undef, undef, undef, undef, undef, undef, undef, undef, undef, undef, undef, undef, undef, undef, undef, undef, undef, undef, undef, undef, undef, undef, undef, undef, undef, undef, undef, undef, undef, undef, undef, undef, undef, undef, undef, undef, undef, undef, undef, undef, undef, undef, undef, undef, undef, undef, undef, undef, undef, undef, undef, undef, undef, undef, undef, undef, undef, undef, undef, undef, undef, undef, undef, undef, undef, undef, undef, undef, undef, undef, undef, undef, undef, undef, undef, undef, undef, undef, undef, undef, undef, undef, undef, undef, undef, undef, undef, undef, undef, undef, undef, undef, undef, undef, undef, undef, undef, undef, undef, undef, undef, undef, undef, undef, undef, undef, undef, undef, undef, undef, undef, undef, undef, undef, undef, undef, undef, undef, undef, undef, undef, undef, undef, undef, undef], []⟩ ∧ Mix (cQ1) cs (fun i => (d7 && i == 5) || ((d9 && i == 6) || ((d11 && i == 7)))) cs' ∧ Blk wq gO 31 cs' ∧ Fr (only gO) wQ1 wq) ?_ ?_ _ _ _ _ (by decide) ?_
    · intro i o listed act wq hi hI hun hdeps K hK
      obtain ⟨d0, d1, d2, d3, d4, d5, d6, d7, d8, d9, d10, d11, cs', rfl, rfl, hM, hZ, hF⟩ := hI
      have hlt : i < 12 := (Array.getElem?_eq_some_iff.1 hi).1
      rcases (show i = 0 ∨ i = 1 ∨ i = 2 ∨ i = 3 ∨ i = 4 ∨ i = 5 ∨ i = 6 ∨ i = 7 ∨ i = 8 ∨ i = 9 ∨ i = 10 ∨ i = 11 by omega) with rfl | rfl | rfl | rfl | rfl | rfl | rfl | rfl | rfl | rfl | rfl | rfl
      · skip
        obtain rfl : _ = o := Option.some.inj hi
        obtain rfl : d0 = false := by simpa using hun
        clear hun hdeps hi hlt
        go_simp
        exact hK _ _ ⟨true, d1, d2, d3, d4, d5, d6, d7, d8, d9, d10, d11, cs', rfl, rfl, hM, hZ, hF⟩
      · skip
        obtain rfl : _ = o := Option.some.inj hi
        obtain rfl : d1 = false := by simpa using hun
        obtain rfl : d0 = true := hdeps _ (Array.mem_of_getElem? (i := 0) rfl) rfl
        clear hun hdeps hi hlt
        have cc := ((bB.fr hF hBO).cell 5).trans hC.c5
        go_simp
        exact hK _ _ ⟨true, true, d2, d3, d4, d5, d6, d7, d8, d9, d10, d11, cs', rfl, rfl, hM, hZ, hF⟩
      · skip
        obtain rfl : _ = o := Option.some.inj hi
        obtain rfl : d2 = false := by simpa using hun
        clear hun hdeps hi hlt
        go_simp
        exact hK _ _ ⟨d0, d1, true, d3, d4, d5, d6, d7, d8, d9, d10, d11, cs', rfl, rfl, hM, hZ, hF⟩
      · skip
        obtain rfl : _ = o := Option.some.inj hi
        obtain rfl : d3 = false := by simpa using hun
        obtain rfl : d2 = true := hdeps _ (Array.mem_of_getElem? (i := 0) rfl) rfl
        clear hun hdeps hi hlt
        have cc := ((bB.fr hF hBO).cell 6).trans hC.c6
        go_simp
        exact hK _ _ ⟨d0, d1, true, true, d4, d5, d6, d7, d8, d9, d10, d11, cs', rfl, rfl, hM, hZ, hF⟩
      · skip
        obtain rfl : _ = o := Option.some.inj hi
        obtain rfl : d4 = false := by simpa using hun
        clear hun hdeps hi hlt
        go_simp
        exact hK _ _ ⟨d0, d1, d2, d3, true, d5, d6, d7, d8, d9, d10, d11, cs', rfl, rfl, hM, hZ, hF⟩
      · skip
        obtain rfl : _ = o := Option.some.inj hi
        obtain rfl : d5 = false := by simpa using hun
        obtain rfl : d4 = true := hdeps _ (Array.mem_of_getElem? (i := 0) rfl) rfl
        clear hun hdeps hi hlt
        have cc := ((bB.fr hF hBO).cell 7).trans hC.c7
        go_simp
        exact hK _ _ ⟨d0, d1, d2, d3, true, true, d6, d7, d8, d9, d10, d11, cs', rfl, rfl, hM, hZ, hF⟩
      · skip
        obtain rfl : _ = o := Option.some.inj hi
        obtain rfl : d6 = false := by simpa using hun
        clear hun hdeps hi hlt
        go_simp
        exact hK _ _ ⟨d0, d1, d2, d3, d4, d5, true, d7, d8, d9, d10, d11, cs', rfl, rfl, hM, hZ, hF⟩
      · skip
        obtain rfl : _ = o := Option.some.inj hi
        obtain rfl : d7 = false := by simpa using hun
        obtain rfl : d6 = true := hdeps _ (Array.mem_of_getElem? (i := 0) rfl) rfl
        obtain rfl : d1 = true := hdeps _ (Array.mem_of_getElem? (i := 1) rfl) rfl
        clear hun hdeps hi hlt
        have cz := hZ.cell 5
        have fz := hZ.frozen 5
        have fm := Array.getElem?_eq_getElem (xs := cs') (i := 5) (by rw [hM.size]; decide)
        rw [fm] at cz
        clear fm
        go_simp
        exact hK _ _ ⟨d0, true, d2, d3, d4, d5, true, true, d8, d9, d10, d11, cs'.setIfInBounds 5 (.int .u32 c.tsn), rfl, rfl, (hM.set hC.c5 (by decide)).congr (fun i => by simp only [Bool.false_and, Bool.true_and, Bool.false_or]; ac_rfl), hZ.set 5 _, hF.set_only 5 none _⟩
      · skip
        obtain rfl : _ = o := Option.some.inj hi
        obtain rfl : d8 = false := by simpa using hun
        clear hun hdeps hi hlt
        go_simp
        exact hK _ _ ⟨d0, d1, d2, d3, d4, d5, d6, d7, true, d9, d10, d11, cs', rfl, rfl, hM, hZ, hF⟩
      · skip
        obtain rfl : _ = o := Option.some.inj hi
        obtain rfl : d9 = false := by simpa using hun
        obtain rfl : d8 = true := hdeps _ (Array.mem_of_getElem? (i := 0) rfl) rfl
        obtain rfl : d3 = true := hdeps _ (Array.mem_of_getElem? (i := 1) rfl) rfl
        obtain rfl : d7 = true := hdeps _ (Array.mem_of_getElem? (i := 2) rfl) rfl
        clear hun hdeps hi hlt
        have cz := hZ.cell 6
        have fz := hZ.frozen 6
        have fm := Array.getElem?_eq_getElem (xs := cs') (i := 6) (by rw [hM.size]; decide)
        rw [fm] at cz
        clear fm
        go_simp
        exact hK _ _ ⟨d0, d1, d2, true, d4, d5, d6, true, true, true, d10, d11, cs'.setIfInBounds 6 (.int .u16 c.st), rfl, rfl, (hM.set hC.c6 (by decide)).congr (fun i => by simp only [Bool.false_and, Bool.true_and, Bool.false_or]; ac_rfl), hZ.set 6 _, hF.set_only 6 none _⟩
      · skip
        obtain rfl : _ = o := Option.some.inj hi
        obtain rfl : d10 = false := by simpa using hun
        clear hun hdeps hi hlt
        go_simp
        exact hK _ _ ⟨d0, d1, d2, d3, d4, d5, d6, d7, d8, d9, true, d11, cs', rfl, rfl, hM, hZ, hF⟩
      · skip
        obtain rfl : _ = o := Option.some.inj hi
        obtain rfl : d11 = false := by simpa using hun
        obtain rfl : d10 = true := hdeps _ (Array.mem_of_getElem? (i := 0) rfl) rfl
        obtain rfl : d5 = true := hdeps _ (Array.mem_of_getElem? (i := 1) rfl) rfl
        obtain rfl : d9 = true := hdeps _ (Array.mem_of_getElem? (i := 2) rfl) rfl
        clear hun hdeps hi hlt
        have cz := hZ.cell 7
        have fz := hZ.frozen 7
        have fm := Array.getElem?_eq_getElem (xs := cs') (i := 7) (by rw [hM.size]; decide)
        rw [fm] at cz
        clear fm
        go_simp
        exact hK _ _ ⟨d0, d1, d2, d3, d4, true, d6, d7, d8, true, true, true, cs'.setIfInBounds 7 (.int .u32 c.mid), rfl, rfl, (hM.set hC.c7 (by decide)).congr (fun i => by simp only [Bool.false_and, Bool.true_and, Bool.false_or]; ac_rfl), hZ.set 7 _, hF.set_only 7 none _⟩
    · intro listed act wq hI hr0
      obtain ⟨d0, d1, d2, d3, d4, d5, d6, d7, d8, d9, d10, d11, cs', rfl, rfl, hM, hZ, hF⟩ := hI
      have hall := Reg.all_of_done (by kernel_rfl) rfl hr0
      obtain rfl : d0 = true := hall 0 (by decide)
      obtain rfl : d1 = true := hall 1 (by decide)
      obtain rfl : d2 = true := hall 2 (by decide)
      obtain rfl : d3 = true := hall 3 (by decide)
      obtain rfl : d4 = true := hall 4 (by decide)
      obtain rfl : d5 = true := hall 5 (by decide)
      obtain rfl : d6 = true := hall 6 (by decide)
      obtain rfl : d7 = true := hall 7 (by decide)
      obtain rfl : d8 = true := hall 8 (by decide)
      obtain rfl : d9 = true := hall 9 (by decide)
      obtain rfl : d10 = true := hall 10 (by decide)
      obtain rfl : d11 = true := hall 11 (by decide)
      clear hall hr0
      simp only [cond_true]
      have m2 := hM.congr (S' := fun i => i == 5 || (i == 6 || (i == 7))) (fun i => by simp)
      have sz2 := m2.size
      have FS := hF
      have bO1 := hZ
      have bB1 := bB.fr FS hBO
      have bR1 := bR.fr FS hRO
      clear hM hZ hF
      have HB1 := Lib.hid (Bl.trans HB0.out (Bl.of_fr FS HB0.out.size (fun k h => by have h9 : k = gO := h; have := HGO.out; omega)))
      clear bB bR bO HB0
      have bB := bB1
      have bR := bR1
      have bO := bO1
      have HB0 := HB1
      clear bB1 bR1 bO1 HB1 FS
      generalize wq = wQ2 at *
      generalize cs' = cQ2 at *
      go_upto_region 7 with fail
      have hm2 : c.mid.tmod 65536 = c.mid % 65536 := Int.tmod_eq_emod_of_nonneg hBd.mid.1
      have cL := (bB.cell 7).trans hC.c7
      have cz := (bO.cell 7).trans ((m2.at_ 7).trans ((if_pos (by decide)).trans hC.c7))
      have fz := bO.frozen 7
      refine wp_region_lit ?_
      refine wpList_plain rfl (fun K hK => ?_)
      go_simp
      refine hK _ _ ?_
      clear hK K
      refine wpList_plain rfl (fun K hK => ?_)
      go_simp
      refine hK _ _ ?_
      clear hK K
      refine wpList_plain rfl (fun K hK => ?_)
      go_simp
      refine hK _ _ ?_
      clear hK K
      refine wpList_plain rfl (fun K hK => ?_)
      go_simp
      refine hK _ _ ?_
      clear hK K
      refine wpList_plain rfl (fun K hK => ?_)
      go_simp
      refine hK _ _ ?_
      clear hK K
      refine wpList_nil ?_
      have FS : Fr (only gO) wQ2 (wQ2.setCell ⟨gO, 7, none⟩ (.int .u32 (c.mid % 65536))) := (Fr.refl _ _).set_only 7 none _
      have bO1 := bO.set 7 (.int .u32 (c.mid % 65536))
      have bB1 := bB.fr FS hBO
      have bR1 := bR.fr FS hRO
      obtain ⟨sz3, g3, n3⟩ := set_get sz2 7 (by decide) (.int .u32 (c.mid % 65536))
      generalize hX3 : (cQ2).setIfInBounds 7 (.int .u32 (c.mid % 65536)) = cX3 at *
      generalize wQ2.setCell ⟨gO, 7, none⟩ (.int .u32 (c.mid % 65536)) = wX3 at *
      clear cL cz fz hX3
      have HB1 := Lib.hid (Bl.trans HB0.out (Bl.of_fr FS HB0.out.size (fun k h => by have h9 : k = gO := h; have := HGO.out; omega)))
      clear bB bR bO HB0
      have bB := bB1
      have bR := bR1
      have bO := bO1
      have HB0 := HB1
      clear bB1 bR1 bO1 HB1 FS
      go_upto_region 10 with fail
      have cL := (bB.cell 8).trans hC.c8
      have cz := (bO.cell 8).trans ((n3 8 (by decide)).trans (((m2.at_ 8).trans (if_neg (by decide))).trans (((m1.at_ 8).trans (if_neg (by decide))).trans q8)))
      have fz := bO.frozen 8
      refine wp_region_lit ?_
      refine wpList_plain rfl (fun K hK => ?_)
      go_simp
      refine hK _ _ ?_
      clear hK K
      refine wpList_plain rfl (fun K hK => ?_)
      go_simp
      refine hK _ _ ?_
      clear hK K
      refine wpList_plain rfl (fun K hK => ?_)
      go_simp
      refine hK _ _ ?_
      clear hK K
      refine wpList_plain rfl (fun K hK => ?_)
      go_simp
      refine hK _ _ ?_
      clear hK K
      refine wpList_nil ?_
      have FS : Fr (only gO) wX3 (wX3.setCell ⟨gO, 8, none⟩ (.int .u32 c.pp)) := (Fr.refl _ _).set_only 8 none _
      have bO1 := bO.set 8 (.int .u32 c.pp)
      have bB1 := bB.fr FS hBO
      have bR1 := bR.fr FS hRO
      obtain ⟨sz4, g4, n4⟩ := set_get sz3 8 (by decide) (.int .u32 c.pp)
      generalize hX4 : (cX3).setIfInBounds 8 (.int .u32 c.pp) = cX4 at *
      generalize wX3.setCell ⟨gO, 8, none⟩ (.int .u32 c.pp) = wX4 at *
      clear cL cz fz hX4
      have HB1 := Lib.hid (Bl.trans HB0.out (Bl.of_fr FS HB0.out.size (fun k h => by have h9 : k = gO := h; have := HGO.out; omega)))
      clear bB bR bO HB0
      have bB := bB1
      have bR := bR1
      have bO := bO1
      have HB0 := HB1
      clear bB1 bR1 bO1 HB1 FS
      go_upto_region 31 with fail
      have cL := (bB.cell 18).trans e18
      have cz := (bO.cell 18).trans ((n4 18 (by decide)).trans ((n3 18 (by decide)).trans (((m2.at_ 18).trans (if_neg (by decide))).trans (((m1.at_ 18).trans (if_neg (by decide))).trans q18))))
      have fz := bO.frozen 18
      refine wp_region_lit ?_
      refine wpList_plain rfl (fun K hK => ?_)
      go_simp
      refine hK _ _ ?_
      clear hK K
      refine wpList_plain rfl (fun K hK => ?_)
      go_simp
      refine hK _ _ ?_
      clear hK K
      refine wpList_plain rfl (fun K hK => ?_)
      go_simp
      refine hK _ _ ?_
      clear hK K
      refine wpList_plain rfl (fun K hK => ?_)
      go_simp
      refine hK _ _ ?_
      clear hK K
      refine wpList_nil ?_
      have FS : Fr (only gO) wX4 (wX4.setCell ⟨gO, 18, none⟩ (.slice A18 c.body.length p18)) := (Fr.refl _ _).set_only 18 none _
      have bO1 := bO.set 18 (.slice A18 c.body.length p18)
      have bB1 := bB.fr FS hBO
      have bR1 := bR.fr FS hRO
      obtain ⟨sz5, g5, n5⟩ := set_get sz4 18 (by decide) (.slice A18 c.body.length p18)
      generalize hX5 : (cX4).setIfInBounds 18 (.slice A18 c.body.length p18) = cX5 at *
      generalize wX4.setCell ⟨gO, 18, none⟩ (.slice A18 c.body.length p18) = wX5 at *
      clear cL cz fz hX5
      have HB1 := Lib.hid (Bl.trans HB0.out (Bl.of_fr FS HB0.out.size (fun k h => by have h9 : k = gO := h; have := HGO.out; omega)))
      clear bB bR bO HB0
      have bB := bB1
      have bR := bR1
      have bO := bO1
      have HB0 := HB1
      clear bB1 bR1 bO1 HB1 FS
      go_upto_region 32 with fail
      refine wp_region_lit ?_
      refine wpList_plain rfl (fun K hK => ?_)
      refine Mem.oper_load rfl rfl bO hup rfl (by rw [sz5]; kernel_rfl) ?_
      refine hK _ _ ?_
      clear hK K
      have hC9 := (hC.bl HB0.out hhi).more (Nat.zero_le lo) hhi
      obtain ⟨B14, u14, z14, y14⟩ := hC9.c14
      obtain ⟨B15, u15, z15, y15⟩ := hC9.c15
      obtain ⟨B16, u16, z16, y16⟩ := hC9.c16
      obtain ⟨B17, u17, z17, y17⟩ := hC9.c17
      obtain ⟨B18, u18, z18, y18⟩ := hC9.c18
      have hst : strip c = ⟨0, c.b, c.e, c.l, false, c.tsn, c.st, (c.mid % 65536), c.pp, 0, 0, 0, 0, 0, [], [], [], [], c.body⟩ := by unfold strip zC; simp [HK.out]
      have V := Lib.hid (show CkV wX5 0 w.heap.size (cX5) (strip c) from by
        rw [hst]
        exact ckv_mk sz5 ((n5 0 (by decide)).trans ((n4 0 (by decide)).trans ((n3 0 (by decide)).trans (((m2.at_ 0).trans (if_neg (by decide))).trans (((m1.at_ 0).trans (if_neg (by decide))).trans q0))))) ((n5 1 (by decide)).trans ((n4 1 (by decide)).trans ((n3 1 (by decide)).trans (((m2.at_ 1).trans (if_neg (by decide))).trans ((m1.at_ 1).trans ((if_pos (by decide)).trans hC.c1)))))) ((n5 2 (by decide)).trans ((n4 2 (by decide)).trans ((n3 2 (by decide)).trans (((m2.at_ 2).trans (if_neg (by decide))).trans ((m1.at_ 2).trans ((if_pos (by decide)).trans hC.c2)))))) ((n5 3 (by decide)).trans ((n4 3 (by decide)).trans ((n3 3 (by decide)).trans (((m2.at_ 3).trans (if_neg (by decide))).trans ((m1.at_ 3).trans ((if_pos (by decide)).trans hC.c3)))))) ((n5 4 (by decide)).trans ((n4 4 (by decide)).trans ((n3 4 (by decide)).trans (((m2.at_ 4).trans (if_neg (by decide))).trans (((m1.at_ 4).trans (if_neg (by decide))).trans q4))))) ((n5 5 (by decide)).trans ((n4 5 (by decide)).trans ((n3 5 (by decide)).trans ((m2.at_ 5).trans ((if_pos (by decide)).trans hC.c5))))) ((n5 6 (by decide)).trans ((n4 6 (by decide)).trans ((n3 6 (by decide)).trans ((m2.at_ 6).trans ((if_pos (by decide)).trans hC.c6))))) ((n5 7 (by decide)).trans ((n4 7 (by decide)).trans g3)) ((n5 8 (by decide)).trans g4) ((n5 9 (by decide)).trans ((n4 9 (by decide)).trans ((n3 9 (by decide)).trans (((m2.at_ 9).trans (if_neg (by decide))).trans (((m1.at_ 9).trans (if_neg (by decide))).trans q9))))) ((n5 10 (by decide)).trans ((n4 10 (by decide)).trans ((n3 10 (by decide)).trans (((m2.at_ 10).trans (if_neg (by decide))).trans (((m1.at_ 10).trans (if_neg (by decide))).trans q10))))) ((n5 11 (by decide)).trans ((n4 11 (by decide)).trans ((n3 11 (by decide)).trans (((m2.at_ 11).trans (if_neg (by decide))).trans (((m1.at_ 11).trans (if_neg (by decide))).trans q11))))) ((n5 12 (by decide)).trans ((n4 12 (by decide)).trans ((n3 12 (by decide)).trans (((m2.at_ 12).trans (if_neg (by decide))).trans (((m1.at_ 12).trans (if_neg (by decide))).trans q12))))) ((n5 13 (by decide)).trans ((n4 13 (by decide)).trans ((n3 13 (by decide)).trans (((m2.at_ 13).trans (if_neg (by decide))).trans (((m1.at_ 13).trans (if_neg (by decide))).trans q13))))) ⟨none, 0, ((n5 14 (by decide)).trans ((n4 14 (by decide)).trans ((n3 14 (by decide)).trans (((m2.at_ 14).trans (if_neg (by decide))).trans (((m1.at_ 14).trans (if_neg (by decide))).trans q14))))), no_gap⟩ ⟨none, 0, ((n5 15 (by decide)).trans ((n4 15 (by decide)).trans ((n3 15 (by decide)).trans (((m2.at_ 15).trans (if_neg (by decide))).trans (((m1.at_ 15).trans (if_neg (by decide))).trans q15))))), no_dup⟩ ⟨none, 0, ((n5 16 (by decide)).trans ((n4 16 (by decide)).trans ((n3 16 (by decide)).trans (((m2.at_ 16).trans (if_neg (by decide))).trans (((m1.at_ 16).trans (if_neg (by decide))).trans q16))))), no_skp⟩ ⟨none, 0, ((n5 17 (by decide)).trans ((n4 17 (by decide)).trans ((n3 17 (by decide)).trans (((m2.at_ 17).trans (if_neg (by decide))).trans (((m1.at_ 17).trans (if_neg (by decide))).trans q17))))), no_pm⟩ ⟨B18, u18, g5.trans (e18.symm.trans z18), y18⟩)
      clear hst hC9 z14 y14 z15 y15 z16 y16 z17 y17 z18 y18
      refine wpList_plain rfl (fun K hK => ?_)
      refine Mem.oper_store (cs0 := zch) (cs := cX5) rfl rfl rfl bR (by rw [sz5]; kernel_rfl) (by rw [sz5]; rfl) V.out.one ?_
      refine hK _ _ ?_
      clear hK K
      refine wpList_nil ?_
      have FR := fr_row (w := wX5) gR (cX5)
      have bR9 := blk_row (cX5) bR
      have HB9 := Lib.hid (Bl.trans HB0.out (Bl.of_fr FR HB0.out.size (fun k h => by have h9 : k = gR := h; have := HG.out; omega)))
      have HVV := Lib.hid ((V.out.fr FR (fun k _ h2 h3 => by have h9 : k = gR := h3; have := HG.out; omega)).more (Nat.le_refl 0) HB9.out.size)
      have hi9 : (Try.prog.info? 31).map (fun i => i.size) = some (cX5).size := by rw [sz5]; kernel_rfl
      generalize wX5.setRow gR (cX5) = w9 at *
      clear bR bB FR V
      go_wp2
      (try simp only [Exit.inBlock, Exit.then])
      refine bodyPost_ret (results_blk1 rfl _ rfl bR9 hup rfl hi9) rfl ?_
      exact ⟨HB9.out, cX5, rfl, HVV.out⟩
    · exact ⟨false, false, false, false, false, false, false, false, false, false, false, false, cQ1, rfl, rfl, (Mix.refl cs sz1).congr (fun i => by simp), bO, (Fr.refl _ wQ1).drew⟩
  · exact ⟨false, false, false, false, false, false, false, false, false, false, false, false, z0, rfl, rfl, (Mix.refl cs szz).congr (fun i => by simp), bO, (Fr.refl _ wk).drew⟩
end Go.Proofs.Ytaifihoheieneaa.Chk
