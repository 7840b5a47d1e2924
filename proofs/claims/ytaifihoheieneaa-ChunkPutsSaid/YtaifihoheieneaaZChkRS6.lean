/- Contract of flumeref06.Strip, kind by kind. Conditions: the chunk's lists lie in blocks of before. -/
import Derived.Test.YtaifihoheieneaaZChkRS1
import Derived.Test.YtaifihoheieneaaZChkRS3
namespace Go.Proofs.Ytaifihoheieneaa.Chk
open Go.RowKit Go.Proofs.Ytaifihoheieneaa.Mem Go.Proofs.Ytaifihoheieneaa.Octet Go.Proofs.Ytaifihoheieneaa.Prm
set_option linter.unusedVariables false
set_option linter.unusedSimpArgs false
set_option maxHeartbeats 8000000 in
set_option maxRecDepth 100000 in
theorem rstrip_64t (lo hi : Nat) (cs : Array Value) (c : Ck) (w : World) (hC : CkV w lo hi cs c) (hhi : hi ≤ w.heap.size) (hBd : CkB c) (hL : CkL c) (hk : c.k = 64) (hb : c.b = true) :
    Calls Try.prog 19 #[.agg cs] w (StripC w c) := by
  have hup := Try.underlying31
  have hsz := hC.size
  have B0 : Below w.heap.size w ((w.alloc (.cells cs 31)).alloc (.cells zch 31)) := ((Below.refl _ w).alloc (Nat.le_refl _) _).alloc (by simp) _
  have bB := (Blk.new w cs 31).alloc (.cells zch 31)
  have bR : Blk ((w.alloc (.cells cs 31)).alloc (.cells zch 31)) (w.heap.size + 1) 31 zch := by simpa using Blk.new (w.alloc (.cells cs 31)) zch 31
  have hs1 : ((w.alloc (.cells cs 31)).alloc (.cells zch 31)).heap.size = w.heap.size + 2 := by simp
  have c0 := hC.c0
  rw [hk] at c0
  have HK := Lib.hid hk
  obtain ⟨A14, p14, e14, -⟩ := hC.c14
  obtain ⟨A15, p15, e15, -⟩ := hC.c15
  obtain ⟨A16, p16, e16, -⟩ := hC.c16
  obtain ⟨A17, p17, e17, -⟩ := hC.c17
  obtain ⟨A18, p18, e18, -⟩ := hC.c18
  have cc0 := (bB.cell 0).trans c0
  clear hk
  go_enter Try.func19, Try.ntmps19
  go_upto_region 1 with fail
  generalize (w.alloc (.cells cs 31)).alloc (.cells zch 31) = w1 at *
  have HB0 := Lib.hid B0
  obtain ⟨gB, hgB⟩ : ∃ gB, w.heap.size = gB := ⟨_, rfl⟩
  obtain ⟨gR, hgR⟩ : ∃ gR, w.heap.size + 1 = gR := ⟨_, rfl⟩
  rw [hgR] at bR ⊢
  rw [hgB] at bB cc0 ⊢
  have HG := Lib.hid (And.intro hgB (And.intro hgR hs1))
  have hbR : gR ≠ gB := by omega
  clear hs1 hgR hgB B0
  go_upto_region 2 with fail
  refine wp_region_lit ?_
  refine wpList_plain rfl (fun K hK => ?_)
  go_simp
  refine hK _ _ ?_
  clear hK K
  refine wpList_plain rfl (fun K hK => ?_)
  go_simp
  refine hK _ _ ?_
  clear hK K
  refine wpList_plain rfl (fun K hK => ?_)
  go_simp
  refine hK _ _ ?_
  clear hK K
  refine wpList_plain rfl (fun K hK => ?_)
  go_simp
  refine hK _ _ ?_
  clear hK K
  refine wpList_plain rfl (fun K hK => ?_)
  refine Mem.oper_store (cs0 := zch) (cs := (kz 64)) rfl rfl rfl (Blk.new w1 zch 31) (by kernel_rfl) rfl (kz_one _) ?_
  refine hK _ _ ?_
  clear hK K
  refine wpList_nil ?_
  have F0 : Fr nothing w1 ((w1.alloc (.cells zch 31)).setRow w1.heap.size (kz 64)) := ((Fr.refl nothing w1).alloc _).trans (fr_row w1.heap.size (kz 64)) (fun k hk h => by have h9 : k = w1.heap.size := h; omega)
  have bO := blk_row (kz 64) (Blk.new w1 zch 31)
  have bB1 := bB.fr F0 id
  have bR1 := bR.fr F0 id
  have hltO := bO.lt
  have hgO : gR < w1.heap.size ∧ gB < w1.heap.size := ⟨bR.lt, bB.lt⟩
  have HB1 := Lib.hid (Bl.trans HB0.out (Bl.of_fr F0 HB0.out.size (fun k h => h.elim)))
  have HGO := Lib.hid (show w.heap.size + 2 ≤ w1.heap.size from by have := HG.out; omega)
  generalize (w1.alloc (.cells zch 31)).setRow w1.heap.size (kz 64) = wk at *
  generalize w1.heap.size = gO at *
  clear bB bR F0 HB0 cc0 hltO
  have bB := bB1
  have bR := bR1
  have HB0 := HB1
  have hBO : ¬ only gO gB := fun h => by have h9 : gB = gO := h; omega
  have hRO : ¬ only gO gR := fun h => by have h9 : gR = gO := h; omega
  have szz := kz_size 64
  clear bB1 bR1 HB1
  obtain ⟨q0, q1, q2, q3, q4, q5, q6, q7, q8, q9, q10, q11, q12, q13, q14, q15, q16, q17, q18⟩ := kz_at 64
  generalize hKL : (kz 64) = z0 at *
  clear hKL
  have c1b := hC.c1
  rw [hb] at c1b
  have HBQ := Lib.hid hb
  clear hb
  go_upto_region 4 with fail
  refine wp_region_any (by kernel_rfl) ?_
  refine Reg.wpAny_inv (I := fun listed act wq => ∃ (d0 d1 d2 d3 d4 d5 d6 d7 d8 d9 d10 d11 : Bool) (cs' : Array Value), listed = #[d0, d1, d2, d3, d4, d5, d6, d7, d8, d9, d10, d11] ∧ act = ⟨#[Value.agg cs, Value.pointer (some { block := gB, off := 0 }), Value.pointer (some { block := gR, off := 0 }), Value.int IntKind.i64 64, Value.pointer (some { block := gO, off := 0 }), undef, undef, Value.pointer (some { block := gB, off := 0 }), Value.int IntKind.u8 64, Value.int IntKind.i64 64, Value.pointer (some { block := gB, off := 0 }), Value.int IntKind.u8 64, Value.agg #[Value.int IntKind.u8 64, Value.bool false, Value.bool false, Value.bool false, Value.bool false, Value.int IntKind.u32 0, Value.int IntKind.u16 0, Value.int IntKind.u32 0, Value.int IntKind.u32 0, Value.int IntKind.u32 0, Value.int IntKind.u32 0, Value.int IntKind.u32 0, Value.int IntKind.u16 0, Value.int IntKind.u16 0, Value.slice none 0 0, Value.slice none 0 0, Value.slice none 0 0, Value.slice none 0 0, Value.slice none 0 0], Value.int IntKind.i64 64, Value.bool false, Value.bool false, Value.int IntKind.i64 64, Value.bool true, Value.bool true, (bif d0 then (.pointer (some ⟨gB, 1, none⟩)) else undef), (bif d1 then (.bool c.b) else undef), (bif d2 then (.pointer (some ⟨gB, 2, none⟩)) else undef), (bif d3 then (.bool c.e) else undef), (bif d4 then (.pointer (some ⟨gB, 3, none⟩)) else undef), (bif d5 then (.bool c.l) else undef), (bif d6 then (.pointer (some ⟨gO, 1, none⟩)) else undef), (bif d8 then (.pointer (some ⟨gO, 2, none⟩)) else undef), (bif d10 then (.pointer (some ⟨gO, 3, none⟩)) else undef), undef, undef, undef, undef, undef, undef, undef, undef, undef, undef, undef, undef, undef, undef, undef, undef, undef, undef, undef, undef, undef, undef, undef, undef, undef, undef, undef, undef, undef, undef, undef, undef, undef, undef, undef, undef, undef, undef, undef, undef, undef, undef, undef, undef, undef, undef, undef, undef, undef, undef, undef, undef, undef, undef, undef, undef, undef, undef, undef, undef, undef, undef, undef, undef, undef, undef, undef, undef, undef, undef, undef, undef, undef, undef, undef, undef, undef, undef, undef, undef, undef, undef, undef, undef, undef, undef, undef, undef, undef, undef, undef, undef, undef, undef, undef, undef, undef, undef, undef, undef, undef, undef, undef, undef, undef, undef, undef, undef, undef, undef, undef, undef, undef, undef, undef, undef, undef, undef, undef, undef, undef, undef, undef, undef, undef, undef, undef, undef, undef, undef, undef, undef, undef, undef, undef, undef, undef, undef, undef, undef, undef, undef, undef, undef, undef, undef, undef, undef, undef, undef, undef, undef, undef, undef, undef], []⟩ ∧ Mix (z0) cs (fun i => (d7 && i == 1) || ((d9 && i == 2) || ((d11 && i == 3)))) cs' ∧ Blk wq gO 31 cs' ∧ Fr (only gO) wk wq) ?_ ?_ _ _ _ _ (by decide) ?_
  · intro i o listed act wq hi hI hun hdeps K hK
    obtain ⟨d0, d1, d2, d3, d4, d5, d6, d7, d8, d9, d10, d11, cs', rfl, rfl, hM, hZ, hF⟩ := hI
    have hlt : i < 12 := (Array.getElem?_eq_some_iff.1 hi).1
    rcases (show i = 0 ∨ i = 1 ∨ i = 2 ∨ i = 3 ∨ i = 4 ∨ i = 5 ∨ i = 6 ∨ i = 7 ∨ i = 8 ∨ i = 9 ∨ i = 10 ∨ i = 11 by omega) with rfl | rfl | rfl | rfl | rfl | rfl | rfl | rfl | rfl | rfl | rfl | rfl
    · skip
      obtain rfl : _ = o := Option.some.inj hi
      obtain rfl : d0 = false := by simpa using hun
      clear hun hdeps hi hlt
      go_simp
      exact hK _ _ ⟨true, d1, d2, d3, d4, d5, d6, d7, d8, d9, d10, d11, cs', rfl, rfl, hM, hZ, hF⟩
    · skip
      obtain rfl : _ = o := Option.some.inj hi
      obtain rfl : d1 = false := by simpa using hun
      obtain rfl : d0 = true := hdeps _ (Array.mem_of_getElem? (i := 0) rfl) rfl
      clear hun hdeps hi hlt
      have cc := ((bB.fr hF hBO).cell 1).trans hC.c1
      go_simp
      exact hK _ _ ⟨true, true, d2, d3, d4, d5, d6, d7, d8, d9, d10, d11, cs', rfl, rfl, hM, hZ, hF⟩
    · skip
      obtain rfl : _ = o := Option.some.inj hi
      obtain rfl : d2 = false := by simpa using hun
      clear hun hdeps hi hlt
      go_simp
      exact hK _ _ ⟨d0, d1, true, d3, d4, d5, d6, d7, d8, d9, d10, d11, cs', rfl, rfl, hM, hZ, hF⟩
    · skip
      obtain rfl : _ = o := Option.some.inj hi
      obtain rfl : d3 = false := by simpa using hun
      obtain rfl : d2 = true := hdeps _ (Array.mem_of_getElem? (i := 0) rfl) rfl
      clear hun hdeps hi hlt
      have cc := ((bB.fr hF hBO).cell 2).trans hC.c2
      go_simp
      exact hK _ _ ⟨d0, d1, true, true, d4, d5, d6, d7, d8, d9, d10, d11, cs', rfl, rfl, hM, hZ, hF⟩
    · skip
      obtain rfl : _ = o := Option.some.inj hi
      obtain rfl : d4 = false := by simpa using hun
      clear hun hdeps hi hlt
      go_simp
      exact hK _ _ ⟨d0, d1, d2, d3, true, d5, d6, d7, d8, d9, d10, d11, cs', rfl, rfl, hM, hZ, hF⟩
    · skip
      obtain rfl : _ = o := Option.some.inj hi
      obtain rfl : d5 = false := by simpa using hun
      obtain rfl : d4 = true := hdeps _ (Array.mem_of_getElem? (i := 0) rfl) rfl
      clear hun hdeps hi hlt
      have cc := ((bB.fr hF hBO).cell 3).trans hC.c3
      go_simp
      exact hK _ _ ⟨d0, d1, d2, d3, true, true, d6, d7, d8, d9, d10, d11, cs', rfl, rfl, hM, hZ, hF⟩
    · skip
      obtain rfl : _ = o := Option.some.inj hi
      obtain rfl : d6 = false := by simpa using hun
      clear hun hdeps hi hlt
      go_simp
      exact hK _ _ ⟨d0, d1, d2, d3, d4, d5, true, d7, d8, d9, d10, d11, cs', rfl, rfl, hM, hZ, hF⟩
    · skip
      obtain rfl : _ = o := Option.some.inj hi
      obtain rfl : d7 = false := by simpa using hun
      obtain rfl : d6 = true := hdeps _ (Array.mem_of_getElem? (i := 0) rfl) rfl
      obtain rfl : d1 = true := hdeps _ (Array.mem_of_getElem? (i := 1) rfl) rfl
      clear hun hdeps hi hlt
      have cz := hZ.cell 1
      have fz := hZ.frozen 1
      have fm := Array.getElem?_eq_getElem (xs := cs') (i := 1) (by rw [hM.size]; decide)
      rw [fm] at cz
      clear fm
      go_simp
      exact hK _ _ ⟨d0, true, d2, d3, d4, d5, true, true, d8, d9, d10, d11, cs'.setIfInBounds 1 (.bool c.b), rfl, rfl, (hM.set hC.c1 (by decide)).congr (fun i => by simp only [Bool.false_and, Bool.true_and, Bool.false_or]; ac_rfl), hZ.set 1 _, hF.set_only 1 none _⟩
    · skip
      obtain rfl : _ = o := Option.some.inj hi
      obtain rfl : d8 = false := by simpa using hun
      clear hun hdeps hi hlt
      go_simp
      exact hK _ _ ⟨d0, d1, d2, d3, d4, d5, d6, d7, true, d9, d10, d11, cs', rfl, rfl, hM, hZ, hF⟩
    · skip
      obtain rfl : _ = o := Option.some.inj hi
      obtain rfl : d9 = false := by simpa using hun
      obtain rfl : d8 = true := hdeps _ (Array.mem_of_getElem? (i := 0) rfl) rfl
      obtain rfl : d3 = true := hdeps _ (Array.mem_of_getElem? (i := 1) rfl) rfl
      obtain rfl : d7 = true := hdeps _ (Array.mem_of_getElem? (i := 2) rfl) rfl
      clear hun hdeps hi hlt
      have cz := hZ.cell 2
      have fz := hZ.frozen 2
      have fm := Array.getElem?_eq_getElem (xs := cs') (i := 2) (by rw [hM.size]; decide)
      rw [fm] at cz
      clear fm
      go_simp
      exact hK _ _ ⟨d0, d1, d2, true, d4, d5, d6, true, true, true, d10, d11, cs'.setIfInBounds 2 (.bool c.e), rfl, rfl, (hM.set hC.c2 (by decide)).congr (fun i => by simp only [Bool.false_and, Bool.true_and, Bool.false_or]; ac_rfl), hZ.set 2 _, hF.set_only 2 none _⟩
    · skip
      obtain rfl : _ = o := Option.some.inj hi
      obtain rfl : d10 = false := by simpa using hun
      clear hun hdeps hi hlt
      go_simp
      exact hK _ _ ⟨d0, d1, d2, d3, d4, d5, d6, d7, d8, d9, true, d11, cs', rfl, rfl, hM, hZ, hF⟩
    · skip
      obtain rfl : _ = o := Option.some.inj hi
      obtain rfl : d11 = false := by simpa using hun
      obtain rfl : d10 = true := hdeps _ (Array.mem_of_getElem? (i := 0) rfl) rfl
      obtain rfl : d5 = true := hdeps _ (Array.mem_of_getElem? (i := 1) rfl) rfl
      obtain rfl : d9 = true := hdeps _ (Array.mem_of_getElem? (i := 2) rfl) rfl
      clear hun hdeps hi hlt
      have cz := hZ.cell 3
      have fz := hZ.frozen 3
      have fm := Array.getElem?_eq_getElem (xs := cs') (i := 3) (by rw [hM.size]; decide)
      rw [fm] at cz
      clear fm
      go_simp
      exact hK _ _ ⟨d0, d1, d2, d3, d4, true, d6, d7, d8, true, true, true, cs'.setIfInBounds 3 (.bool c.l), rfl, rfl, (hM.set hC.c3 (by decide)).congr (fun i => by simp only [Bool.false_and, Bool.true_and, Bool.false_or]; ac_rfl), hZ.set 3 _, hF.set_only 3 none _⟩
  · intro listed act wq hI hr0
    obtain ⟨d0, d1, d2, d3, d4, d5, d6, d7, d8, d9, d10, d11, cs', rfl, rfl, hM, hZ, hF⟩ := hI
    have hall := Reg.all_of_done (by kernel_rfl) rfl hr0
    obtain rfl : d0 = true := hall 0 (by decide)
    obtain rfl : d1 = true := hall 1 (by decide)
    obtain rfl : d2 = true := hall 2 (by decide)
    obtain rfl : d3 = true := hall 3 (by decide)
    obtain rfl : d4 = true := hall 4 (by decide)
    obtain rfl : d5 = true := hall 5 (by decide)
    obtain rfl : d6 = true := hall 6 (by decide)
    obtain rfl : d7 = true := hall 7 (by decide)
    obtain rfl : d8 = true := hall 8 (by decide)
    obtain rfl : d9 = true := hall 9 (by decide)
    obtain rfl : d10 = true := hall 10 (by decide)
    obtain rfl : d11 = true := hall 11 (by decide)
    clear hall hr0
    simp only [cond_true]
    have m1 := hM.congr (S' := fun i => i == 1 || (i == 2 || (i == 3))) (fun i => by simp)
    have sz1 := m1.size
    have FS := hF
    have bO1 := hZ
    have bB1 := bB.fr FS hBO
    have bR1 := bR.fr FS hRO
    clear hM hZ hF
    have HB1 := Lib.hid (Bl.trans HB0.out (Bl.of_fr FS HB0.out.size (fun k h => by have h9 : k = gO := h; have := HGO.out; omega)))
    clear bB bR bO HB0
    have bB := bB1
    have bR := bR1
    have bO := bO1
    have HB0 := HB1
    clear bB1 bR1 bO1 HB1 FS
    generalize wq = wQ1 at *
    generalize cs' = cQ1 at *
    go_upto_region 5 with fail
    refine wp_region_any (by kernel_rfl) ?_
    refine Reg.wpAny_inv (I := fun listed act wq => ∃ (d0 d1 d2 d3 d4 d5 d6 d7 d8 d9 d10 d11 : Bool) (cs' : Array Value), listed = #[d0, d1, d2, d3, d4, d5, d6, d7, d8, d9, d10, d11] ∧ act = ⟨#[Value.agg cs, Value.pointer (some { block := gB, off := 0 }), Value.pointer (some { block := gR, off := 0 }), Value.int IntKind.i64 64, Value.pointer (some { block := gO, off := 0 }), undef, undef, Value.pointer (some { block := gB, off := 0 }), Value.int IntKind.u8 64, Value.int IntKind.i64 64, Value.pointer (some { block := gB, off := 0 }), Value.int IntKind.u8 64, Value.agg #[Value.int IntKind.u8 64, Value.bool false, Value.bool false, Value.bool false, Value.bool false, Value.int IntKind.u32 0, Value.int IntKind.u16 0, Value.int IntKind.u32 0, Value.int IntKind.u32 0, Value.int IntKind.u32 0, Value.int IntKind.u32 0, Value.int IntKind.u32 0, Value.int IntKind.u16 0, Value.int IntKind.u16 0, Value.slice none 0 0, Value.slice none 0 0, Value.slice none 0 0, Value.slice none 0 0, Value.slice none 0 0], Value.int IntKind.i64 64, Value.bool false, Value.bool false, Value.int IntKind.i64 64, Value.bool true, Value.bool true, .pointer (some ⟨gB, 1, none⟩), .bool c.b, .pointer (some ⟨gB, 2, none⟩), .bool c.e, .pointer (some ⟨gB, 3, none⟩), .bool c.l, .pointer (some ⟨gO, 1, none⟩), .pointer (some ⟨gO, 2, none⟩), .pointer (some ⟨gO, 3, none⟩), (bif d0 then (.pointer (some ⟨gB, 5, none⟩)) else undef), (bif d1 then (.int .u32 c.tsn) else undef), (bif d2 then (.pointer (some ⟨gB, 6, none⟩)) else undef), (bif d3 then (.int .u16 c.st) else undef), (bif d4 then (.pointer (some ⟨gB, 7, none⟩)) else undef), (bif d5 then (.int .u32 c.mid) else undef), (bif d6 then (.pointer (some ⟨gO, 5, none⟩)) else undef), (bif d8 then (.pointer (some ⟨gO, 6, none⟩)) else undef), (bif d10 then (.pointer (some ⟨gO, 7, none⟩)) else undef), undef, undef, undef, undef, undef, undef, undef, undef, undef, undef, undef, undef, undef, undef, undef, undef, undef, undef, undef, undef, undef, undef, undef, undef, undef, undef, undef, undef, undef, undef, undef, undef, undef, undef, undef, undef, undef, undef, undef, undef, undef, undef, undef, undef, undef, undef, undef, undef, undef, undef, undef, undef, undef, undef, undef, undef, undef, undef, undef, undef, undef, undef, undef, undef, undef, undef, undef, undef, undef, undef, undef, undef, undef, undef, undef, undef, undef, undef, undef, undef, undef, undef, undef, undef, undef, undef, undef, undef, undef, undef, undef, undef, undef, undef, undef, undef, undef, undef, undef, undef, undef, undef, undef, undef, undef, undef, undef, undef, undef, undef, undef, undef, undef, undef, undef, undef, undef, undef, undef, undef, undef, undef, undef, undef, undef, undef, undef, undef, undef, undef, undef, undef, undef, undef, undef, undef, undef, undef, undef, undef, undef, undef, undef, undef, undef, undef], []⟩ ∧ Mix (cQ1) cs (fun i => (d7 && i == 5) || ((d9 && i == 6) || ((d11 && i == 7)))) cs' ∧ Blk wq gO 31 cs' ∧ Fr (only gO) wQ1 wq) ?_ ?_ _ _ _ _ (by decide) ?_
    · intro i o listed act wq hi hI hun hdeps K hK
      obtain ⟨d0, d1, d2, d3, d4, d5, d6, d7, d8, d9, d10, d11, cs', rfl, rfl, hM, hZ, hF⟩ := hI
      have hlt : i < 12 := (Array.getElem?_eq_some_iff.1 hi).1
      rcases (show i = 0 ∨ i = 1 ∨ i = 2 ∨ i = 3 ∨ i = 4 ∨ i = 5 ∨ i = 6 ∨ i = 7 ∨ i = 8 ∨ i = 9 ∨ i = 10 ∨ i = 11 by omega) with rfl | rfl | rfl | rfl | rfl | rfl | rfl | rfl | rfl | rfl | rfl | rfl
      · skip
        obtain rfl : _ = o := Option.some.inj hi
        obtain rfl : d0 = false := by simpa using hun
        clear hun hdeps hi hlt
        go_simp
        exact hK _ _ ⟨true, d1, d2, d3, d4, d5, d6, d7, d8, d9, d10, d11, cs', rfl, rfl, hM, hZ, hF⟩
      · skip
        obtain rfl : _ = o := Option.some.inj hi
        obtain rfl : d1 = false := by simpa using hun
        obtain rfl : d0 = true := hdeps _ (Array.mem_of_getElem? (i := 0) rfl) rfl
        clear hun hdeps hi hlt
        have cc := ((bB.fr hF hBO).cell 5).trans hC.c5
        go_simp
        exact hK _ _ ⟨true, true, d2, d3, d4, d5, d6, d7, d8, d9, d10, d11, cs', rfl, rfl, hM, hZ, hF⟩
      · skip
        obtain rfl : _ = o := Option.some.inj hi
        obtain rfl : d2 = false := by simpa using hun
        clear hun hdeps hi hlt
        go_simp
        exact hK _ _ ⟨d0, d1, true, d3, d4, d5, d6, d7, d8, d9, d10, d11, cs', rfl, rfl, hM, hZ, hF⟩
      · skip
        obtain rfl : _ = o := Option.some.inj hi
        obtain rfl : d3 = false := by simpa using hun
        obtain rfl : d2 = true := hdeps _ (Array.mem_of_getElem? (i := 0) rfl) rfl
        clear hun hdeps hi hlt
        have cc := ((bB.fr hF hBO).cell 6).trans hC.c6
        go_simp
        exact hK _ _ ⟨d0, d1, true, true, d4, d5, d6, d7, d8, d9, d10, d11, cs', rfl, rfl, hM, hZ, hF⟩
      · skip
        obtain rfl : _ = o := Option.some.inj hi
        obtain rfl : d4 = false := by simpa using hun
        clear hun hdeps hi hlt
        go_simp
        exact hK _ _ ⟨d0, d1, d2, d3, true, d5, d6, d7, d8, d9, d10, d11, cs', rfl, rfl, hM, hZ, hF⟩
      · skip
        obtain rfl : _ = o := Option.some.inj hi
        obtain rfl : d5 = false := by simpa using hun
        obtain rfl : d4 = true := hdeps _ (Array.mem_of_getElem? (i := 0) rfl) rfl
        clear hun hdeps hi hlt
        have cc := ((bB.fr hF hBO).cell 7).trans hC.c7
        go_simp
        exact hK _ _ ⟨d0, d1, d2, d3, true, true, d6, d7, d8, d9, d10, d11, cs', rfl, rfl, hM, hZ, hF⟩
      · skip
        obtain rfl : _ = o := Option.some.inj hi
        obtain rfl : d6 = false := by simpa using hun
        clear hun hdeps hi hlt
        go_simp
        exact hK _ _ ⟨d0, d1, d2, d3, d4, d5, true, d7, d8, d9, d10, d11, cs', rfl, rfl, hM, hZ, hF⟩
      · skip
        obtain rfl : _ = o := Option.some.inj hi
        obtain rfl : d7 = false := by simpa using hun
        obtain rfl : d6 = true := hdeps _ (Array.mem_of_getElem? (i := 0) rfl) rfl
        obtain rfl : d1 = true := hdeps _ (Array.mem_of_getElem? (i := 1) rfl) rfl
        clear hun hdeps hi hlt
        have cz := hZ.cell 5
        have fz := hZ.frozen 5
        have fm := Array.getElem?_eq_getElem (xs := cs') (i := 5) (by rw [hM.size]; decide)
        rw [fm] at cz
        clear fm
        go_simp
        exact hK _ _ ⟨d0, true, d2, d3, d4, d5, true, true, d8, d9, d10, d11, cs'.setIfInBounds 5 (.int .u32 c.tsn), rfl, rfl, (hM.set hC.c5 (by decide)).congr (fun i => by simp only [Bool.false_and, Bool.true_and, Bool.false_or]; ac_rfl), hZ.set 5 _, hF.set_only 5 none _⟩
      · skip
        obtain rfl : _ = o := Option.some.inj hi
        obtain rfl : d8 = false := by simpa using hun
        clear hun hdeps hi hlt
        go_simp
        exact hK _ _ ⟨d0, d1, d2, d3, d4, d5, d6, d7, true, d9, d10, d11, cs', rfl, rfl, hM, hZ, hF⟩
      · skip
        obtain rfl : _ = o := Option.some.inj hi
        obtain rfl : d9 = false := by simpa using hun
        obtain rfl : d8 = true := hdeps _ (Array.mem_of_getElem? (i := 0) rfl) rfl
        obtain rfl : d3 = true := hdeps _ (Array.mem_of_getElem? (i := 1) rfl) rfl
        obtain rfl : d7 = true := hdeps _ (Array.mem_of_getElem? (i := 2) rfl) rfl
        clear hun hdeps hi hlt
        have cz := hZ.cell 6
        have fz := hZ.frozen 6
        have fm := Array.getElem?_eq_getElem (xs := cs') (i := 6) (by rw [hM.size]; decide)
        rw [fm] at cz
        clear fm
        go_simp
        exact hK _ _ ⟨d0, d1, d2, true, d4, d5, d6, true, true, true, d10, d11, cs'.setIfInBounds 6 (.int .u16 c.st), rfl, rfl, (hM.set hC.c6 (by decide)).congr (fun i => by simp only [Bool.false_and, Bool.true_and, Bool.false_or]; ac_rfl), hZ.set 6 _, hF.set_only 6 none _⟩
      · skip
        obtain rfl : _ = o := Option.some.inj hi
        obtain rfl : d10 = false := by simpa using hun
        clear hun hdeps hi hlt
        go_simp
        exact hK _ _ ⟨d0, d1, d2, d3, d4, d5, d6, d7, d8, d9, true, d11, cs', rfl, rfl, hM, hZ, hF⟩
      · skip
        obtain rfl : _ = o := Option.some.inj hi
        obtain rfl : d11 = false := by simpa using hun
        obtain rfl : d10 = true := hdeps _ (Array.mem_of_getElem? (i := 0) rfl) rfl
        obtain rfl : d5 = true := hdeps _ (Array.mem_of_getElem? (i := 1) rfl) rfl
        obtain rfl : d9 = true := hdeps _ (Array.mem_of_getElem? (i := 2) rfl) rfl
        clear hun hdeps hi hlt
        have cz := hZ.cell 7
        have fz := hZ.frozen 7
        have fm := Array.getElem?_eq_getElem (xs := cs') (i := 7) (by rw [hM.size]; decide)
        rw [fm] at cz
        clear fm
        go_simp
        exact hK _ _ ⟨d0, d1, d2, d3, d4, true, d6, d7, d8, true, true, true, cs'.setIfInBounds 7 (.int .u32 c.mid), rfl, rfl, (hM.set hC.c7 (by decide)).congr (fun i => by simp only [Bool.false_and, Bool.true_and, Bool.false_or]; ac_rfl), hZ.set 7 _, hF.set_only 7 none _⟩
    · intro listed act wq hI hr0
      obtain ⟨d0, d1, d2, d3, d4, d5, d6, d7, d8, d9, d10, d11, cs', rfl, rfl, hM, hZ, hF⟩ := hI
      have hall := Reg.all_of_done (by kernel_rfl) rfl hr0
      obtain rfl : d0 = true := hall 0 (by decide)
      obtain rfl : d1 = true := hall 1 (by decide)
      obtain rfl : d2 = true := hall 2 (by decide)
      obtain rfl : d3 = true := hall 3 (by decide)
      obtain rfl : d4 = true := hall 4 (by decide)
      obtain rfl : d5 = true := hall 5 (by decide)
      obtain rfl : d6 = true := hall 6 (by decide)
      obtain rfl : d7 = true := hall 7 (by decide)
      obtain rfl : d8 = true := hall 8 (by decide)
      obtain rfl : d9 = true := hall 9 (by decide)
      obtain rfl : d10 = true := hall 10 (by decide)
      obtain rfl : d11 = true := hall 11 (by decide)
      clear hall hr0
      simp only [cond_true]
      have m2 := hM.congr (S' := fun i => i == 5 || (i == 6 || (i == 7))) (fun i => by simp)
      have sz2 := m2.size
      have FS := hF
      have bO1 := hZ
      have bB1 := bB.fr FS hBO
      have bR1 := bR.fr FS hRO
      clear hM hZ hF
      have HB1 := Lib.hid (Bl.trans HB0.out (Bl.of_fr FS HB0.out.size (fun k h => by have h9 : k = gO := h; have := HGO.out; omega)))
      clear bB bR bO HB0
      have bB := bB1
      have bR := bR1
      have bO := bO1
      have HB0 := HB1
      clear bB1 bR1 bO1 HB1 FS
      generalize wq = wQ2 at *
      generalize cs' = cQ2 at *
      have c11 := (bB.cell 1).trans c1b
      go_upto_region 10 with fail
      clear c11
      have cL := (bB.cell 8).trans hC.c8
      have cz := (bO.cell 8).trans (((m2.at_ 8).trans (if_neg (by decide))).trans (((m1.at_ 8).trans (if_neg (by decide))).trans q8))
      have fz := bO.frozen 8
      refine wp_region_lit ?_
      refine wpList_plain rfl (fun K hK => ?_)
      go_simp
      refine hK _ _ ?_
      clear hK K
      refine wpList_plain rfl (fun K hK => ?_)
      go_simp
      refine hK _ _ ?_
      clear hK K
      refine wpList_plain rfl (fun K hK => ?_)
      go_simp
      refine hK _ _ ?_
      clear hK K
      refine wpList_plain rfl (fun K hK => ?_)
      go_simp
      refine hK _ _ ?_
      clear hK K
      refine wpList_nil ?_
      have FS : Fr (only gO) wQ2 (wQ2.setCell ⟨gO, 8, none⟩ (.int .u32 c.pp)) := (Fr.refl _ _).set_only 8 none _
      have bO1 := bO.set 8 (.int .u32 c.pp)
      have bB1 := bB.fr FS hBO
      have bR1 := bR.fr FS hRO
      obtain ⟨sz3, g3, n3⟩ := set_get sz2 8 (by decide) (.int .u32 c.pp)
      generalize hX3 : (cQ2).setIfInBounds 8 (.int .u32 c.pp) = cX3 at *
      generalize wQ2.setCell ⟨gO, 8, none⟩ (.int .u32 c.pp) = wX3 at *
      clear cL cz fz hX3
      have HB1 := Lib.hid (Bl.trans HB0.out (Bl.of_fr FS HB0.out.size (fun k h => by have h9 : k = gO := h; have := HGO.out; omega)))
      clear bB bR bO HB0
      have bB := bB1
      have bR := bR1
      have bO := bO1
      have HB0 := HB1
      clear bB1 bR1 bO1 HB1 FS
      go_upto_region 31 with fail
      have cL := (bB.cell 18).trans e18
      have cz := (bO.cell 18).trans ((n3 18 (by decide)).trans (((m2.at_ 18).trans (if_neg (by decide))).trans (((m1.at_ 18).trans (if_neg (by decide))).trans q18)))
      have fz := bO.frozen 18
      refine wp_region_lit ?_
      refine wpList_plain rfl (fun K hK => ?_)
      go_simp
      refine hK _ _ ?_
      clear hK K
      refine wpList_plain rfl (fun K hK => ?_)
      go_simp
      refine hK _ _ ?_
      clear hK K
      refine wpList_plain rfl (fun K hK => ?_)
      go_simp
      refine hK _ _ ?_
      clear hK K
      refine wpList_plain rfl (fun K hK => ?_)
      go_simp
      refine hK _ _ ?_
      clear hK K
      refine wpList_nil ?_
      have FS : Fr (only gO) wX3 (wX3.setCell ⟨gO, 18, none⟩ (.slice A18 c.body.length p18)) := (Fr.refl _ _).set_only 18 none _
      have bO1 := bO.set 18 (.slice A18 c.body.length p18)
      have bB1 := bB.fr FS hBO
      have bR1 := bR.fr FS hRO
      obtain ⟨sz4, g4, n4⟩ := set_get sz3 18 (by decide) (.slice A18 c.body.length p18)
      generalize hX4 : (cX3).setIfInBounds 18 (.slice A18 c.body.length p18) = cX4 at *
      generalize wX3.setCell ⟨gO, 18, none⟩ (.slice A18 c.body.length p18) = wX4 at *
      clear cL cz fz hX4
      have HB1 := Lib.hid (Bl.trans HB0.out (Bl.of_fr FS HB0.out.size (fun k h => by have h9 : k = gO := h; have := HGO.out; omega)))
      clear bB bR bO HB0
      have bB := bB1
      have bR := bR1
      have bO := bO1
      have HB0 := HB1
      clear bB1 bR1 bO1 HB1 FS
      go_upto_region 32 with fail
      refine wp_region_lit ?_
      refine wpList_plain rfl (fun K hK => ?_)
      refine Mem.oper_load rfl rfl bO hup rfl (by rw [sz4]; kernel_rfl) ?_
      refine hK _ _ ?_
      clear hK K
      have hC9 := (hC.bl HB0.out hhi).more (Nat.zero_le lo) hhi
      obtain ⟨B14, u14, z14, y14⟩ := hC9.c14
      obtain ⟨B15, u15, z15, y15⟩ := hC9.c15
      obtain ⟨B16, u16, z16, y16⟩ := hC9.c16
      obtain ⟨B17, u17, z17, y17⟩ := hC9.c17
      obtain ⟨B18, u18, z18, y18⟩ := hC9.c18
      have hst : strip c = ⟨64, c.b, c.e, c.l, false, c.tsn, c.st, c.mid, c.pp, 0, 0, 0, 0, 0, [], [], [], [], c.body⟩ := by unfold strip zC; simp [HK.out, HBQ.out]
      have V := Lib.hid (show CkV wX4 0 w.heap.size (cX4) (strip c) from by
        rw [hst]
        exact ckv_mk sz4 ((n4 0 (by decide)).trans ((n3 0 (by decide)).trans (((m2.at_ 0).trans (if_neg (by decide))).trans (((m1.at_ 0).trans (if_neg (by decide))).trans q0)))) ((n4 1 (by decide)).trans ((n3 1 (by decide)).trans (((m2.at_ 1).trans (if_neg (by decide))).trans ((m1.at_ 1).trans ((if_pos (by decide)).trans hC.c1))))) ((n4 2 (by decide)).trans ((n3 2 (by decide)).trans (((m2.at_ 2).trans (if_neg (by decide))).trans ((m1.at_ 2).trans ((if_pos (by decide)).trans hC.c2))))) ((n4 3 (by decide)).trans ((n3 3 (by decide)).trans (((m2.at_ 3).trans (if_neg (by decide))).trans ((m1.at_ 3).trans ((if_pos (by decide)).trans hC.c3))))) ((n4 4 (by decide)).trans ((n3 4 (by decide)).trans (((m2.at_ 4).trans (if_neg (by decide))).trans (((m1.at_ 4).trans (if_neg (by decide))).trans q4)))) ((n4 5 (by decide)).trans ((n3 5 (by decide)).trans ((m2.at_ 5).trans ((if_pos (by decide)).trans hC.c5)))) ((n4 6 (by decide)).trans ((n3 6 (by decide)).trans ((m2.at_ 6).trans ((if_pos (by decide)).trans hC.c6)))) ((n4 7 (by decide)).trans ((n3 7 (by decide)).trans ((m2.at_ 7).trans ((if_pos (by decide)).trans hC.c7)))) ((n4 8 (by decide)).trans g3) ((n4 9 (by decide)).trans ((n3 9 (by decide)).trans (((m2.at_ 9).trans (if_neg (by decide))).trans (((m1.at_ 9).trans (if_neg (by decide))).trans q9)))) ((n4 10 (by decide)).trans ((n3 10 (by decide)).trans (((m2.at_ 10).trans (if_neg (by decide))).trans (((m1.at_ 10).trans (if_neg (by decide))).trans q10)))) ((n4 11 (by decide)).trans ((n3 11 (by decide)).trans (((m2.at_ 11).trans (if_neg (by decide))).trans (((m1.at_ 11).trans (if_neg (by decide))).trans q11)))) ((n4 12 (by decide)).trans ((n3 12 (by decide)).trans (((m2.at_ 12).trans (if_neg (by decide))).trans (((m1.at_ 12).trans (if_neg (by decide))).trans q12)))) ((n4 13 (by decide)).trans ((n3 13 (by decide)).trans (((m2.at_ 13).trans (if_neg (by decide))).trans (((m1.at_ 13).trans (if_neg (by decide))).trans q13)))) ⟨none, 0, ((n4 14 (by decide)).trans ((n3 14 (by decide)).trans (((m2.at_ 14).trans (if_neg (by decide))).trans (((m1.at_ 14).trans (if_neg (by decide))).trans q14)))), no_gap⟩ ⟨none, 0, ((n4 15 (by decide)).trans ((n3 15 (by decide)).trans (((m2.at_ 15).trans (if_neg (by decide))).trans (((m1.at_ 15).trans (if_neg (by decide))).trans q15)))), no_dup⟩ ⟨none, 0, ((n4 16 (by decide)).trans ((n3 16 (by decide)).trans (((m2.at_ 16).trans (if_neg (by decide))).trans (((m1.at_ 16).trans (if_neg (by decide))).trans q16)))), no_skp⟩ ⟨none, 0, ((n4 17 (by decide)).trans ((n3 17 (by decide)).trans (((m2.at_ 17).trans (if_neg (by decide))).trans (((m1.at_ 17).trans (if_neg (by decide))).trans q17)))), no_pm⟩ ⟨B18, u18, g4.trans (e18.symm.trans z18), y18⟩)
      clear hst hC9 z14 y14 z15 y15 z16 y16 z17 y17 z18 y18
      refine wpList_plain rfl (fun K hK => ?_)
      refine Mem.oper_store (cs0 := zch) (cs := cX4) rfl rfl rfl bR (by rw [sz4]; kernel_rfl) (by rw [sz4]; rfl) V.out.one ?_
      refine hK _ _ ?_
      clear hK K
      refine wpList_nil ?_
      have FR := fr_row (w := wX4) gR (cX4)
      have bR9 := blk_row (cX4) bR
      have HB9 := Lib.hid (Bl.trans HB0.out (Bl.of_fr FR HB0.out.size (fun k h => by have h9 : k = gR := h; have := HG.out; omega)))
      have HVV := Lib.hid ((V.out.fr FR (fun k _ h2 h3 => by have h9 : k = gR := h3; have := HG.out; omega)).more (Nat.le_refl 0) HB9.out.size)
      have hi9 : (Try.prog.info? 31).map (fun i => i.size) = some (cX4).size := by rw [sz4]; kernel_rfl
      generalize wX4.setRow gR (cX4) = w9 at *
      clear bR bB FR V
      go_wp2
      (try simp only [Exit.inBlock, Exit.then])
      refine bodyPost_ret (results_blk1 rfl _ rfl bR9 hup rfl hi9) rfl ?_
      exact ⟨HB9.out, cX4, rfl, HVV.out⟩
    · exact ⟨false, false, false, false, false, false, false, false, false, false, false, false, cQ1, rfl, rfl, (Mix.refl cs sz1).congr (fun i => by simp), bO, (Fr.refl _ wQ1).drew⟩
  · exact ⟨false, false, false, false, false, false, false, false, false, false, false, false, z0, rfl, rfl, (Mix.refl cs szz).congr (fun i => by simp), bO, (Fr.refl _ wk).drew⟩
end Go.Proofs.Ytaifihoheieneaa.Chk
namespace Go.Proofs.Ytaifihoheieneaa.Chk
open Go.RowKit Go.Proofs.Ytaifihoheieneaa.Mem Go.Proofs.Ytaifihoheieneaa.Octet Go.Proofs.Ytaifihoheieneaa.Prm
set_option linter.unusedVariables false
set_option linter.unusedSimpArgs false
set_option maxHeartbeats 8000000 in
set_option maxRecDepth 100000 in
theorem rstrip_64f (lo hi : Nat) (cs : Array Value) (c : Ck) (w : World) (hC : CkV w lo hi cs c) (hhi : hi ≤ w.heap.size) (hBd : CkB c) (hL : CkL c) (hk : c.k = 64) (hb : c.b = false) :
    Calls Try.prog 19 #[.agg cs] w (StripC w c) := by
  have hup := Try.underlying31
  have hsz := hC.size
  have B0 : Below w.heap.size w ((w.alloc (.cells cs 31)).alloc (.cells zch 31)) := ((Below.refl _ w).alloc (Nat.le_refl _) _).alloc (by simp) _
  have bB := (Blk.new w cs 31).alloc (.cells zch 31)
  have bR : Blk ((w.alloc (.cells cs 31)).alloc (.cells zch 31)) (w.heap.size + 1) 31 zch := by simpa using Blk.new (w.alloc (.cells cs 31)) zch 31
  have hs1 : ((w.alloc (.cells cs 31)).alloc (.cells zch 31)).heap.size = w.heap.size + 2 := by simp
  have c0 := hC.c0
  rw [hk] at c0
  have HK := Lib.hid hk
  obtain ⟨A14, p14, e14, -⟩ := hC.c14
  obtain ⟨A15, p15, e15, -⟩ := hC.c15
  obtain ⟨A16, p16, e16, -⟩ := hC.c16
  obtain ⟨A17, p17, e17, -⟩ := hC.c17
  obtain ⟨A18, p18, e18, -⟩ := hC.c18
  have cc0 := (bB.cell 0).trans c0
  clear hk
  go_enter Try.func19, Try.ntmps19
  go_upto_region 1 with fail
  generalize (w.alloc (.cells cs 31)).alloc (.cells zch 31) = w1 at *
  have HB0 := Lib.hid B0
  obtain ⟨gB, hgB⟩ : ∃ gB, w.heap.size = gB := ⟨_, rfl⟩
  obtain ⟨gR, hgR⟩ : ∃ gR, w.heap.size + 1 = gR := ⟨_, rfl⟩
  rw [hgR] at bR ⊢
  rw [hgB] at bB cc0 ⊢
  have HG := Lib.hid (And.intro hgB (And.intro hgR hs1))
  have hbR : gR ≠ gB := by omega
  clear hs1 hgR hgB B0
  go_upto_region 2 with fail
  refine wp_region_lit ?_
  refine wpList_plain rfl (fun K hK => ?_)
  go_simp
  refine hK _ _ ?_
  clear hK K
  refine wpList_plain rfl (fun K hK => ?_)
  go_simp
  refine hK _ _ ?_
  clear hK K
  refine wpList_plain rfl (fun K hK => ?_)
  go_simp
  refine hK _ _ ?_
  clear hK K
  refine wpList_plain rfl (fun K hK => ?_)
  go_simp
  refine hK _ _ ?_
  clear hK K
  refine wpList_plain rfl (fun K hK => ?_)
  refine Mem.oper_store (cs0 := zch) (cs := (kz 64)) rfl rfl rfl (Blk.new w1 zch 31) (by kernel_rfl) rfl (kz_one _) ?_
  refine hK _ _ ?_
  clear hK K
  refine wpList_nil ?_
  have F0 : Fr nothing w1 ((w1.alloc (.cells zch 31)).setRow w1.heap.size (kz 64)) := ((Fr.refl nothing w1).alloc _).trans (fr_row w1.heap.size (kz 64)) (fun k hk h => by have h9 : k = w1.heap.size := h; omega)
  have bO := blk_row (kz 64) (Blk.new w1 zch 31)
  have bB1 := bB.fr F0 id
  have bR1 := bR.fr F0 id
  have hltO := bO.lt
  have hgO : gR < w1.heap.size ∧ gB < w1.heap.size := ⟨bR.lt, bB.lt⟩
  have HB1 := Lib.hid (Bl.trans HB0.out (Bl.of_fr F0 HB0.out.size (fun k h => h.elim)))
  have HGO := Lib.hid (show w.heap.size + 2 ≤ w1.heap.size from by have := HG.out; omega)
  generalize (w1.alloc (.cells zch 31)).setRow w1.heap.size (kz 64) = wk at *
  generalize w1.heap.size = gO at *
  clear bB bR F0 HB0 cc0 hltO
  have bB := bB1
  have bR := bR1
  have HB0 := HB1
  have hBO : ¬ only gO gB := fun h => by have h9 : gB = gO := h; omega
  have hRO : ¬ only gO gR := fun h => by have h9 : gR = gO := h; omega
  have szz := kz_size 64
  clear bB1 bR1 HB1
  obtain ⟨q0, q1, q2, q3, q4, q5, q6, q7, q8, q9, q10, q11, q12, q13, q14, q15, q16, q17, q18⟩ := kz_at 64
  generalize hKL : (kz 64) = z0 at *
  clear hKL
  have c1b := hC.c1
  rw [hb] at c1b
  have HBQ := Lib.hid hb
  clear hb
  go_upto_region 4 with fail
  refine wp_region_any (by kernel_rfl) ?_
  refine Reg.wpAny_inv (I := fun listed act wq => ∃ (d0 d1 d2 d3 d4 d5 d6 d7 d8 d9 d10 d11 : Bool) (cs' : Array Value), listed = #[d0, d1, d2, d3, d4, d5, d6, d7, d8, d9, d10, d11] ∧ act = ⟨#[Value.agg cs, Value.pointer (some { block := gB, off := 0 }), Value.pointer (some { block := gR, off := 0 }), Value.int IntKind.i64 64, Value.pointer (some { block := gO, off := 0 }), undef, undef, Value.pointer (some { block := gB, off := 0 }), Value.int IntKind.u8 64, Value.int IntKind.i64 64, Value.pointer (some { block := gB, off := 0 }), Value.int IntKind.u8 64, Value.agg #[Value.int IntKind.u8 64, Value.bool false, Value.bool false, Value.bool false, Value.bool false, Value.int IntKind.u32 0, Value.int IntKind.u16 0, Value.int IntKind.u32 0, Value.int IntKind.u32 0, Value.int IntKind.u32 0, Value.int IntKind.u32 0, Value.int IntKind.u32 0, Value.int IntKind.u16 0, Value.int IntKind.u16 0, Value.slice none 0 0, Value.slice none 0 0, Value.slice none 0 0, Value.slice none 0 0, Value.slice none 0 0], Value.int IntKind.i64 64, Value.bool false, Value.bool false, Value.int IntKind.i64 64, Value.bool true, Value.bool true, (bif d0 then (.pointer (some ⟨gB, 1, none⟩)) else undef), (bif d1 then (.bool c.b) else undef), (bif d2 then (.pointer (some ⟨gB, 2, none⟩)) else undef), (bif d3 then (.bool c.e) else undef), (bif d4 then (.pointer (some ⟨gB, 3, none⟩)) else undef), (bif d5 then (.bool c.l) else undef), (bif d6 then (.pointer (some ⟨gO, 1, none⟩)) else undef), (bif d8 then (.pointer (some ⟨gO, 2, none⟩)) else undef), (bif d10 then (.pointer (some ⟨gO, 3, none⟩)) else undef), undef, undef, undef, undef, undef, undef, undef, undef, undef, undef, undef, undef, undef, undef, undef, undef, undef, undef, undef, undef, undef, undef, undef, undef, undef, undef, undef, undef, undef, undef, undef, undef, undef, undef, undef, undef, undef, undef, undef, undef, undef, undef, undef, undef, undef, undef, undef, undef, undef, undef, undef, undef, undef, undef, undef, undef, undef, undef, undef, undef, undef, undef, undef, undef, undef, undef, undef, undef, undef, undef, undef, undef, undef, undef, undef, undef, undef, undef, undef, undef, undef, undef, undef, undef, undef, undef, undef, undef, undef, undef, undef, undef, undef, undef, undef, undef, undef, undef, undef, undef, undef, undef, undef, undef, undef, undef, undef, undef, undef, undef, undef, undef, undef, undef, undef, undef, undef, undef, undef, undef, undef, undef, undef, undef, undef, undef, undef, undef, undef, undef, undef, undef, undef, undef, undef, undef, undef, undef, undef, undef, undef, undef, undef, undef, undef, undef, undef, undef, undef, undef, undef, undef, undef, undef, undef], []⟩ ∧ Mix (z0) cs (fun i => (d7 && i == 1) || ((d9 && i == 2) || ((d11 && i == 3)))) cs' ∧ Blk wq gO 31 cs' ∧ Fr (only gO) wk wq) ?_ ?_ _ _ _ _ (by decide) ?_
  · intro i o listed act wq hi hI hun hdeps K hK
    obtain ⟨d0, d1, d2, d3, d4, d5, d6, d7, d8, d9, d10, d11, cs', rfl, rfl, hM, hZ, hF⟩ := hI
    have hlt : i < 12 := (Array.getElem?_eq_some_iff.1 hi).1
    rcases (show i = 0 ∨ i = 1 ∨ i = 2 ∨ i = 3 ∨ i = 4 ∨ i = 5 ∨ i = 6 ∨ i = 7 ∨ i = 8 ∨ i = 9 ∨ i = 10 ∨ i = 11 by omega) with rfl | rfl | rfl | rfl | rfl | rfl | rfl | rfl | rfl | rfl | rfl | rfl
    · skip
      obtain rfl : _ = o := Option.some.inj hi
      obtain rfl : d0 = false := by simpa using hun
      clear hun hdeps hi hlt
      go_simp
      exact hK _ _ ⟨true, d1, d2, d3, d4, d5, d6, d7, d8, d9, d10, d11, cs', rfl, rfl, hM, hZ, hF⟩
    · skip
      obtain rfl : _ = o := Option.some.inj hi
      obtain rfl : d1 = false := by simpa using hun
      obtain rfl : d0 = true := hdeps _ (Array.mem_of_getElem? (i := 0) rfl) rfl
      clear hun hdeps hi hlt
      have cc := ((bB.fr hF hBO).cell 1).trans hC.c1
      go_simp
      exact hK _ _ ⟨true, true, d2, d3, d4, d5, d6, d7, d8, d9, d10, d11, cs', rfl, rfl, hM, hZ, hF⟩
    · skip
      obtain rfl : _ = o := Option.some.inj hi
      obtain rfl : d2 = false := by simpa using hun
      clear hun hdeps hi hlt
      go_simp
      exact hK _ _ ⟨d0, d1, true, d3, d4, d5, d6, d7, d8, d9, d10, d11, cs', rfl, rfl, hM, hZ, hF⟩
    · skip
      obtain rfl : _ = o := Option.some.inj hi
      obtain rfl : d3 = false := by simpa using hun
      obtain rfl : d2 = true := hdeps _ (Array.mem_of_getElem? (i := 0) rfl) rfl
      clear hun hdeps hi hlt
      have cc := ((bB.fr hF hBO).cell 2).trans hC.c2
      go_simp
      exact hK _ _ ⟨d0, d1, true, true, d4, d5, d6, d7, d8, d9, d10, d11, cs', rfl, rfl, hM, hZ, hF⟩
    · skip
      obtain rfl : _ = o := Option.some.inj hi
      obtain rfl : d4 = false := by simpa using hun
      clear hun hdeps hi hlt
      go_simp
      exact hK _ _ ⟨d0, d1, d2, d3, true, d5, d6, d7, d8, d9, d10, d11, cs', rfl, rfl, hM, hZ, hF⟩
    · skip
      obtain rfl : _ = o := Option.some.inj hi
      obtain rfl : d5 = false := by simpa using hun
      obtain rfl : d4 = true := hdeps _ (Array.mem_of_getElem? (i := 0) rfl) rfl
      clear hun hdeps hi hlt
      have cc := ((bB.fr hF hBO).cell 3).trans hC.c3
      go_simp
      exact hK _ _ ⟨d0, d1, d2, d3, true, true, d6, d7, d8, d9, d10, d11, cs', rfl, rfl, hM, hZ, hF⟩
    · skip
      obtain rfl : _ = o := Option.some.inj hi
      obtain rfl : d6 = false := by simpa using hun
      clear hun hdeps hi hlt
      go_simp
      exact hK _ _ ⟨d0, d1, d2, d3, d4, d5, true, d7, d8, d9, d10, d11, cs', rfl, rfl, hM, hZ, hF⟩
    · skip
      obtain rfl : _ = o := Option.some.inj hi
      obtain rfl : d7 = false := by simpa using hun
      obtain rfl : d6 = true := hdeps _ (Array.mem_of_getElem? (i := 0) rfl) rfl
      obtain rfl : d1 = true := hdeps _ (Array.mem_of_getElem? (i := 1) rfl) rfl
      clear hun hdeps hi hlt
      have cz := hZ.cell 1
      have fz := hZ.frozen 1
      have fm := Array.getElem?_eq_getElem (xs := cs') (i := 1) (by rw [hM.size]; decide)
      rw [fm] at cz
      clear fm
      go_simp
      exact hK _ _ ⟨d0, true, d2, d3, d4, d5, true, true, d8, d9, d10, d11, cs'.setIfInBounds 1 (.bool c.b), rfl, rfl, (hM.set hC.c1 (by decide)).congr (fun i => by simp only [Bool.false_and, Bool.true_and, Bool.false_or]; ac_rfl), hZ.set 1 _, hF.set_only 1 none _⟩
    · skip
      obtain rfl : _ = o := Option.some.inj hi
      obtain rfl : d8 = false := by simpa using hun
      clear hun hdeps hi hlt
      go_simp
      exact hK _ _ ⟨d0, d1, d2, d3, d4, d5, d6, d7, true, d9, d10, d11, cs', rfl, rfl, hM, hZ, hF⟩
    · skip
      obtain rfl : _ = o := Option.some.inj hi
      obtain rfl : d9 = false := by simpa using hun
      obtain rfl : d8 = true := hdeps _ (Array.mem_of_getElem? (i := 0) rfl) rfl
      obtain rfl : d3 = true := hdeps _ (Array.mem_of_getElem? (i := 1) rfl) rfl
      obtain rfl : d7 = true := hdeps _ (Array.mem_of_getElem? (i := 2) rfl) rfl
      clear hun hdeps hi hlt
      have cz := hZ.cell 2
      have fz := hZ.frozen 2
      have fm := Array.getElem?_eq_getElem (xs := cs') (i := 2) (by rw [hM.size]; decide)
      rw [fm] at cz
      clear fm
      go_simp
      exact hK _ _ ⟨d0, d1, d2, true, d4, d5, d6, true, true, true, d10, d11, cs'.setIfInBounds 2 (.bool c.e), rfl, rfl, (hM.set hC.c2 (by decide)).congr (fun i => by simp only [Bool.false_and, Bool.true_and, Bool.false_or]; ac_rfl), hZ.set 2 _, hF.set_only 2 none _⟩
    · skip
      obtain rfl : _ = o := Option.some.inj hi
      obtain rfl : d10 = false := by simpa using hun
      clear hun hdeps hi hlt
      go_simp
      exact hK _ _ ⟨d0, d1, d2, d3, d4, d5, d6, d7, d8, d9, true, d11, cs', rfl, rfl, hM, hZ, hF⟩
    · skip
      obtain rfl : _ = o := Option.some.inj hi
      obtain rfl : d11 = false := by simpa using hun
      obtain rfl : d10 = true := hdeps _ (Array.mem_of_getElem? (i := 0) rfl) rfl
      obtain rfl : d5 = true := hdeps _ (Array.mem_of_getElem? (i := 1) rfl) rfl
      obtain rfl : d9 = true := hdeps _ (Array.mem_of_getElem? (i := 2) rfl) rfl
      clear hun hdeps hi hlt
      have cz := hZ.cell 3
      have fz := hZ.frozen 3
      have fm := Array.getElem?_eq_getElem (xs := cs') (i := 3) (by rw [hM.size]; decide)
      rw [fm] at cz
      clear fm
      go_simp
      exact hK _ _ ⟨d0, d1, d2, d3, d4, true, d6, d7, d8, true, true, true, cs'.setIfInBounds 3 (.bool c.l), rfl, rfl, (hM.set hC.c3 (by decide)).congr (fun i => by simp only [Bool.false_and, Bool.true_and, Bool.false_or]; ac_rfl), hZ.set 3 _, hF.set_only 3 none _⟩
  · intro listed act wq hI hr0
    obtain ⟨d0, d1, d2, d3, d4, d5, d6, d7, d8, d9, d10, d11, cs', rfl, rfl, hM, hZ, hF⟩ := hI
    have hall := Reg.all_of_done (by kernel_rfl) rfl hr0
    obtain rfl : d0 = true := hall 0 (by decide)
    obtain rfl : d1 = true := hall 1 (by decide)
    obtain rfl : d2 = true := hall 2 (by decide)
    obtain rfl : d3 = true := hall 3 (by decide)
    obtain rfl : d4 = true := hall 4 (by decide)
    obtain rfl : d5 = true := hall 5 (by decide)
    obtain rfl : d6 = true := hall 6 (by decide)
    obtain rfl : d7 = true := hall 7 (by decide)
    obtain rfl : d8 = true := hall 8 (by decide)
    obtain rfl : d9 = true := hall 9 (by decide)
    obtain rfl : d10 = true := hall 10 (by decide)
    obtain rfl : d11 = true := hall 11 (by decide)
    clear hall hr0
    simp only [cond_true]
    have m1 := hM.congr (S' := fun i => i == 1 || (i == 2 || (i == 3))) (fun i => by simp)
    have sz1 := m1.size
    have FS := hF
    have bO1 := hZ
    have bB1 := bB.fr FS hBO
    have bR1 := bR.fr FS hRO
    clear hM hZ hF
    have HB1 := Lib.hid (Bl.trans HB0.out (Bl.of_fr FS HB0.out.size (fun k h => by have h9 : k = gO := h; have := HGO.out; omega)))
    clear bB bR bO HB0
    have bB := bB1
    have bR := bR1
    have bO := bO1
    have HB0 := HB1
    clear bB1 bR1 bO1 HB1 FS
    generalize wq = wQ1 at *
    generalize cs' = cQ1 at *
    go_upto_region 5 with fail
    refine wp_region_any (by kernel_rfl) ?_
    refine Reg.wpAny_inv (I := fun listed act wq => ∃ (d0 d1 d2 d3 d4 d5 d6 d7 d8 d9 d10 d11 : Bool) (cs' : Array Value), listed = #[d0, d1, d2, d3, d4, d5, d6, d7, d8, d9, d10, d11] ∧ act = ⟨#[Value.agg cs, Value.pointer (some { block := gB, off := 0 }), Value.pointer (some { block := gR, off := 0 }), Value.int IntKind.i64 64, Value.pointer (some { block := gO, off := 0 }), undef, undef, Value.pointer (some { block := gB, off := 0 }), Value.int IntKind.u8 64, Value.int IntKind.i64 64, Value.pointer (some { block := gB, off := 0 }), Value.int IntKind.u8 64, Value.agg #[Value.int IntKind.u8 64, Value.bool false, Value.bool false, Value.bool false, Value.bool false, Value.int IntKind.u32 0, Value.int IntKind.u16 0, Value.int IntKind.u32 0, Value.int IntKind.u32 0, Value.int IntKind.u32 0, Value.int IntKind.u32 0, Value.int IntKind.u32 0, Value.int IntKind.u16 0, Value.int IntKind.u16 0, Value.slice none 0 0, Value.slice none 0 0, Value.slice none 0 0, Value.slice none 0 0, Value.slice none 0 0], Value.int IntKind.i64 64, Value.bool false, Value.bool false, Value.int IntKind.i64 64, Value.bool true, Value.bool true, .pointer (some ⟨gB, 1, none⟩), .bool c.b, .pointer (some ⟨gB, 2, none⟩), .bool c.e, .pointer (some ⟨gB, 3, none⟩), .bool c.l, .pointer (some ⟨gO, 1, none⟩), .pointer (some ⟨gO, 2, none⟩), .pointer (some ⟨gO, 3, none⟩), (bif d0 then (.pointer (some ⟨gB, 5, none⟩)) else undef), (bif d1 then (.int .u32 c.tsn) else undef), (bif d2 then (.pointer (some ⟨gB, 6, none⟩)) else undef), (bif d3 then (.int .u16 c.st) else undef), (bif d4 then (.pointer (some ⟨gB, 7, none⟩)) else undef), (bif d5 then (.int .u32 c.mid) else undef), (bif d6 then (.pointer (some ⟨gO, 5, none⟩)) else undef), (bif d8 then (.pointer (some ⟨gO, 6, none⟩)) else undef), (bif d10 then (.pointer (some ⟨gO, 7, none⟩)) else undef), undef, undef, undef, undef, undef, undef, undef, undef, undef, undef, undef, undef, undef, undef, undef, undef, undef, undef, undef, undef, undef, undef, undef, undef, undef, undef, undef, undef, undef, undef, undef, undef, undef, undef, undef, undef, undef, undef, undef, undef, undef, undef, undef, undef, undef, undef, undef, undef, undef, undef, undef, undef, undef, undef, undef, undef, undef, undef, undef, undef, undef, undef, undef, undef, undef, undef, undef, undef, undef, undef, undef, undef, undef, undef, undef, undef, undef, undef, undef, undef, undef, undef, undef, undef, undef, undef, undef, undef, undef, undef, undef, undef, undef, undef, undef, undef, undef, undef, undef, undef, undef, undef, undef, undef, undef, undef, undef, undef, undef, undef, undef, undef, undef, undef, undef, undef, undef, undef, undef, undef, undef, undef, undef, undef, undef, undef, undef, undef, undef, undef, undef, undef, undef, undef, undef, undef, undef, undef, undef, undef, undef, undef, undef, undef, undef, undef], []⟩ ∧ Mix (cQ1) cs (fun i => (d7 && i == 5) || ((d9 && i == 6) || ((d11 && i == 7)))) cs' ∧ Blk wq gO 31 cs' ∧ Fr (only gO) wQ1 wq) ?_ ?_ _ _ _ _ (by decide) ?_
    · intro i o listed act wq hi hI hun hdeps K hK
      obtain ⟨d0, d1, d2, d3, d4, d5, d6, d7, d8, d9, d10, d11, cs', rfl, rfl, hM, hZ, hF⟩ := hI
      have hlt : i < 12 := (Array.getElem?_eq_some_iff.1 hi).1
      rcases (show i = 0 ∨ i = 1 ∨ i = 2 ∨ i = 3 ∨ i = 4 ∨ i = 5 ∨ i = 6 ∨ i = 7 ∨ i = 8 ∨ i = 9 ∨ i = 10 ∨ i = 11 by omega) with rfl | rfl | rfl | rfl | rfl | rfl | rfl | rfl | rfl | rfl | rfl | rfl
      · skip
        obtain rfl : _ = o := Option.some.inj hi
        obtain rfl : d0 = false := by simpa using hun
        clear hun hdeps hi hlt
        go_simp
        exact hK _ _ ⟨true, d1, d2, d3, d4, d5, d6, d7, d8, d9, d10, d11, cs', rfl, rfl, hM, hZ, hF⟩
      · skip
        obtain rfl : _ = o := Option.some.inj hi
        obtain rfl : d1 = false := by simpa using hun
        obtain rfl : d0 = true := hdeps _ (Array.mem_of_getElem? (i := 0) rfl) rfl
        clear hun hdeps hi hlt
        have cc := ((bB.fr hF hBO).cell 5).trans hC.c5
        go_simp
        exact hK _ _ ⟨true, true, d2, d3, d4, d5, d6, d7, d8, d9, d10, d11, cs', rfl, rfl, hM, hZ, hF⟩
      · skip
        obtain rfl : _ = o := Option.some.inj hi
        obtain rfl : d2 = false := by simpa using hun
        clear hun hdeps hi hlt
        go_simp
        exact hK _ _ ⟨d0, d1, true, d3, d4, d5, d6, d7, d8, d9, d10, d11, cs', rfl, rfl, hM, hZ, hF⟩
      · skip
        obtain rfl : _ = o := Option.some.inj hi
        obtain rfl : d3 = false := by simpa using hun
        obtain rfl : d2 = true := hdeps _ (Array.mem_of_getElem? (i := 0) rfl) rfl
        clear hun hdeps hi hlt
        have cc := ((bB.fr hF hBO).cell 6).trans hC.c6
        go_simp
        exact hK _ _ ⟨d0, d1, true, true, d4, d5, d6, d7, d8, d9, d10, d11, cs', rfl, rfl, hM, hZ, hF⟩
      · skip
        obtain rfl : _ = o := Option.some.inj hi
        obtain rfl : d4 = false := by simpa using hun
        clear hun hdeps hi hlt
        go_simp
        exact hK _ _ ⟨d0, d1, d2, d3, true, d5, d6, d7, d8, d9, d10, d11, cs', rfl, rfl, hM, hZ, hF⟩
      · skip
        obtain rfl : _ = o := Option.some.inj hi
        obtain rfl : d5 = false := by simpa using hun
        obtain rfl : d4 = true := hdeps _ (Array.mem_of_getElem? (i := 0) rfl) rfl
        clear hun hdeps hi hlt
        have cc := ((bB.fr hF hBO).cell 7).trans hC.c7
        go_simp
        exact hK _ _ ⟨d0, d1, d2, d3, true, true, d6, d7, d8, d9, d10, d11, cs', rfl, rfl, hM, hZ, hF⟩
      · skip
        obtain rfl : _ = o := Option.some.inj hi
        obtain rfl : d6 = false := by simpa using hun
        clear hun hdeps hi hlt
        go_simp
        exact hK _ _ ⟨d0, d1, d2, d3, d4, d5, true, d7, d8, d9, d10, d11, cs', rfl, rfl, hM, hZ, hF⟩
      · skip
        obtain rfl : _ = o := Option.some.inj hi
        obtain rfl : d7 = false := by simpa using hun
        obtain rfl : d6 = true := hdeps _ (Array.mem_of_getElem? (i := 0) rfl) rfl
        obtain rfl : d1 = true := hdeps _ (Array.mem_of_getElem? (i := 1) rfl) rfl
        clear hun hdeps hi hlt
        have cz := hZ.cell 5
        have fz := hZ.frozen 5
        have fm := Array.getElem?_eq_getElem (xs := cs') (i := 5) (by rw [hM.size]; decide)
        rw [fm] at cz
        clear fm
        go_simp
        exact hK _ _ ⟨d0, true, d2, d3, d4, d5, true, true, d8, d9, d10, d11, cs'.setIfInBounds 5 (.int .u32 c.tsn), rfl, rfl, (hM.set hC.c5 (by decide)).congr (fun i => by simp only [Bool.false_and, Bool.true_and, Bool.false_or]; ac_rfl), hZ.set 5 _, hF.set_only 5 none _⟩
      · skip
        obtain rfl : _ = o := Option.some.inj hi
        obtain rfl : d8 = false := by simpa using hun
        clear hun hdeps hi hlt
        go_simp
        exact hK _ _ ⟨d0, d1, d2, d3, d4, d5, d6, d7, true, d9, d10, d11, cs', rfl, rfl, hM, hZ, hF⟩
      · skip
        obtain rfl : _ = o := Option.some.inj hi
        obtain rfl : d9 = false := by simpa using hun
        obtain rfl : d8 = true := hdeps _ (Array.mem_of_getElem? (i := 0) rfl) rfl
        obtain rfl : d3 = true := hdeps _ (Array.mem_of_getElem? (i := 1) rfl) rfl
        obtain rfl : d7 = true := hdeps _ (Array.mem_of_getElem? (i := 2) rfl) rfl
        clear hun hdeps hi hlt
        have cz := hZ.cell 6
        have fz := hZ.frozen 6
        have fm := Array.getElem?_eq_getElem (xs := cs') (i := 6) (by rw [hM.size]; decide)
        rw [fm] at cz
        clear fm
        go_simp
        exact hK _ _ ⟨d0, d1, d2, true, d4, d5, d6, true, true, true, d10, d11, cs'.setIfInBounds 6 (.int .u16 c.st), rfl, rfl, (hM.set hC.c6 (by decide)).congr (fun i => by simp only [Bool.false_and, Bool.true_and, Bool.false_or]; ac_rfl), hZ.set 6 _, hF.set_only 6 none _⟩
      · skip
        obtain rfl : _ = o := Option.some.inj hi
        obtain rfl : d10 = false := by simpa using hun
        clear hun hdeps hi hlt
        go_simp
        exact hK _ _ ⟨d0, d1, d2, d3, d4, d5, d6, d7, d8, d9, true, d11, cs', rfl, rfl, hM, hZ, hF⟩
      · skip
        obtain rfl : _ = o := Option.some.inj hi
        obtain rfl : d11 = false := by simpa using hun
        obtain rfl : d10 = true := hdeps _ (Array.mem_of_getElem? (i := 0) rfl) rfl
        obtain rfl : d5 = true := hdeps _ (Array.mem_of_getElem? (i := 1) rfl) rfl
        obtain rfl : d9 = true := hdeps _ (Array.mem_of_getElem? (i := 2) rfl) rfl
        clear hun hdeps hi hlt
        have cz := hZ.cell 7
        have fz := hZ.frozen 7
        have fm := Array.getElem?_eq_getElem (xs := cs') (i := 7) (by rw [hM.size]; decide)
        rw [fm] at cz
        clear fm
        go_simp
        exact hK _ _ ⟨d0, d1, d2, d3, d4, true, d6, d7, d8, true, true, true, cs'.setIfInBounds 7 (.int .u32 c.mid), rfl, rfl, (hM.set hC.c7 (by decide)).congr (fun i => by simp only [Bool.false_and, Bool.true_and, Bool.false_or]; ac_rfl), hZ.set 7 _, hF.set_only 7 none _⟩
    · intro listed act wq hI hr0
      obtain ⟨d0, d1, d2, d3, d4, d5, d6, d7, d8, d9, d10, d11, cs', rfl, rfl, hM, hZ, hF⟩ := hI
      have hall := Reg.all_of_done (by kernel_rfl) rfl hr0
      obtain rfl : d0 = true := hall 0 (by decide)
      obtain rfl : d1 = true := hall 1 (by decide)
      obtain rfl : d2 = true := hall 2 (by decide)
      obtain rfl : d3 = true := hall 3 (by decide)
      obtain rfl : d4 = true := hall 4 (by decide)
      obtain rfl : d5 = true := hall 5 (by decide)
      obtain rfl : d6 = true := hall 6 (by decide)
      obtain rfl : d7 = true := hall 7 (by decide)
      obtain rfl : d8 = true := hall 8 (by decide)
      obtain rfl : d9 = true := hall 9 (by decide)
      obtain rfl : d10 = true := hall 10 (by decide)
      obtain rfl : d11 = true := hall 11 (by decide)
      clear hall hr0
      simp only [cond_true]
      have m2 := hM.congr (S' := fun i => i == 5 || (i == 6 || (i == 7))) (fun i => by simp)
      have sz2 := m2.size
      have FS := hF
      have bO1 := hZ
      have bB1 := bB.fr FS hBO
      have bR1 := bR.fr FS hRO
      clear hM hZ hF
      have HB1 := Lib.hid (Bl.trans HB0.out (Bl.of_fr FS HB0.out.size (fun k h => by have h9 : k = gO := h; have := HGO.out; omega)))
      clear bB bR bO HB0
      have bB := bB1
      have bR := bR1
      have bO := bO1
      have HB0 := HB1
      clear bB1 bR1 bO1 HB1 FS
      generalize wq = wQ2 at *
      generalize cs' = cQ2 at *
      have c11 := (bB.cell 1).trans c1b
      go_upto_region 9 with fail
      clear c11
      have cL := (bB.cell 9).trans hC.c9
      have cz := (bO.cell 9).trans (((m2.at_ 9).trans (if_neg (by decide))).trans (((m1.at_ 9).trans (if_neg (by decide))).trans q9))
      have fz := bO.frozen 9
      refine wp_region_lit ?_
      refine wpList_plain rfl (fun K hK => ?_)
      go_simp
      refine hK _ _ ?_
      clear hK K
      refine wpList_plain rfl (fun K hK => ?_)
      go_simp
      refine hK _ _ ?_
      clear hK K
      refine wpList_plain rfl (fun K hK => ?_)
      go_simp
      refine hK _ _ ?_
      clear hK K
      refine wpList_plain rfl (fun K hK => ?_)
      go_simp
      refine hK _ _ ?_
      clear hK K
      refine wpList_nil ?_
      have FS : Fr (only gO) wQ2 (wQ2.setCell ⟨gO, 9, none⟩ (.int .u32 c.fr)) := (Fr.refl _ _).set_only 9 none _
      have bO1 := bO.set 9 (.int .u32 c.fr)
      have bB1 := bB.fr FS hBO
      have bR1 := bR.fr FS hRO
      obtain ⟨sz3, g3, n3⟩ := set_get sz2 9 (by decide) (.int .u32 c.fr)
      generalize hX3 : (cQ2).setIfInBounds 9 (.int .u32 c.fr) = cX3 at *
      generalize wQ2.setCell ⟨gO, 9, none⟩ (.int .u32 c.fr) = wX3 at *
      clear cL cz fz hX3
      have HB1 := Lib.hid (Bl.trans HB0.out (Bl.of_fr FS HB0.out.size (fun k h => by have h9 : k = gO := h; have := HGO.out; omega)))
      clear bB bR bO HB0
      have bB := bB1
      have bR := bR1
      have bO := bO1
      have HB0 := HB1
      clear bB1 bR1 bO1 HB1 FS
      go_upto_region 31 with fail
      have cL := (bB.cell 18).trans e18
      have cz := (bO.cell 18).trans ((n3 18 (by decide)).trans (((m2.at_ 18).trans (if_neg (by decide))).trans (((m1.at_ 18).trans (if_neg (by decide))).trans q18)))
      have fz := bO.frozen 18
      refine wp_region_lit ?_
      refine wpList_plain rfl (fun K hK => ?_)
      go_simp
      refine hK _ _ ?_
      clear hK K
      refine wpList_plain rfl (fun K hK => ?_)
      go_simp
      refine hK _ _ ?_
      clear hK K
      refine wpList_plain rfl (fun K hK => ?_)
      go_simp
      refine hK _ _ ?_
      clear hK K
      refine wpList_plain rfl (fun K hK => ?_)
      go_simp
      refine hK _ _ ?_
      clear hK K
      refine wpList_nil ?_
      have FS : Fr (only gO) wX3 (wX3.setCell ⟨gO, 18, none⟩ (.slice A18 c.body.length p18)) := (Fr.refl _ _).set_only 18 none _
      have bO1 := bO.set 18 (.slice A18 c.body.length p18)
      have bB1 := bB.fr FS hBO
      have bR1 := bR.fr FS hRO
      obtain ⟨sz4, g4, n4⟩ := set_get sz3 18 (by decide) (.slice A18 c.body.length p18)
      generalize hX4 : (cX3).setIfInBounds 18 (.slice A18 c.body.length p18) = cX4 at *
      generalize wX3.setCell ⟨gO, 18, none⟩ (.slice A18 c.body.length p18) = wX4 at *
      clear cL cz fz hX4
      have HB1 := Lib.hid (Bl.trans HB0.out (Bl.of_fr FS HB0.out.size (fun k h => by have h9 : k = gO := h; have := HGO.out; omega)))
      clear bB bR bO HB0
      have bB := bB1
      have bR := bR1
      have bO := bO1
      have HB0 := HB1
      clear bB1 bR1 bO1 HB1 FS
      go_upto_region 32 with fail
      refine wp_region_lit ?_
      refine wpList_plain rfl (fun K hK => ?_)
      refine Mem.oper_load rfl rfl bO hup rfl (by rw [sz4]; kernel_rfl) ?_
      refine hK _ _ ?_
      clear hK K
      have hC9 := (hC.bl HB0.out hhi).more (Nat.zero_le lo) hhi
      obtain ⟨B14, u14, z14, y14⟩ := hC9.c14
      obtain ⟨B15, u15, z15, y15⟩ := hC9.c15
      obtain ⟨B16, u16, z16, y16⟩ := hC9.c16
      obtain ⟨B17, u17, z17, y17⟩ := hC9.c17
      obtain ⟨B18, u18, z18, y18⟩ := hC9.c18
      have hst : strip c = ⟨64, c.b, c.e, c.l, false, c.tsn, c.st, c.mid, 0, c.fr, 0, 0, 0, 0, [], [], [], [], c.body⟩ := by unfold strip zC; simp [HK.out, HBQ.out]
      have V := Lib.hid (show CkV wX4 0 w.heap.size (cX4) (strip c) from by
        rw [hst]
        exact ckv_mk sz4 ((n4 0 (by decide)).trans ((n3 0 (by decide)).trans (((m2.at_ 0).trans (if_neg (by decide))).trans (((m1.at_ 0).trans (if_neg (by decide))).trans q0)))) ((n4 1 (by decide)).trans ((n3 1 (by decide)).trans (((m2.at_ 1).trans (if_neg (by decide))).trans ((m1.at_ 1).trans ((if_pos (by decide)).trans hC.c1))))) ((n4 2 (by decide)).trans ((n3 2 (by decide)).trans (((m2.at_ 2).trans (if_neg (by decide))).trans ((m1.at_ 2).trans ((if_pos (by decide)).trans hC.c2))))) ((n4 3 (by decide)).trans ((n3 3 (by decide)).trans (((m2.at_ 3).trans (if_neg (by decide))).trans ((m1.at_ 3).trans ((if_pos (by decide)).trans hC.c3))))) ((n4 4 (by decide)).trans ((n3 4 (by decide)).trans (((m2.at_ 4).trans (if_neg (by decide))).trans (((m1.at_ 4).trans (if_neg (by decide))).trans q4)))) ((n4 5 (by decide)).trans ((n3 5 (by decide)).trans ((m2.at_ 5).trans ((if_pos (by decide)).trans hC.c5)))) ((n4 6 (by decide)).trans ((n3 6 (by decide)).trans ((m2.at_ 6).trans ((if_pos (by decide)).trans hC.c6)))) ((n4 7 (by decide)).trans ((n3 7 (by decide)).trans ((m2.at_ 7).trans ((if_pos (by decide)).trans hC.c7)))) ((n4 8 (by decide)).trans ((n3 8 (by decide)).trans (((m2.at_ 8).trans (if_neg (by decide))).trans (((m1.at_ 8).trans (if_neg (by decide))).trans q8)))) ((n4 9 (by decide)).trans g3) ((n4 10 (by decide)).trans ((n3 10 (by decide)).trans (((m2.at_ 10).trans (if_neg (by decide))).trans (((m1.at_ 10).trans (if_neg (by decide))).trans q10)))) ((n4 11 (by decide)).trans ((n3 11 (by decide)).trans (((m2.at_ 11).trans (if_neg (by decide))).trans (((m1.at_ 11).trans (if_neg (by decide))).trans q11)))) ((n4 12 (by decide)).trans ((n3 12 (by decide)).trans (((m2.at_ 12).trans (if_neg (by decide))).trans (((m1.at_ 12).trans (if_neg (by decide))).trans q12)))) ((n4 13 (by decide)).trans ((n3 13 (by decide)).trans (((m2.at_ 13).trans (if_neg (by decide))).trans (((m1.at_ 13).trans (if_neg (by decide))).trans q13)))) ⟨none, 0, ((n4 14 (by decide)).trans ((n3 14 (by decide)).trans (((m2.at_ 14).trans (if_neg (by decide))).trans (((m1.at_ 14).trans (if_neg (by decide))).trans q14)))), no_gap⟩ ⟨none, 0, ((n4 15 (by decide)).trans ((n3 15 (by decide)).trans (((m2.at_ 15).trans (if_neg (by decide))).trans (((m1.at_ 15).trans (if_neg (by decide))).trans q15)))), no_dup⟩ ⟨none, 0, ((n4 16 (by decide)).trans ((n3 16 (by decide)).trans (((m2.at_ 16).trans (if_neg (by decide))).trans (((m1.at_ 16).trans (if_neg (by decide))).trans q16)))), no_skp⟩ ⟨none, 0, ((n4 17 (by decide)).trans ((n3 17 (by decide)).trans (((m2.at_ 17).trans (if_neg (by decide))).trans (((m1.at_ 17).trans (if_neg (by decide))).trans q17)))), no_pm⟩ ⟨B18, u18, g4.trans (e18.symm.trans z18), y18⟩)
      clear hst hC9 z14 y14 z15 y15 z16 y16 z17 y17 z18 y18
      refine wpList_plain rfl (fun K hK => ?_)
      refine Mem.oper_store (cs0 := zch) (cs := cX4) rfl rfl rfl bR (by rw [sz4]; kernel_rfl) (by rw [sz4]; rfl) V.out.one ?_
      refine hK _ _ ?_
      clear hK K
      refine wpList_nil ?_
      have FR := fr_row (w := wX4) gR (cX4)
      have bR9 := blk_row (cX4) bR
      have HB9 := Lib.hid (Bl.trans HB0.out (Bl.of_fr FR HB0.out.size (fun k h => by have h9 : k = gR := h; have := HG.out; omega)))
      have HVV := Lib.hid ((V.out.fr FR (fun k _ h2 h3 => by have h9 : k = gR := h3; have := HG.out; omega)).more (Nat.le_refl 0) HB9.out.size)
      have hi9 : (Try.prog.info? 31).map (fun i => i.size) = some (cX4).size := by rw [sz4]; kernel_rfl
      generalize wX4.setRow gR (cX4) = w9 at *
      clear bR bB FR V
      go_wp2
      (try simp only [Exit.inBlock, Exit.then])
      refine bodyPost_ret (results_blk1 rfl _ rfl bR9 hup rfl hi9) rfl ?_
      exact ⟨HB9.out, cX4, rfl, HVV.out⟩
    · exact ⟨false, false, false, false, false, false, false, false, false, false, false, false, cQ1, rfl, rfl, (Mix.refl cs sz1).congr (fun i => by simp), bO, (Fr.refl _ wQ1).drew⟩
  · exact ⟨false, false, false, false, false, false, false, false, false, false, false, false, z0, rfl, rfl, (Mix.refl cs szz).congr (fun i => by simp), bO, (Fr.refl _ wk).drew⟩
end Go.Proofs.Ytaifihoheieneaa.Chk
namespace Go.Proofs.Ytaifihoheieneaa.Chk
open Go.RowKit Go.Proofs.Ytaifihoheieneaa.Mem Go.Proofs.Ytaifihoheieneaa.Octet Go.Proofs.Ytaifihoheieneaa.Prm
set_option linter.unusedVariables false
set_option linter.unusedSimpArgs false
theorem new_cells (w : World) (cs : Array Value) (t : TypeId) : ∀ j u, cs.toList[j]? = some u → (w.alloc (.cells cs t)).cell? ((⟨w.heap.size, 0, none⟩ : Addr).add j) = some u := by
  intro j u hu
  have hc := cell_of_row (w.alloc (.cells cs t)) w.heap.size j cs t (0, 0) (heap_alloc_new w _)
  rw [Array.getElem?_toList] at hu
  rw [hu] at hc
  rw [← hc]
  by_cases h0 : j = 0
  · subst h0; rfl
  · simp [Addr.add, h0]
theorem row_ne {w : World} {base n : Nat} {e t : TypeId} {size : Nat} {v : Value} {xs : List Value} {g : Nat} {cs : Array Value} (h : w.ownsRow base e size v n xs) (hb : Blk w g t cs) (hne : e ≠ t) : v.ownBlock ≠ some g := by
  rcases h.2 with ⟨rfl, h0⟩ | ⟨g', cap, cur, rfl, hb', hg, rest⟩
  · intro hk; cases hk
  · intro hk
    have hk' : some g' = some g := hk
    injection hk' with hk'
    subst hk'
    exact (Blk.ne (t := e) hg hb hne) rfl
set_option maxHeartbeats 8000000 in
set_option maxRecDepth 100000 in
theorem rstrip_192 (lo hi : Nat) (cs : Array Value) (c : Ck) (w : World) (hC : CkV w lo hi cs c) (hhi : hi ≤ w.heap.size) (hBd : CkB c) (hL : CkL c) (hk : c.k = 192) :
    Calls Try.prog 19 #[.agg cs] w (StripC w c) := by
  have hup := Try.underlying31
  have hsz := hC.size
  have B0 : Below w.heap.size w ((w.alloc (.cells cs 31)).alloc (.cells zch 31)) := ((Below.refl _ w).alloc (Nat.le_refl _) _).alloc (by simp) _
  have bB := (Blk.new w cs 31).alloc (.cells zch 31)
  have bR : Blk ((w.alloc (.cells cs 31)).alloc (.cells zch 31)) (w.heap.size + 1) 31 zch := by simpa using Blk.new (w.alloc (.cells cs 31)) zch 31
  have hs1 : ((w.alloc (.cells cs 31)).alloc (.cells zch 31)).heap.size = w.heap.size + 2 := by simp
  have c0 := hC.c0
  rw [hk] at c0
  have HK := Lib.hid hk
  obtain ⟨A14, p14, e14, -⟩ := hC.c14
  obtain ⟨A15, p15, e15, -⟩ := hC.c15
  obtain ⟨A16, p16, e16, -⟩ := hC.c16
  obtain ⟨A17, p17, e17, -⟩ := hC.c17
  obtain ⟨A18, p18, e18, -⟩ := hC.c18
  have cc0 := (bB.cell 0).trans c0
  clear hk
  go_enter Try.func19, Try.ntmps19
  go_upto_region 1 with fail
  generalize (w.alloc (.cells cs 31)).alloc (.cells zch 31) = w1 at *
  have HB0 := Lib.hid B0
  obtain ⟨gB, hgB⟩ : ∃ gB, w.heap.size = gB := ⟨_, rfl⟩
  obtain ⟨gR, hgR⟩ : ∃ gR, w.heap.size + 1 = gR := ⟨_, rfl⟩
  rw [hgR] at bR ⊢
  rw [hgB] at bB cc0 ⊢
  have HG := Lib.hid (And.intro hgB (And.intro hgR hs1))
  have hbR : gR ≠ gB := by omega
  clear hs1 hgR hgB B0
  go_upto_region 2 with fail
  refine wp_region_lit ?_
  refine wpList_plain rfl (fun K hK => ?_)
  go_simp
  refine hK _ _ ?_
  clear hK K
  refine wpList_plain rfl (fun K hK => ?_)
  go_simp
  refine hK _ _ ?_
  clear hK K
  refine wpList_plain rfl (fun K hK => ?_)
  go_simp
  refine hK _ _ ?_
  clear hK K
  refine wpList_plain rfl (fun K hK => ?_)
  go_simp
  refine hK _ _ ?_
  clear hK K
  refine wpList_plain rfl (fun K hK => ?_)
  refine Mem.oper_store (cs0 := zch) (cs := (kz 192)) rfl rfl rfl (Blk.new w1 zch 31) (by kernel_rfl) rfl (kz_one _) ?_
  refine hK _ _ ?_
  clear hK K
  refine wpList_nil ?_
  have F0 : Fr nothing w1 ((w1.alloc (.cells zch 31)).setRow w1.heap.size (kz 192)) := ((Fr.refl nothing w1).alloc _).trans (fr_row w1.heap.size (kz 192)) (fun k hk h => by have h9 : k = w1.heap.size := h; omega)
  have bO := blk_row (kz 192) (Blk.new w1 zch 31)
  have bB1 := bB.fr F0 id
  have bR1 := bR.fr F0 id
  have hltO := bO.lt
  have hgO : gR < w1.heap.size ∧ gB < w1.heap.size := ⟨bR.lt, bB.lt⟩
  have HB1 := Lib.hid (Bl.trans HB0.out (Bl.of_fr F0 HB0.out.size (fun k h => h.elim)))
  have HGO := Lib.hid (show w.heap.size + 2 ≤ w1.heap.size from by have := HG.out; omega)
  generalize (w1.alloc (.cells zch 31)).setRow w1.heap.size (kz 192) = wk at *
  generalize w1.heap.size = gO at *
  clear bB bR F0 HB0 cc0 hltO
  have bB := bB1
  have bR := bR1
  have HB0 := HB1
  have hBO : ¬ only gO gB := fun h => by have h9 : gB = gO := h; omega
  have hRO : ¬ only gO gR := fun h => by have h9 : gR = gO := h; omega
  have szz := kz_size 192
  clear bB1 bR1 HB1
  obtain ⟨q0, q1, q2, q3, q4, q5, q6, q7, q8, q9, q10, q11, q12, q13, q14, q15, q16, q17, q18⟩ := kz_at 192
  generalize hKL : (kz 192) = z0 at *
  clear hKL
  go_upto_region 18 with fail
  have cL := (bB.cell 5).trans hC.c5
  have cz := (bO.cell 5).trans q5
  have fz := bO.frozen 5
  refine wp_region_lit ?_
  refine wpList_plain rfl (fun K hK => ?_)
  go_simp
  refine hK _ _ ?_
  clear hK K
  refine wpList_plain rfl (fun K hK => ?_)
  go_simp
  refine hK _ _ ?_
  clear hK K
  refine wpList_plain rfl (fun K hK => ?_)
  go_simp
  refine hK _ _ ?_
  clear hK K
  refine wpList_plain rfl (fun K hK => ?_)
  go_simp
  refine hK _ _ ?_
  clear hK K
  refine wpList_nil ?_
  have FS : Fr (only gO) wk (wk.setCell ⟨gO, 5, none⟩ (.int .u32 c.tsn)) := (Fr.refl _ _).set_only 5 none _
  have bO1 := bO.set 5 (.int .u32 c.tsn)
  have bB1 := bB.fr FS hBO
  have bR1 := bR.fr FS hRO
  obtain ⟨sz1, g1, n1⟩ := set_get szz 5 (by decide) (.int .u32 c.tsn)
  generalize hX1 : (z0).setIfInBounds 5 (.int .u32 c.tsn) = cX1 at *
  generalize wk.setCell ⟨gO, 5, none⟩ (.int .u32 c.tsn) = wX1 at *
  clear cL cz fz hX1
  have HB1 := Lib.hid (Bl.trans HB0.out (Bl.of_fr FS HB0.out.size (fun k h => by have h9 : k = gO := h; have := HGO.out; omega)))
  clear bB bR bO HB0
  have bB := bB1
  have bR := bR1
  have bO := bO1
  have HB0 := HB1
  clear bB1 bR1 bO1 HB1 FS
  have r0 : cX1[0]? = some (.int .u8 192) := ((n1 0 (by decide)).trans q0)
  have r1 : cX1[1]? = some (.bool false) := ((n1 1 (by decide)).trans q1)
  have r2 : cX1[2]? = some (.bool false) := ((n1 2 (by decide)).trans q2)
  have r3 : cX1[3]? = some (.bool false) := ((n1 3 (by decide)).trans q3)
  have r4 : cX1[4]? = some (.bool false) := ((n1 4 (by decide)).trans q4)
  have r5 : cX1[5]? = some (.int .u32 c.tsn) := g1
  have r6 : cX1[6]? = some (.int .u16 0) := ((n1 6 (by decide)).trans q6)
  have r7 : cX1[7]? = some (.int .u32 0) := ((n1 7 (by decide)).trans q7)
  have r8 : cX1[8]? = some (.int .u32 0) := ((n1 8 (by decide)).trans q8)
  have r9 : cX1[9]? = some (.int .u32 0) := ((n1 9 (by decide)).trans q9)
  have r10 : cX1[10]? = some (.int .u32 0) := ((n1 10 (by decide)).trans q10)
  have r11 : cX1[11]? = some (.int .u32 0) := ((n1 11 (by decide)).trans q11)
  have r12 : cX1[12]? = some (.int .u16 0) := ((n1 12 (by decide)).trans q12)
  have r13 : cX1[13]? = some (.int .u16 0) := ((n1 13 (by decide)).trans q13)
  have r14 : cX1[14]? = some (.slice none 0 0) := ((n1 14 (by decide)).trans q14)
  have r15 : cX1[15]? = some (.slice none 0 0) := ((n1 15 (by decide)).trans q15)
  have r17 : cX1[17]? = some (.slice none 0 0) := ((n1 17 (by decide)).trans q17)
  have r18 : cX1[18]? = some (.slice none 0 0) := ((n1 18 (by decide)).trans q18)
  have r16 : cX1[16]? = some (.slice none 0 0) := ((n1 16 (by decide)).trans q16)
  obtain ⟨SS, hSS⟩ : ∃ SS, SS = (c.skips.map fun s => (s.1, false, s.2.2 % 65536)) := ⟨_, rfl⟩
  have hSL : SS.length = c.skips.length := by rw [hSS]; simp
  obtain ⟨A16', p16', z16', S16⟩ := (hC.bl HB0.out hhi).c16
  have hq16 := e16.symm.trans z16'
  injection hq16 with hq16
  injection hq16 with q1 q2 q3
  subst q1; subst q3
  have cc := (bB.cell 16).trans e16
  obtain ⟨i16, hi16, hz16, hb16, hy16⟩ := info_of info_skip
  have l16 := hL.skips
  have HR := Lib.hid (And.intro r0 (And.intro r1 (And.intro r2 (And.intro r3 (And.intro r4 (And.intro r5 (And.intro r6 (And.intro r7 (And.intro r8 (And.intro r9 (And.intro r10 (And.intro r11 (And.intro r12 (And.intro r13 (And.intro r14 (And.intro r15 (And.intro r17 r18)))))))))))))))))
  have HSL := Lib.hid (And.intro hSS hSL)
  have HS16 := Lib.hid S16
  clear r0 r1 r2 r3 r4 r5 r6 r7 r8 r9 r10 r11 r12 r13 r14 r15 r17 r18 q2 z16' S16 hSS hSL
  have hlw := bO.lt
  go_wp2_with fail
  go_loopw [122] (fun i wr => ∃ (j : Nat) (co : Array Value) (v : Value), j ≤ c.skips.length ∧ i = .int .i64 j ∧ Blk wr gO 31 co ∧ co.size = 19 ∧ co[16]? = some v ∧ (∀ i, i ≠ 16 → co[i]? = cX1[i]?) ∧ wr.ownsRow wX1.heap.size 75 3 v j (scells (SS.take j)) ∧ Fr (fun k => k = gO ∨ wX1.heap.size ≤ k) wX1 wr) (fun i _ => c.skips.length - (intOf i).toNat)
  case atStart => exact ⟨0, _, _, Nat.zero_le _, rfl, bO, sz1, r16, fun _ _ => rfl, World.ownsRow_nil _ _ _ _, Fr.refl _ _⟩
  case round =>
  clear cc
  obtain ⟨j, co, v, hj, rfl, bO1, szc, h16, hne, hown, FW⟩ := hrel
  have hsw := FW.size
  have bB1 := bB.fr FW (fun h => by have h9 : gB = gO ∨ wX1.heap.size ≤ gB := h; have := bB.lt; rcases h9 with h9 | h9; exact hBO h9; omega)
  have bR1 := bR.fr FW (fun h => by have h9 : gR = gO ∨ wX1.heap.size ≤ gR := h; have := bR.lt; rcases h9 with h9 | h9; exact hRO h9; omega)
  by_cases hlt : j < c.skips.length
  · have S9 := HS16.out.fr FW (fun k _ h2 h3 => by have h9 : k = gO ∨ wX1.heap.size ≤ k := h3; have := HGO.out; omega)
    obtain ⟨ad, rfl, h1, h2, h3, h4, h5⟩ := S9 j hlt
    have hS := hBd.skips _ (List.getElem_mem hlt)
    have HT := Lib.hid (show scells (SS.take (j + 1)) = scells (SS.take j) ++ [.int .u16 c.skips[j].1, .bool false, .int .u32 (c.skips[j].2.2 % 65536)] by
      have hj2 : j < SS.length := by rw [HSL.out.2]; exact hlt
      rw [List.take_add_one, List.getElem?_eq_getElem hj2]
      show scells (SS.take j ++ [SS[j]]) = _
      rw [scells_snoc]
      have := HSL.out.1
      subst this
      simp)
    generalize c.skips[j] = s at h3 h4 h5 hS HT
    obtain ⟨x, y, z⟩ := s
    have hzz : 0 ≤ z ∧ z < 4294967296 := hS.2
    rw [add_add_ _ _ _ (by decide)] at h4 h5
    replace h3 : wr.cell? (ad.add (j * 3)) = some (.int .u16 x) := h3
    replace h4 : wr.cell? ⟨(ad.add (j * 3)).block, (ad.add (j * 3)).off + 1, none⟩ = some (.bool y) := h4
    replace h5 : wr.cell? ⟨(ad.add (j * 3)).block, (ad.add (j * 3)).off + 2, none⟩ = some (.int .u32 z) := h5
    have hjl : (j : Int) < c.skips.length := by omega
    have bS := Blk.new wr #[.int .u16 x, .bool y, .int .u32 z] 75
    have bO2 := bO1.alloc (.cells #[.int .u16 x, .bool y, .int .u32 z] 75)
    have hown2 := row_fr (S := nothing) hown ((Fr.refl _ wr).alloc (.cells #[.int .u16 x, .bool y, .int .u32 z] 75)) (fun _ _ h => h)
    have F2 := FW.alloc (.cells #[.int .u16 x, .bool y, .int .u32 z] 75)
    have hgS : wr.heap.size ≠ gO := by have := bO1.lt; omega
    have hgS2 : wX1.heap.size ≤ wr.heap.size := hsw
    obtain ⟨Av, cv, rfl⟩ := row_form hown
    have hrlt : ∀ k, (Value.slice Av j cv).ownBlock = some k → k < wr.heap.size := fun k hk => (hown.lt k hk).2
    clear S9 hS
    go_upto_region 23 with fail
    generalize wr.alloc (.cells #[.int .u16 x, .bool y, .int .u32 z] 75) = ws at *
    generalize wr.heap.size = gS at *
    clear h3 h4 h5
    have cS1 := bS.cell 1
    have fS1 := bS.frozen 1
    have cS2 := bS.cell 2
    simp at cS1 cS2
    have hm2 : z.tmod 65536 = z % 65536 := Int.tmod_eq_emod_of_nonneg hzz.1
    go_upto_region 25 with fail
    clear cS1 fS1 cS2
    have bS2 := bS.set 1 (.bool false)
    have FS2 : Fr (only gS) ws (ws.setCell ⟨gS, 1, none⟩ (.bool false)) := (Fr.refl _ _).set_only 1 none _
    generalize ws.setCell ⟨gS, 1, none⟩ (.bool false) = wt2 at *
    have cS2 := bS2.cell 2
    have fS2 := bS2.frozen 2
    simp at cS2
    go_upto_region 26 with fail
    have bS3 := bS2.set 2 (.int .u32 (z % 65536))
    have FS3 : Fr (only gS) ws (wt2.setCell ⟨gS, 2, none⟩ (.int .u32 (z % 65536))) := FS2.trans ((Fr.refl _ _).set_only 2 none _) (fun k _ h => h)
    generalize wt2.setCell ⟨gS, 2, none⟩ (.int .u32 (z % 65536)) = wt at *
    clear cS2 fS2 FS2 hm2
    have bO3 := bO2.fr FS3 (fun h => hgS (show gS = gO from (show gO = gS from h).symm))
    have hown3 := row_fr hown2 FS3 (fun k hk h => by have h9 : k = gS := h; have := hrlt k hk; omega)
    have F3 : Fr (fun k => k = gO ∨ wX1.heap.size ≤ k) wX1 wt := F2.trans FS3 (fun k _ h => by have h9 : k = gS := h; right; omega)
    clear bO2 hown2 F2 FS3
    have hsz3 := F3.size
    have cS0 := bS3.cell 0
    have cS1 := bS3.cell 1
    have cS2 := bS3.cell 2
    simp at cS0 cS1 cS2
    have c16 := (bO3.cell 16).trans h16
    go_upto_region 26 with fail
    refine wp_region_lit ?_
    refine wpList_plain rfl (fun K hK => ?_)
    go_simp
    refine hK _ _ ?_
    clear hK K
    refine wpList_plain rfl (fun K hK => ?_)
    go_simp
    refine hK _ _ ?_
    clear hK K
    refine wpList_plain rfl (fun K hK => ?_)
    go_simp
    refine hK _ _ ?_
    clear hK K
    refine wpList_plain rfl (fun K hK => ?_)
    go_simp
    refine hK _ _ ?_
    clear hK K
    have own4 := row_fr (S := nothing) hown3 ((Fr.refl _ wt).alloc (.cells #[.int .u16 x, .bool false, .int .u32 (z % 65536)] 75)) (fun _ _ h => h)
    have bO4 := bO3.alloc (.cells #[.int .u16 x, .bool false, .int .u32 (z % 65536)] 75)
    have F4 := F3.alloc (.cells #[.int .u16 x, .bool false, .int .u32 (z % 65536)] 75)
    have hce := new_cells wt #[.int .u16 x, .bool false, .int .u32 (z % 65536)] 75
    have hbs : wX1.heap.size ≤ (wt.alloc (.cells #[.int .u16 x, .bool false, .int .u32 (z % 65536)] 75)).heap.size := by simp; omega
    generalize wt.alloc (.cells #[.int .u16 x, .bool false, .int .u32 (z % 65536)] 75) = wu at *
    refine wpList_append_any _ rfl (.tmp 134) (.tmp 136) _ rfl wX1.heap.size 75 i16 _ 3 8 Try.underlying27 hi16 hz16 hb16 hy16 rfl (by decide) (.slice Av j cv) j (scells (SS.take j)) rfl own4 (some ⟨wt.heap.size, 0, none⟩) 1 1 [.int .u16 x, .bool false, .int .u32 (z % 65536)] rfl (fun h => by cases h) rfl (fun ad0 e j0 u hu => by injection e with e; subst e; exact hce j0 u hu) (fun u hu => by simp at hu; rcases hu with rfl | rfl | rfl <;> rfl) (by unfold maxLen; omega) (by omega) hbs ?_
    intro v5 w5 hown5 hgr hat
    rw [← HT.out] at hown5
    have FG : Fr (fun k => k = gO ∨ wX1.heap.size ≤ k) wu w5 := (Fr.refl _ wu).grown hgr (fun k hk => .inl (.inr (own4.lt k hk).1))
    have hnO : ∀ k, (Value.slice Av j cv).ownBlock = some k → k ≠ gO := fun k hk e => by subst e; exact row_ne own4 bO4 (by decide) hk
    have FG2 : Fr (fun k => (Value.slice Av j cv).ownBlock = some k) wu w5 := (Fr.refl _ wu).grown hgr (fun k hk => .inl hk)
    have bO5 := bO4.fr FG2 (fun h => hnO gO h rfl)
    have F5 := F4.trans FG (fun k _ h => h)
    obtain ⟨A5, c5, rfl⟩ := row_form hown5
    have cz := (bO5.cell 16).trans h16
    have fz := bO5.frozen 16
    clear c16 cS0 cS1 cS2 hce
    refine wpList_plain rfl (fun K hK => ?_)
    go_simp
    refine hK _ _ ?_
    clear hK K
    refine wpList_plain rfl (fun K hK => ?_)
    go_simp
    refine hK _ _ ?_
    clear hK K
    refine wpList_nil ?_
    have FS : Fr (only gO) w5 (w5.setCell ⟨gO, 16, none⟩ (.slice A5 (j + 1) c5)) := (Fr.refl _ _).set_only 16 none _
    have bO6 := bO5.set 16 (.slice A5 (j + 1) c5)
    obtain ⟨sz6, g6, n6⟩ := set_get szc 16 (by decide) (.slice A5 (j + 1) c5)
    have hown6 := row_fr hown5 FS (fun k hk h => by have h9 : k = gO := h; subst h9; exact row_ne hown5 bO5 (by decide) hk)
    have F6 := F5.trans (FS.mono (fun k _ h => .inl h)) (fun k _ h => h)
    have HW := Lib.hid (And.intro bO6 (And.intro sz6 (And.intro g6 (And.intro (fun i (hi : i ≠ 16) => (n6 i hi).trans (hne i hi)) (And.intro hown6 F6)))))
    generalize w5.setCell ⟨gO, 16, none⟩ (.slice A5 (j + 1) c5) = w6 at *
    clear bO6 sz6 g6 n6 hown6 F6 FS bO5 hown5 F5 FG FG2 cz fz bO4 own4 F4 bO3 hown3 F3 HT bB1 bR1 bO1 hown FW hrlt hnO hne h16
    go_wp2
    go_roundw
    case rel => exact ⟨j + 1, _, _, by omega, by go_num, HW.out.1, HW.out.2.1, HW.out.2.2.1, HW.out.2.2.2.1, HW.out.2.2.2.2.1, HW.out.2.2.2.2.2⟩
    case measure => simp [intOf]; omega
  · obtain rfl : j = c.skips.length := by omega
    have hjl : ¬ ((c.skips.length : Nat) : Int) < c.skips.length := by omega
    obtain ⟨Av, cv, rfl⟩ := row_form hown
    have hd : scells (SS.take c.skips.length) = scells SS := by rw [← HSL.out.2, List.take_length]
    rw [hd] at hown
    have HB1 := Lib.hid (Bl.trans HB0.out (Bl.of_fr FW HB0.out.size (fun k h => by have h9 : k = gO ∨ wX1.heap.size ≤ k := h; have := HGO.out; have := HB0.out.size; omega)))
    have hownL : wr.ownsRow wX1.heap.size 75 3 (.slice Av SS.length cv) SS.length (scells SS) := by rw [HSL.out.2]; exact hown
    have DS := own_skp hownL
    have hbl9 := HB0.out.size
    go_upto_region 32 with fail
    refine wp_region_lit ?_
    refine wpList_plain rfl (fun K hK => ?_)
    refine Mem.oper_load rfl rfl bO1 hup rfl (by rw [szc]; kernel_rfl) ?_
    refine hK _ _ ?_
    clear hK K
    obtain ⟨r0, r1, r2, r3, r4, r5, r6, r7, r8, r9, r10, r11, r12, r13, r14, r15, r17, r18⟩ := HR.out
    replace r0 := (hne 0 (by decide)).trans r0
    replace r1 := (hne 1 (by decide)).trans r1
    replace r2 := (hne 2 (by decide)).trans r2
    replace r3 := (hne 3 (by decide)).trans r3
    replace r4 := (hne 4 (by decide)).trans r4
    replace r5 := (hne 5 (by decide)).trans r5
    replace r6 := (hne 6 (by decide)).trans r6
    replace r7 := (hne 7 (by decide)).trans r7
    replace r8 := (hne 8 (by decide)).trans r8
    replace r9 := (hne 9 (by decide)).trans r9
    replace r10 := (hne 10 (by decide)).trans r10
    replace r11 := (hne 11 (by decide)).trans r11
    replace r12 := (hne 12 (by decide)).trans r12
    replace r13 := (hne 13 (by decide)).trans r13
    replace r14 := (hne 14 (by decide)).trans r14
    replace r15 := (hne 15 (by decide)).trans r15
    replace r17 := (hne 17 (by decide)).trans r17
    replace r18 := (hne 18 (by decide)).trans r18
    have r16 := h16
    have hst : strip c = ⟨192, false, false, false, false, c.tsn, 0, 0, 0, 0, 0, 0, 0, 0, [], [], ((c.skips.map fun s => (s.1, false, s.2.2 % 65536))), [], []⟩ := by unfold strip zC; simp [HK.out]
    have hss := HSL.out.1
    have V := Lib.hid (show CkV wr 0 wr.heap.size co (strip c) from by
      rw [hst, ← hss]
      exact ckv_mk szc r0 r1 r2 r3 r4 r5 r6 r7 r8 r9 r10 r11 r12 r13 ⟨none, 0, r14, no_gap⟩ ⟨none, 0, r15, no_dup⟩ ⟨Av, cv, by rw [HSL.out.2]; exact r16, fun i hi => by obtain ⟨ad, e, a1, a2, a3⟩ := DS i hi; exact ⟨ad, e, by omega, by omega, a3⟩⟩ ⟨none, 0, r17, no_pm⟩ ⟨none, 0, r18, no_by⟩)
    refine wpList_plain rfl (fun K hK => ?_)
    refine Mem.oper_store (cs0 := zch) (cs := co) rfl rfl rfl bR1 (by rw [szc]; kernel_rfl) (by rw [szc]; rfl) V.out.one ?_
    refine hK _ _ ?_
    clear hK K
    refine wpList_nil ?_
    have FR := fr_row (w := wr) gR co
    have bR9 := blk_row co bR1
    have HB9 := Lib.hid (Bl.trans HB1.out (Bl.of_fr FR HB1.out.size (fun k h => by have h9 : k = gR := h; have := HG.out; omega)))
    have DS9 := DS.fr FR (fun k h1 _ h => by have h9 : k = gR := h; have := bR.lt; omega)
    have hs9 := FR.size
    have HVV := Lib.hid (show CkV (wr.setRow gR co) 0 (wr.setRow gR co).heap.size co (strip c) from by
      rw [hst, ← hss]
      exact ckv_mk szc r0 r1 r2 r3 r4 r5 r6 r7 r8 r9 r10 r11 r12 r13 ⟨none, 0, r14, no_gap⟩ ⟨none, 0, r15, no_dup⟩ ⟨Av, cv, by rw [HSL.out.2]; exact r16, fun i hi => by obtain ⟨ad, e, a1, a2, a3⟩ := DS9 i hi; exact ⟨ad, e, by omega, by omega, a3⟩⟩ ⟨none, 0, r17, no_pm⟩ ⟨none, 0, r18, no_by⟩)
    have hi9 : (Try.prog.info? 31).map (fun i => i.size) = some co.size := by rw [szc]; kernel_rfl
    generalize wr.setRow gR co = w9 at *
    clear V hst hss bR1 bB1 bR bB FR bO1 DS DS9 hownL hown r0 r1 r2 r3 r4 r5 r6 r7 r8 r9 r10 r11 r12 r13 r14 r15 r16 r17 r18
    go_wp2
    (try simp only [Exit.inBlock, Exit.then])
    refine bodyPost_ret (results_blk1 rfl _ rfl bR9 hup rfl hi9) rfl ?_
    exact ⟨HB9.out, co, rfl, HVV.out⟩
set_option maxHeartbeats 8000000 in
set_option maxRecDepth 100000 in
theorem rstrip_194 (lo hi : Nat) (cs : Array Value) (c : Ck) (w : World) (hC : CkV w lo hi cs c) (hhi : hi ≤ w.heap.size) (hBd : CkB c) (hL : CkL c) (hk : c.k = 194) :
    Calls Try.prog 19 #[.agg cs] w (StripC w c) := by
  have hup := Try.underlying31
  have hsz := hC.size
  have B0 : Below w.heap.size w ((w.alloc (.cells cs 31)).alloc (.cells zch 31)) := ((Below.refl _ w).alloc (Nat.le_refl _) _).alloc (by simp) _
  have bB := (Blk.new w cs 31).alloc (.cells zch 31)
  have bR : Blk ((w.alloc (.cells cs 31)).alloc (.cells zch 31)) (w.heap.size + 1) 31 zch := by simpa using Blk.new (w.alloc (.cells cs 31)) zch 31
  have hs1 : ((w.alloc (.cells cs 31)).alloc (.cells zch 31)).heap.size = w.heap.size + 2 := by simp
  have c0 := hC.c0
  rw [hk] at c0
  have HK := Lib.hid hk
  obtain ⟨A14, p14, e14, -⟩ := hC.c14
  obtain ⟨A15, p15, e15, -⟩ := hC.c15
  obtain ⟨A16, p16, e16, -⟩ := hC.c16
  obtain ⟨A17, p17, e17, -⟩ := hC.c17
  obtain ⟨A18, p18, e18, -⟩ := hC.c18
  have cc0 := (bB.cell 0).trans c0
  clear hk
  go_enter Try.func19, Try.ntmps19
  go_upto_region 1 with fail
  generalize (w.alloc (.cells cs 31)).alloc (.cells zch 31) = w1 at *
  have HB0 := Lib.hid B0
  obtain ⟨gB, hgB⟩ : ∃ gB, w.heap.size = gB := ⟨_, rfl⟩
  obtain ⟨gR, hgR⟩ : ∃ gR, w.heap.size + 1 = gR := ⟨_, rfl⟩
  rw [hgR] at bR ⊢
  rw [hgB] at bB cc0 ⊢
  have HG := Lib.hid (And.intro hgB (And.intro hgR hs1))
  have hbR : gR ≠ gB := by omega
  clear hs1 hgR hgB B0
  go_upto_region 2 with fail
  refine wp_region_lit ?_
  refine wpList_plain rfl (fun K hK => ?_)
  go_simp
  refine hK _ _ ?_
  clear hK K
  refine wpList_plain rfl (fun K hK => ?_)
  go_simp
  refine hK _ _ ?_
  clear hK K
  refine wpList_plain rfl (fun K hK => ?_)
  go_simp
  refine hK _ _ ?_
  clear hK K
  refine wpList_plain rfl (fun K hK => ?_)
  go_simp
  refine hK _ _ ?_
  clear hK K
  refine wpList_plain rfl (fun K hK => ?_)
  refine Mem.oper_store (cs0 := zch) (cs := (kz 194)) rfl rfl rfl (Blk.new w1 zch 31) (by kernel_rfl) rfl (kz_one _) ?_
  refine hK _ _ ?_
  clear hK K
  refine wpList_nil ?_
  have F0 : Fr nothing w1 ((w1.alloc (.cells zch 31)).setRow w1.heap.size (kz 194)) := ((Fr.refl nothing w1).alloc _).trans (fr_row w1.heap.size (kz 194)) (fun k hk h => by have h9 : k = w1.heap.size := h; omega)
  have bO := blk_row (kz 194) (Blk.new w1 zch 31)
  have bB1 := bB.fr F0 id
  have bR1 := bR.fr F0 id
  have hltO := bO.lt
  have hgO : gR < w1.heap.size ∧ gB < w1.heap.size := ⟨bR.lt, bB.lt⟩
  have HB1 := Lib.hid (Bl.trans HB0.out (Bl.of_fr F0 HB0.out.size (fun k h => h.elim)))
  have HGO := Lib.hid (show w.heap.size + 2 ≤ w1.heap.size from by have := HG.out; omega)
  generalize (w1.alloc (.cells zch 31)).setRow w1.heap.size (kz 194) = wk at *
  generalize w1.heap.size = gO at *
  clear bB bR F0 HB0 cc0 hltO
  have bB := bB1
  have bR := bR1
  have HB0 := HB1
  have hBO : ¬ only gO gB := fun h => by have h9 : gB = gO := h; omega
  have hRO : ¬ only gO gR := fun h => by have h9 : gR = gO := h; omega
  have szz := kz_size 194
  clear bB1 bR1 HB1
  obtain ⟨q0, q1, q2, q3, q4, q5, q6, q7, q8, q9, q10, q11, q12, q13, q14, q15, q16, q17, q18⟩ := kz_at 194
  generalize hKL : (kz 194) = z0 at *
  clear hKL
  go_upto_region 18 with fail
  have cL := (bB.cell 5).trans hC.c5
  have cz := (bO.cell 5).trans q5
  have fz := bO.frozen 5
  refine wp_region_lit ?_
  refine wpList_plain rfl (fun K hK => ?_)
  go_simp
  refine hK _ _ ?_
  clear hK K
  refine wpList_plain rfl (fun K hK => ?_)
  go_simp
  refine hK _ _ ?_
  clear hK K
  refine wpList_plain rfl (fun K hK => ?_)
  go_simp
  refine hK _ _ ?_
  clear hK K
  refine wpList_plain rfl (fun K hK => ?_)
  go_simp
  refine hK _ _ ?_
  clear hK K
  refine wpList_nil ?_
  have FS : Fr (only gO) wk (wk.setCell ⟨gO, 5, none⟩ (.int .u32 c.tsn)) := (Fr.refl _ _).set_only 5 none _
  have bO1 := bO.set 5 (.int .u32 c.tsn)
  have bB1 := bB.fr FS hBO
  have bR1 := bR.fr FS hRO
  obtain ⟨sz1, g1, n1⟩ := set_get szz 5 (by decide) (.int .u32 c.tsn)
  generalize hX1 : (z0).setIfInBounds 5 (.int .u32 c.tsn) = cX1 at *
  generalize wk.setCell ⟨gO, 5, none⟩ (.int .u32 c.tsn) = wX1 at *
  clear cL cz fz hX1
  have HB1 := Lib.hid (Bl.trans HB0.out (Bl.of_fr FS HB0.out.size (fun k h => by have h9 : k = gO := h; have := HGO.out; omega)))
  clear bB bR bO HB0
  have bB := bB1
  have bR := bR1
  have bO := bO1
  have HB0 := HB1
  clear bB1 bR1 bO1 HB1 FS
  have r0 : cX1[0]? = some (.int .u8 194) := ((n1 0 (by decide)).trans q0)
  have r1 : cX1[1]? = some (.bool false) := ((n1 1 (by decide)).trans q1)
  have r2 : cX1[2]? = some (.bool false) := ((n1 2 (by decide)).trans q2)
  have r3 : cX1[3]? = some (.bool false) := ((n1 3 (by decide)).trans q3)
  have r4 : cX1[4]? = some (.bool false) := ((n1 4 (by decide)).trans q4)
  have r5 : cX1[5]? = some (.int .u32 c.tsn) := g1
  have r6 : cX1[6]? = some (.int .u16 0) := ((n1 6 (by decide)).trans q6)
  have r7 : cX1[7]? = some (.int .u32 0) := ((n1 7 (by decide)).trans q7)
  have r8 : cX1[8]? = some (.int .u32 0) := ((n1 8 (by decide)).trans q8)
  have r9 : cX1[9]? = some (.int .u32 0) := ((n1 9 (by decide)).trans q9)
  have r10 : cX1[10]? = some (.int .u32 0) := ((n1 10 (by decide)).trans q10)
  have r11 : cX1[11]? = some (.int .u32 0) := ((n1 11 (by decide)).trans q11)
  have r12 : cX1[12]? = some (.int .u16 0) := ((n1 12 (by decide)).trans q12)
  have r13 : cX1[13]? = some (.int .u16 0) := ((n1 13 (by decide)).trans q13)
  have r14 : cX1[14]? = some (.slice none 0 0) := ((n1 14 (by decide)).trans q14)
  have r15 : cX1[15]? = some (.slice none 0 0) := ((n1 15 (by decide)).trans q15)
  have r17 : cX1[17]? = some (.slice none 0 0) := ((n1 17 (by decide)).trans q17)
  have r18 : cX1[18]? = some (.slice none 0 0) := ((n1 18 (by decide)).trans q18)
  have r16 : cX1[16]? = some (.slice none 0 0) := ((n1 16 (by decide)).trans q16)
  obtain ⟨SS, hSS⟩ : ∃ SS, SS = c.skips := ⟨_, rfl⟩
  have hSL : SS.length = c.skips.length := by rw [hSS]
  obtain ⟨A16', p16', z16', S16⟩ := (hC.bl HB0.out hhi).c16
  have hq16 := e16.symm.trans z16'
  injection hq16 with hq16
  injection hq16 with q1 q2 q3
  subst q1; subst q3
  have cc := (bB.cell 16).trans e16
  obtain ⟨i16, hi16, hz16, hb16, hy16⟩ := info_of info_skip
  have l16 := hL.skips
  have HR := Lib.hid (And.intro r0 (And.intro r1 (And.intro r2 (And.intro r3 (And.intro r4 (And.intro r5 (And.intro r6 (And.intro r7 (And.intro r8 (And.intro r9 (And.intro r10 (And.intro r11 (And.intro r12 (And.intro r13 (And.intro r14 (And.intro r15 (And.intro r17 r18)))))))))))))))))
  have HSL := Lib.hid (And.intro hSS hSL)
  have HS16 := Lib.hid S16
  clear r0 r1 r2 r3 r4 r5 r6 r7 r8 r9 r10 r11 r12 r13 r14 r15 r17 r18 q2 z16' S16 hSS hSL
  have hlw := bO.lt
  go_wp2_with fail
  go_loopw [122] (fun i wr => ∃ (j : Nat) (co : Array Value) (v : Value), j ≤ c.skips.length ∧ i = .int .i64 j ∧ Blk wr gO 31 co ∧ co.size = 19 ∧ co[16]? = some v ∧ (∀ i, i ≠ 16 → co[i]? = cX1[i]?) ∧ wr.ownsRow wX1.heap.size 75 3 v j (scells (SS.take j)) ∧ Fr (fun k => k = gO ∨ wX1.heap.size ≤ k) wX1 wr) (fun i _ => c.skips.length - (intOf i).toNat)
  case atStart => exact ⟨0, _, _, Nat.zero_le _, rfl, bO, sz1, r16, fun _ _ => rfl, World.ownsRow_nil _ _ _ _, Fr.refl _ _⟩
  case round =>
  clear cc
  obtain ⟨j, co, v, hj, rfl, bO1, szc, h16, hne, hown, FW⟩ := hrel
  have hsw := FW.size
  have bB1 := bB.fr FW (fun h => by have h9 : gB = gO ∨ wX1.heap.size ≤ gB := h; have := bB.lt; rcases h9 with h9 | h9; exact hBO h9; omega)
  have bR1 := bR.fr FW (fun h => by have h9 : gR = gO ∨ wX1.heap.size ≤ gR := h; have := bR.lt; rcases h9 with h9 | h9; exact hRO h9; omega)
  by_cases hlt : j < c.skips.length
  · have S9 := HS16.out.fr FW (fun k _ h2 h3 => by have h9 : k = gO ∨ wX1.heap.size ≤ k := h3; have := HGO.out; omega)
    obtain ⟨ad, rfl, h1, h2, h3, h4, h5⟩ := S9 j hlt
    have hS := hBd.skips _ (List.getElem_mem hlt)
    have HT := Lib.hid (show scells (SS.take (j + 1)) = scells (SS.take j) ++ [.int .u16 c.skips[j].1, .bool c.skips[j].2.1, .int .u32 c.skips[j].2.2] by
      have hj2 : j < SS.length := by rw [HSL.out.2]; exact hlt
      rw [List.take_add_one, List.getElem?_eq_getElem hj2]
      show scells (SS.take j ++ [SS[j]]) = _
      rw [scells_snoc]
      have := HSL.out.1
      subst this
      simp)
    generalize c.skips[j] = s at h3 h4 h5 hS HT
    obtain ⟨x, y, z⟩ := s
    have hzz : 0 ≤ z ∧ z < 4294967296 := hS.2
    rw [add_add_ _ _ _ (by decide)] at h4 h5
    replace h3 : wr.cell? (ad.add (j * 3)) = some (.int .u16 x) := h3
    replace h4 : wr.cell? ⟨(ad.add (j * 3)).block, (ad.add (j * 3)).off + 1, none⟩ = some (.bool y) := h4
    replace h5 : wr.cell? ⟨(ad.add (j * 3)).block, (ad.add (j * 3)).off + 2, none⟩ = some (.int .u32 z) := h5
    have hjl : (j : Int) < c.skips.length := by omega
    have bS := Blk.new wr #[.int .u16 x, .bool y, .int .u32 z] 75
    have bO2 := bO1.alloc (.cells #[.int .u16 x, .bool y, .int .u32 z] 75)
    have hown2 := row_fr (S := nothing) hown ((Fr.refl _ wr).alloc (.cells #[.int .u16 x, .bool y, .int .u32 z] 75)) (fun _ _ h => h)
    have F2 := FW.alloc (.cells #[.int .u16 x, .bool y, .int .u32 z] 75)
    have hgS : wr.heap.size ≠ gO := by have := bO1.lt; omega
    have hgS2 : wX1.heap.size ≤ wr.heap.size := hsw
    obtain ⟨Av, cv, rfl⟩ := row_form hown
    have hrlt : ∀ k, (Value.slice Av j cv).ownBlock = some k → k < wr.heap.size := fun k hk => (hown.lt k hk).2
    clear S9 hS
    go_upto_region 23 with fail
    generalize wr.alloc (.cells #[.int .u16 x, .bool y, .int .u32 z] 75) = ws at *
    generalize wr.heap.size = gS at *
    clear h3 h4 h5
    have FS3 : Fr (only gS) ws ws := Fr.refl _ _
    have bS3 := bS
    obtain ⟨wt, hwt⟩ : ∃ wt, ws = wt := ⟨_, rfl⟩
    rw [hwt] at FS3 bS3 ⊢
    rw [hwt] at bO2 hown2 F2
    clear hwt
    have bO3 := bO2.fr FS3 (fun h => hgS (show gS = gO from (show gO = gS from h).symm))
    have hown3 := row_fr hown2 FS3 (fun k hk h => by have h9 : k = gS := h; have := hrlt k hk; omega)
    have F3 : Fr (fun k => k = gO ∨ wX1.heap.size ≤ k) wX1 wt := F2.trans FS3 (fun k _ h => by have h9 : k = gS := h; right; omega)
    clear bO2 hown2 F2 FS3
    have hsz3 := F3.size
    have cS0 := bS3.cell 0
    have cS1 := bS3.cell 1
    have cS2 := bS3.cell 2
    simp at cS0 cS1 cS2
    have c16 := (bO3.cell 16).trans h16
    go_upto_region 26 with fail
    refine wp_region_lit ?_
    refine wpList_plain rfl (fun K hK => ?_)
    go_simp
    refine hK _ _ ?_
    clear hK K
    refine wpList_plain rfl (fun K hK => ?_)
    go_simp
    refine hK _ _ ?_
    clear hK K
    refine wpList_plain rfl (fun K hK => ?_)
    go_simp
    refine hK _ _ ?_
    clear hK K
    refine wpList_plain rfl (fun K hK => ?_)
    go_simp
    refine hK _ _ ?_
    clear hK K
    have own4 := row_fr (S := nothing) hown3 ((Fr.refl _ wt).alloc (.cells #[.int .u16 x, .bool y, .int .u32 z] 75)) (fun _ _ h => h)
    have bO4 := bO3.alloc (.cells #[.int .u16 x, .bool y, .int .u32 z] 75)
    have F4 := F3.alloc (.cells #[.int .u16 x, .bool y, .int .u32 z] 75)
    have hce := new_cells wt #[.int .u16 x, .bool y, .int .u32 z] 75
    have hbs : wX1.heap.size ≤ (wt.alloc (.cells #[.int .u16 x, .bool y, .int .u32 z] 75)).heap.size := by simp; omega
    generalize wt.alloc (.cells #[.int .u16 x, .bool y, .int .u32 z] 75) = wu at *
    refine wpList_append_any _ rfl (.tmp 134) (.tmp 136) _ rfl wX1.heap.size 75 i16 _ 3 8 Try.underlying27 hi16 hz16 hb16 hy16 rfl (by decide) (.slice Av j cv) j (scells (SS.take j)) rfl own4 (some ⟨wt.heap.size, 0, none⟩) 1 1 [.int .u16 x, .bool y, .int .u32 z] rfl (fun h => by cases h) rfl (fun ad0 e j0 u hu => by injection e with e; subst e; exact hce j0 u hu) (fun u hu => by simp at hu; rcases hu with rfl | rfl | rfl <;> rfl) (by unfold maxLen; omega) (by omega) hbs ?_
    intro v5 w5 hown5 hgr hat
    rw [← HT.out] at hown5
    have FG : Fr (fun k => k = gO ∨ wX1.heap.size ≤ k) wu w5 := (Fr.refl _ wu).grown hgr (fun k hk => .inl (.inr (own4.lt k hk).1))
    have hnO : ∀ k, (Value.slice Av j cv).ownBlock = some k → k ≠ gO := fun k hk e => by subst e; exact row_ne own4 bO4 (by decide) hk
    have FG2 : Fr (fun k => (Value.slice Av j cv).ownBlock = some k) wu w5 := (Fr.refl _ wu).grown hgr (fun k hk => .inl hk)
    have bO5 := bO4.fr FG2 (fun h => hnO gO h rfl)
    have F5 := F4.trans FG (fun k _ h => h)
    obtain ⟨A5, c5, rfl⟩ := row_form hown5
    have cz := (bO5.cell 16).trans h16
    have fz := bO5.frozen 16
    clear c16 cS0 cS1 cS2 hce
    refine wpList_plain rfl (fun K hK => ?_)
    go_simp
    refine hK _ _ ?_
    clear hK K
    refine wpList_plain rfl (fun K hK => ?_)
    go_simp
    refine hK _ _ ?_
    clear hK K
    refine wpList_nil ?_
    have FS : Fr (only gO) w5 (w5.setCell ⟨gO, 16, none⟩ (.slice A5 (j + 1) c5)) := (Fr.refl _ _).set_only 16 none _
    have bO6 := bO5.set 16 (.slice A5 (j + 1) c5)
    obtain ⟨sz6, g6, n6⟩ := set_get szc 16 (by decide) (.slice A5 (j + 1) c5)
    have hown6 := row_fr hown5 FS (fun k hk h => by have h9 : k = gO := h; subst h9; exact row_ne hown5 bO5 (by decide) hk)
    have F6 := F5.trans (FS.mono (fun k _ h => .inl h)) (fun k _ h => h)
    have HW := Lib.hid (And.intro bO6 (And.intro sz6 (And.intro g6 (And.intro (fun i (hi : i ≠ 16) => (n6 i hi).trans (hne i hi)) (And.intro hown6 F6)))))
    generalize w5.setCell ⟨gO, 16, none⟩ (.slice A5 (j + 1) c5) = w6 at *
    clear bO6 sz6 g6 n6 hown6 F6 FS bO5 hown5 F5 FG FG2 cz fz bO4 own4 F4 bO3 hown3 F3 HT bB1 bR1 bO1 hown FW hrlt hnO hne h16
    go_wp2
    go_roundw
    case rel => exact ⟨j + 1, _, _, by omega, by go_num, HW.out.1, HW.out.2.1, HW.out.2.2.1, HW.out.2.2.2.1, HW.out.2.2.2.2.1, HW.out.2.2.2.2.2⟩
    case measure => simp [intOf]; omega
  · obtain rfl : j = c.skips.length := by omega
    have hjl : ¬ ((c.skips.length : Nat) : Int) < c.skips.length := by omega
    obtain ⟨Av, cv, rfl⟩ := row_form hown
    have hd : scells (SS.take c.skips.length) = scells SS := by rw [← HSL.out.2, List.take_length]
    rw [hd] at hown
    have HB1 := Lib.hid (Bl.trans HB0.out (Bl.of_fr FW HB0.out.size (fun k h => by have h9 : k = gO ∨ wX1.heap.size ≤ k := h; have := HGO.out; have := HB0.out.size; omega)))
    have hownL : wr.ownsRow wX1.heap.size 75 3 (.slice Av SS.length cv) SS.length (scells SS) := by rw [HSL.out.2]; exact hown
    have DS := own_skp hownL
    have hbl9 := HB0.out.size
    go_upto_region 32 with fail
    refine wp_region_lit ?_
    refine wpList_plain rfl (fun K hK => ?_)
    refine Mem.oper_load rfl rfl bO1 hup rfl (by rw [szc]; kernel_rfl) ?_
    refine hK _ _ ?_
    clear hK K
    obtain ⟨r0, r1, r2, r3, r4, r5, r6, r7, r8, r9, r10, r11, r12, r13, r14, r15, r17, r18⟩ := HR.out
    replace r0 := (hne 0 (by decide)).trans r0
    replace r1 := (hne 1 (by decide)).trans r1
    replace r2 := (hne 2 (by decide)).trans r2
    replace r3 := (hne 3 (by decide)).trans r3
    replace r4 := (hne 4 (by decide)).trans r4
    replace r5 := (hne 5 (by decide)).trans r5
    replace r6 := (hne 6 (by decide)).trans r6
    replace r7 := (hne 7 (by decide)).trans r7
    replace r8 := (hne 8 (by decide)).trans r8
    replace r9 := (hne 9 (by decide)).trans r9
    replace r10 := (hne 10 (by decide)).trans r10
    replace r11 := (hne 11 (by decide)).trans r11
    replace r12 := (hne 12 (by decide)).trans r12
    replace r13 := (hne 13 (by decide)).trans r13
    replace r14 := (hne 14 (by decide)).trans r14
    replace r15 := (hne 15 (by decide)).trans r15
    replace r17 := (hne 17 (by decide)).trans r17
    replace r18 := (hne 18 (by decide)).trans r18
    have r16 := h16
    have hst : strip c = ⟨194, false, false, false, false, c.tsn, 0, 0, 0, 0, 0, 0, 0, 0, [], [], (c.skips), [], []⟩ := by unfold strip zC; simp [HK.out]
    have hss := HSL.out.1
    have V := Lib.hid (show CkV wr 0 wr.heap.size co (strip c) from by
      rw [hst, ← hss]
      exact ckv_mk szc r0 r1 r2 r3 r4 r5 r6 r7 r8 r9 r10 r11 r12 r13 ⟨none, 0, r14, no_gap⟩ ⟨none, 0, r15, no_dup⟩ ⟨Av, cv, by rw [HSL.out.2]; exact r16, fun i hi => by obtain ⟨ad, e, a1, a2, a3⟩ := DS i hi; exact ⟨ad, e, by omega, by omega, a3⟩⟩ ⟨none, 0, r17, no_pm⟩ ⟨none, 0, r18, no_by⟩)
    refine wpList_plain rfl (fun K hK => ?_)
    refine Mem.oper_store (cs0 := zch) (cs := co) rfl rfl rfl bR1 (by rw [szc]; kernel_rfl) (by rw [szc]; rfl) V.out.one ?_
    refine hK _ _ ?_
    clear hK K
    refine wpList_nil ?_
    have FR := fr_row (w := wr) gR co
    have bR9 := blk_row co bR1
    have HB9 := Lib.hid (Bl.trans HB1.out (Bl.of_fr FR HB1.out.size (fun k h => by have h9 : k = gR := h; have := HG.out; omega)))
    have DS9 := DS.fr FR (fun k h1 _ h => by have h9 : k = gR := h; have := bR.lt; omega)
    have hs9 := FR.size
    have HVV := Lib.hid (show CkV (wr.setRow gR co) 0 (wr.setRow gR co).heap.size co (strip c) from by
      rw [hst, ← hss]
      exact ckv_mk szc r0 r1 r2 r3 r4 r5 r6 r7 r8 r9 r10 r11 r12 r13 ⟨none, 0, r14, no_gap⟩ ⟨none, 0, r15, no_dup⟩ ⟨Av, cv, by rw [HSL.out.2]; exact r16, fun i hi => by obtain ⟨ad, e, a1, a2, a3⟩ := DS9 i hi; exact ⟨ad, e, by omega, by omega, a3⟩⟩ ⟨none, 0, r17, no_pm⟩ ⟨none, 0, r18, no_by⟩)
    have hi9 : (Try.prog.info? 31).map (fun i => i.size) = some co.size := by rw [szc]; kernel_rfl
    generalize wr.setRow gR co = w9 at *
    clear V hst hss bR1 bB1 bR bB FR bO1 DS DS9 hownL hown r0 r1 r2 r3 r4 r5 r6 r7 r8 r9 r10 r11 r12 r13 r14 r15 r16 r17 r18
    go_wp2
    (try simp only [Exit.inBlock, Exit.then])
    refine bodyPost_ret (results_blk1 rfl _ rfl bR9 hup rfl hi9) rfl ?_
    exact ⟨HB9.out, co, rfl, HVV.out⟩
end Go.Proofs.Ytaifihoheieneaa.Chk
namespace Go.Proofs.Ytaifihoheieneaa.Chk
open Go.RowKit Go.Proofs.Ytaifihoheieneaa.Mem Go.Proofs.Ytaifihoheieneaa.Octet Go.Proofs.Ytaifihoheieneaa.Prm
set_option linter.unusedVariables false
set_option linter.unusedSimpArgs false
theorem rstrip_calls (lo hi : Nat) (cs : Array Value) (c : Ck) (w : World) (hC : CkV w lo hi cs c) (hhi : hi ≤ w.heap.size) (hBd : CkB c) (hL : CkL c) (hk : kn c.k = true) :
    Calls Try.prog 19 #[.agg cs] w (StripC w c) := by
  simp [kn] at hk
  rcases hk with hk | hk | hk | hk | hk | hk | hk | hk | hk | hk | hk | hk | hk | hk | hk | hk | hk
  · exact rstrip_0 lo hi cs c w hC hhi hBd hL hk
  · exact rstrip_1 lo hi cs c w hC hhi hBd hL hk
  · exact rstrip_2 lo hi cs c w hC hhi hBd hL hk
  · exact rstrip_3 lo hi cs c w hC hhi hBd hL hk
  · exact rstrip_4 lo hi cs c w hC hhi hBd hL hk
  · exact rstrip_5 lo hi cs c w hC hhi hBd hL hk
  · exact rstrip_6 lo hi cs c w hC hhi hBd hL hk
  · exact rstrip_7 lo hi cs c w hC hhi hBd hL hk
  · exact rstrip_8 lo hi cs c w hC hhi hBd hL hk
  · exact rstrip_9 lo hi cs c w hC hhi hBd hL hk
  · exact rstrip_10 lo hi cs c w hC hhi hBd hL hk
  · exact rstrip_11 lo hi cs c w hC hhi hBd hL hk
  · exact rstrip_14 lo hi cs c w hC hhi hBd hL hk
  · cases hb : c.b
    · exact rstrip_64f lo hi cs c w hC hhi hBd hL hk hb
    · exact rstrip_64t lo hi cs c w hC hhi hBd hL hk hb
  · exact rstrip_130 lo hi cs c w hC hhi hBd hL hk
  · exact rstrip_192 lo hi cs c w hC hhi hBd hL hk
  · exact rstrip_194 lo hi cs c w hC hhi hBd hL hk
end Go.Proofs.Ytaifihoheieneaa.Chk
