/- Contract of flumeref06.Strip, kind by kind. Conditions: the chunk's lists lie in blocks of before. -/
import Derived.Test.YtaifihoheieneaaZChkRCopy
import Derived.Test.YtaifihoheieneaaZChkLaw
import Derived.Test.YtaifihoheieneaaZChkRBase
namespace Go.Proofs.Ytaifihoheieneaa.Chk
open Go.RowKit Go.Proofs.Ytaifihoheieneaa.Mem Go.Proofs.Ytaifihoheieneaa.Octet Go.Proofs.Ytaifihoheieneaa.Prm
set_option linter.unusedVariables false
set_option linter.unusedSimpArgs false
abbrev kz (k : Int) : Array Value := #[.int .u8 k, .bool false, .bool false, .bool false, .bool false, .int .u32 0, .int .u16 0, .int .u32 0, .int .u32 0, .int .u32 0, .int .u32 0, .int .u32 0, .int .u16 0, .int .u16 0, .slice none 0 0, .slice none 0 0, .slice none 0 0, .slice none 0 0, .slice none 0 0]
theorem kz_at (k : Int) : (kz k)[0]? = some (.int .u8 k) ∧ (kz k)[1]? = some (.bool false) ∧ (kz k)[2]? = some (.bool false) ∧ (kz k)[3]? = some (.bool false) ∧ (kz k)[4]? = some (.bool false) ∧ (kz k)[5]? = some (.int .u32 0) ∧ (kz k)[6]? = some (.int .u16 0) ∧ (kz k)[7]? = some (.int .u32 0) ∧ (kz k)[8]? = some (.int .u32 0) ∧ (kz k)[9]? = some (.int .u32 0) ∧ (kz k)[10]? = some (.int .u32 0) ∧ (kz k)[11]? = some (.int .u32 0) ∧ (kz k)[12]? = some (.int .u16 0) ∧ (kz k)[13]? = some (.int .u16 0) ∧ (kz k)[14]? = some (.slice none 0 0) ∧ (kz k)[15]? = some (.slice none 0 0) ∧ (kz k)[16]? = some (.slice none 0 0) ∧ (kz k)[17]? = some (.slice none 0 0) ∧ (kz k)[18]? = some (.slice none 0 0) := ⟨rfl, rfl, rfl, rfl, rfl, rfl, rfl, rfl, rfl, rfl, rfl, rfl, rfl, rfl, rfl, rfl, rfl, rfl, rfl⟩
theorem kz_size (k : Int) : (kz k).size = 19 := rfl
theorem kz_one (k : Int) : (kz k).all (·.oneCell') = true := by simp [kz, Value.oneCell']
theorem no_gap {w : World} {lo hi : Nat} : GapC w lo hi none [] := fun i hi => absurd hi (Nat.not_lt_zero _)
theorem no_dup {w : World} {lo hi : Nat} : DupC w lo hi none [] := fun i hi => absurd hi (Nat.not_lt_zero _)
theorem no_skp {w : World} {lo hi : Nat} : SkpC w lo hi none [] := fun i hi => absurd hi (Nat.not_lt_zero _)
theorem no_pm {w : World} {lo hi : Nat} : PmC w lo hi none [] := fun i hi => absurd hi (Nat.not_lt_zero _)
theorem no_by {w : World} {lo hi : Nat} : SlB w lo hi (.slice none ([] : List Int).length 0) [] := ⟨none, 0, rfl, Nat.le_refl _, Nat.zero_le _, fun _ => rfl, .inl rfl⟩
theorem ckv_mk {w : World} {lo hi : Nat} {cs : Array Value} {c : Ck} (size : cs.size = 19) (c0 : cs[0]? = some (.int .u8 c.k)) (c1 : cs[1]? = some (.bool c.b)) (c2 : cs[2]? = some (.bool c.e)) (c3 : cs[3]? = some (.bool c.l)) (c4 : cs[4]? = some (.bool c.r))
    (c5 : cs[5]? = some (.int .u32 c.tsn)) (c6 : cs[6]? = some (.int .u16 c.st)) (c7 : cs[7]? = some (.int .u32 c.mid)) (c8 : cs[8]? = some (.int .u32 c.pp)) (c9 : cs[9]? = some (.int .u32 c.fr)) (c10 : cs[10]? = some (.int .u32 c.tag)) (c11 : cs[11]? = some (.int .u32 c.win))
    (c12 : cs[12]? = some (.int .u16 c.out)) (c13 : cs[13]? = some (.int .u16 c.inn)) (c14 : ∃ A p, cs[14]? = some (.slice A c.gaps.length p) ∧ GapC w lo hi A c.gaps) (c15 : ∃ A p, cs[15]? = some (.slice A c.dups.length p) ∧ DupC w lo hi A c.dups)
    (c16 : ∃ A p, cs[16]? = some (.slice A c.skips.length p) ∧ SkpC w lo hi A c.skips) (c17 : ∃ A p, cs[17]? = some (.slice A c.ps.length p) ∧ PmC w lo hi A c.ps) (c18 : ∃ A p, cs[18]? = some (.slice A c.body.length p) ∧ SlB w lo hi (.slice A c.body.length p) c.body) : CkV w lo hi cs c := by
  refine ⟨size, ?_, c0, c1, c2, c3, c4, c5, c6, c7, c8, c9, c10, c11, c12, c13, c14, c15, c16, c17, c18⟩
  obtain ⟨A14, p14, r14, -⟩ := c14
  obtain ⟨A15, p15, r15, -⟩ := c15
  obtain ⟨A16, p16, r16, -⟩ := c16
  obtain ⟨A17, p17, r17, -⟩ := c17
  obtain ⟨A18, p18, r18, -⟩ := c18
  rw [Array.all_eq_true]
  intro i hi
  have hq := Array.getElem?_eq_getElem hi
  have hi9 : i < 19 := by omega
  rcases (show i = 0 ∨ i = 1 ∨ i = 2 ∨ i = 3 ∨ i = 4 ∨ i = 5 ∨ i = 6 ∨ i = 7 ∨ i = 8 ∨ i = 9 ∨ i = 10 ∨ i = 11 ∨ i = 12 ∨ i = 13 ∨ i = 14 ∨ i = 15 ∨ i = 16 ∨ i = 17 ∨ i = 18 by omega) with rfl | rfl | rfl | rfl | rfl | rfl | rfl | rfl | rfl | rfl | rfl | rfl | rfl | rfl | rfl | rfl | rfl | rfl | rfl
  all_goals
    first | rw [c0] at hq | rw [c1] at hq | rw [c2] at hq | rw [c3] at hq | rw [c4] at hq | rw [c5] at hq | rw [c6] at hq | rw [c7] at hq | rw [c8] at hq | rw [c9] at hq | rw [c10] at hq | rw [c11] at hq | rw [c12] at hq | rw [c13] at hq | rw [r14] at hq | rw [r15] at hq | rw [r16] at hq | rw [r17] at hq | rw [r18] at hq
    injection hq with hq
    rw [← hq]
    rfl
/-- What Strip hands back. -/
def StripC (w : World) (c : Ck) (e : Ending) (w' : World) : Prop :=
  Below w.heap.size w w' ∧ ∃ cs', e = .returned (.agg cs') ∧ CkV w' 0 w'.heap.size cs' (strip c)
set_option maxHeartbeats 8000000 in
set_option maxRecDepth 100000 in
theorem rstrip_8 (lo hi : Nat) (cs : Array Value) (c : Ck) (w : World) (hC : CkV w lo hi cs c) (hhi : hi ≤ w.heap.size) (hBd : CkB c) (hL : CkL c) (hk : c.k = 8) :
    Calls Try.prog 19 #[.agg cs] w (StripC w c) := by
  have hup := Try.underlying31
  have hsz := hC.size
  have B0 : Below w.heap.size w ((w.alloc (.cells cs 31)).alloc (.cells zch 31)) := ((Below.refl _ w).alloc (Nat.le_refl _) _).alloc (by simp) _
  have bB := (Blk.new w cs 31).alloc (.cells zch 31)
  have bR : Blk ((w.alloc (.cells cs 31)).alloc (.cells zch 31)) (w.heap.size + 1) 31 zch := by simpa using Blk.new (w.alloc (.cells cs 31)) zch 31
  have hs1 : ((w.alloc (.cells cs 31)).alloc (.cells zch 31)).heap.size = w.heap.size + 2 := by simp
  have c0 := hC.c0
  rw [hk] at c0
  have HK := Lib.hid hk
  obtain ⟨A14, p14, e14, -⟩ := hC.c14
  obtain ⟨A15, p15, e15, -⟩ := hC.c15
  obtain ⟨A16, p16, e16, -⟩ := hC.c16
  obtain ⟨A17, p17, e17, -⟩ := hC.c17
  obtain ⟨A18, p18, e18, -⟩ := hC.c18
  have cc0 := (bB.cell 0).trans c0
  clear hk
  go_enter Try.func19, Try.ntmps19
  go_upto_region 1 with fail
  generalize (w.alloc (.cells cs 31)).alloc (.cells zch 31) = w1 at *
  have HB0 := Lib.hid B0
  obtain ⟨gB, hgB⟩ : ∃ gB, w.heap.size = gB := ⟨_, rfl⟩
  obtain ⟨gR, hgR⟩ : ∃ gR, w.heap.size + 1 = gR := ⟨_, rfl⟩
  rw [hgR] at bR ⊢
  rw [hgB] at bB cc0 ⊢
  have HG := Lib.hid (And.intro hgB (And.intro hgR hs1))
  have hbR : gR ≠ gB := by omega
  clear hs1 hgR hgB B0
  go_upto_region 2 with fail
  refine wp_region_lit ?_
  refine wpList_plain rfl (fun K hK => ?_)
  go_simp
  refine hK _ _ ?_
  clear hK K
  refine wpList_plain rfl (fun K hK => ?_)
  go_simp
  refine hK _ _ ?_
  clear hK K
  refine wpList_plain rfl (fun K hK => ?_)
  go_simp
  refine hK _ _ ?_
  clear hK K
  refine wpList_plain rfl (fun K hK => ?_)
  go_simp
  refine hK _ _ ?_
  clear hK K
  refine wpList_plain rfl (fun K hK => ?_)
  refine Mem.oper_store (cs0 := zch) (cs := (kz 8)) rfl rfl rfl (Blk.new w1 zch 31) (by kernel_rfl) rfl (kz_one _) ?_
  refine hK _ _ ?_
  clear hK K
  refine wpList_nil ?_
  have F0 : Fr nothing w1 ((w1.alloc (.cells zch 31)).setRow w1.heap.size (kz 8)) := ((Fr.refl nothing w1).alloc _).trans (fr_row w1.heap.size (kz 8)) (fun k hk h => by have h9 : k = w1.heap.size := h; omega)
  have bO := blk_row (kz 8) (Blk.new w1 zch 31)
  have bB1 := bB.fr F0 id
  have bR1 := bR.fr F0 id
  have hltO := bO.lt
  have hgO : gR < w1.heap.size ∧ gB < w1.heap.size := ⟨bR.lt, bB.lt⟩
  have HB1 := Lib.hid (Bl.trans HB0.out (Bl.of_fr F0 HB0.out.size (fun k h => h.elim)))
  have HGO := Lib.hid (show w.heap.size + 2 ≤ w1.heap.size from by have := HG.out; omega)
  generalize (w1.alloc (.cells zch 31)).setRow w1.heap.size (kz 8) = wk at *
  generalize w1.heap.size = gO at *
  clear bB bR F0 HB0 cc0 hltO
  have bB := bB1
  have bR := bR1
  have HB0 := HB1
  have hBO : ¬ only gO gB := fun h => by have h9 : gB = gO := h; omega
  have hRO : ¬ only gO gR := fun h => by have h9 : gR = gO := h; omega
  have szz := kz_size 8
  clear bB1 bR1 HB1
  obtain ⟨q0, q1, q2, q3, q4, q5, q6, q7, q8, q9, q10, q11, q12, q13, q14, q15, q16, q17, q18⟩ := kz_at 8
  generalize hKL : (kz 8) = z0 at *
  clear hKL
  go_upto_region 32 with fail
  refine wp_region_lit ?_
  refine wpList_plain rfl (fun K hK => ?_)
  refine Mem.oper_load rfl rfl bO hup rfl (by rw [szz]; kernel_rfl) ?_
  refine hK _ _ ?_
  clear hK K
  have hC9 := (hC.bl HB0.out hhi).more (Nat.zero_le lo) hhi
  obtain ⟨B14, u14, z14, y14⟩ := hC9.c14
  obtain ⟨B15, u15, z15, y15⟩ := hC9.c15
  obtain ⟨B16, u16, z16, y16⟩ := hC9.c16
  obtain ⟨B17, u17, z17, y17⟩ := hC9.c17
  obtain ⟨B18, u18, z18, y18⟩ := hC9.c18
  have hst : strip c = ⟨8, false, false, false, false, 0, 0, 0, 0, 0, 0, 0, 0, 0, [], [], [], [], []⟩ := by unfold strip zC; simp [HK.out]
  have V := Lib.hid (show CkV wk 0 w.heap.size (z0) (strip c) from by
    rw [hst]
    exact ckv_mk szz q0 q1 q2 q3 q4 q5 q6 q7 q8 q9 q10 q11 q12 q13 ⟨none, 0, q14, no_gap⟩ ⟨none, 0, q15, no_dup⟩ ⟨none, 0, q16, no_skp⟩ ⟨none, 0, q17, no_pm⟩ ⟨none, 0, q18, no_by⟩)
  clear hst hC9 z14 y14 z15 y15 z16 y16 z17 y17 z18 y18
  refine wpList_plain rfl (fun K hK => ?_)
  refine Mem.oper_store (cs0 := zch) (cs := z0) rfl rfl rfl bR (by rw [szz]; kernel_rfl) (by rw [szz]; rfl) V.out.one ?_
  refine hK _ _ ?_
  clear hK K
  refine wpList_nil ?_
  have FR := fr_row (w := wk) gR (z0)
  have bR9 := blk_row (z0) bR
  have HB9 := Lib.hid (Bl.trans HB0.out (Bl.of_fr FR HB0.out.size (fun k h => by have h9 : k = gR := h; have := HG.out; omega)))
  have HVV := Lib.hid ((V.out.fr FR (fun k _ h2 h3 => by have h9 : k = gR := h3; have := HG.out; omega)).more (Nat.le_refl 0) HB9.out.size)
  have hi9 : (Try.prog.info? 31).map (fun i => i.size) = some (z0).size := by rw [szz]; kernel_rfl
  generalize wk.setRow gR (z0) = w9 at *
  clear bR bB FR V
  go_wp2
  (try simp only [Exit.inBlock, Exit.then])
  refine bodyPost_ret (results_blk1 rfl _ rfl bR9 hup rfl hi9) rfl ?_
  exact ⟨HB9.out, z0, rfl, HVV.out⟩
set_option maxHeartbeats 8000000 in
set_option maxRecDepth 100000 in
theorem rstrip_11 (lo hi : Nat) (cs : Array Value) (c : Ck) (w : World) (hC : CkV w lo hi cs c) (hhi : hi ≤ w.heap.size) (hBd : CkB c) (hL : CkL c) (hk : c.k = 11) :
    Calls Try.prog 19 #[.agg cs] w (StripC w c) := by
  have hup := Try.underlying31
  have hsz := hC.size
  have B0 : Below w.heap.size w ((w.alloc (.cells cs 31)).alloc (.cells zch 31)) := ((Below.refl _ w).alloc (Nat.le_refl _) _).alloc (by simp) _
  have bB := (Blk.new w cs 31).alloc (.cells zch 31)
  have bR : Blk ((w.alloc (.cells cs 31)).alloc (.cells zch 31)) (w.heap.size + 1) 31 zch := by simpa using Blk.new (w.alloc (.cells cs 31)) zch 31
  have hs1 : ((w.alloc (.cells cs 31)).alloc (.cells zch 31)).heap.size = w.heap.size + 2 := by simp
  have c0 := hC.c0
  rw [hk] at c0
  have HK := Lib.hid hk
  obtain ⟨A14, p14, e14, -⟩ := hC.c14
  obtain ⟨A15, p15, e15, -⟩ := hC.c15
  obtain ⟨A16, p16, e16, -⟩ := hC.c16
  obtain ⟨A17, p17, e17, -⟩ := hC.c17
  obtain ⟨A18, p18, e18, -⟩ := hC.c18
  have cc0 := (bB.cell 0).trans c0
  clear hk
  go_enter Try.func19, Try.ntmps19
  go_upto_region 1 with fail
  generalize (w.alloc (.cells cs 31)).alloc (.cells zch 31) = w1 at *
  have HB0 := Lib.hid B0
  obtain ⟨gB, hgB⟩ : ∃ gB, w.heap.size = gB := ⟨_, rfl⟩
  obtain ⟨gR, hgR⟩ : ∃ gR, w.heap.size + 1 = gR := ⟨_, rfl⟩
  rw [hgR] at bR ⊢
  rw [hgB] at bB cc0 ⊢
  have HG := Lib.hid (And.intro hgB (And.intro hgR hs1))
  have hbR : gR ≠ gB := by omega
  clear hs1 hgR hgB B0
  go_upto_region 2 with fail
  refine wp_region_lit ?_
  refine wpList_plain rfl (fun K hK => ?_)
  go_simp
  refine hK _ _ ?_
  clear hK K
  refine wpList_plain rfl (fun K hK => ?_)
  go_simp
  refine hK _ _ ?_
  clear hK K
  refine wpList_plain rfl (fun K hK => ?_)
  go_simp
  refine hK _ _ ?_
  clear hK K
  refine wpList_plain rfl (fun K hK => ?_)
  go_simp
  refine hK _ _ ?_
  clear hK K
  refine wpList_plain rfl (fun K hK => ?_)
  refine Mem.oper_store (cs0 := zch) (cs := (kz 11)) rfl rfl rfl (Blk.new w1 zch 31) (by kernel_rfl) rfl (kz_one _) ?_
  refine hK _ _ ?_
  clear hK K
  refine wpList_nil ?_
  have F0 : Fr nothing w1 ((w1.alloc (.cells zch 31)).setRow w1.heap.size (kz 11)) := ((Fr.refl nothing w1).alloc _).trans (fr_row w1.heap.size (kz 11)) (fun k hk h => by have h9 : k = w1.heap.size := h; omega)
  have bO := blk_row (kz 11) (Blk.new w1 zch 31)
  have bB1 := bB.fr F0 id
  have bR1 := bR.fr F0 id
  have hltO := bO.lt
  have hgO : gR < w1.heap.size ∧ gB < w1.heap.size := ⟨bR.lt, bB.lt⟩
  have HB1 := Lib.hid (Bl.trans HB0.out (Bl.of_fr F0 HB0.out.size (fun k h => h.elim)))
  have HGO := Lib.hid (show w.heap.size + 2 ≤ w1.heap.size from by have := HG.out; omega)
  generalize (w1.alloc (.cells zch 31)).setRow w1.heap.size (kz 11) = wk at *
  generalize w1.heap.size = gO at *
  clear bB bR F0 HB0 cc0 hltO
  have bB := bB1
  have bR := bR1
  have HB0 := HB1
  have hBO : ¬ only gO gB := fun h => by have h9 : gB = gO := h; omega
  have hRO : ¬ only gO gR := fun h => by have h9 : gR = gO := h; omega
  have szz := kz_size 11
  clear bB1 bR1 HB1
  obtain ⟨q0, q1, q2, q3, q4, q5, q6, q7, q8, q9, q10, q11, q12, q13, q14, q15, q16, q17, q18⟩ := kz_at 11
  generalize hKL : (kz 11) = z0 at *
  clear hKL
  go_upto_region 32 with fail
  refine wp_region_lit ?_
  refine wpList_plain rfl (fun K hK => ?_)
  refine Mem.oper_load rfl rfl bO hup rfl (by rw [szz]; kernel_rfl) ?_
  refine hK _ _ ?_
  clear hK K
  have hC9 := (hC.bl HB0.out hhi).more (Nat.zero_le lo) hhi
  obtain ⟨B14, u14, z14, y14⟩ := hC9.c14
  obtain ⟨B15, u15, z15, y15⟩ := hC9.c15
  obtain ⟨B16, u16, z16, y16⟩ := hC9.c16
  obtain ⟨B17, u17, z17, y17⟩ := hC9.c17
  obtain ⟨B18, u18, z18, y18⟩ := hC9.c18
  have hst : strip c = ⟨11, false, false, false, false, 0, 0, 0, 0, 0, 0, 0, 0, 0, [], [], [], [], []⟩ := by unfold strip zC; simp [HK.out]
  have V := Lib.hid (show CkV wk 0 w.heap.size (z0) (strip c) from by
    rw [hst]
    exact ckv_mk szz q0 q1 q2 q3 q4 q5 q6 q7 q8 q9 q10 q11 q12 q13 ⟨none, 0, q14, no_gap⟩ ⟨none, 0, q15, no_dup⟩ ⟨none, 0, q16, no_skp⟩ ⟨none, 0, q17, no_pm⟩ ⟨none, 0, q18, no_by⟩)
  clear hst hC9 z14 y14 z15 y15 z16 y16 z17 y17 z18 y18
  refine wpList_plain rfl (fun K hK => ?_)
  refine Mem.oper_store (cs0 := zch) (cs := z0) rfl rfl rfl bR (by rw [szz]; kernel_rfl) (by rw [szz]; rfl) V.out.one ?_
  refine hK _ _ ?_
  clear hK K
  refine wpList_nil ?_
  have FR := fr_row (w := wk) gR (z0)
  have bR9 := blk_row (z0) bR
  have HB9 := Lib.hid (Bl.trans HB0.out (Bl.of_fr FR HB0.out.size (fun k h => by have h9 : k = gR := h; have := HG.out; omega)))
  have HVV := Lib.hid ((V.out.fr FR (fun k _ h2 h3 => by have h9 : k = gR := h3; have := HG.out; omega)).more (Nat.le_refl 0) HB9.out.size)
  have hi9 : (Try.prog.info? 31).map (fun i => i.size) = some (z0).size := by rw [szz]; kernel_rfl
  generalize wk.setRow gR (z0) = w9 at *
  clear bR bB FR V
  go_wp2
  (try simp only [Exit.inBlock, Exit.then])
  refine bodyPost_ret (results_blk1 rfl _ rfl bR9 hup rfl hi9) rfl ?_
  exact ⟨HB9.out, z0, rfl, HVV.out⟩
set_option maxHeartbeats 8000000 in
set_option maxRecDepth 100000 in
theorem rstrip_4 (lo hi : Nat) (cs : Array Value) (c : Ck) (w : World) (hC : CkV w lo hi cs c) (hhi : hi ≤ w.heap.size) (hBd : CkB c) (hL : CkL c) (hk : c.k = 4) :
    Calls Try.prog 19 #[.agg cs] w (StripC w c) := by
  have hup := Try.underlying31
  have hsz := hC.size
  have B0 : Below w.heap.size w ((w.alloc (.cells cs 31)).alloc (.cells zch 31)) := ((Below.refl _ w).alloc (Nat.le_refl _) _).alloc (by simp) _
  have bB := (Blk.new w cs 31).alloc (.cells zch 31)
  have bR : Blk ((w.alloc (.cells cs 31)).alloc (.cells zch 31)) (w.heap.size + 1) 31 zch := by simpa using Blk.new (w.alloc (.cells cs 31)) zch 31
  have hs1 : ((w.alloc (.cells cs 31)).alloc (.cells zch 31)).heap.size = w.heap.size + 2 := by simp
  have c0 := hC.c0
  rw [hk] at c0
  have HK := Lib.hid hk
  obtain ⟨A14, p14, e14, -⟩ := hC.c14
  obtain ⟨A15, p15, e15, -⟩ := hC.c15
  obtain ⟨A16, p16, e16, -⟩ := hC.c16
  obtain ⟨A17, p17, e17, -⟩ := hC.c17
  obtain ⟨A18, p18, e18, -⟩ := hC.c18
  have cc0 := (bB.cell 0).trans c0
  clear hk
  go_enter Try.func19, Try.ntmps19
  go_upto_region 1 with fail
  generalize (w.alloc (.cells cs 31)).alloc (.cells zch 31) = w1 at *
  have HB0 := Lib.hid B0
  obtain ⟨gB, hgB⟩ : ∃ gB, w.heap.size = gB := ⟨_, rfl⟩
  obtain ⟨gR, hgR⟩ : ∃ gR, w.heap.size + 1 = gR := ⟨_, rfl⟩
  rw [hgR] at bR ⊢
  rw [hgB] at bB cc0 ⊢
  have HG := Lib.hid (And.intro hgB (And.intro hgR hs1))
  have hbR : gR ≠ gB := by omega
  clear hs1 hgR hgB B0
  go_upto_region 2 with fail
  refine wp_region_lit ?_
  refine wpList_plain rfl (fun K hK => ?_)
  go_simp
  refine hK _ _ ?_
  clear hK K
  refine wpList_plain rfl (fun K hK => ?_)
  go_simp
  refine hK _ _ ?_
  clear hK K
  refine wpList_plain rfl (fun K hK => ?_)
  go_simp
  refine hK _ _ ?_
  clear hK K
  refine wpList_plain rfl (fun K hK => ?_)
  go_simp
  refine hK _ _ ?_
  clear hK K
  refine wpList_plain rfl (fun K hK => ?_)
  refine Mem.oper_store (cs0 := zch) (cs := (kz 4)) rfl rfl rfl (Blk.new w1 zch 31) (by kernel_rfl) rfl (kz_one _) ?_
  refine hK _ _ ?_
  clear hK K
  refine wpList_nil ?_
  have F0 : Fr nothing w1 ((w1.alloc (.cells zch 31)).setRow w1.heap.size (kz 4)) := ((Fr.refl nothing w1).alloc _).trans (fr_row w1.heap.size (kz 4)) (fun k hk h => by have h9 : k = w1.heap.size := h; omega)
  have bO := blk_row (kz 4) (Blk.new w1 zch 31)
  have bB1 := bB.fr F0 id
  have bR1 := bR.fr F0 id
  have hltO := bO.lt
  have hgO : gR < w1.heap.size ∧ gB < w1.heap.size := ⟨bR.lt, bB.lt⟩
  have HB1 := Lib.hid (Bl.trans HB0.out (Bl.of_fr F0 HB0.out.size (fun k h => h.elim)))
  have HGO := Lib.hid (show w.heap.size + 2 ≤ w1.heap.size from by have := HG.out; omega)
  generalize (w1.alloc (.cells zch 31)).setRow w1.heap.size (kz 4) = wk at *
  generalize w1.heap.size = gO at *
  clear bB bR F0 HB0 cc0 hltO
  have bB := bB1
  have bR := bR1
  have HB0 := HB1
  have hBO : ¬ only gO gB := fun h => by have h9 : gB = gO := h; omega
  have hRO : ¬ only gO gR := fun h => by have h9 : gR = gO := h; omega
  have szz := kz_size 4
  clear bB1 bR1 HB1
  obtain ⟨q0, q1, q2, q3, q4, q5, q6, q7, q8, q9, q10, q11, q12, q13, q14, q15, q16, q17, q18⟩ := kz_at 4
  generalize hKL : (kz 4) = z0 at *
  clear hKL
  go_upto_region 31 with fail
  have cL := (bB.cell 18).trans e18
  have cz := (bO.cell 18).trans q18
  have fz := bO.frozen 18
  refine wp_region_lit ?_
  refine wpList_plain rfl (fun K hK => ?_)
  go_simp
  refine hK _ _ ?_
  clear hK K
  refine wpList_plain rfl (fun K hK => ?_)
  go_simp
  refine hK _ _ ?_
  clear hK K
  refine wpList_plain rfl (fun K hK => ?_)
  go_simp
  refine hK _ _ ?_
  clear hK K
  refine wpList_plain rfl (fun K hK => ?_)
  go_simp
  refine hK _ _ ?_
  clear hK K
  refine wpList_nil ?_
  have FS : Fr (only gO) wk (wk.setCell ⟨gO, 18, none⟩ (.slice A18 c.body.length p18)) := (Fr.refl _ _).set_only 18 none _
  have bO1 := bO.set 18 (.slice A18 c.body.length p18)
  have bB1 := bB.fr FS hBO
  have bR1 := bR.fr FS hRO
  obtain ⟨sz1, g1, n1⟩ := set_get szz 18 (by decide) (.slice A18 c.body.length p18)
  generalize hX1 : (z0).setIfInBounds 18 (.slice A18 c.body.length p18) = cX1 at *
  generalize wk.setCell ⟨gO, 18, none⟩ (.slice A18 c.body.length p18) = wX1 at *
  clear cL cz fz hX1
  have HB1 := Lib.hid (Bl.trans HB0.out (Bl.of_fr FS HB0.out.size (fun k h => by have h9 : k = gO := h; have := HGO.out; omega)))
  clear bB bR bO HB0
  have bB := bB1
  have bR := bR1
  have bO := bO1
  have HB0 := HB1
  clear bB1 bR1 bO1 HB1 FS
  go_upto_region 32 with fail
  refine wp_region_lit ?_
  refine wpList_plain rfl (fun K hK => ?_)
  refine Mem.oper_load rfl rfl bO hup rfl (by rw [sz1]; kernel_rfl) ?_
  refine hK _ _ ?_
  clear hK K
  have hC9 := (hC.bl HB0.out hhi).more (Nat.zero_le lo) hhi
  obtain ⟨B14, u14, z14, y14⟩ := hC9.c14
  obtain ⟨B15, u15, z15, y15⟩ := hC9.c15
  obtain ⟨B16, u16, z16, y16⟩ := hC9.c16
  obtain ⟨B17, u17, z17, y17⟩ := hC9.c17
  obtain ⟨B18, u18, z18, y18⟩ := hC9.c18
  have hst : strip c = ⟨4, false, false, false, false, 0, 0, 0, 0, 0, 0, 0, 0, 0, [], [], [], [], c.body⟩ := by unfold strip zC; simp [HK.out]
  have V := Lib.hid (show CkV wX1 0 w.heap.size (cX1) (strip c) from by
    rw [hst]
    exact ckv_mk sz1 ((n1 0 (by decide)).trans q0) ((n1 1 (by decide)).trans q1) ((n1 2 (by decide)).trans q2) ((n1 3 (by decide)).trans q3) ((n1 4 (by decide)).trans q4) ((n1 5 (by decide)).trans q5) ((n1 6 (by decide)).trans q6) ((n1 7 (by decide)).trans q7) ((n1 8 (by decide)).trans q8) ((n1 9 (by decide)).trans q9) ((n1 10 (by decide)).trans q10) ((n1 11 (by decide)).trans q11) ((n1 12 (by decide)).trans q12) ((n1 13 (by decide)).trans q13) ⟨none, 0, ((n1 14 (by decide)).trans q14), no_gap⟩ ⟨none, 0, ((n1 15 (by decide)).trans q15), no_dup⟩ ⟨none, 0, ((n1 16 (by decide)).trans q16), no_skp⟩ ⟨none, 0, ((n1 17 (by decide)).trans q17), no_pm⟩ ⟨B18, u18, g1.trans (e18.symm.trans z18), y18⟩)
  clear hst hC9 z14 y14 z15 y15 z16 y16 z17 y17 z18 y18
  refine wpList_plain rfl (fun K hK => ?_)
  refine Mem.oper_store (cs0 := zch) (cs := cX1) rfl rfl rfl bR (by rw [sz1]; kernel_rfl) (by rw [sz1]; rfl) V.out.one ?_
  refine hK _ _ ?_
  clear hK K
  refine wpList_nil ?_
  have FR := fr_row (w := wX1) gR (cX1)
  have bR9 := blk_row (cX1) bR
  have HB9 := Lib.hid (Bl.trans HB0.out (Bl.of_fr FR HB0.out.size (fun k h => by have h9 : k = gR := h; have := HG.out; omega)))
  have HVV := Lib.hid ((V.out.fr FR (fun k _ h2 h3 => by have h9 : k = gR := h3; have := HG.out; omega)).more (Nat.le_refl 0) HB9.out.size)
  have hi9 : (Try.prog.info? 31).map (fun i => i.size) = some (cX1).size := by rw [sz1]; kernel_rfl
  generalize wX1.setRow gR (cX1) = w9 at *
  clear bR bB FR V
  go_wp2
  (try simp only [Exit.inBlock, Exit.then])
  refine bodyPost_ret (results_blk1 rfl _ rfl bR9 hup rfl hi9) rfl ?_
  exact ⟨HB9.out, cX1, rfl, HVV.out⟩
set_option maxHeartbeats 8000000 in
set_option maxRecDepth 100000 in
theorem rstrip_5 (lo hi : Nat) (cs : Array Value) (c : Ck) (w : World) (hC : CkV w lo hi cs c) (hhi : hi ≤ w.heap.size) (hBd : CkB c) (hL : CkL c) (hk : c.k = 5) :
    Calls Try.prog 19 #[.agg cs] w (StripC w c) := by
  have hup := Try.underlying31
  have hsz := hC.size
  have B0 : Below w.heap.size w ((w.alloc (.cells cs 31)).alloc (.cells zch 31)) := ((Below.refl _ w).alloc (Nat.le_refl _) _).alloc (by simp) _
  have bB := (Blk.new w cs 31).alloc (.cells zch 31)
  have bR : Blk ((w.alloc (.cells cs 31)).alloc (.cells zch 31)) (w.heap.size + 1) 31 zch := by simpa using Blk.new (w.alloc (.cells cs 31)) zch 31
  have hs1 : ((w.alloc (.cells cs 31)).alloc (.cells zch 31)).heap.size = w.heap.size + 2 := by simp
  have c0 := hC.c0
  rw [hk] at c0
  have HK := Lib.hid hk
  obtain ⟨A14, p14, e14, -⟩ := hC.c14
  obtain ⟨A15, p15, e15, -⟩ := hC.c15
  obtain ⟨A16, p16, e16, -⟩ := hC.c16
  obtain ⟨A17, p17, e17, -⟩ := hC.c17
  obtain ⟨A18, p18, e18, -⟩ := hC.c18
  have cc0 := (bB.cell 0).trans c0
  clear hk
  go_enter Try.func19, Try.ntmps19
  go_upto_region 1 with fail
  generalize (w.alloc (.cells cs 31)).alloc (.cells zch 31) = w1 at *
  have HB0 := Lib.hid B0
  obtain ⟨gB, hgB⟩ : ∃ gB, w.heap.size = gB := ⟨_, rfl⟩
  obtain ⟨gR, hgR⟩ : ∃ gR, w.heap.size + 1 = gR := ⟨_, rfl⟩
  rw [hgR] at bR ⊢
  rw [hgB] at bB cc0 ⊢
  have HG := Lib.hid (And.intro hgB (And.intro hgR hs1))
  have hbR : gR ≠ gB := by omega
  clear hs1 hgR hgB B0
  go_upto_region 2 with fail
  refine wp_region_lit ?_
  refine wpList_plain rfl (fun K hK => ?_)
  go_simp
  refine hK _ _ ?_
  clear hK K
  refine wpList_plain rfl (fun K hK => ?_)
  go_simp
  refine hK _ _ ?_
  clear hK K
  refine wpList_plain rfl (fun K hK => ?_)
  go_simp
  refine hK _ _ ?_
  clear hK K
  refine wpList_plain rfl (fun K hK => ?_)
  go_simp
  refine hK _ _ ?_
  clear hK K
  refine wpList_plain rfl (fun K hK => ?_)
  refine Mem.oper_store (cs0 := zch) (cs := (kz 5)) rfl rfl rfl (Blk.new w1 zch 31) (by kernel_rfl) rfl (kz_one _) ?_
  refine hK _ _ ?_
  clear hK K
  refine wpList_nil ?_
  have F0 : Fr nothing w1 ((w1.alloc (.cells zch 31)).setRow w1.heap.size (kz 5)) := ((Fr.refl nothing w1).alloc _).trans (fr_row w1.heap.size (kz 5)) (fun k hk h => by have h9 : k = w1.heap.size := h; omega)
  have bO := blk_row (kz 5) (Blk.new w1 zch 31)
  have bB1 := bB.fr F0 id
  have bR1 := bR.fr F0 id
  have hltO := bO.lt
  have hgO : gR < w1.heap.size ∧ gB < w1.heap.size := ⟨bR.lt, bB.lt⟩
  have HB1 := Lib.hid (Bl.trans HB0.out (Bl.of_fr F0 HB0.out.size (fun k h => h.elim)))
  have HGO := Lib.hid (show w.heap.size + 2 ≤ w1.heap.size from by have := HG.out; omega)
  generalize (w1.alloc (.cells zch 31)).setRow w1.heap.size (kz 5) = wk at *
  generalize w1.heap.size = gO at *
  clear bB bR F0 HB0 cc0 hltO
  have bB := bB1
  have bR := bR1
  have HB0 := HB1
  have hBO : ¬ only gO gB := fun h => by have h9 : gB = gO := h; omega
  have hRO : ¬ only gO gR := fun h => by have h9 : gR = gO := h; omega
  have szz := kz_size 5
  clear bB1 bR1 HB1
  obtain ⟨q0, q1, q2, q3, q4, q5, q6, q7, q8, q9, q10, q11, q12, q13, q14, q15, q16, q17, q18⟩ := kz_at 5
  generalize hKL : (kz 5) = z0 at *
  clear hKL
  go_upto_region 31 with fail
  have cL := (bB.cell 18).trans e18
  have cz := (bO.cell 18).trans q18
  have fz := bO.frozen 18
  refine wp_region_lit ?_
  refine wpList_plain rfl (fun K hK => ?_)
  go_simp
  refine hK _ _ ?_
  clear hK K
  refine wpList_plain rfl (fun K hK => ?_)
  go_simp
  refine hK _ _ ?_
  clear hK K
  refine wpList_plain rfl (fun K hK => ?_)
  go_simp
  refine hK _ _ ?_
  clear hK K
  refine wpList_plain rfl (fun K hK => ?_)
  go_simp
  refine hK _ _ ?_
  clear hK K
  refine wpList_nil ?_
  have FS : Fr (only gO) wk (wk.setCell ⟨gO, 18, none⟩ (.slice A18 c.body.length p18)) := (Fr.refl _ _).set_only 18 none _
  have bO1 := bO.set 18 (.slice A18 c.body.length p18)
  have bB1 := bB.fr FS hBO
  have bR1 := bR.fr FS hRO
  obtain ⟨sz1, g1, n1⟩ := set_get szz 18 (by decide) (.slice A18 c.body.length p18)
  generalize hX1 : (z0).setIfInBounds 18 (.slice A18 c.body.length p18) = cX1 at *
  generalize wk.setCell ⟨gO, 18, none⟩ (.slice A18 c.body.length p18) = wX1 at *
  clear cL cz fz hX1
  have HB1 := Lib.hid (Bl.trans HB0.out (Bl.of_fr FS HB0.out.size (fun k h => by have h9 : k = gO := h; have := HGO.out; omega)))
  clear bB bR bO HB0
  have bB := bB1
  have bR := bR1
  have bO := bO1
  have HB0 := HB1
  clear bB1 bR1 bO1 HB1 FS
  go_upto_region 32 with fail
  refine wp_region_lit ?_
  refine wpList_plain rfl (fun K hK => ?_)
  refine Mem.oper_load rfl rfl bO hup rfl (by rw [sz1]; kernel_rfl) ?_
  refine hK _ _ ?_
  clear hK K
  have hC9 := (hC.bl HB0.out hhi).more (Nat.zero_le lo) hhi
  obtain ⟨B14, u14, z14, y14⟩ := hC9.c14
  obtain ⟨B15, u15, z15, y15⟩ := hC9.c15
  obtain ⟨B16, u16, z16, y16⟩ := hC9.c16
  obtain ⟨B17, u17, z17, y17⟩ := hC9.c17
  obtain ⟨B18, u18, z18, y18⟩ := hC9.c18
  have hst : strip c = ⟨5, false, false, false, false, 0, 0, 0, 0, 0, 0, 0, 0, 0, [], [], [], [], c.body⟩ := by unfold strip zC; simp [HK.out]
  have V := Lib.hid (show CkV wX1 0 w.heap.size (cX1) (strip c) from by
    rw [hst]
    exact ckv_mk sz1 ((n1 0 (by decide)).trans q0) ((n1 1 (by decide)).trans q1) ((n1 2 (by decide)).trans q2) ((n1 3 (by decide)).trans q3) ((n1 4 (by decide)).trans q4) ((n1 5 (by decide)).trans q5) ((n1 6 (by decide)).trans q6) ((n1 7 (by decide)).trans q7) ((n1 8 (by decide)).trans q8) ((n1 9 (by decide)).trans q9) ((n1 10 (by decide)).trans q10) ((n1 11 (by decide)).trans q11) ((n1 12 (by decide)).trans q12) ((n1 13 (by decide)).trans q13) ⟨none, 0, ((n1 14 (by decide)).trans q14), no_gap⟩ ⟨none, 0, ((n1 15 (by decide)).trans q15), no_dup⟩ ⟨none, 0, ((n1 16 (by decide)).trans q16), no_skp⟩ ⟨none, 0, ((n1 17 (by decide)).trans q17), no_pm⟩ ⟨B18, u18, g1.trans (e18.symm.trans z18), y18⟩)
  clear hst hC9 z14 y14 z15 y15 z16 y16 z17 y17 z18 y18
  refine wpList_plain rfl (fun K hK => ?_)
  refine Mem.oper_store (cs0 := zch) (cs := cX1) rfl rfl rfl bR (by rw [sz1]; kernel_rfl) (by rw [sz1]; rfl) V.out.one ?_
  refine hK _ _ ?_
  clear hK K
  refine wpList_nil ?_
  have FR := fr_row (w := wX1) gR (cX1)
  have bR9 := blk_row (cX1) bR
  have HB9 := Lib.hid (Bl.trans HB0.out (Bl.of_fr FR HB0.out.size (fun k h => by have h9 : k = gR := h; have := HG.out; omega)))
  have HVV := Lib.hid ((V.out.fr FR (fun k _ h2 h3 => by have h9 : k = gR := h3; have := HG.out; omega)).more (Nat.le_refl 0) HB9.out.size)
  have hi9 : (Try.prog.info? 31).map (fun i => i.size) = some (cX1).size := by rw [sz1]; kernel_rfl
  generalize wX1.setRow gR (cX1) = w9 at *
  clear bR bB FR V
  go_wp2
  (try simp only [Exit.inBlock, Exit.then])
  refine bodyPost_ret (results_blk1 rfl _ rfl bR9 hup rfl hi9) rfl ?_
  exact ⟨HB9.out, cX1, rfl, HVV.out⟩
set_option maxHeartbeats 8000000 in
set_option maxRecDepth 100000 in
theorem rstrip_10 (lo hi : Nat) (cs : Array Value) (c : Ck) (w : World) (hC : CkV w lo hi cs c) (hhi : hi ≤ w.heap.size) (hBd : CkB c) (hL : CkL c) (hk : c.k = 10) :
    Calls Try.prog 19 #[.agg cs] w (StripC w c) := by
  have hup := Try.underlying31
  have hsz := hC.size
  have B0 : Below w.heap.size w ((w.alloc (.cells cs 31)).alloc (.cells zch 31)) := ((Below.refl _ w).alloc (Nat.le_refl _) _).alloc (by simp) _
  have bB := (Blk.new w cs 31).alloc (.cells zch 31)
  have bR : Blk ((w.alloc (.cells cs 31)).alloc (.cells zch 31)) (w.heap.size + 1) 31 zch := by simpa using Blk.new (w.alloc (.cells cs 31)) zch 31
  have hs1 : ((w.alloc (.cells cs 31)).alloc (.cells zch 31)).heap.size = w.heap.size + 2 := by simp
  have c0 := hC.c0
  rw [hk] at c0
  have HK := Lib.hid hk
  obtain ⟨A14, p14, e14, -⟩ := hC.c14
  obtain ⟨A15, p15, e15, -⟩ := hC.c15
  obtain ⟨A16, p16, e16, -⟩ := hC.c16
  obtain ⟨A17, p17, e17, -⟩ := hC.c17
  obtain ⟨A18, p18, e18, -⟩ := hC.c18
  have cc0 := (bB.cell 0).trans c0
  clear hk
  go_enter Try.func19, Try.ntmps19
  go_upto_region 1 with fail
  generalize (w.alloc (.cells cs 31)).alloc (.cells zch 31) = w1 at *
  have HB0 := Lib.hid B0
  obtain ⟨gB, hgB⟩ : ∃ gB, w.heap.size = gB := ⟨_, rfl⟩
  obtain ⟨gR, hgR⟩ : ∃ gR, w.heap.size + 1 = gR := ⟨_, rfl⟩
  rw [hgR] at bR ⊢
  rw [hgB] at bB cc0 ⊢
  have HG := Lib.hid (And.intro hgB (And.intro hgR hs1))
  have hbR : gR ≠ gB := by omega
  clear hs1 hgR hgB B0
  go_upto_region 2 with fail
  refine wp_region_lit ?_
  refine wpList_plain rfl (fun K hK => ?_)
  go_simp
  refine hK _ _ ?_
  clear hK K
  refine wpList_plain rfl (fun K hK => ?_)
  go_simp
  refine hK _ _ ?_
  clear hK K
  refine wpList_plain rfl (fun K hK => ?_)
  go_simp
  refine hK _ _ ?_
  clear hK K
  refine wpList_plain rfl (fun K hK => ?_)
  go_simp
  refine hK _ _ ?_
  clear hK K
  refine wpList_plain rfl (fun K hK => ?_)
  refine Mem.oper_store (cs0 := zch) (cs := (kz 10)) rfl rfl rfl (Blk.new w1 zch 31) (by kernel_rfl) rfl (kz_one _) ?_
  refine hK _ _ ?_
  clear hK K
  refine wpList_nil ?_
  have F0 : Fr nothing w1 ((w1.alloc (.cells zch 31)).setRow w1.heap.size (kz 10)) := ((Fr.refl nothing w1).alloc _).trans (fr_row w1.heap.size (kz 10)) (fun k hk h => by have h9 : k = w1.heap.size := h; omega)
  have bO := blk_row (kz 10) (Blk.new w1 zch 31)
  have bB1 := bB.fr F0 id
  have bR1 := bR.fr F0 id
  have hltO := bO.lt
  have hgO : gR < w1.heap.size ∧ gB < w1.heap.size := ⟨bR.lt, bB.lt⟩
  have HB1 := Lib.hid (Bl.trans HB0.out (Bl.of_fr F0 HB0.out.size (fun k h => h.elim)))
  have HGO := Lib.hid (show w.heap.size + 2 ≤ w1.heap.size from by have := HG.out; omega)
  generalize (w1.alloc (.cells zch 31)).setRow w1.heap.size (kz 10) = wk at *
  generalize w1.heap.size = gO at *
  clear bB bR F0 HB0 cc0 hltO
  have bB := bB1
  have bR := bR1
  have HB0 := HB1
  have hBO : ¬ only gO gB := fun h => by have h9 : gB = gO := h; omega
  have hRO : ¬ only gO gR := fun h => by have h9 : gR = gO := h; omega
  have szz := kz_size 10
  clear bB1 bR1 HB1
  obtain ⟨q0, q1, q2, q3, q4, q5, q6, q7, q8, q9, q10, q11, q12, q13, q14, q15, q16, q17, q18⟩ := kz_at 10
  generalize hKL : (kz 10) = z0 at *
  clear hKL
  go_upto_region 31 with fail
  have cL := (bB.cell 18).trans e18
  have cz := (bO.cell 18).trans q18
  have fz := bO.frozen 18
  refine wp_region_lit ?_
  refine wpList_plain rfl (fun K hK => ?_)
  go_simp
  refine hK _ _ ?_
  clear hK K
  refine wpList_plain rfl (fun K hK => ?_)
  go_simp
  refine hK _ _ ?_
  clear hK K
  refine wpList_plain rfl (fun K hK => ?_)
  go_simp
  refine hK _ _ ?_
  clear hK K
  refine wpList_plain rfl (fun K hK => ?_)
  go_simp
  refine hK _ _ ?_
  clear hK K
  refine wpList_nil ?_
  have FS : Fr (only gO) wk (wk.setCell ⟨gO, 18, none⟩ (.slice A18 c.body.length p18)) := (Fr.refl _ _).set_only 18 none _
  have bO1 := bO.set 18 (.slice A18 c.body.length p18)
  have bB1 := bB.fr FS hBO
  have bR1 := bR.fr FS hRO
  obtain ⟨sz1, g1, n1⟩ := set_get szz 18 (by decide) (.slice A18 c.body.length p18)
  generalize hX1 : (z0).setIfInBounds 18 (.slice A18 c.body.length p18) = cX1 at *
  generalize wk.setCell ⟨gO, 18, none⟩ (.slice A18 c.body.length p18) = wX1 at *
  clear cL cz fz hX1
  have HB1 := Lib.hid (Bl.trans HB0.out (Bl.of_fr FS HB0.out.size (fun k h => by have h9 : k = gO := h; have := HGO.out; omega)))
  clear bB bR bO HB0
  have bB := bB1
  have bR := bR1
  have bO := bO1
  have HB0 := HB1
  clear bB1 bR1 bO1 HB1 FS
  go_upto_region 32 with fail
  refine wp_region_lit ?_
  refine wpList_plain rfl (fun K hK => ?_)
  refine Mem.oper_load rfl rfl bO hup rfl (by rw [sz1]; kernel_rfl) ?_
  refine hK _ _ ?_
  clear hK K
  have hC9 := (hC.bl HB0.out hhi).more (Nat.zero_le lo) hhi
  obtain ⟨B14, u14, z14, y14⟩ := hC9.c14
  obtain ⟨B15, u15, z15, y15⟩ := hC9.c15
  obtain ⟨B16, u16, z16, y16⟩ := hC9.c16
  obtain ⟨B17, u17, z17, y17⟩ := hC9.c17
  obtain ⟨B18, u18, z18, y18⟩ := hC9.c18
  have hst : strip c = ⟨10, false, false, false, false, 0, 0, 0, 0, 0, 0, 0, 0, 0, [], [], [], [], c.body⟩ := by unfold strip zC; simp [HK.out]
  have V := Lib.hid (show CkV wX1 0 w.heap.size (cX1) (strip c) from by
    rw [hst]
    exact ckv_mk sz1 ((n1 0 (by decide)).trans q0) ((n1 1 (by decide)).trans q1) ((n1 2 (by decide)).trans q2) ((n1 3 (by decide)).trans q3) ((n1 4 (by decide)).trans q4) ((n1 5 (by decide)).trans q5) ((n1 6 (by decide)).trans q6) ((n1 7 (by decide)).trans q7) ((n1 8 (by decide)).trans q8) ((n1 9 (by decide)).trans q9) ((n1 10 (by decide)).trans q10) ((n1 11 (by decide)).trans q11) ((n1 12 (by decide)).trans q12) ((n1 13 (by decide)).trans q13) ⟨none, 0, ((n1 14 (by decide)).trans q14), no_gap⟩ ⟨none, 0, ((n1 15 (by decide)).trans q15), no_dup⟩ ⟨none, 0, ((n1 16 (by decide)).trans q16), no_skp⟩ ⟨none, 0, ((n1 17 (by decide)).trans q17), no_pm⟩ ⟨B18, u18, g1.trans (e18.symm.trans z18), y18⟩)
  clear hst hC9 z14 y14 z15 y15 z16 y16 z17 y17 z18 y18
  refine wpList_plain rfl (fun K hK => ?_)
  refine Mem.oper_store (cs0 := zch) (cs := cX1) rfl rfl rfl bR (by rw [sz1]; kernel_rfl) (by rw [sz1]; rfl) V.out.one ?_
  refine hK _ _ ?_
  clear hK K
  refine wpList_nil ?_
  have FR := fr_row (w := wX1) gR (cX1)
  have bR9 := blk_row (cX1) bR
  have HB9 := Lib.hid (Bl.trans HB0.out (Bl.of_fr FR HB0.out.size (fun k h => by have h9 : k = gR := h; have := HG.out; omega)))
  have HVV := Lib.hid ((V.out.fr FR (fun k _ h2 h3 => by have h9 : k = gR := h3; have := HG.out; omega)).more (Nat.le_refl 0) HB9.out.size)
  have hi9 : (Try.prog.info? 31).map (fun i => i.size) = some (cX1).size := by rw [sz1]; kernel_rfl
  generalize wX1.setRow gR (cX1) = w9 at *
  clear bR bB FR V
  go_wp2
  (try simp only [Exit.inBlock, Exit.then])
  refine bodyPost_ret (results_blk1 rfl _ rfl bR9 hup rfl hi9) rfl ?_
  exact ⟨HB9.out, cX1, rfl, HVV.out⟩
set_option maxHeartbeats 8000000 in
set_option maxRecDepth 100000 in
theorem rstrip_7 (lo hi : Nat) (cs : Array Value) (c : Ck) (w : World) (hC : CkV w lo hi cs c) (hhi : hi ≤ w.heap.size) (hBd : CkB c) (hL : CkL c) (hk : c.k = 7) :
    Calls Try.prog 19 #[.agg cs] w (StripC w c) := by
  have hup := Try.underlying31
  have hsz := hC.size
  have B0 : Below w.heap.size w ((w.alloc (.cells cs 31)).alloc (.cells zch 31)) := ((Below.refl _ w).alloc (Nat.le_refl _) _).alloc (by simp) _
  have bB := (Blk.new w cs 31).alloc (.cells zch 31)
  have bR : Blk ((w.alloc (.cells cs 31)).alloc (.cells zch 31)) (w.heap.size + 1) 31 zch := by simpa using Blk.new (w.alloc (.cells cs 31)) zch 31
  have hs1 : ((w.alloc (.cells cs 31)).alloc (.cells zch 31)).heap.size = w.heap.size + 2 := by simp
  have c0 := hC.c0
  rw [hk] at c0
  have HK := Lib.hid hk
  obtain ⟨A14, p14, e14, -⟩ := hC.c14
  obtain ⟨A15, p15, e15, -⟩ := hC.c15
  obtain ⟨A16, p16, e16, -⟩ := hC.c16
  obtain ⟨A17, p17, e17, -⟩ := hC.c17
  obtain ⟨A18, p18, e18, -⟩ := hC.c18
  have cc0 := (bB.cell 0).trans c0
  clear hk
  go_enter Try.func19, Try.ntmps19
  go_upto_region 1 with fail
  generalize (w.alloc (.cells cs 31)).alloc (.cells zch 31) = w1 at *
  have HB0 := Lib.hid B0
  obtain ⟨gB, hgB⟩ : ∃ gB, w.heap.size = gB := ⟨_, rfl⟩
  obtain ⟨gR, hgR⟩ : ∃ gR, w.heap.size + 1 = gR := ⟨_, rfl⟩
  rw [hgR] at bR ⊢
  rw [hgB] at bB cc0 ⊢
  have HG := Lib.hid (And.intro hgB (And.intro hgR hs1))
  have hbR : gR ≠ gB := by omega
  clear hs1 hgR hgB B0
  go_upto_region 2 with fail
  refine wp_region_lit ?_
  refine wpList_plain rfl (fun K hK => ?_)
  go_simp
  refine hK _ _ ?_
  clear hK K
  refine wpList_plain rfl (fun K hK => ?_)
  go_simp
  refine hK _ _ ?_
  clear hK K
  refine wpList_plain rfl (fun K hK => ?_)
  go_simp
  refine hK _ _ ?_
  clear hK K
  refine wpList_plain rfl (fun K hK => ?_)
  go_simp
  refine hK _ _ ?_
  clear hK K
  refine wpList_plain rfl (fun K hK => ?_)
  refine Mem.oper_store (cs0 := zch) (cs := (kz 7)) rfl rfl rfl (Blk.new w1 zch 31) (by kernel_rfl) rfl (kz_one _) ?_
  refine hK _ _ ?_
  clear hK K
  refine wpList_nil ?_
  have F0 : Fr nothing w1 ((w1.alloc (.cells zch 31)).setRow w1.heap.size (kz 7)) := ((Fr.refl nothing w1).alloc _).trans (fr_row w1.heap.size (kz 7)) (fun k hk h => by have h9 : k = w1.heap.size := h; omega)
  have bO := blk_row (kz 7) (Blk.new w1 zch 31)
  have bB1 := bB.fr F0 id
  have bR1 := bR.fr F0 id
  have hltO := bO.lt
  have hgO : gR < w1.heap.size ∧ gB < w1.heap.size := ⟨bR.lt, bB.lt⟩
  have HB1 := Lib.hid (Bl.trans HB0.out (Bl.of_fr F0 HB0.out.size (fun k h => h.elim)))
  have HGO := Lib.hid (show w.heap.size + 2 ≤ w1.heap.size from by have := HG.out; omega)
  generalize (w1.alloc (.cells zch 31)).setRow w1.heap.size (kz 7) = wk at *
  generalize w1.heap.size = gO at *
  clear bB bR F0 HB0 cc0 hltO
  have bB := bB1
  have bR := bR1
  have HB0 := HB1
  have hBO : ¬ only gO gB := fun h => by have h9 : gB = gO := h; omega
  have hRO : ¬ only gO gR := fun h => by have h9 : gR = gO := h; omega
  have szz := kz_size 7
  clear bB1 bR1 HB1
  obtain ⟨q0, q1, q2, q3, q4, q5, q6, q7, q8, q9, q10, q11, q12, q13, q14, q15, q16, q17, q18⟩ := kz_at 7
  generalize hKL : (kz 7) = z0 at *
  clear hKL
  go_upto_region 18 with fail
  have cL := (bB.cell 5).trans hC.c5
  have cz := (bO.cell 5).trans q5
  have fz := bO.frozen 5
  refine wp_region_lit ?_
  refine wpList_plain rfl (fun K hK => ?_)
  go_simp
  refine hK _ _ ?_
  clear hK K
  refine wpList_plain rfl (fun K hK => ?_)
  go_simp
  refine hK _ _ ?_
  clear hK K
  refine wpList_plain rfl (fun K hK => ?_)
  go_simp
  refine hK _ _ ?_
  clear hK K
  refine wpList_plain rfl (fun K hK => ?_)
  go_simp
  refine hK _ _ ?_
  clear hK K
  refine wpList_nil ?_
  have FS : Fr (only gO) wk (wk.setCell ⟨gO, 5, none⟩ (.int .u32 c.tsn)) := (Fr.refl _ _).set_only 5 none _
  have bO1 := bO.set 5 (.int .u32 c.tsn)
  have bB1 := bB.fr FS hBO
  have bR1 := bR.fr FS hRO
  obtain ⟨sz1, g1, n1⟩ := set_get szz 5 (by decide) (.int .u32 c.tsn)
  generalize hX1 : (z0).setIfInBounds 5 (.int .u32 c.tsn) = cX1 at *
  generalize wk.setCell ⟨gO, 5, none⟩ (.int .u32 c.tsn) = wX1 at *
  clear cL cz fz hX1
  have HB1 := Lib.hid (Bl.trans HB0.out (Bl.of_fr FS HB0.out.size (fun k h => by have h9 : k = gO := h; have := HGO.out; omega)))
  clear bB bR bO HB0
  have bB := bB1
  have bR := bR1
  have bO := bO1
  have HB0 := HB1
  clear bB1 bR1 bO1 HB1 FS
  go_upto_region 32 with fail
  refine wp_region_lit ?_
  refine wpList_plain rfl (fun K hK => ?_)
  refine Mem.oper_load rfl rfl bO hup rfl (by rw [sz1]; kernel_rfl) ?_
  refine hK _ _ ?_
  clear hK K
  have hC9 := (hC.bl HB0.out hhi).more (Nat.zero_le lo) hhi
  obtain ⟨B14, u14, z14, y14⟩ := hC9.c14
  obtain ⟨B15, u15, z15, y15⟩ := hC9.c15
  obtain ⟨B16, u16, z16, y16⟩ := hC9.c16
  obtain ⟨B17, u17, z17, y17⟩ := hC9.c17
  obtain ⟨B18, u18, z18, y18⟩ := hC9.c18
  have hst : strip c = ⟨7, false, false, false, false, c.tsn, 0, 0, 0, 0, 0, 0, 0, 0, [], [], [], [], []⟩ := by unfold strip zC; simp [HK.out]
  have V := Lib.hid (show CkV wX1 0 w.heap.size (cX1) (strip c) from by
    rw [hst]
    exact ckv_mk sz1 ((n1 0 (by decide)).trans q0) ((n1 1 (by decide)).trans q1) ((n1 2 (by decide)).trans q2) ((n1 3 (by decide)).trans q3) ((n1 4 (by decide)).trans q4) g1 ((n1 6 (by decide)).trans q6) ((n1 7 (by decide)).trans q7) ((n1 8 (by decide)).trans q8) ((n1 9 (by decide)).trans q9) ((n1 10 (by decide)).trans q10) ((n1 11 (by decide)).trans q11) ((n1 12 (by decide)).trans q12) ((n1 13 (by decide)).trans q13) ⟨none, 0, ((n1 14 (by decide)).trans q14), no_gap⟩ ⟨none, 0, ((n1 15 (by decide)).trans q15), no_dup⟩ ⟨none, 0, ((n1 16 (by decide)).trans q16), no_skp⟩ ⟨none, 0, ((n1 17 (by decide)).trans q17), no_pm⟩ ⟨none, 0, ((n1 18 (by decide)).trans q18), no_by⟩)
  clear hst hC9 z14 y14 z15 y15 z16 y16 z17 y17 z18 y18
  refine wpList_plain rfl (fun K hK => ?_)
  refine Mem.oper_store (cs0 := zch) (cs := cX1) rfl rfl rfl bR (by rw [sz1]; kernel_rfl) (by rw [sz1]; rfl) V.out.one ?_
  refine hK _ _ ?_
  clear hK K
  refine wpList_nil ?_
  have FR := fr_row (w := wX1) gR (cX1)
  have bR9 := blk_row (cX1) bR
  have HB9 := Lib.hid (Bl.trans HB0.out (Bl.of_fr FR HB0.out.size (fun k h => by have h9 : k = gR := h; have := HG.out; omega)))
  have HVV := Lib.hid ((V.out.fr FR (fun k _ h2 h3 => by have h9 : k = gR := h3; have := HG.out; omega)).more (Nat.le_refl 0) HB9.out.size)
  have hi9 : (Try.prog.info? 31).map (fun i => i.size) = some (cX1).size := by rw [sz1]; kernel_rfl
  generalize wX1.setRow gR (cX1) = w9 at *
  clear bR bB FR V
  go_wp2
  (try simp only [Exit.inBlock, Exit.then])
  refine bodyPost_ret (results_blk1 rfl _ rfl bR9 hup rfl hi9) rfl ?_
  exact ⟨HB9.out, cX1, rfl, HVV.out⟩
set_option maxHeartbeats 8000000 in
set_option maxRecDepth 100000 in
theorem rstrip_14 (lo hi : Nat) (cs : Array Value) (c : Ck) (w : World) (hC : CkV w lo hi cs c) (hhi : hi ≤ w.heap.size) (hBd : CkB c) (hL : CkL c) (hk : c.k = 14) :
    Calls Try.prog 19 #[.agg cs] w (StripC w c) := by
  have hup := Try.underlying31
  have hsz := hC.size
  have B0 : Below w.heap.size w ((w.alloc (.cells cs 31)).alloc (.cells zch 31)) := ((Below.refl _ w).alloc (Nat.le_refl _) _).alloc (by simp) _
  have bB := (Blk.new w cs 31).alloc (.cells zch 31)
  have bR : Blk ((w.alloc (.cells cs 31)).alloc (.cells zch 31)) (w.heap.size + 1) 31 zch := by simpa using Blk.new (w.alloc (.cells cs 31)) zch 31
  have hs1 : ((w.alloc (.cells cs 31)).alloc (.cells zch 31)).heap.size = w.heap.size + 2 := by simp
  have c0 := hC.c0
  rw [hk] at c0
  have HK := Lib.hid hk
  obtain ⟨A14, p14, e14, -⟩ := hC.c14
  obtain ⟨A15, p15, e15, -⟩ := hC.c15
  obtain ⟨A16, p16, e16, -⟩ := hC.c16
  obtain ⟨A17, p17, e17, -⟩ := hC.c17
  obtain ⟨A18, p18, e18, -⟩ := hC.c18
  have cc0 := (bB.cell 0).trans c0
  clear hk
  go_enter Try.func19, Try.ntmps19
  go_upto_region 1 with fail
  generalize (w.alloc (.cells cs 31)).alloc (.cells zch 31) = w1 at *
  have HB0 := Lib.hid B0
  obtain ⟨gB, hgB⟩ : ∃ gB, w.heap.size = gB := ⟨_, rfl⟩
  obtain ⟨gR, hgR⟩ : ∃ gR, w.heap.size + 1 = gR := ⟨_, rfl⟩
  rw [hgR] at bR ⊢
  rw [hgB] at bB cc0 ⊢
  have HG := Lib.hid (And.intro hgB (And.intro hgR hs1))
  have hbR : gR ≠ gB := by omega
  clear hs1 hgR hgB B0
  go_upto_region 2 with fail
  refine wp_region_lit ?_
  refine wpList_plain rfl (fun K hK => ?_)
  go_simp
  refine hK _ _ ?_
  clear hK K
  refine wpList_plain rfl (fun K hK => ?_)
  go_simp
  refine hK _ _ ?_
  clear hK K
  refine wpList_plain rfl (fun K hK => ?_)
  go_simp
  refine hK _ _ ?_
  clear hK K
  refine wpList_plain rfl (fun K hK => ?_)
  go_simp
  refine hK _ _ ?_
  clear hK K
  refine wpList_plain rfl (fun K hK => ?_)
  refine Mem.oper_store (cs0 := zch) (cs := (kz 14)) rfl rfl rfl (Blk.new w1 zch 31) (by kernel_rfl) rfl (kz_one _) ?_
  refine hK _ _ ?_
  clear hK K
  refine wpList_nil ?_
  have F0 : Fr nothing w1 ((w1.alloc (.cells zch 31)).setRow w1.heap.size (kz 14)) := ((Fr.refl nothing w1).alloc _).trans (fr_row w1.heap.size (kz 14)) (fun k hk h => by have h9 : k = w1.heap.size := h; omega)
  have bO := blk_row (kz 14) (Blk.new w1 zch 31)
  have bB1 := bB.fr F0 id
  have bR1 := bR.fr F0 id
  have hltO := bO.lt
  have hgO : gR < w1.heap.size ∧ gB < w1.heap.size := ⟨bR.lt, bB.lt⟩
  have HB1 := Lib.hid (Bl.trans HB0.out (Bl.of_fr F0 HB0.out.size (fun k h => h.elim)))
  have HGO := Lib.hid (show w.heap.size + 2 ≤ w1.heap.size from by have := HG.out; omega)
  generalize (w1.alloc (.cells zch 31)).setRow w1.heap.size (kz 14) = wk at *
  generalize w1.heap.size = gO at *
  clear bB bR F0 HB0 cc0 hltO
  have bB := bB1
  have bR := bR1
  have HB0 := HB1
  have hBO : ¬ only gO gB := fun h => by have h9 : gB = gO := h; omega
  have hRO : ¬ only gO gR := fun h => by have h9 : gR = gO := h; omega
  have szz := kz_size 14
  clear bB1 bR1 HB1
  obtain ⟨q0, q1, q2, q3, q4, q5, q6, q7, q8, q9, q10, q11, q12, q13, q14, q15, q16, q17, q18⟩ := kz_at 14
  generalize hKL : (kz 14) = z0 at *
  clear hKL
  go_upto_region 16 with fail
  have cL := (bB.cell 4).trans hC.c4
  have cz := (bO.cell 4).trans q4
  have fz := bO.frozen 4
  refine wp_region_lit ?_
  refine wpList_plain rfl (fun K hK => ?_)
  go_simp
  refine hK _ _ ?_
  clear hK K
  refine wpList_plain rfl (fun K hK => ?_)
  go_simp
  refine hK _ _ ?_
  clear hK K
  refine wpList_plain rfl (fun K hK => ?_)
  go_simp
  refine hK _ _ ?_
  clear hK K
  refine wpList_plain rfl (fun K hK => ?_)
  go_simp
  refine hK _ _ ?_
  clear hK K
  refine wpList_nil ?_
  have FS : Fr (only gO) wk (wk.setCell ⟨gO, 4, none⟩ (.bool c.r)) := (Fr.refl _ _).set_only 4 none _
  have bO1 := bO.set 4 (.bool c.r)
  have bB1 := bB.fr FS hBO
  have bR1 := bR.fr FS hRO
  obtain ⟨sz1, g1, n1⟩ := set_get szz 4 (by decide) (.bool c.r)
  generalize hX1 : (z0).setIfInBounds 4 (.bool c.r) = cX1 at *
  generalize wk.setCell ⟨gO, 4, none⟩ (.bool c.r) = wX1 at *
  clear cL cz fz hX1
  have HB1 := Lib.hid (Bl.trans HB0.out (Bl.of_fr FS HB0.out.size (fun k h => by have h9 : k = gO := h; have := HGO.out; omega)))
  clear bB bR bO HB0
  have bB := bB1
  have bR := bR1
  have bO := bO1
  have HB0 := HB1
  clear bB1 bR1 bO1 HB1 FS
  go_upto_region 32 with fail
  refine wp_region_lit ?_
  refine wpList_plain rfl (fun K hK => ?_)
  refine Mem.oper_load rfl rfl bO hup rfl (by rw [sz1]; kernel_rfl) ?_
  refine hK _ _ ?_
  clear hK K
  have hC9 := (hC.bl HB0.out hhi).more (Nat.zero_le lo) hhi
  obtain ⟨B14, u14, z14, y14⟩ := hC9.c14
  obtain ⟨B15, u15, z15, y15⟩ := hC9.c15
  obtain ⟨B16, u16, z16, y16⟩ := hC9.c16
  obtain ⟨B17, u17, z17, y17⟩ := hC9.c17
  obtain ⟨B18, u18, z18, y18⟩ := hC9.c18
  have hst : strip c = ⟨14, false, false, false, c.r, 0, 0, 0, 0, 0, 0, 0, 0, 0, [], [], [], [], []⟩ := by unfold strip zC; simp [HK.out]
  have V := Lib.hid (show CkV wX1 0 w.heap.size (cX1) (strip c) from by
    rw [hst]
    exact ckv_mk sz1 ((n1 0 (by decide)).trans q0) ((n1 1 (by decide)).trans q1) ((n1 2 (by decide)).trans q2) ((n1 3 (by decide)).trans q3) g1 ((n1 5 (by decide)).trans q5) ((n1 6 (by decide)).trans q6) ((n1 7 (by decide)).trans q7) ((n1 8 (by decide)).trans q8) ((n1 9 (by decide)).trans q9) ((n1 10 (by decide)).trans q10) ((n1 11 (by decide)).trans q11) ((n1 12 (by decide)).trans q12) ((n1 13 (by decide)).trans q13) ⟨none, 0, ((n1 14 (by decide)).trans q14), no_gap⟩ ⟨none, 0, ((n1 15 (by decide)).trans q15), no_dup⟩ ⟨none, 0, ((n1 16 (by decide)).trans q16), no_skp⟩ ⟨none, 0, ((n1 17 (by decide)).trans q17), no_pm⟩ ⟨none, 0, ((n1 18 (by decide)).trans q18), no_by⟩)
  clear hst hC9 z14 y14 z15 y15 z16 y16 z17 y17 z18 y18
  refine wpList_plain rfl (fun K hK => ?_)
  refine Mem.oper_store (cs0 := zch) (cs := cX1) rfl rfl rfl bR (by rw [sz1]; kernel_rfl) (by rw [sz1]; rfl) V.out.one ?_
  refine hK _ _ ?_
  clear hK K
  refine wpList_nil ?_
  have FR := fr_row (w := wX1) gR (cX1)
  have bR9 := blk_row (cX1) bR
  have HB9 := Lib.hid (Bl.trans HB0.out (Bl.of_fr FR HB0.out.size (fun k h => by have h9 : k = gR := h; have := HG.out; omega)))
  have HVV := Lib.hid ((V.out.fr FR (fun k _ h2 h3 => by have h9 : k = gR := h3; have := HG.out; omega)).more (Nat.le_refl 0) HB9.out.size)
  have hi9 : (Try.prog.info? 31).map (fun i => i.size) = some (cX1).size := by rw [sz1]; kernel_rfl
  generalize wX1.setRow gR (cX1) = w9 at *
  clear bR bB FR V
  go_wp2
  (try simp only [Exit.inBlock, Exit.then])
  refine bodyPost_ret (results_blk1 rfl _ rfl bR9 hup rfl hi9) rfl ?_
  exact ⟨HB9.out, cX1, rfl, HVV.out⟩
end Go.Proofs.Ytaifihoheieneaa.Chk
namespace Go.Proofs.Ytaifihoheieneaa.Chk
open Go.RowKit Go.Proofs.Ytaifihoheieneaa.Mem Go.Proofs.Ytaifihoheieneaa.Octet Go.Proofs.Ytaifihoheieneaa.Prm
set_option linter.unusedVariables false
set_option linter.unusedSimpArgs false
set_option maxHeartbeats 8000000 in
set_option maxRecDepth 100000 in
theorem rstrip_9 (lo hi : Nat) (cs : Array Value) (c : Ck) (w : World) (hC : CkV w lo hi cs c) (hhi : hi ≤ w.heap.size) (hBd : CkB c) (hL : CkL c) (hk : c.k = 9) :
    Calls Try.prog 19 #[.agg cs] w (StripC w c) := by
  have hup := Try.underlying31
  have hsz := hC.size
  have B0 : Below w.heap.size w ((w.alloc (.cells cs 31)).alloc (.cells zch 31)) := ((Below.refl _ w).alloc (Nat.le_refl _) _).alloc (by simp) _
  have bB := (Blk.new w cs 31).alloc (.cells zch 31)
  have bR : Blk ((w.alloc (.cells cs 31)).alloc (.cells zch 31)) (w.heap.size + 1) 31 zch := by simpa using Blk.new (w.alloc (.cells cs 31)) zch 31
  have hs1 : ((w.alloc (.cells cs 31)).alloc (.cells zch 31)).heap.size = w.heap.size + 2 := by simp
  have c0 := hC.c0
  rw [hk] at c0
  have HK := Lib.hid hk
  obtain ⟨A14, p14, e14, -⟩ := hC.c14
  obtain ⟨A15, p15, e15, -⟩ := hC.c15
  obtain ⟨A16, p16, e16, -⟩ := hC.c16
  obtain ⟨A17, p17, e17, -⟩ := hC.c17
  obtain ⟨A18, p18, e18, -⟩ := hC.c18
  have cc0 := (bB.cell 0).trans c0
  clear hk
  go_enter Try.func19, Try.ntmps19
  go_upto_region 1 with fail
  generalize (w.alloc (.cells cs 31)).alloc (.cells zch 31) = w1 at *
  have HB0 := Lib.hid B0
  obtain ⟨gB, hgB⟩ : ∃ gB, w.heap.size = gB := ⟨_, rfl⟩
  obtain ⟨gR, hgR⟩ : ∃ gR, w.heap.size + 1 = gR := ⟨_, rfl⟩
  rw [hgR] at bR ⊢
  rw [hgB] at bB cc0 ⊢
  have HG := Lib.hid (And.intro hgB (And.intro hgR hs1))
  have hbR : gR ≠ gB := by omega
  clear hs1 hgR hgB B0
  go_upto_region 2 with fail
  refine wp_region_lit ?_
  refine wpList_plain rfl (fun K hK => ?_)
  go_simp
  refine hK _ _ ?_
  clear hK K
  refine wpList_plain rfl (fun K hK => ?_)
  go_simp
  refine hK _ _ ?_
  clear hK K
  refine wpList_plain rfl (fun K hK => ?_)
  go_simp
  refine hK _ _ ?_
  clear hK K
  refine wpList_plain rfl (fun K hK => ?_)
  go_simp
  refine hK _ _ ?_
  clear hK K
  refine wpList_plain rfl (fun K hK => ?_)
  refine Mem.oper_store (cs0 := zch) (cs := (kz 9)) rfl rfl rfl (Blk.new w1 zch 31) (by kernel_rfl) rfl (kz_one _) ?_
  refine hK _ _ ?_
  clear hK K
  refine wpList_nil ?_
  have F0 : Fr nothing w1 ((w1.alloc (.cells zch 31)).setRow w1.heap.size (kz 9)) := ((Fr.refl nothing w1).alloc _).trans (fr_row w1.heap.size (kz 9)) (fun k hk h => by have h9 : k = w1.heap.size := h; omega)
  have bO := blk_row (kz 9) (Blk.new w1 zch 31)
  have bB1 := bB.fr F0 id
  have bR1 := bR.fr F0 id
  have hltO := bO.lt
  have hgO : gR < w1.heap.size ∧ gB < w1.heap.size := ⟨bR.lt, bB.lt⟩
  have HB1 := Lib.hid (Bl.trans HB0.out (Bl.of_fr F0 HB0.out.size (fun k h => h.elim)))
  have HGO := Lib.hid (show w.heap.size + 2 ≤ w1.heap.size from by have := HG.out; omega)
  generalize (w1.alloc (.cells zch 31)).setRow w1.heap.size (kz 9) = wk at *
  generalize w1.heap.size = gO at *
  clear bB bR F0 HB0 cc0 hltO
  have bB := bB1
  have bR := bR1
  have HB0 := HB1
  have hBO : ¬ only gO gB := fun h => by have h9 : gB = gO := h; omega
  have hRO : ¬ only gO gR := fun h => by have h9 : gR = gO := h; omega
  have szz := kz_size 9
  clear bB1 bR1 HB1
  obtain ⟨q0, q1, q2, q3, q4, q5, q6, q7, q8, q9, q10, q11, q12, q13, q14, q15, q16, q17, q18⟩ := kz_at 9
  generalize hKL : (kz 9) = z0 at *
  clear hKL
  go_upto_region 29 with fail
  have cL := (bB.cell 17).trans e17
  have cz := (bO.cell 17).trans q17
  have fz := bO.frozen 17
  refine wp_region_lit ?_
  refine wpList_plain rfl (fun K hK => ?_)
  go_simp
  refine hK _ _ ?_
  clear hK K
  refine wpList_plain rfl (fun K hK => ?_)
  go_simp
  refine hK _ _ ?_
  clear hK K
  refine wpList_plain rfl (fun K hK => ?_)
  go_simp
  refine hK _ _ ?_
  clear hK K
  refine wpList_plain rfl (fun K hK => ?_)
  go_simp
  refine hK _ _ ?_
  clear hK K
  refine wpList_nil ?_
  have FS : Fr (only gO) wk (wk.setCell ⟨gO, 17, none⟩ (.slice A17 c.ps.length p17)) := (Fr.refl _ _).set_only 17 none _
  have bO1 := bO.set 17 (.slice A17 c.ps.length p17)
  have bB1 := bB.fr FS hBO
  have bR1 := bR.fr FS hRO
  obtain ⟨sz1, g1, n1⟩ := set_get szz 17 (by decide) (.slice A17 c.ps.length p17)
  generalize hX1 : (z0).setIfInBounds 17 (.slice A17 c.ps.length p17) = cX1 at *
  generalize wk.setCell ⟨gO, 17, none⟩ (.slice A17 c.ps.length p17) = wX1 at *
  clear cL cz fz hX1
  have HB1 := Lib.hid (Bl.trans HB0.out (Bl.of_fr FS HB0.out.size (fun k h => by have h9 : k = gO := h; have := HGO.out; omega)))
  clear bB bR bO HB0
  have bB := bB1
  have bR := bR1
  have bO := bO1
  have HB0 := HB1
  clear bB1 bR1 bO1 HB1 FS
  go_upto_region 32 with fail
  refine wp_region_lit ?_
  refine wpList_plain rfl (fun K hK => ?_)
  refine Mem.oper_load rfl rfl bO hup rfl (by rw [sz1]; kernel_rfl) ?_
  refine hK _ _ ?_
  clear hK K
  have hC9 := (hC.bl HB0.out hhi).more (Nat.zero_le lo) hhi
  obtain ⟨B14, u14, z14, y14⟩ := hC9.c14
  obtain ⟨B15, u15, z15, y15⟩ := hC9.c15
  obtain ⟨B16, u16, z16, y16⟩ := hC9.c16
  obtain ⟨B17, u17, z17, y17⟩ := hC9.c17
  obtain ⟨B18, u18, z18, y18⟩ := hC9.c18
  have hst : strip c = ⟨9, false, false, false, false, 0, 0, 0, 0, 0, 0, 0, 0, 0, [], [], [], c.ps, []⟩ := by unfold strip zC; simp [HK.out]
  have V := Lib.hid (show CkV wX1 0 w.heap.size (cX1) (strip c) from by
    rw [hst]
    exact ckv_mk sz1 ((n1 0 (by decide)).trans q0) ((n1 1 (by decide)).trans q1) ((n1 2 (by decide)).trans q2) ((n1 3 (by decide)).trans q3) ((n1 4 (by decide)).trans q4) ((n1 5 (by decide)).trans q5) ((n1 6 (by decide)).trans q6) ((n1 7 (by decide)).trans q7) ((n1 8 (by decide)).trans q8) ((n1 9 (by decide)).trans q9) ((n1 10 (by decide)).trans q10) ((n1 11 (by decide)).trans q11) ((n1 12 (by decide)).trans q12) ((n1 13 (by decide)).trans q13) ⟨none, 0, ((n1 14 (by decide)).trans q14), no_gap⟩ ⟨none, 0, ((n1 15 (by decide)).trans q15), no_dup⟩ ⟨none, 0, ((n1 16 (by decide)).trans q16), no_skp⟩ ⟨B17, u17, g1.trans (e17.symm.trans z17), y17⟩ ⟨none, 0, ((n1 18 (by decide)).trans q18), no_by⟩)
  clear hst hC9 z14 y14 z15 y15 z16 y16 z17 y17 z18 y18
  refine wpList_plain rfl (fun K hK => ?_)
  refine Mem.oper_store (cs0 := zch) (cs := cX1) rfl rfl rfl bR (by rw [sz1]; kernel_rfl) (by rw [sz1]; rfl) V.out.one ?_
  refine hK _ _ ?_
  clear hK K
  refine wpList_nil ?_
  have FR := fr_row (w := wX1) gR (cX1)
  have bR9 := blk_row (cX1) bR
  have HB9 := Lib.hid (Bl.trans HB0.out (Bl.of_fr FR HB0.out.size (fun k h => by have h9 : k = gR := h; have := HG.out; omega)))
  have HVV := Lib.hid ((V.out.fr FR (fun k _ h2 h3 => by have h9 : k = gR := h3; have := HG.out; omega)).more (Nat.le_refl 0) HB9.out.size)
  have hi9 : (Try.prog.info? 31).map (fun i => i.size) = some (cX1).size := by rw [sz1]; kernel_rfl
  generalize wX1.setRow gR (cX1) = w9 at *
  clear bR bB FR V
  go_wp2
  (try simp only [Exit.inBlock, Exit.then])
  refine bodyPost_ret (results_blk1 rfl _ rfl bR9 hup rfl hi9) rfl ?_
  exact ⟨HB9.out, cX1, rfl, HVV.out⟩
set_option maxHeartbeats 8000000 in
set_option maxRecDepth 100000 in
theorem rstrip_130 (lo hi : Nat) (cs : Array Value) (c : Ck) (w : World) (hC : CkV w lo hi cs c) (hhi : hi ≤ w.heap.size) (hBd : CkB c) (hL : CkL c) (hk : c.k = 130) :
    Calls Try.prog 19 #[.agg cs] w (StripC w c) := by
  have hup := Try.underlying31
  have hsz := hC.size
  have B0 : Below w.heap.size w ((w.alloc (.cells cs 31)).alloc (.cells zch 31)) := ((Below.refl _ w).alloc (Nat.le_refl _) _).alloc (by simp) _
  have bB := (Blk.new w cs 31).alloc (.cells zch 31)
  have bR : Blk ((w.alloc (.cells cs 31)).alloc (.cells zch 31)) (w.heap.size + 1) 31 zch := by simpa using Blk.new (w.alloc (.cells cs 31)) zch 31
  have hs1 : ((w.alloc (.cells cs 31)).alloc (.cells zch 31)).heap.size = w.heap.size + 2 := by simp
  have c0 := hC.c0
  rw [hk] at c0
  have HK := Lib.hid hk
  obtain ⟨A14, p14, e14, -⟩ := hC.c14
  obtain ⟨A15, p15, e15, -⟩ := hC.c15
  obtain ⟨A16, p16, e16, -⟩ := hC.c16
  obtain ⟨A17, p17, e17, -⟩ := hC.c17
  obtain ⟨A18, p18, e18, -⟩ := hC.c18
  have cc0 := (bB.cell 0).trans c0
  clear hk
  go_enter Try.func19, Try.ntmps19
  go_upto_region 1 with fail
  generalize (w.alloc (.cells cs 31)).alloc (.cells zch 31) = w1 at *
  have HB0 := Lib.hid B0
  obtain ⟨gB, hgB⟩ : ∃ gB, w.heap.size = gB := ⟨_, rfl⟩
  obtain ⟨gR, hgR⟩ : ∃ gR, w.heap.size + 1 = gR := ⟨_, rfl⟩
  rw [hgR] at bR ⊢
  rw [hgB] at bB cc0 ⊢
  have HG := Lib.hid (And.intro hgB (And.intro hgR hs1))
  have hbR : gR ≠ gB := by omega
  clear hs1 hgR hgB B0
  go_upto_region 2 with fail
  refine wp_region_lit ?_
  refine wpList_plain rfl (fun K hK => ?_)
  go_simp
  refine hK _ _ ?_
  clear hK K
  refine wpList_plain rfl (fun K hK => ?_)
  go_simp
  refine hK _ _ ?_
  clear hK K
  refine wpList_plain rfl (fun K hK => ?_)
  go_simp
  refine hK _ _ ?_
  clear hK K
  refine wpList_plain rfl (fun K hK => ?_)
  go_simp
  refine hK _ _ ?_
  clear hK K
  refine wpList_plain rfl (fun K hK => ?_)
  refine Mem.oper_store (cs0 := zch) (cs := (kz 130)) rfl rfl rfl (Blk.new w1 zch 31) (by kernel_rfl) rfl (kz_one _) ?_
  refine hK _ _ ?_
  clear hK K
  refine wpList_nil ?_
  have F0 : Fr nothing w1 ((w1.alloc (.cells zch 31)).setRow w1.heap.size (kz 130)) := ((Fr.refl nothing w1).alloc _).trans (fr_row w1.heap.size (kz 130)) (fun k hk h => by have h9 : k = w1.heap.size := h; omega)
  have bO := blk_row (kz 130) (Blk.new w1 zch 31)
  have bB1 := bB.fr F0 id
  have bR1 := bR.fr F0 id
  have hltO := bO.lt
  have hgO : gR < w1.heap.size ∧ gB < w1.heap.size := ⟨bR.lt, bB.lt⟩
  have HB1 := Lib.hid (Bl.trans HB0.out (Bl.of_fr F0 HB0.out.size (fun k h => h.elim)))
  have HGO := Lib.hid (show w.heap.size + 2 ≤ w1.heap.size from by have := HG.out; omega)
  generalize (w1.alloc (.cells zch 31)).setRow w1.heap.size (kz 130) = wk at *
  generalize w1.heap.size = gO at *
  clear bB bR F0 HB0 cc0 hltO
  have bB := bB1
  have bR := bR1
  have HB0 := HB1
  have hBO : ¬ only gO gB := fun h => by have h9 : gB = gO := h; omega
  have hRO : ¬ only gO gR := fun h => by have h9 : gR = gO := h; omega
  have szz := kz_size 130
  clear bB1 bR1 HB1
  obtain ⟨q0, q1, q2, q3, q4, q5, q6, q7, q8, q9, q10, q11, q12, q13, q14, q15, q16, q17, q18⟩ := kz_at 130
  generalize hKL : (kz 130) = z0 at *
  clear hKL
  go_upto_region 29 with fail
  have cL := (bB.cell 17).trans e17
  have cz := (bO.cell 17).trans q17
  have fz := bO.frozen 17
  refine wp_region_lit ?_
  refine wpList_plain rfl (fun K hK => ?_)
  go_simp
  refine hK _ _ ?_
  clear hK K
  refine wpList_plain rfl (fun K hK => ?_)
  go_simp
  refine hK _ _ ?_
  clear hK K
  refine wpList_plain rfl (fun K hK => ?_)
  go_simp
  refine hK _ _ ?_
  clear hK K
  refine wpList_plain rfl (fun K hK => ?_)
  go_simp
  refine hK _ _ ?_
  clear hK K
  refine wpList_nil ?_
  have FS : Fr (only gO) wk (wk.setCell ⟨gO, 17, none⟩ (.slice A17 c.ps.length p17)) := (Fr.refl _ _).set_only 17 none _
  have bO1 := bO.set 17 (.slice A17 c.ps.length p17)
  have bB1 := bB.fr FS hBO
  have bR1 := bR.fr FS hRO
  obtain ⟨sz1, g1, n1⟩ := set_get szz 17 (by decide) (.slice A17 c.ps.length p17)
  generalize hX1 : (z0).setIfInBounds 17 (.slice A17 c.ps.length p17) = cX1 at *
  generalize wk.setCell ⟨gO, 17, none⟩ (.slice A17 c.ps.length p17) = wX1 at *
  clear cL cz fz hX1
  have HB1 := Lib.hid (Bl.trans HB0.out (Bl.of_fr FS HB0.out.size (fun k h => by have h9 : k = gO := h; have := HGO.out; omega)))
  clear bB bR bO HB0
  have bB := bB1
  have bR := bR1
  have bO := bO1
  have HB0 := HB1
  clear bB1 bR1 bO1 HB1 FS
  go_upto_region 32 with fail
  refine wp_region_lit ?_
  refine wpList_plain rfl (fun K hK => ?_)
  refine Mem.oper_load rfl rfl bO hup rfl (by rw [sz1]; kernel_rfl) ?_
  refine hK _ _ ?_
  clear hK K
  have hC9 := (hC.bl HB0.out hhi).more (Nat.zero_le lo) hhi
  obtain ⟨B14, u14, z14, y14⟩ := hC9.c14
  obtain ⟨B15, u15, z15, y15⟩ := hC9.c15
  obtain ⟨B16, u16, z16, y16⟩ := hC9.c16
  obtain ⟨B17, u17, z17, y17⟩ := hC9.c17
  obtain ⟨B18, u18, z18, y18⟩ := hC9.c18
  have hst : strip c = ⟨130, false, false, false, false, 0, 0, 0, 0, 0, 0, 0, 0, 0, [], [], [], c.ps, []⟩ := by unfold strip zC; simp [HK.out]
  have V := Lib.hid (show CkV wX1 0 w.heap.size (cX1) (strip c) from by
    rw [hst]
    exact ckv_mk sz1 ((n1 0 (by decide)).trans q0) ((n1 1 (by decide)).trans q1) ((n1 2 (by decide)).trans q2) ((n1 3 (by decide)).trans q3) ((n1 4 (by decide)).trans q4) ((n1 5 (by decide)).trans q5) ((n1 6 (by decide)).trans q6) ((n1 7 (by decide)).trans q7) ((n1 8 (by decide)).trans q8) ((n1 9 (by decide)).trans q9) ((n1 10 (by decide)).trans q10) ((n1 11 (by decide)).trans q11) ((n1 12 (by decide)).trans q12) ((n1 13 (by decide)).trans q13) ⟨none, 0, ((n1 14 (by decide)).trans q14), no_gap⟩ ⟨none, 0, ((n1 15 (by decide)).trans q15), no_dup⟩ ⟨none, 0, ((n1 16 (by decide)).trans q16), no_skp⟩ ⟨B17, u17, g1.trans (e17.symm.trans z17), y17⟩ ⟨none, 0, ((n1 18 (by decide)).trans q18), no_by⟩)
  clear hst hC9 z14 y14 z15 y15 z16 y16 z17 y17 z18 y18
  refine wpList_plain rfl (fun K hK => ?_)
  refine Mem.oper_store (cs0 := zch) (cs := cX1) rfl rfl rfl bR (by rw [sz1]; kernel_rfl) (by rw [sz1]; rfl) V.out.one ?_
  refine hK _ _ ?_
  clear hK K
  refine wpList_nil ?_
  have FR := fr_row (w := wX1) gR (cX1)
  have bR9 := blk_row (cX1) bR
  have HB9 := Lib.hid (Bl.trans HB0.out (Bl.of_fr FR HB0.out.size (fun k h => by have h9 : k = gR := h; have := HG.out; omega)))
  have HVV := Lib.hid ((V.out.fr FR (fun k _ h2 h3 => by have h9 : k = gR := h3; have := HG.out; omega)).more (Nat.le_refl 0) HB9.out.size)
  have hi9 : (Try.prog.info? 31).map (fun i => i.size) = some (cX1).size := by rw [sz1]; kernel_rfl
  generalize wX1.setRow gR (cX1) = w9 at *
  clear bR bB FR V
  go_wp2
  (try simp only [Exit.inBlock, Exit.then])
  refine bodyPost_ret (results_blk1 rfl _ rfl bR9 hup rfl hi9) rfl ?_
  exact ⟨HB9.out, cX1, rfl, HVV.out⟩
set_option maxHeartbeats 8000000 in
set_option maxRecDepth 100000 in
theorem rstrip_6 (lo hi : Nat) (cs : Array Value) (c : Ck) (w : World) (hC : CkV w lo hi cs c) (hhi : hi ≤ w.heap.size) (hBd : CkB c) (hL : CkL c) (hk : c.k = 6) :
    Calls Try.prog 19 #[.agg cs] w (StripC w c) := by
  have hup := Try.underlying31
  have hsz := hC.size
  have B0 : Below w.heap.size w ((w.alloc (.cells cs 31)).alloc (.cells zch 31)) := ((Below.refl _ w).alloc (Nat.le_refl _) _).alloc (by simp) _
  have bB := (Blk.new w cs 31).alloc (.cells zch 31)
  have bR : Blk ((w.alloc (.cells cs 31)).alloc (.cells zch 31)) (w.heap.size + 1) 31 zch := by simpa using Blk.new (w.alloc (.cells cs 31)) zch 31
  have hs1 : ((w.alloc (.cells cs 31)).alloc (.cells zch 31)).heap.size = w.heap.size + 2 := by simp
  have c0 := hC.c0
  rw [hk] at c0
  have HK := Lib.hid hk
  obtain ⟨A14, p14, e14, -⟩ := hC.c14
  obtain ⟨A15, p15, e15, -⟩ := hC.c15
  obtain ⟨A16, p16, e16, -⟩ := hC.c16
  obtain ⟨A17, p17, e17, -⟩ := hC.c17
  obtain ⟨A18, p18, e18, -⟩ := hC.c18
  have cc0 := (bB.cell 0).trans c0
  clear hk
  go_enter Try.func19, Try.ntmps19
  go_upto_region 1 with fail
  generalize (w.alloc (.cells cs 31)).alloc (.cells zch 31) = w1 at *
  have HB0 := Lib.hid B0
  obtain ⟨gB, hgB⟩ : ∃ gB, w.heap.size = gB := ⟨_, rfl⟩
  obtain ⟨gR, hgR⟩ : ∃ gR, w.heap.size + 1 = gR := ⟨_, rfl⟩
  rw [hgR] at bR ⊢
  rw [hgB] at bB cc0 ⊢
  have HG := Lib.hid (And.intro hgB (And.intro hgR hs1))
  have hbR : gR ≠ gB := by omega
  clear hs1 hgR hgB B0
  go_upto_region 2 with fail
  refine wp_region_lit ?_
  refine wpList_plain rfl (fun K hK => ?_)
  go_simp
  refine hK _ _ ?_
  clear hK K
  refine wpList_plain rfl (fun K hK => ?_)
  go_simp
  refine hK _ _ ?_
  clear hK K
  refine wpList_plain rfl (fun K hK => ?_)
  go_simp
  refine hK _ _ ?_
  clear hK K
  refine wpList_plain rfl (fun K hK => ?_)
  go_simp
  refine hK _ _ ?_
  clear hK K
  refine wpList_plain rfl (fun K hK => ?_)
  refine Mem.oper_store (cs0 := zch) (cs := (kz 6)) rfl rfl rfl (Blk.new w1 zch 31) (by kernel_rfl) rfl (kz_one _) ?_
  refine hK _ _ ?_
  clear hK K
  refine wpList_nil ?_
  have F0 : Fr nothing w1 ((w1.alloc (.cells zch 31)).setRow w1.heap.size (kz 6)) := ((Fr.refl nothing w1).alloc _).trans (fr_row w1.heap.size (kz 6)) (fun k hk h => by have h9 : k = w1.heap.size := h; omega)
  have bO := blk_row (kz 6) (Blk.new w1 zch 31)
  have bB1 := bB.fr F0 id
  have bR1 := bR.fr F0 id
  have hltO := bO.lt
  have hgO : gR < w1.heap.size ∧ gB < w1.heap.size := ⟨bR.lt, bB.lt⟩
  have HB1 := Lib.hid (Bl.trans HB0.out (Bl.of_fr F0 HB0.out.size (fun k h => h.elim)))
  have HGO := Lib.hid (show w.heap.size + 2 ≤ w1.heap.size from by have := HG.out; omega)
  generalize (w1.alloc (.cells zch 31)).setRow w1.heap.size (kz 6) = wk at *
  generalize w1.heap.size = gO at *
  clear bB bR F0 HB0 cc0 hltO
  have bB := bB1
  have bR := bR1
  have HB0 := HB1
  have hBO : ¬ only gO gB := fun h => by have h9 : gB = gO := h; omega
  have hRO : ¬ only gO gR := fun h => by have h9 : gR = gO := h; omega
  have szz := kz_size 6
  clear bB1 bR1 HB1
  obtain ⟨q0, q1, q2, q3, q4, q5, q6, q7, q8, q9, q10, q11, q12, q13, q14, q15, q16, q17, q18⟩ := kz_at 6
  generalize hKL : (kz 6) = z0 at *
  clear hKL
  go_upto_region 16 with fail
  have cL := (bB.cell 4).trans hC.c4
  have cz := (bO.cell 4).trans q4
  have fz := bO.frozen 4
  refine wp_region_lit ?_
  refine wpList_plain rfl (fun K hK => ?_)
  go_simp
  refine hK _ _ ?_
  clear hK K
  refine wpList_plain rfl (fun K hK => ?_)
  go_simp
  refine hK _ _ ?_
  clear hK K
  refine wpList_plain rfl (fun K hK => ?_)
  go_simp
  refine hK _ _ ?_
  clear hK K
  refine wpList_plain rfl (fun K hK => ?_)
  go_simp
  refine hK _ _ ?_
  clear hK K
  refine wpList_nil ?_
  have FS : Fr (only gO) wk (wk.setCell ⟨gO, 4, none⟩ (.bool c.r)) := (Fr.refl _ _).set_only 4 none _
  have bO1 := bO.set 4 (.bool c.r)
  have bB1 := bB.fr FS hBO
  have bR1 := bR.fr FS hRO
  obtain ⟨sz1, g1, n1⟩ := set_get szz 4 (by decide) (.bool c.r)
  generalize hX1 : (z0).setIfInBounds 4 (.bool c.r) = cX1 at *
  generalize wk.setCell ⟨gO, 4, none⟩ (.bool c.r) = wX1 at *
  clear cL cz fz hX1
  have HB1 := Lib.hid (Bl.trans HB0.out (Bl.of_fr FS HB0.out.size (fun k h => by have h9 : k = gO := h; have := HGO.out; omega)))
  clear bB bR bO HB0
  have bB := bB1
  have bR := bR1
  have bO := bO1
  have HB0 := HB1
  clear bB1 bR1 bO1 HB1 FS
  go_upto_region 29 with fail
  have cL := (bB.cell 17).trans e17
  have cz := (bO.cell 17).trans ((n1 17 (by decide)).trans q17)
  have fz := bO.frozen 17
  refine wp_region_lit ?_
  refine wpList_plain rfl (fun K hK => ?_)
  go_simp
  refine hK _ _ ?_
  clear hK K
  refine wpList_plain rfl (fun K hK => ?_)
  go_simp
  refine hK _ _ ?_
  clear hK K
  refine wpList_plain rfl (fun K hK => ?_)
  go_simp
  refine hK _ _ ?_
  clear hK K
  refine wpList_plain rfl (fun K hK => ?_)
  go_simp
  refine hK _ _ ?_
  clear hK K
  refine wpList_nil ?_
  have FS : Fr (only gO) wX1 (wX1.setCell ⟨gO, 17, none⟩ (.slice A17 c.ps.length p17)) := (Fr.refl _ _).set_only 17 none _
  have bO1 := bO.set 17 (.slice A17 c.ps.length p17)
  have bB1 := bB.fr FS hBO
  have bR1 := bR.fr FS hRO
  obtain ⟨sz2, g2, n2⟩ := set_get sz1 17 (by decide) (.slice A17 c.ps.length p17)
  generalize hX2 : (cX1).setIfInBounds 17 (.slice A17 c.ps.length p17) = cX2 at *
  generalize wX1.setCell ⟨gO, 17, none⟩ (.slice A17 c.ps.length p17) = wX2 at *
  clear cL cz fz hX2
  have HB1 := Lib.hid (Bl.trans HB0.out (Bl.of_fr FS HB0.out.size (fun k h => by have h9 : k = gO := h; have := HGO.out; omega)))
  clear bB bR bO HB0
  have bB := bB1
  have bR := bR1
  have bO := bO1
  have HB0 := HB1
  clear bB1 bR1 bO1 HB1 FS
  go_upto_region 32 with fail
  refine wp_region_lit ?_
  refine wpList_plain rfl (fun K hK => ?_)
  refine Mem.oper_load rfl rfl bO hup rfl (by rw [sz2]; kernel_rfl) ?_
  refine hK _ _ ?_
  clear hK K
  have hC9 := (hC.bl HB0.out hhi).more (Nat.zero_le lo) hhi
  obtain ⟨B14, u14, z14, y14⟩ := hC9.c14
  obtain ⟨B15, u15, z15, y15⟩ := hC9.c15
  obtain ⟨B16, u16, z16, y16⟩ := hC9.c16
  obtain ⟨B17, u17, z17, y17⟩ := hC9.c17
  obtain ⟨B18, u18, z18, y18⟩ := hC9.c18
  have hst : strip c = ⟨6, false, false, false, c.r, 0, 0, 0, 0, 0, 0, 0, 0, 0, [], [], [], c.ps, []⟩ := by unfold strip zC; simp [HK.out]
  have V := Lib.hid (show CkV wX2 0 w.heap.size (cX2) (strip c) from by
    rw [hst]
    exact ckv_mk sz2 ((n2 0 (by decide)).trans ((n1 0 (by decide)).trans q0)) ((n2 1 (by decide)).trans ((n1 1 (by decide)).trans q1)) ((n2 2 (by decide)).trans ((n1 2 (by decide)).trans q2)) ((n2 3 (by decide)).trans ((n1 3 (by decide)).trans q3)) ((n2 4 (by decide)).trans g1) ((n2 5 (by decide)).trans ((n1 5 (by decide)).trans q5)) ((n2 6 (by decide)).trans ((n1 6 (by decide)).trans q6)) ((n2 7 (by decide)).trans ((n1 7 (by decide)).trans q7)) ((n2 8 (by decide)).trans ((n1 8 (by decide)).trans q8)) ((n2 9 (by decide)).trans ((n1 9 (by decide)).trans q9)) ((n2 10 (by decide)).trans ((n1 10 (by decide)).trans q10)) ((n2 11 (by decide)).trans ((n1 11 (by decide)).trans q11)) ((n2 12 (by decide)).trans ((n1 12 (by decide)).trans q12)) ((n2 13 (by decide)).trans ((n1 13 (by decide)).trans q13)) ⟨none, 0, ((n2 14 (by decide)).trans ((n1 14 (by decide)).trans q14)), no_gap⟩ ⟨none, 0, ((n2 15 (by decide)).trans ((n1 15 (by decide)).trans q15)), no_dup⟩ ⟨none, 0, ((n2 16 (by decide)).trans ((n1 16 (by decide)).trans q16)), no_skp⟩ ⟨B17, u17, g2.trans (e17.symm.trans z17), y17⟩ ⟨none, 0, ((n2 18 (by decide)).trans ((n1 18 (by decide)).trans q18)), no_by⟩)
  clear hst hC9 z14 y14 z15 y15 z16 y16 z17 y17 z18 y18
  refine wpList_plain rfl (fun K hK => ?_)
  refine Mem.oper_store (cs0 := zch) (cs := cX2) rfl rfl rfl bR (by rw [sz2]; kernel_rfl) (by rw [sz2]; rfl) V.out.one ?_
  refine hK _ _ ?_
  clear hK K
  refine wpList_nil ?_
  have FR := fr_row (w := wX2) gR (cX2)
  have bR9 := blk_row (cX2) bR
  have HB9 := Lib.hid (Bl.trans HB0.out (Bl.of_fr FR HB0.out.size (fun k h => by have h9 : k = gR := h; have := HG.out; omega)))
  have HVV := Lib.hid ((V.out.fr FR (fun k _ h2 h3 => by have h9 : k = gR := h3; have := HG.out; omega)).more (Nat.le_refl 0) HB9.out.size)
  have hi9 : (Try.prog.info? 31).map (fun i => i.size) = some (cX2).size := by rw [sz2]; kernel_rfl
  generalize wX2.setRow gR (cX2) = w9 at *
  clear bR bB FR V
  go_wp2
  (try simp only [Exit.inBlock, Exit.then])
  refine bodyPost_ret (results_blk1 rfl _ rfl bR9 hup rfl hi9) rfl ?_
  exact ⟨HB9.out, cX2, rfl, HVV.out⟩
end Go.Proofs.Ytaifihoheieneaa.Chk
