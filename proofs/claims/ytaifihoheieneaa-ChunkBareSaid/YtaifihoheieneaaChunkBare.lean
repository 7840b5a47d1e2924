/- The walk of flumelaw06.ChunkBare: true for all chunks. No conditions but the row's own. -/
import Derived.Test.YtaifihoheieneaaChkTop
import Derived.Test.YtaifihoheieneaaChkMix
namespace Go.Proofs.Ytaifihoheieneaa.ChunkBare
open Go.RowKit Go.Proofs.Ytaifihoheieneaa.Mem Go.Proofs.Ytaifihoheieneaa.Octet Go.Proofs.Ytaifihoheieneaa.Prm Go.Proofs.Ytaifihoheieneaa.Chk
set_option linter.unusedVariables false
set_option linter.unusedSimpArgs false
theorem get_own {c : Ck} (hB : CkB c) (hE : cE c = 0) : gE (cB c) = 0 ∧ gN (cB c) = (cB c).length ∧ gCk (cB c) = strip c := by
  have hok := got_ok hB hE
  obtain ⟨h1, h2⟩ := put_long hB hE [] hok
  have h3 := put_got hB hE []
  rw [List.append_nil] at h1 h2 h3
  refine ⟨?_, h1, ?_⟩
  · rw [h3, hok]; rfl
  · rw [h2]; exact got_ck hB hE
attribute [local go_sem] max2_mx max_two
set_option maxHeartbeats 4000000 in
set_option maxRecDepth 100000 in
theorem walk (cs cs2 : List Value) (w : World) (hsee : Sees Try.prog w 31 cs) (hsee2 : Sees Try.prog w 31 cs2) :
    Calls Try.prog 8 #[.agg ⟨cs⟩, .agg ⟨cs2⟩] w fun e w' => e = .returned (.bool true) ∧ Below w.heap.size w w' := by
  obtain ⟨c, hC, hBd, -, -, -, hpl, -⟩ := ck_of_see hsee
  obtain ⟨oc, hO, hBO, -, -, -, hplO, -⟩ := ck_of_see hsee2
  obtain ⟨X, hX⟩ : ∃ X, cs.toArray = X := ⟨_, rfl⟩
  rw [hX] at hC
  rw [show (Value.agg ⟨cs⟩) = .agg X by rw [← hX]]
  obtain ⟨Y, hY⟩ : ∃ Y, cs2.toArray = Y := ⟨_, rfl⟩
  rw [hY] at hO
  rw [show (Value.agg ⟨cs2⟩) = .agg Y by rw [← hY]]
  clear hX hsee hY hsee2
  have hup := Try.underlying31
  have hsz := hC.size
  have hszY := hO.size
  have HCK := Lib.hid hC
  have HBD := Lib.hid hBd
  have HOK := Lib.hid hO
  have HBO2 := Lib.hid hBO
  have B0 : Below w.heap.size w ((w.alloc (.cells X 31)).alloc (.cells Y 31)) := ((Below.refl _ w).alloc (Nat.le_refl _) _).alloc (by simp) _
  have bC := (Blk.new w X 31).alloc (.cells Y 31)
  have bO := Blk.new (w.alloc (.cells X 31)) Y 31
  have hs1 : (w.alloc (.cells X 31)).heap.size = w.heap.size + 1 := by simp
  rw [hs1] at bO
  clear hC hBd hO hBO hs1
  go_enter Try.func8, Try.ntmps8
  go_wp2_with fail
  refine (first_calls _).mono ?_
  rintro e w0 ⟨rfl, B1⟩
  have bC0 := bC.fr (Fr.of_below (S := nothing) B1) id
  have bO0 := bO.fr (Fr.of_below (S := nothing) B1) id
  have B2 := Bl.trans B0 (Bl.low B1 B0.size)
  clear B0 B1 bC bO
  go_upto_region 3 with fail
  have hgW : w.heap.size < w.heap.size + 1 := Nat.lt_succ_self _
  generalize w.heap.size + 1 = gO at *
  refine wp_region_any (by kernel_rfl) ?_
  refine Reg.wpAny_inv (I := fun listed act wq => ∃ (d0 d1 d2 d3 d4 d5 : Bool), listed = #[d0, d1, d2, d3, d4, d5] ∧ act = ⟨#[.agg X, .agg Y, .pointer (some ⟨w.heap.size, 0, none⟩), .pointer (some ⟨gO, 0, none⟩), .bool false, undef, undef, undef, undef, undef, undef, undef, .bool true, .bool false, (bif d0 then (.agg X) else undef), (bif d1 then (.int .i64 (szC c)) else undef), (bif d2 then (.agg Y) else undef), (bif d3 then (.int .i64 (szC oc)) else undef), (bif d4 then (.int .i64 (mx (szC c) (szC oc))) else undef), (bif d5 then (.bool (decide (100000 < mx (szC c) (szC oc)))) else undef), undef, undef, undef, undef, undef, undef, undef, undef, undef, undef, undef, undef, undef, undef, undef, undef, undef, undef, undef, undef, undef, undef, undef, undef, undef, undef, undef, undef, undef, undef, undef, undef, undef, undef, undef, undef, undef, undef, undef, undef, undef, undef, undef, undef, undef, undef, undef, undef, undef, undef, undef, undef, undef, undef, undef, undef, undef, undef, undef, undef, undef, undef, undef, undef, undef, undef, undef, undef, undef, undef, undef, undef, undef, undef, undef, undef, undef, undef, undef, undef, undef, undef, undef, undef, undef, undef, undef, undef, undef, undef, undef, undef], []⟩ ∧ Below w0.heap.size w0 wq) ?_ ?_ _ _ _ _ (by decide) ?_
  · intro i o listed act wq hi hI hun hdeps K hK
    obtain ⟨d0, d1, d2, d3, d4, d5, rfl, rfl, hF⟩ := hI
    have hlt : i < 6 := (Array.getElem?_eq_some_iff.1 hi).1
    rcases (show i = 0 ∨ i = 1 ∨ i = 2 ∨ i = 3 ∨ i = 4 ∨ i = 5 by omega) with rfl | rfl | rfl | rfl | rfl | rfl
    · skip
      obtain rfl : _ = o := Option.some.inj hi
      obtain rfl : d0 = false := by simpa using hun
      clear hun hdeps hi hlt
      rw [if_pos (show Region.wanted _ _ = true from rfl)]
      refine Mem.oper_load rfl rfl (bC0.fr (Fr.of_below (S := nothing) hF) id) hup rfl (by rw [hsz]; kernel_rfl) ?_
      exact hK _ _ ⟨true, d1, d2, d3, d4, d5, rfl, rfl, hF⟩
    · skip
      obtain rfl : _ = o := Option.some.inj hi
      obtain rfl : d1 = false := by simpa using hun
      obtain rfl : d0 = true := hdeps _ (Array.mem_of_getElem? (i := 0) rfl) rfl
      clear hun hdeps hi hlt
      have HS := Lib.hid (size_calls _ _ _ c wq (HCK.out.bl (Bl.trans B2 (Bl.low hF B2.size)) (Nat.le_refl _)) (Nat.le_trans B2.size hF.size) hpl)
      go_simp
      go_at_call 11
      refine HS.out.mono ?_
      rintro e w' ⟨rfl, B'⟩
      replace hF := Bl.trans hF (Bl.low B' hF.size)
      clear HS B'
      simp only []
      exact hK _ _ ⟨true, true, d2, d3, d4, d5, rfl, rfl, hF⟩
    · skip
      obtain rfl : _ = o := Option.some.inj hi
      obtain rfl : d2 = false := by simpa using hun
      clear hun hdeps hi hlt
      rw [if_pos (show Region.wanted _ _ = true from rfl)]
      refine Mem.oper_load rfl rfl (bO0.fr (Fr.of_below (S := nothing) hF) id) hup rfl (by rw [hszY]; kernel_rfl) ?_
      exact hK _ _ ⟨d0, d1, true, d3, d4, d5, rfl, rfl, hF⟩
    · skip
      obtain rfl : _ = o := Option.some.inj hi
      obtain rfl : d3 = false := by simpa using hun
      obtain rfl : d2 = true := hdeps _ (Array.mem_of_getElem? (i := 0) rfl) rfl
      obtain rfl : d1 = true := hdeps _ (Array.mem_of_getElem? (i := 1) rfl) rfl
      clear hun hdeps hi hlt
      have HS := Lib.hid (size_calls _ _ _ oc wq (HOK.out.bl (Bl.trans B2 (Bl.low hF B2.size)) (Nat.le_refl _)) (Nat.le_trans B2.size hF.size) hplO)
      go_simp
      go_at_call 11
      refine HS.out.mono ?_
      rintro e w' ⟨rfl, B'⟩
      replace hF := Bl.trans hF (Bl.low B' hF.size)
      clear HS B'
      simp only []
      exact hK _ _ ⟨d0, true, true, true, d4, d5, rfl, rfl, hF⟩
    · skip
      obtain rfl : _ = o := Option.some.inj hi
      obtain rfl : d4 = false := by simpa using hun
      obtain rfl : d1 = true := hdeps _ (Array.mem_of_getElem? (i := 0) rfl) rfl
      obtain rfl : d3 = true := hdeps _ (Array.mem_of_getElem? (i := 1) rfl) rfl
      clear hun hdeps hi hlt
      go_simp
      exact hK _ _ ⟨d0, true, d2, true, true, d5, rfl, rfl, hF⟩
    · skip
      obtain rfl : _ = o := Option.some.inj hi
      obtain rfl : d5 = false := by simpa using hun
      obtain rfl : d4 = true := hdeps _ (Array.mem_of_getElem? (i := 0) rfl) rfl
      clear hun hdeps hi hlt
      go_simp
      exact hK _ _ ⟨d0, d1, d2, d3, true, true, rfl, rfl, hF⟩
  · intro listed act wq hI hr0
    obtain ⟨d0, d1, d2, d3, d4, d5, rfl, rfl, hF⟩ := hI
    have hall := Reg.all_of_done (by kernel_rfl) rfl hr0
    obtain rfl : d0 = true := hall 0 (by decide)
    obtain rfl : d1 = true := hall 1 (by decide)
    obtain rfl : d2 = true := hall 2 (by decide)
    obtain rfl : d3 = true := hall 3 (by decide)
    obtain rfl : d4 = true := hall 4 (by decide)
    obtain rfl : d5 = true := hall 5 (by decide)
    clear hall hr0
    simp only [cond_true]
    have B3 := Bl.trans B2 (Bl.low hF B2.size)
    have bC1 := bC0.fr (Fr.of_below (S := nothing) hF) id
    have bO1 := bO0.fr (Fr.of_below (S := nothing) hF) id
    clear hF bC0 bO0 B2
    generalize wq = w1 at *
    cases hd : decide ((100000 : Int) < mx (szC c) (szC oc)) with
    | true =>
      clear hd
      go_wp2
      go_ret
      exact ⟨rfl, B3⟩
    | false =>
    have hs := of_decide_eq_false hd
    clear hd
    have hL := ckl_of (c := c) (by unfold mx at hs; split at hs <;> omega)
    have hLO := ckl_of (c := oc) (by unfold mx at hs; split at hs <;> omega)
    have HLO := Lib.hid (And.intro hL hLO)
    have CP := cput_calls _ _ _ c w1 (HCK.out.bl B3 (Nat.le_refl _)) B3.size HBD.out hL
    unfold PutC at CP
    clear hL hLO
    by_cases hE : cE c = 0
    · rw [cO_ok hE, hE] at CP
      have HCP := Lib.hid CP
      clear CP hs
      go_upto_region 5 with fail
      refine wp_region_lit ?_
      refine wpList_plain rfl (fun K hK => ?_)
      refine Mem.oper_load rfl rfl bC1 hup rfl (by rw [hsz]; kernel_rfl) ?_
      refine hK _ _ ?_
      clear hK K
      go_wp2_with fail
      refine HCP.out.mono ?_
      rintro e w2 ⟨B5, A, p, rfl, o⟩
      have bO2 := bO1.fr (Fr.of_below (S := nothing) B5) id
      have B6 := Bl.trans B3 (Bl.low B5 B3.size)
      have htop := cB_top hE
      obtain ⟨g1, g2, g3⟩ := get_own HBD.out hE
      have CG := cget_calls _ _ _ _ w2 (SlB.of_own o) (Nat.le_refl _) (isb_cB HBD.out) (by omega)
      unfold GetC at CG
      rw [g1, g2, g3] at CG
      obtain ⟨zs, hzs⟩ : ∃ zs, cB c = zs := ⟨_, rfl⟩
      rw [hzs] at CG o htop ⊢
      have HZS := Lib.hid hzs
      have HCG := Lib.hid CG
      have HO := Lib.hid o
      have HE := Lib.hid hE
      have hkn := (cE_parts hE).1
      have HG3 := Lib.hid hkn
      clear CG g1 g2 g3 o HCP B5 B3 bC1 bO1 hE hkn hzs
      go_upto_region 8 with fail
      refine wp_region_lit ?_
      refine wpList_plain rfl (fun K hK => ?_)
      go_simp
      refine hK _ _ ?_
      clear hK K
      -- HCG: the contract, hidden; w2: the world before; names out: bG block's fact, HCG2 the chunk's facts (hidden), gK the block, w6 the world, F6 the frame
      refine wpList_plain rfl (fun K hK => ?_)
      go_simp
      go_at_call 18
      refine HCG.out.mono ?_
      rintro e wQ ⟨BQ, csQ, rfl, hckQ⟩
      simp only []
      refine hK _ _ ?_
      clear hK K HCG
      have szQ := hckQ.size
      have HckQ := Lib.hid hckQ
      clear hckQ
      refine wpList_plain rfl (fun K hK => ?_)
      go_simp
      refine hK _ _ ?_
      clear hK K
      refine wpList_plain rfl (fun K hK => ?_)
      go_simp
      refine hK _ _ ?_
      clear hK K
      refine wpList_plain rfl (fun K hK => ?_)
      go_simp
      refine hK _ _ ?_
      clear hK K
      refine wpList_plain rfl (fun K hK => ?_)
      go_simp
      refine hK _ _ ?_
      clear hK K
      refine wpList_plain rfl (fun K hK => ?_)
      go_simp
      refine hK _ _ ?_
      clear hK K
      refine wpList_plain rfl (fun K hK => ?_)
      refine Mem.oper_store (cs0 := #[.int .u8 0, .bool false, .bool false, .bool false, .bool false, .int .u32 0, .int .u16 0, .int .u32 0, .int .u32 0, .int .u32 0, .int .u32 0, .int .u32 0, .int .u16 0, .int .u16 0, .slice none 0 0, .slice none 0 0, .slice none 0 0, .slice none 0 0, .slice none 0 0]) (cs := csQ) rfl rfl rfl (Blk.new wQ #[.int .u8 0, .bool false, .bool false, .bool false, .bool false, .int .u32 0, .int .u16 0, .int .u32 0, .int .u32 0, .int .u32 0, .int .u32 0, .int .u32 0, .int .u16 0, .int .u16 0, .slice none 0 0, .slice none 0 0, .slice none 0 0, .slice none 0 0, .slice none 0 0] 31) (by rw [szQ]; kernel_rfl) (by rw [szQ]; rfl) HckQ.out.one ?_
      refine hK _ _ ?_
      clear hK K
      refine wpList_plain rfl (fun K hK => ?_)
      go_simp
      refine hK _ _ ?_
      clear hK K
      refine wpList_plain rfl (fun K hK => ?_)
      go_simp
      refine hK _ _ ?_
      clear hK K
      refine wpList_nil ?_
      have bG : Blk ((wQ.alloc (.cells #[.int .u8 0, .bool false, .bool false, .bool false, .bool false, .int .u32 0, .int .u16 0, .int .u32 0, .int .u32 0, .int .u32 0, .int .u32 0, .int .u32 0, .int .u16 0, .int .u16 0, .slice none 0 0, .slice none 0 0, .slice none 0 0, .slice none 0 0, .slice none 0 0] 31)).setRow wQ.heap.size csQ) wQ.heap.size 31 csQ := blk_row csQ (Blk.new wQ #[.int .u8 0, .bool false, .bool false, .bool false, .bool false, .int .u32 0, .int .u16 0, .int .u32 0, .int .u32 0, .int .u32 0, .int .u32 0, .int .u32 0, .int .u16 0, .int .u16 0, .slice none 0 0, .slice none 0 0, .slice none 0 0, .slice none 0 0, .slice none 0 0] 31)
      have fQ : Fr nothing wQ ((wQ.alloc (.cells #[.int .u8 0, .bool false, .bool false, .bool false, .bool false, .int .u32 0, .int .u16 0, .int .u32 0, .int .u32 0, .int .u32 0, .int .u32 0, .int .u32 0, .int .u16 0, .int .u16 0, .slice none 0 0, .slice none 0 0, .slice none 0 0, .slice none 0 0, .slice none 0 0] 31)).setRow wQ.heap.size csQ) := ((Fr.refl nothing wQ).alloc _).trans (fr_row wQ.heap.size csQ) (fun k hk h => by have h9 : k = wQ.heap.size := h; omega)
      have F6 : Fr nothing w2 ((wQ.alloc (.cells #[.int .u8 0, .bool false, .bool false, .bool false, .bool false, .int .u32 0, .int .u16 0, .int .u32 0, .int .u32 0, .int .u32 0, .int .u32 0, .int .u32 0, .int .u16 0, .int .u16 0, .slice none 0 0, .slice none 0 0, .slice none 0 0, .slice none 0 0, .slice none 0 0] 31)).setRow wQ.heap.size csQ) := (Fr.of_below (S := nothing) BQ).trans fQ (fun k _ h => h)
      have hsQ : w2.heap.size ≤ wQ.heap.size := BQ.size
      have htQ : wQ.heap.size < ((wQ.alloc (.cells #[.int .u8 0, .bool false, .bool false, .bool false, .bool false, .int .u32 0, .int .u16 0, .int .u32 0, .int .u32 0, .int .u32 0, .int .u32 0, .int .u32 0, .int .u16 0, .int .u16 0, .slice none 0 0, .slice none 0 0, .slice none 0 0, .slice none 0 0, .slice none 0 0] 31)).setRow wQ.heap.size csQ).heap.size := bG.lt
      have hck6 := HckQ.out.fr fQ (fun _ _ _ h => h)
      generalize (wQ.alloc (.cells #[.int .u8 0, .bool false, .bool false, .bool false, .bool false, .int .u32 0, .int .u16 0, .int .u32 0, .int .u32 0, .int .u32 0, .int .u32 0, .int .u32 0, .int .u16 0, .int .u16 0, .slice none 0 0, .slice none 0 0, .slice none 0 0, .slice none 0 0, .slice none 0 0] 31)).setRow wQ.heap.size csQ = w6 at *
      generalize wQ.heap.size = gK at *
      have HCG2 := Lib.hid hck6
      clear BQ fQ hck6 HckQ
      have HBO := Lib.hid (bO2.fr F6 id)
      have B7 := Bl.trans B6 (Bl.of_fr F6 B6.size (fun k h => h.elim))
      have o6 := OwnB.fr HO.out F6 (fun _ _ h => h)
      have HO6 := Lib.hid o6
      have hgne : ¬ only gK gO := fun h => by have h9 : gO = gK := h; have := bO2.lt; omega
      have hgK : w.heap.size ≤ gK := by have := B6.size; omega
      have ck := (bG.cell 0).trans HCG2.out.c0
      rw [strip_k] at ck
      clear o6 F6 bO2 B6 htop
      by_cases h : c.k = 7
      · have e7 : (c.k == 7) = true := beq_iff_eq.2 h
        have HKS := Lib.hid h
        clear h
        go_upto_region 14 with fail
        clear ck e7
        have HV6 := Lib.hid HOK.out.c6
        obtain ⟨B18, q18, hv18, -⟩ := HOK.out.c18
        have HV18 := Lib.hid hv18
        clear hv18
        obtain ⟨B14, q14, hv14, -⟩ := HOK.out.c14
        have HV14 := Lib.hid hv14
        clear hv14
        have HV4 := Lib.hid HOK.out.c4
        refine wp_region_any (by kernel_rfl) ?_
        refine Reg.wpAny_inv (I := fun listed act wq => ∃ (d0 d1 d2 d3 d4 d5 d6 d7 d8 d9 d10 d11 d12 d13 d14 d15 : Bool) (cs' : Array Value), listed = #[d0, d1, d2, d3, d4, d5, d6, d7, d8, d9, d10, d11, d12, d13, d14, d15] ∧ act = ⟨#[Value.agg X, Value.agg Y, Value.pointer (some { block := w.heap.size, off := 0 }), Value.pointer (some { block := gO, off := 0 }), Value.bool false, Value.slice A zs.length p, Value.int IntKind.i64 0, Value.pointer (some { block := gK, off := 0 }), Value.int IntKind.i64 ↑zs.length, Value.int IntKind.i64 0, undef, undef, Value.bool true, Value.bool false, Value.agg X, Value.int IntKind.i64 (szC c), Value.agg Y, Value.int IntKind.i64 (szC oc), Value.int IntKind.i64 (mx (szC c) (szC oc)), Value.bool false, Value.tuple #[Value.slice A zs.length p, Value.int IntKind.i64 0], Value.agg X, Value.tuple #[Value.slice A zs.length p, Value.int IntKind.i64 0], Value.slice A zs.length p, Value.int IntKind.i64 0, Value.int IntKind.i64 0, Value.bool false, Value.tuple #[Value.agg csQ, Value.int IntKind.i64 ↑zs.length, Value.int IntKind.i64 0], Value.slice A zs.length p, Value.tuple #[Value.agg csQ, Value.int IntKind.i64 ↑zs.length, Value.int IntKind.i64 0], Value.agg csQ, Value.int IntKind.i64 ↑zs.length, Value.int IntKind.i64 0, Value.int IntKind.i64 0, Value.bool false, Value.pointer (some { block := gK, off := 0 }), Value.int IntKind.u8 c.k, undef, undef, undef, undef, undef, undef, undef, undef, undef, undef, undef, undef, Value.bool true, Value.bool true, (bif d0 then (.pointer (some ⟨gO, 6, none⟩)) else undef), (bif d1 then (.int .u16 oc.st) else undef), (bif d2 then (.pointer (some ⟨gO, 18, none⟩)) else undef), (bif d3 then (.slice B18 oc.body.length q18) else undef), (bif d4 then (.pointer (some ⟨gO, 14, none⟩)) else undef), (bif d5 then (.slice B14 oc.gaps.length q14) else undef), (bif d6 then (.pointer (some ⟨gO, 4, none⟩)) else undef), (bif d7 then (.bool oc.r) else undef), (bif d8 then (.pointer (some ⟨gK, 6, none⟩)) else undef), (bif d10 then (.pointer (some ⟨gK, 18, none⟩)) else undef), (bif d12 then (.pointer (some ⟨gK, 14, none⟩)) else undef), (bif d14 then (.pointer (some ⟨gK, 4, none⟩)) else undef), undef, undef, undef, undef, undef, undef, undef, undef, undef, undef, undef, undef, undef, undef, undef, undef, undef, undef, undef, undef, undef, undef, undef, undef, undef, undef, undef, undef, undef, undef, undef, undef, undef, undef, undef, undef, undef, undef, undef, undef, undef, undef, undef, undef, undef, undef, undef, undef, undef], []⟩ ∧ Mix csQ Y (fun i => (d9 && i == 6) || ((d11 && i == 18) || ((d13 && i == 14) || ((d15 && i == 4))))) cs' ∧ Blk wq gK 31 cs' ∧ Fr (only gK) w6 wq) ?_ ?_ _ _ _ _ (by decide) ?_
        · intro i o listed act wq hi hI hun hdeps K hK
          obtain ⟨d0, d1, d2, d3, d4, d5, d6, d7, d8, d9, d10, d11, d12, d13, d14, d15, cs', rfl, rfl, hM, hZ, hF⟩ := hI
          have hlt : i < 16 := (Array.getElem?_eq_some_iff.1 hi).1
          rcases (show i = 0 ∨ i = 1 ∨ i = 2 ∨ i = 3 ∨ i = 4 ∨ i = 5 ∨ i = 6 ∨ i = 7 ∨ i = 8 ∨ i = 9 ∨ i = 10 ∨ i = 11 ∨ i = 12 ∨ i = 13 ∨ i = 14 ∨ i = 15 by omega) with rfl | rfl | rfl | rfl | rfl | rfl | rfl | rfl | rfl | rfl | rfl | rfl | rfl | rfl | rfl | rfl
          · skip
            obtain rfl : _ = o := Option.some.inj hi
            obtain rfl : d0 = false := by simpa using hun
            clear hun hdeps hi hlt
            go_simp
            exact hK _ _ ⟨true, d1, d2, d3, d4, d5, d6, d7, d8, d9, d10, d11, d12, d13, d14, d15, cs', rfl, rfl, hM, hZ, hF⟩
          · skip
            obtain rfl : _ = o := Option.some.inj hi
            obtain rfl : d1 = false := by simpa using hun
            obtain rfl : d0 = true := hdeps _ (Array.mem_of_getElem? (i := 0) rfl) rfl
            clear hun hdeps hi hlt
            have cc := ((HBO.out.fr hF hgne).cell 6).trans HV6.out
            go_simp
            exact hK _ _ ⟨true, true, d2, d3, d4, d5, d6, d7, d8, d9, d10, d11, d12, d13, d14, d15, cs', rfl, rfl, hM, hZ, hF⟩
          · skip
            obtain rfl : _ = o := Option.some.inj hi
            obtain rfl : d2 = false := by simpa using hun
            clear hun hdeps hi hlt
            go_simp
            exact hK _ _ ⟨d0, d1, true, d3, d4, d5, d6, d7, d8, d9, d10, d11, d12, d13, d14, d15, cs', rfl, rfl, hM, hZ, hF⟩
          · skip
            obtain rfl : _ = o := Option.some.inj hi
            obtain rfl : d3 = false := by simpa using hun
            obtain rfl : d2 = true := hdeps _ (Array.mem_of_getElem? (i := 0) rfl) rfl
            clear hun hdeps hi hlt
            have cc := ((HBO.out.fr hF hgne).cell 18).trans HV18.out
            go_simp
            exact hK _ _ ⟨d0, d1, true, true, d4, d5, d6, d7, d8, d9, d10, d11, d12, d13, d14, d15, cs', rfl, rfl, hM, hZ, hF⟩
          · skip
            obtain rfl : _ = o := Option.some.inj hi
            obtain rfl : d4 = false := by simpa using hun
            clear hun hdeps hi hlt
            go_simp
            exact hK _ _ ⟨d0, d1, d2, d3, true, d5, d6, d7, d8, d9, d10, d11, d12, d13, d14, d15, cs', rfl, rfl, hM, hZ, hF⟩
          · skip
            obtain rfl : _ = o := Option.some.inj hi
            obtain rfl : d5 = false := by simpa using hun
            obtain rfl : d4 = true := hdeps _ (Array.mem_of_getElem? (i := 0) rfl) rfl
            clear hun hdeps hi hlt
            have cc := ((HBO.out.fr hF hgne).cell 14).trans HV14.out
            go_simp
            exact hK _ _ ⟨d0, d1, d2, d3, true, true, d6, d7, d8, d9, d10, d11, d12, d13, d14, d15, cs', rfl, rfl, hM, hZ, hF⟩
          · skip
            obtain rfl : _ = o := Option.some.inj hi
            obtain rfl : d6 = false := by simpa using hun
            clear hun hdeps hi hlt
            go_simp
            exact hK _ _ ⟨d0, d1, d2, d3, d4, d5, true, d7, d8, d9, d10, d11, d12, d13, d14, d15, cs', rfl, rfl, hM, hZ, hF⟩
          · skip
            obtain rfl : _ = o := Option.some.inj hi
            obtain rfl : d7 = false := by simpa using hun
            obtain rfl : d6 = true := hdeps _ (Array.mem_of_getElem? (i := 0) rfl) rfl
            clear hun hdeps hi hlt
            have cc := ((HBO.out.fr hF hgne).cell 4).trans HV4.out
            go_simp
            exact hK _ _ ⟨d0, d1, d2, d3, d4, d5, true, true, d8, d9, d10, d11, d12, d13, d14, d15, cs', rfl, rfl, hM, hZ, hF⟩
          · skip
            obtain rfl : _ = o := Option.some.inj hi
            obtain rfl : d8 = false := by simpa using hun
            clear hun hdeps hi hlt
            go_simp
            exact hK _ _ ⟨d0, d1, d2, d3, d4, d5, d6, d7, true, d9, d10, d11, d12, d13, d14, d15, cs', rfl, rfl, hM, hZ, hF⟩
          · skip
            obtain rfl : _ = o := Option.some.inj hi
            obtain rfl : d9 = false := by simpa using hun
            obtain rfl : d8 = true := hdeps _ (Array.mem_of_getElem? (i := 0) rfl) rfl
            obtain rfl : d1 = true := hdeps _ (Array.mem_of_getElem? (i := 1) rfl) rfl
            clear hun hdeps hi hlt
            have cz := hZ.cell 6
            have fz := hZ.frozen 6
            have fm := Array.getElem?_eq_getElem (xs := cs') (i := 6) (by rw [hM.size]; decide)
            rw [fm] at cz
            clear fm
            go_simp
            exact hK _ _ ⟨d0, true, d2, d3, d4, d5, d6, d7, true, true, d10, d11, d12, d13, d14, d15, cs'.setIfInBounds 6 (.int .u16 oc.st), rfl, rfl, (hM.set HV6.out (by decide)).congr (fun i => by simp only [Bool.false_and, Bool.true_and, Bool.false_or]; ac_rfl), hZ.set 6 _, hF.set_only 6 none _⟩
          · skip
            obtain rfl : _ = o := Option.some.inj hi
            obtain rfl : d10 = false := by simpa using hun
            clear hun hdeps hi hlt
            go_simp
            exact hK _ _ ⟨d0, d1, d2, d3, d4, d5, d6, d7, d8, d9, true, d11, d12, d13, d14, d15, cs', rfl, rfl, hM, hZ, hF⟩
          · skip
            obtain rfl : _ = o := Option.some.inj hi
            obtain rfl : d11 = false := by simpa using hun
            obtain rfl : d10 = true := hdeps _ (Array.mem_of_getElem? (i := 0) rfl) rfl
            obtain rfl : d3 = true := hdeps _ (Array.mem_of_getElem? (i := 1) rfl) rfl
            obtain rfl : d9 = true := hdeps _ (Array.mem_of_getElem? (i := 2) rfl) rfl
            clear hun hdeps hi hlt
            have cz := hZ.cell 18
            have fz := hZ.frozen 18
            have fm := Array.getElem?_eq_getElem (xs := cs') (i := 18) (by rw [hM.size]; decide)
            rw [fm] at cz
            clear fm
            go_simp
            exact hK _ _ ⟨d0, d1, d2, true, d4, d5, d6, d7, d8, true, true, true, d12, d13, d14, d15, cs'.setIfInBounds 18 (.slice B18 oc.body.length q18), rfl, rfl, (hM.set HV18.out (by decide)).congr (fun i => by simp only [Bool.false_and, Bool.true_and, Bool.false_or]; ac_rfl), hZ.set 18 _, hF.set_only 18 none _⟩
          · skip
            obtain rfl : _ = o := Option.some.inj hi
            obtain rfl : d12 = false := by simpa using hun
            clear hun hdeps hi hlt
            go_simp
            exact hK _ _ ⟨d0, d1, d2, d3, d4, d5, d6, d7, d8, d9, d10, d11, true, d13, d14, d15, cs', rfl, rfl, hM, hZ, hF⟩
          · skip
            obtain rfl : _ = o := Option.some.inj hi
            obtain rfl : d13 = false := by simpa using hun
            obtain rfl : d12 = true := hdeps _ (Array.mem_of_getElem? (i := 0) rfl) rfl
            obtain rfl : d5 = true := hdeps _ (Array.mem_of_getElem? (i := 1) rfl) rfl
            obtain rfl : d11 = true := hdeps _ (Array.mem_of_getElem? (i := 2) rfl) rfl
            clear hun hdeps hi hlt
            have cz := hZ.cell 14
            have fz := hZ.frozen 14
            have fm := Array.getElem?_eq_getElem (xs := cs') (i := 14) (by rw [hM.size]; decide)
            rw [fm] at cz
            clear fm
            go_simp
            exact hK _ _ ⟨d0, d1, d2, d3, d4, true, d6, d7, d8, d9, d10, true, true, true, d14, d15, cs'.setIfInBounds 14 (.slice B14 oc.gaps.length q14), rfl, rfl, (hM.set HV14.out (by decide)).congr (fun i => by simp only [Bool.false_and, Bool.true_and, Bool.false_or]; ac_rfl), hZ.set 14 _, hF.set_only 14 none _⟩
          · skip
            obtain rfl : _ = o := Option.some.inj hi
            obtain rfl : d14 = false := by simpa using hun
            clear hun hdeps hi hlt
            go_simp
            exact hK _ _ ⟨d0, d1, d2, d3, d4, d5, d6, d7, d8, d9, d10, d11, d12, d13, true, d15, cs', rfl, rfl, hM, hZ, hF⟩
          · skip
            obtain rfl : _ = o := Option.some.inj hi
            obtain rfl : d15 = false := by simpa using hun
            obtain rfl : d14 = true := hdeps _ (Array.mem_of_getElem? (i := 0) rfl) rfl
            obtain rfl : d7 = true := hdeps _ (Array.mem_of_getElem? (i := 1) rfl) rfl
            obtain rfl : d13 = true := hdeps _ (Array.mem_of_getElem? (i := 2) rfl) rfl
            clear hun hdeps hi hlt
            have cz := hZ.cell 4
            have fz := hZ.frozen 4
            have fm := Array.getElem?_eq_getElem (xs := cs') (i := 4) (by rw [hM.size]; decide)
            rw [fm] at cz
            clear fm
            go_simp
            exact hK _ _ ⟨d0, d1, d2, d3, d4, d5, d6, true, d8, d9, d10, d11, d12, true, true, true, cs'.setIfInBounds 4 (.bool oc.r), rfl, rfl, (hM.set HV4.out (by decide)).congr (fun i => by simp only [Bool.false_and, Bool.true_and, Bool.false_or]; ac_rfl), hZ.set 4 _, hF.set_only 4 none _⟩
        · intro listed act wq hI hr0
          obtain ⟨d0, d1, d2, d3, d4, d5, d6, d7, d8, d9, d10, d11, d12, d13, d14, d15, cs', rfl, rfl, hM, hZ, hF⟩ := hI
          have hall := Reg.all_of_done (by kernel_rfl) rfl hr0
          obtain rfl : d0 = true := hall 0 (by decide)
          obtain rfl : d1 = true := hall 1 (by decide)
          obtain rfl : d2 = true := hall 2 (by decide)
          obtain rfl : d3 = true := hall 3 (by decide)
          obtain rfl : d4 = true := hall 4 (by decide)
          obtain rfl : d5 = true := hall 5 (by decide)
          obtain rfl : d6 = true := hall 6 (by decide)
          obtain rfl : d7 = true := hall 7 (by decide)
          obtain rfl : d8 = true := hall 8 (by decide)
          obtain rfl : d9 = true := hall 9 (by decide)
          obtain rfl : d10 = true := hall 10 (by decide)
          obtain rfl : d11 = true := hall 11 (by decide)
          obtain rfl : d12 = true := hall 12 (by decide)
          obtain rfl : d13 = true := hall 13 (by decide)
          obtain rfl : d14 = true := hall 14 (by decide)
          obtain rfl : d15 = true := hall 15 (by decide)
          clear hall hr0
          simp only [cond_true]
          replace hM := hM.congr (S' := fun i => if (strip c).k = 7 then i == 6 || (i == 18 || (i == 14 || i == 4)) else if (strip c).k = 11 ∨ (strip c).k = 8 then i == 5 || (i == 17 || i == 1) else if (strip c).k = 0 ∨ (strip c).k = 64 then i == 11 || (i == 16 || i == 15) else if (strip c).k = 3 then i == 18 || (i == 16 || i == 3) else i == 14 || (i == 15 || (i == 6 || i == 8))) (fun i => by rw [strip_k]; have := HKS.out; simp [this])
          have hs6 := hF.size
          have B8 := Bl.trans B7 (Bl.of_fr hF B7.size (fun k h => by have h9 : k = gK := h; omega))
          have CG9 := HCG2.out.fr hF (fun k h1 h2 h3 => by have h9 : k = gK := h3; omega)
          have CO9 := HOK.out.bl B8 (Nat.le_refl _)
          have B8s := B8.size
          have CKX := hM.v (CG9.more (Nat.zero_le w2.heap.size) (Nat.le_of_lt hZ.lt)) (CO9.more (Nat.le_refl 0) B8.size)
          rw [← bare_mix] at CKX
          obtain ⟨k1, k2⟩ := bare_same (o := oc) HE.out
          have CP2 := cput_calls _ _ cs' (bare (strip c) oc) wq CKX (Nat.le_refl _) (bare_b (strip_b HBD.out) HBO2.out) (bare_l (strip_l HLO.out.1) HLO.out.2)
          unfold PutC at CP2
          rw [cO_ok k2, k1, k2, HZS.out] at CP2
          have o9 := OwnB.fr HO6.out hF (fun k hk h => by have h9 : k = gK := h; subst h9; exact OwnB.ne HO6.out bG (by decide) hk)
          have HCP2 := Lib.hid CP2
          have hszM := hM.size
          have HO9 := Lib.hid o9
          clear CP2 k1 k2 CKX CG9 CO9 o9 HO6 hM
          go_upto_region 23 with fail
          refine wp_region_lit ?_
          refine wpList_plain rfl (fun K hK => ?_)
          refine Mem.oper_load rfl rfl hZ hup rfl (by rw [hszM]; kernel_rfl) ?_
          refine hK _ _ ?_
          clear hK K
          go_wp2_with fail
          refine HCP2.out.mono ?_
          rintro e w9 ⟨B9, A9, p9, rfl, o99⟩
          have kt1 : (convert 29 9 (.slice A9 zs.length p9)).run Try.prog w9 = .ok (.string (bstr zs)) w9 := slb_str (SlB.of_own o99)
          have kt2 : (convert 29 9 (.slice A zs.length p)).run Try.prog w9 = .ok (.string (bstr zs)) w9 := slb_str (SlB.of_own (OwnB.fr HO9.out (Fr.of_below (S := nothing) B9) (fun _ _ h => h)))
          have BB := Bl.trans B8 (Bl.low B9 B8.size)
          clear o99 HCP2 B8 B9 hZ bG
          go_wp2
          go_ret
          exact ⟨rfl, BB⟩
        · exact ⟨false, false, false, false, false, false, false, false, false, false, false, false, false, false, false, false, csQ, rfl, rfl, (Mix.refl Y szQ).congr (fun i => by simp), bG, (Fr.refl _ w6).drew⟩
      have e7 : (c.k == 7) = false := beq_eq_false_iff_ne.2 h
      have HK7 := Lib.hid h
      clear h
      by_cases h : c.k = 11
      · have e11 : (c.k == 11) = true := beq_iff_eq.2 h
        have HKS := Lib.hid h
        clear h
        go_upto_region 17 with fail
        clear ck e7 e11
        have HV5 := Lib.hid HOK.out.c5
        obtain ⟨B17, q17, hv17, -⟩ := HOK.out.c17
        have HV17 := Lib.hid hv17
        clear hv17
        have HV1 := Lib.hid HOK.out.c1
        refine wp_region_any (by kernel_rfl) ?_
        refine Reg.wpAny_inv (I := fun listed act wq => ∃ (d0 d1 d2 d3 d4 d5 d6 d7 d8 d9 d10 d11 : Bool) (cs' : Array Value), listed = #[d0, d1, d2, d3, d4, d5, d6, d7, d8, d9, d10, d11] ∧ act = ⟨#[Value.agg X, Value.agg Y, Value.pointer (some { block := w.heap.size, off := 0 }), Value.pointer (some { block := gO, off := 0 }), Value.bool false, Value.slice A zs.length p, Value.int IntKind.i64 0, Value.pointer (some { block := gK, off := 0 }), Value.int IntKind.i64 ↑zs.length, Value.int IntKind.i64 0, undef, undef, Value.bool true, Value.bool false, Value.agg X, Value.int IntKind.i64 (szC c), Value.agg Y, Value.int IntKind.i64 (szC oc), Value.int IntKind.i64 (mx (szC c) (szC oc)), Value.bool false, Value.tuple #[Value.slice A zs.length p, Value.int IntKind.i64 0], Value.agg X, Value.tuple #[Value.slice A zs.length p, Value.int IntKind.i64 0], Value.slice A zs.length p, Value.int IntKind.i64 0, Value.int IntKind.i64 0, Value.bool false, Value.tuple #[Value.agg csQ, Value.int IntKind.i64 ↑zs.length, Value.int IntKind.i64 0], Value.slice A zs.length p, Value.tuple #[Value.agg csQ, Value.int IntKind.i64 ↑zs.length, Value.int IntKind.i64 0], Value.agg csQ, Value.int IntKind.i64 ↑zs.length, Value.int IntKind.i64 0, Value.int IntKind.i64 0, Value.bool false, Value.pointer (some { block := gK, off := 0 }), Value.int IntKind.u8 c.k, undef, undef, undef, undef, undef, undef, undef, undef, undef, undef, undef, undef, Value.bool false, Value.bool false, undef, undef, undef, undef, undef, undef, undef, undef, undef, undef, undef, undef, Value.bool true, Value.bool true, undef, (bif d0 then (.pointer (some ⟨gO, 5, none⟩)) else undef), (bif d1 then (.int .u32 oc.tsn) else undef), (bif d2 then (.pointer (some ⟨gO, 17, none⟩)) else undef), (bif d3 then (.slice B17 oc.ps.length q17) else undef), (bif d4 then (.pointer (some ⟨gO, 1, none⟩)) else undef), (bif d5 then (.bool oc.b) else undef), (bif d6 then (.pointer (some ⟨gK, 5, none⟩)) else undef), (bif d8 then (.pointer (some ⟨gK, 17, none⟩)) else undef), (bif d10 then (.pointer (some ⟨gK, 1, none⟩)) else undef), undef, undef, undef, undef, undef, undef, undef, undef, undef, undef, undef, undef, undef, undef, undef, undef, undef, undef, undef, undef, undef, undef, undef, undef, undef, undef, undef, undef, undef, undef, undef, undef, undef, undef, undef, undef, undef], []⟩ ∧ Mix csQ Y (fun i => (d7 && i == 5) || ((d9 && i == 17) || ((d11 && i == 1)))) cs' ∧ Blk wq gK 31 cs' ∧ Fr (only gK) w6 wq) ?_ ?_ _ _ _ _ (by decide) ?_
        · intro i o listed act wq hi hI hun hdeps K hK
          obtain ⟨d0, d1, d2, d3, d4, d5, d6, d7, d8, d9, d10, d11, cs', rfl, rfl, hM, hZ, hF⟩ := hI
          have hlt : i < 12 := (Array.getElem?_eq_some_iff.1 hi).1
          rcases (show i = 0 ∨ i = 1 ∨ i = 2 ∨ i = 3 ∨ i = 4 ∨ i = 5 ∨ i = 6 ∨ i = 7 ∨ i = 8 ∨ i = 9 ∨ i = 10 ∨ i = 11 by omega) with rfl | rfl | rfl | rfl | rfl | rfl | rfl | rfl | rfl | rfl | rfl | rfl
          · skip
            obtain rfl : _ = o := Option.some.inj hi
            obtain rfl : d0 = false := by simpa using hun
            clear hun hdeps hi hlt
            go_simp
            exact hK _ _ ⟨true, d1, d2, d3, d4, d5, d6, d7, d8, d9, d10, d11, cs', rfl, rfl, hM, hZ, hF⟩
          · skip
            obtain rfl : _ = o := Option.some.inj hi
            obtain rfl : d1 = false := by simpa using hun
            obtain rfl : d0 = true := hdeps _ (Array.mem_of_getElem? (i := 0) rfl) rfl
            clear hun hdeps hi hlt
            have cc := ((HBO.out.fr hF hgne).cell 5).trans HV5.out
            go_simp
            exact hK _ _ ⟨true, true, d2, d3, d4, d5, d6, d7, d8, d9, d10, d11, cs', rfl, rfl, hM, hZ, hF⟩
          · skip
            obtain rfl : _ = o := Option.some.inj hi
            obtain rfl : d2 = false := by simpa using hun
            clear hun hdeps hi hlt
            go_simp
            exact hK _ _ ⟨d0, d1, true, d3, d4, d5, d6, d7, d8, d9, d10, d11, cs', rfl, rfl, hM, hZ, hF⟩
          · skip
            obtain rfl : _ = o := Option.some.inj hi
            obtain rfl : d3 = false := by simpa using hun
            obtain rfl : d2 = true := hdeps _ (Array.mem_of_getElem? (i := 0) rfl) rfl
            clear hun hdeps hi hlt
            have cc := ((HBO.out.fr hF hgne).cell 17).trans HV17.out
            go_simp
            exact hK _ _ ⟨d0, d1, true, true, d4, d5, d6, d7, d8, d9, d10, d11, cs', rfl, rfl, hM, hZ, hF⟩
          · skip
            obtain rfl : _ = o := Option.some.inj hi
            obtain rfl : d4 = false := by simpa using hun
            clear hun hdeps hi hlt
            go_simp
            exact hK _ _ ⟨d0, d1, d2, d3, true, d5, d6, d7, d8, d9, d10, d11, cs', rfl, rfl, hM, hZ, hF⟩
          · skip
            obtain rfl : _ = o := Option.some.inj hi
            obtain rfl : d5 = false := by simpa using hun
            obtain rfl : d4 = true := hdeps _ (Array.mem_of_getElem? (i := 0) rfl) rfl
            clear hun hdeps hi hlt
            have cc := ((HBO.out.fr hF hgne).cell 1).trans HV1.out
            go_simp
            exact hK _ _ ⟨d0, d1, d2, d3, true, true, d6, d7, d8, d9, d10, d11, cs', rfl, rfl, hM, hZ, hF⟩
          · skip
            obtain rfl : _ = o := Option.some.inj hi
            obtain rfl : d6 = false := by simpa using hun
            clear hun hdeps hi hlt
            go_simp
            exact hK _ _ ⟨d0, d1, d2, d3, d4, d5, true, d7, d8, d9, d10, d11, cs', rfl, rfl, hM, hZ, hF⟩
          · skip
            obtain rfl : _ = o := Option.some.inj hi
            obtain rfl : d7 = false := by simpa using hun
            obtain rfl : d6 = true := hdeps _ (Array.mem_of_getElem? (i := 0) rfl) rfl
            obtain rfl : d1 = true := hdeps _ (Array.mem_of_getElem? (i := 1) rfl) rfl
            clear hun hdeps hi hlt
            have cz := hZ.cell 5
            have fz := hZ.frozen 5
            have fm := Array.getElem?_eq_getElem (xs := cs') (i := 5) (by rw [hM.size]; decide)
            rw [fm] at cz
            clear fm
            go_simp
            exact hK _ _ ⟨d0, true, d2, d3, d4, d5, true, true, d8, d9, d10, d11, cs'.setIfInBounds 5 (.int .u32 oc.tsn), rfl, rfl, (hM.set HV5.out (by decide)).congr (fun i => by simp only [Bool.false_and, Bool.true_and, Bool.false_or]; ac_rfl), hZ.set 5 _, hF.set_only 5 none _⟩
          · skip
            obtain rfl : _ = o := Option.some.inj hi
            obtain rfl : d8 = false := by simpa using hun
            clear hun hdeps hi hlt
            go_simp
            exact hK _ _ ⟨d0, d1, d2, d3, d4, d5, d6, d7, true, d9, d10, d11, cs', rfl, rfl, hM, hZ, hF⟩
          · skip
            obtain rfl : _ = o := Option.some.inj hi
            obtain rfl : d9 = false := by simpa using hun
            obtain rfl : d8 = true := hdeps _ (Array.mem_of_getElem? (i := 0) rfl) rfl
            obtain rfl : d3 = true := hdeps _ (Array.mem_of_getElem? (i := 1) rfl) rfl
            obtain rfl : d7 = true := hdeps _ (Array.mem_of_getElem? (i := 2) rfl) rfl
            clear hun hdeps hi hlt
            have cz := hZ.cell 17
            have fz := hZ.frozen 17
            have fm := Array.getElem?_eq_getElem (xs := cs') (i := 17) (by rw [hM.size]; decide)
            rw [fm] at cz
            clear fm
            go_simp
            exact hK _ _ ⟨d0, d1, d2, true, d4, d5, d6, true, true, true, d10, d11, cs'.setIfInBounds 17 (.slice B17 oc.ps.length q17), rfl, rfl, (hM.set HV17.out (by decide)).congr (fun i => by simp only [Bool.false_and, Bool.true_and, Bool.false_or]; ac_rfl), hZ.set 17 _, hF.set_only 17 none _⟩
          · skip
            obtain rfl : _ = o := Option.some.inj hi
            obtain rfl : d10 = false := by simpa using hun
            clear hun hdeps hi hlt
            go_simp
            exact hK _ _ ⟨d0, d1, d2, d3, d4, d5, d6, d7, d8, d9, true, d11, cs', rfl, rfl, hM, hZ, hF⟩
          · skip
            obtain rfl : _ = o := Option.some.inj hi
            obtain rfl : d11 = false := by simpa using hun
            obtain rfl : d10 = true := hdeps _ (Array.mem_of_getElem? (i := 0) rfl) rfl
            obtain rfl : d5 = true := hdeps _ (Array.mem_of_getElem? (i := 1) rfl) rfl
            obtain rfl : d9 = true := hdeps _ (Array.mem_of_getElem? (i := 2) rfl) rfl
            clear hun hdeps hi hlt
            have cz := hZ.cell 1
            have fz := hZ.frozen 1
            have fm := Array.getElem?_eq_getElem (xs := cs') (i := 1) (by rw [hM.size]; decide)
            rw [fm] at cz
            clear fm
            go_simp
            exact hK _ _ ⟨d0, d1, d2, d3, d4, true, d6, d7, d8, true, true, true, cs'.setIfInBounds 1 (.bool oc.b), rfl, rfl, (hM.set HV1.out (by decide)).congr (fun i => by simp only [Bool.false_and, Bool.true_and, Bool.false_or]; ac_rfl), hZ.set 1 _, hF.set_only 1 none _⟩
        · intro listed act wq hI hr0
          obtain ⟨d0, d1, d2, d3, d4, d5, d6, d7, d8, d9, d10, d11, cs', rfl, rfl, hM, hZ, hF⟩ := hI
          have hall := Reg.all_of_done (by kernel_rfl) rfl hr0
          obtain rfl : d0 = true := hall 0 (by decide)
          obtain rfl : d1 = true := hall 1 (by decide)
          obtain rfl : d2 = true := hall 2 (by decide)
          obtain rfl : d3 = true := hall 3 (by decide)
          obtain rfl : d4 = true := hall 4 (by decide)
          obtain rfl : d5 = true := hall 5 (by decide)
          obtain rfl : d6 = true := hall 6 (by decide)
          obtain rfl : d7 = true := hall 7 (by decide)
          obtain rfl : d8 = true := hall 8 (by decide)
          obtain rfl : d9 = true := hall 9 (by decide)
          obtain rfl : d10 = true := hall 10 (by decide)
          obtain rfl : d11 = true := hall 11 (by decide)
          clear hall hr0
          simp only [cond_true]
          replace hM := hM.congr (S' := fun i => if (strip c).k = 7 then i == 6 || (i == 18 || (i == 14 || i == 4)) else if (strip c).k = 11 ∨ (strip c).k = 8 then i == 5 || (i == 17 || i == 1) else if (strip c).k = 0 ∨ (strip c).k = 64 then i == 11 || (i == 16 || i == 15) else if (strip c).k = 3 then i == 18 || (i == 16 || i == 3) else i == 14 || (i == 15 || (i == 6 || i == 8))) (fun i => by rw [strip_k]; have := HKS.out; simp [this])
          have hs6 := hF.size
          have B8 := Bl.trans B7 (Bl.of_fr hF B7.size (fun k h => by have h9 : k = gK := h; omega))
          have CG9 := HCG2.out.fr hF (fun k h1 h2 h3 => by have h9 : k = gK := h3; omega)
          have CO9 := HOK.out.bl B8 (Nat.le_refl _)
          have B8s := B8.size
          have CKX := hM.v (CG9.more (Nat.zero_le w2.heap.size) (Nat.le_of_lt hZ.lt)) (CO9.more (Nat.le_refl 0) B8.size)
          rw [← bare_mix] at CKX
          obtain ⟨k1, k2⟩ := bare_same (o := oc) HE.out
          have CP2 := cput_calls _ _ cs' (bare (strip c) oc) wq CKX (Nat.le_refl _) (bare_b (strip_b HBD.out) HBO2.out) (bare_l (strip_l HLO.out.1) HLO.out.2)
          unfold PutC at CP2
          rw [cO_ok k2, k1, k2, HZS.out] at CP2
          have o9 := OwnB.fr HO6.out hF (fun k hk h => by have h9 : k = gK := h; subst h9; exact OwnB.ne HO6.out bG (by decide) hk)
          have HCP2 := Lib.hid CP2
          have hszM := hM.size
          have HO9 := Lib.hid o9
          clear CP2 k1 k2 CKX CG9 CO9 o9 HO6 hM
          go_upto_region 23 with fail
          refine wp_region_lit ?_
          refine wpList_plain rfl (fun K hK => ?_)
          refine Mem.oper_load rfl rfl hZ hup rfl (by rw [hszM]; kernel_rfl) ?_
          refine hK _ _ ?_
          clear hK K
          go_wp2_with fail
          refine HCP2.out.mono ?_
          rintro e w9 ⟨B9, A9, p9, rfl, o99⟩
          have kt1 : (convert 29 9 (.slice A9 zs.length p9)).run Try.prog w9 = .ok (.string (bstr zs)) w9 := slb_str (SlB.of_own o99)
          have kt2 : (convert 29 9 (.slice A zs.length p)).run Try.prog w9 = .ok (.string (bstr zs)) w9 := slb_str (SlB.of_own (OwnB.fr HO9.out (Fr.of_below (S := nothing) B9) (fun _ _ h => h)))
          have BB := Bl.trans B8 (Bl.low B9 B8.size)
          clear o99 HCP2 B8 B9 hZ bG
          go_wp2
          go_ret
          exact ⟨rfl, BB⟩
        · exact ⟨false, false, false, false, false, false, false, false, false, false, false, false, csQ, rfl, rfl, (Mix.refl Y szQ).congr (fun i => by simp), bG, (Fr.refl _ w6).drew⟩
      have e11 : (c.k == 11) = false := beq_eq_false_iff_ne.2 h
      have HK11 := Lib.hid h
      clear h
      by_cases h : c.k = 8
      · have e8 : (c.k == 8) = true := beq_iff_eq.2 h
        have HKS := Lib.hid h
        clear h
        go_upto_region 17 with fail
        clear ck e7 e11 e8
        have HV5 := Lib.hid HOK.out.c5
        obtain ⟨B17, q17, hv17, -⟩ := HOK.out.c17
        have HV17 := Lib.hid hv17
        clear hv17
        have HV1 := Lib.hid HOK.out.c1
        refine wp_region_any (by kernel_rfl) ?_
        refine Reg.wpAny_inv (I := fun listed act wq => ∃ (d0 d1 d2 d3 d4 d5 d6 d7 d8 d9 d10 d11 : Bool) (cs' : Array Value), listed = #[d0, d1, d2, d3, d4, d5, d6, d7, d8, d9, d10, d11] ∧ act = ⟨#[Value.agg X, Value.agg Y, Value.pointer (some { block := w.heap.size, off := 0 }), Value.pointer (some { block := gO, off := 0 }), Value.bool false, Value.slice A zs.length p, Value.int IntKind.i64 0, Value.pointer (some { block := gK, off := 0 }), Value.int IntKind.i64 ↑zs.length, Value.int IntKind.i64 0, undef, undef, Value.bool true, Value.bool false, Value.agg X, Value.int IntKind.i64 (szC c), Value.agg Y, Value.int IntKind.i64 (szC oc), Value.int IntKind.i64 (mx (szC c) (szC oc)), Value.bool false, Value.tuple #[Value.slice A zs.length p, Value.int IntKind.i64 0], Value.agg X, Value.tuple #[Value.slice A zs.length p, Value.int IntKind.i64 0], Value.slice A zs.length p, Value.int IntKind.i64 0, Value.int IntKind.i64 0, Value.bool false, Value.tuple #[Value.agg csQ, Value.int IntKind.i64 ↑zs.length, Value.int IntKind.i64 0], Value.slice A zs.length p, Value.tuple #[Value.agg csQ, Value.int IntKind.i64 ↑zs.length, Value.int IntKind.i64 0], Value.agg csQ, Value.int IntKind.i64 ↑zs.length, Value.int IntKind.i64 0, Value.int IntKind.i64 0, Value.bool false, Value.pointer (some { block := gK, off := 0 }), Value.int IntKind.u8 c.k, undef, undef, undef, undef, undef, undef, undef, undef, undef, undef, undef, undef, Value.bool false, Value.bool false, undef, undef, undef, undef, undef, undef, undef, undef, undef, undef, undef, undef, Value.bool true, Value.bool false, Value.bool true, (bif d0 then (.pointer (some ⟨gO, 5, none⟩)) else undef), (bif d1 then (.int .u32 oc.tsn) else undef), (bif d2 then (.pointer (some ⟨gO, 17, none⟩)) else undef), (bif d3 then (.slice B17 oc.ps.length q17) else undef), (bif d4 then (.pointer (some ⟨gO, 1, none⟩)) else undef), (bif d5 then (.bool oc.b) else undef), (bif d6 then (.pointer (some ⟨gK, 5, none⟩)) else undef), (bif d8 then (.pointer (some ⟨gK, 17, none⟩)) else undef), (bif d10 then (.pointer (some ⟨gK, 1, none⟩)) else undef), undef, undef, undef, undef, undef, undef, undef, undef, undef, undef, undef, undef, undef, undef, undef, undef, undef, undef, undef, undef, undef, undef, undef, undef, undef, undef, undef, undef, undef, undef, undef, undef, undef, undef, undef, undef, undef], []⟩ ∧ Mix csQ Y (fun i => (d7 && i == 5) || ((d9 && i == 17) || ((d11 && i == 1)))) cs' ∧ Blk wq gK 31 cs' ∧ Fr (only gK) w6 wq) ?_ ?_ _ _ _ _ (by decide) ?_
        · intro i o listed act wq hi hI hun hdeps K hK
          obtain ⟨d0, d1, d2, d3, d4, d5, d6, d7, d8, d9, d10, d11, cs', rfl, rfl, hM, hZ, hF⟩ := hI
          have hlt : i < 12 := (Array.getElem?_eq_some_iff.1 hi).1
          rcases (show i = 0 ∨ i = 1 ∨ i = 2 ∨ i = 3 ∨ i = 4 ∨ i = 5 ∨ i = 6 ∨ i = 7 ∨ i = 8 ∨ i = 9 ∨ i = 10 ∨ i = 11 by omega) with rfl | rfl | rfl | rfl | rfl | rfl | rfl | rfl | rfl | rfl | rfl | rfl
          · skip
            obtain rfl : _ = o := Option.some.inj hi
            obtain rfl : d0 = false := by simpa using hun
            clear hun hdeps hi hlt
            go_simp
            exact hK _ _ ⟨true, d1, d2, d3, d4, d5, d6, d7, d8, d9, d10, d11, cs', rfl, rfl, hM, hZ, hF⟩
          · skip
            obtain rfl : _ = o := Option.some.inj hi
            obtain rfl : d1 = false := by simpa using hun
            obtain rfl : d0 = true := hdeps _ (Array.mem_of_getElem? (i := 0) rfl) rfl
            clear hun hdeps hi hlt
            have cc := ((HBO.out.fr hF hgne).cell 5).trans HV5.out
            go_simp
            exact hK _ _ ⟨true, true, d2, d3, d4, d5, d6, d7, d8, d9, d10, d11, cs', rfl, rfl, hM, hZ, hF⟩
          · skip
            obtain rfl : _ = o := Option.some.inj hi
            obtain rfl : d2 = false := by simpa using hun
            clear hun hdeps hi hlt
            go_simp
            exact hK _ _ ⟨d0, d1, true, d3, d4, d5, d6, d7, d8, d9, d10, d11, cs', rfl, rfl, hM, hZ, hF⟩
          · skip
            obtain rfl : _ = o := Option.some.inj hi
            obtain rfl : d3 = false := by simpa using hun
            obtain rfl : d2 = true := hdeps _ (Array.mem_of_getElem? (i := 0) rfl) rfl
            clear hun hdeps hi hlt
            have cc := ((HBO.out.fr hF hgne).cell 17).trans HV17.out
            go_simp
            exact hK _ _ ⟨d0, d1, true, true, d4, d5, d6, d7, d8, d9, d10, d11, cs', rfl, rfl, hM, hZ, hF⟩
          · skip
            obtain rfl : _ = o := Option.some.inj hi
            obtain rfl : d4 = false := by simpa using hun
            clear hun hdeps hi hlt
            go_simp
            exact hK _ _ ⟨d0, d1, d2, d3, true, d5, d6, d7, d8, d9, d10, d11, cs', rfl, rfl, hM, hZ, hF⟩
          · skip
            obtain rfl : _ = o := Option.some.inj hi
            obtain rfl : d5 = false := by simpa using hun
            obtain rfl : d4 = true := hdeps _ (Array.mem_of_getElem? (i := 0) rfl) rfl
            clear hun hdeps hi hlt
            have cc := ((HBO.out.fr hF hgne).cell 1).trans HV1.out
            go_simp
            exact hK _ _ ⟨d0, d1, d2, d3, true, true, d6, d7, d8, d9, d10, d11, cs', rfl, rfl, hM, hZ, hF⟩
          · skip
            obtain rfl : _ = o := Option.some.inj hi
            obtain rfl : d6 = false := by simpa using hun
            clear hun hdeps hi hlt
            go_simp
            exact hK _ _ ⟨d0, d1, d2, d3, d4, d5, true, d7, d8, d9, d10, d11, cs', rfl, rfl, hM, hZ, hF⟩
          · skip
            obtain rfl : _ = o := Option.some.inj hi
            obtain rfl : d7 = false := by simpa using hun
            obtain rfl : d6 = true := hdeps _ (Array.mem_of_getElem? (i := 0) rfl) rfl
            obtain rfl : d1 = true := hdeps _ (Array.mem_of_getElem? (i := 1) rfl) rfl
            clear hun hdeps hi hlt
            have cz := hZ.cell 5
            have fz := hZ.frozen 5
            have fm := Array.getElem?_eq_getElem (xs := cs') (i := 5) (by rw [hM.size]; decide)
            rw [fm] at cz
            clear fm
            go_simp
            exact hK _ _ ⟨d0, true, d2, d3, d4, d5, true, true, d8, d9, d10, d11, cs'.setIfInBounds 5 (.int .u32 oc.tsn), rfl, rfl, (hM.set HV5.out (by decide)).congr (fun i => by simp only [Bool.false_and, Bool.true_and, Bool.false_or]; ac_rfl), hZ.set 5 _, hF.set_only 5 none _⟩
          · skip
            obtain rfl : _ = o := Option.some.inj hi
            obtain rfl : d8 = false := by simpa using hun
            clear hun hdeps hi hlt
            go_simp
            exact hK _ _ ⟨d0, d1, d2, d3, d4, d5, d6, d7, true, d9, d10, d11, cs', rfl, rfl, hM, hZ, hF⟩
          · skip
            obtain rfl : _ = o := Option.some.inj hi
            obtain rfl : d9 = false := by simpa using hun
            obtain rfl : d8 = true := hdeps _ (Array.mem_of_getElem? (i := 0) rfl) rfl
            obtain rfl : d3 = true := hdeps _ (Array.mem_of_getElem? (i := 1) rfl) rfl
            obtain rfl : d7 = true := hdeps _ (Array.mem_of_getElem? (i := 2) rfl) rfl
            clear hun hdeps hi hlt
            have cz := hZ.cell 17
            have fz := hZ.frozen 17
            have fm := Array.getElem?_eq_getElem (xs := cs') (i := 17) (by rw [hM.size]; decide)
            rw [fm] at cz
            clear fm
            go_simp
            exact hK _ _ ⟨d0, d1, d2, true, d4, d5, d6, true, true, true, d10, d11, cs'.setIfInBounds 17 (.slice B17 oc.ps.length q17), rfl, rfl, (hM.set HV17.out (by decide)).congr (fun i => by simp only [Bool.false_and, Bool.true_and, Bool.false_or]; ac_rfl), hZ.set 17 _, hF.set_only 17 none _⟩
          · skip
            obtain rfl : _ = o := Option.some.inj hi
            obtain rfl : d10 = false := by simpa using hun
            clear hun hdeps hi hlt
            go_simp
            exact hK _ _ ⟨d0, d1, d2, d3, d4, d5, d6, d7, d8, d9, true, d11, cs', rfl, rfl, hM, hZ, hF⟩
          · skip
            obtain rfl : _ = o := Option.some.inj hi
            obtain rfl : d11 = false := by simpa using hun
            obtain rfl : d10 = true := hdeps _ (Array.mem_of_getElem? (i := 0) rfl) rfl
            obtain rfl : d5 = true := hdeps _ (Array.mem_of_getElem? (i := 1) rfl) rfl
            obtain rfl : d9 = true := hdeps _ (Array.mem_of_getElem? (i := 2) rfl) rfl
            clear hun hdeps hi hlt
            have cz := hZ.cell 1
            have fz := hZ.frozen 1
            have fm := Array.getElem?_eq_getElem (xs := cs') (i := 1) (by rw [hM.size]; decide)
            rw [fm] at cz
            clear fm
            go_simp
            exact hK _ _ ⟨d0, d1, d2, d3, d4, true, d6, d7, d8, true, true, true, cs'.setIfInBounds 1 (.bool oc.b), rfl, rfl, (hM.set HV1.out (by decide)).congr (fun i => by simp only [Bool.false_and, Bool.true_and, Bool.false_or]; ac_rfl), hZ.set 1 _, hF.set_only 1 none _⟩
        · intro listed act wq hI hr0
          obtain ⟨d0, d1, d2, d3, d4, d5, d6, d7, d8, d9, d10, d11, cs', rfl, rfl, hM, hZ, hF⟩ := hI
          have hall := Reg.all_of_done (by kernel_rfl) rfl hr0
          obtain rfl : d0 = true := hall 0 (by decide)
          obtain rfl : d1 = true := hall 1 (by decide)
          obtain rfl : d2 = true := hall 2 (by decide)
          obtain rfl : d3 = true := hall 3 (by decide)
          obtain rfl : d4 = true := hall 4 (by decide)
          obtain rfl : d5 = true := hall 5 (by decide)
          obtain rfl : d6 = true := hall 6 (by decide)
          obtain rfl : d7 = true := hall 7 (by decide)
          obtain rfl : d8 = true := hall 8 (by decide)
          obtain rfl : d9 = true := hall 9 (by decide)
          obtain rfl : d10 = true := hall 10 (by decide)
          obtain rfl : d11 = true := hall 11 (by decide)
          clear hall hr0
          simp only [cond_true]
          replace hM := hM.congr (S' := fun i => if (strip c).k = 7 then i == 6 || (i == 18 || (i == 14 || i == 4)) else if (strip c).k = 11 ∨ (strip c).k = 8 then i == 5 || (i == 17 || i == 1) else if (strip c).k = 0 ∨ (strip c).k = 64 then i == 11 || (i == 16 || i == 15) else if (strip c).k = 3 then i == 18 || (i == 16 || i == 3) else i == 14 || (i == 15 || (i == 6 || i == 8))) (fun i => by rw [strip_k]; have := HKS.out; simp [this])
          have hs6 := hF.size
          have B8 := Bl.trans B7 (Bl.of_fr hF B7.size (fun k h => by have h9 : k = gK := h; omega))
          have CG9 := HCG2.out.fr hF (fun k h1 h2 h3 => by have h9 : k = gK := h3; omega)
          have CO9 := HOK.out.bl B8 (Nat.le_refl _)
          have B8s := B8.size
          have CKX := hM.v (CG9.more (Nat.zero_le w2.heap.size) (Nat.le_of_lt hZ.lt)) (CO9.more (Nat.le_refl 0) B8.size)
          rw [← bare_mix] at CKX
          obtain ⟨k1, k2⟩ := bare_same (o := oc) HE.out
          have CP2 := cput_calls _ _ cs' (bare (strip c) oc) wq CKX (Nat.le_refl _) (bare_b (strip_b HBD.out) HBO2.out) (bare_l (strip_l HLO.out.1) HLO.out.2)
          unfold PutC at CP2
          rw [cO_ok k2, k1, k2, HZS.out] at CP2
          have o9 := OwnB.fr HO6.out hF (fun k hk h => by have h9 : k = gK := h; subst h9; exact OwnB.ne HO6.out bG (by decide) hk)
          have HCP2 := Lib.hid CP2
          have hszM := hM.size
          have HO9 := Lib.hid o9
          clear CP2 k1 k2 CKX CG9 CO9 o9 HO6 hM
          go_upto_region 23 with fail
          refine wp_region_lit ?_
          refine wpList_plain rfl (fun K hK => ?_)
          refine Mem.oper_load rfl rfl hZ hup rfl (by rw [hszM]; kernel_rfl) ?_
          refine hK _ _ ?_
          clear hK K
          go_wp2_with fail
          refine HCP2.out.mono ?_
          rintro e w9 ⟨B9, A9, p9, rfl, o99⟩
          have kt1 : (convert 29 9 (.slice A9 zs.length p9)).run Try.prog w9 = .ok (.string (bstr zs)) w9 := slb_str (SlB.of_own o99)
          have kt2 : (convert 29 9 (.slice A zs.length p)).run Try.prog w9 = .ok (.string (bstr zs)) w9 := slb_str (SlB.of_own (OwnB.fr HO9.out (Fr.of_below (S := nothing) B9) (fun _ _ h => h)))
          have BB := Bl.trans B8 (Bl.low B9 B8.size)
          clear o99 HCP2 B8 B9 hZ bG
          go_wp2
          go_ret
          exact ⟨rfl, BB⟩
        · exact ⟨false, false, false, false, false, false, false, false, false, false, false, false, csQ, rfl, rfl, (Mix.refl Y szQ).congr (fun i => by simp), bG, (Fr.refl _ w6).drew⟩
      have e8 : (c.k == 8) = false := beq_eq_false_iff_ne.2 h
      have HK8 := Lib.hid h
      clear h
      by_cases h : c.k = 0
      · have e0 : (c.k == 0) = true := beq_iff_eq.2 h
        have HKS := Lib.hid h
        clear h
        go_upto_region 20 with fail
        clear ck e7 e11 e8 e0
        have HV11 := Lib.hid HOK.out.c11
        obtain ⟨B16, q16, hv16, -⟩ := HOK.out.c16
        have HV16 := Lib.hid hv16
        clear hv16
        obtain ⟨B15, q15, hv15, -⟩ := HOK.out.c15
        have HV15 := Lib.hid hv15
        clear hv15
        refine wp_region_any (by kernel_rfl) ?_
        refine Reg.wpAny_inv (I := fun listed act wq => ∃ (d0 d1 d2 d3 d4 d5 d6 d7 d8 d9 d10 d11 : Bool) (cs' : Array Value), listed = #[d0, d1, d2, d3, d4, d5, d6, d7, d8, d9, d10, d11] ∧ act = ⟨#[Value.agg X, Value.agg Y, Value.pointer (some { block := w.heap.size, off := 0 }), Value.pointer (some { block := gO, off := 0 }), Value.bool false, Value.slice A zs.length p, Value.int IntKind.i64 0, Value.pointer (some { block := gK, off := 0 }), Value.int IntKind.i64 ↑zs.length, Value.int IntKind.i64 0, undef, undef, Value.bool true, Value.bool false, Value.agg X, Value.int IntKind.i64 (szC c), Value.agg Y, Value.int IntKind.i64 (szC oc), Value.int IntKind.i64 (mx (szC c) (szC oc)), Value.bool false, Value.tuple #[Value.slice A zs.length p, Value.int IntKind.i64 0], Value.agg X, Value.tuple #[Value.slice A zs.length p, Value.int IntKind.i64 0], Value.slice A zs.length p, Value.int IntKind.i64 0, Value.int IntKind.i64 0, Value.bool false, Value.tuple #[Value.agg csQ, Value.int IntKind.i64 ↑zs.length, Value.int IntKind.i64 0], Value.slice A zs.length p, Value.tuple #[Value.agg csQ, Value.int IntKind.i64 ↑zs.length, Value.int IntKind.i64 0], Value.agg csQ, Value.int IntKind.i64 ↑zs.length, Value.int IntKind.i64 0, Value.int IntKind.i64 0, Value.bool false, Value.pointer (some { block := gK, off := 0 }), Value.int IntKind.u8 c.k, undef, undef, undef, undef, undef, undef, undef, undef, undef, undef, undef, undef, Value.bool false, Value.bool false, undef, undef, undef, undef, undef, undef, undef, undef, undef, undef, undef, undef, Value.bool false, Value.bool false, Value.bool false, undef, undef, undef, undef, undef, undef, undef, undef, undef, Value.bool true, Value.bool true, undef, (bif d0 then (.pointer (some ⟨gO, 11, none⟩)) else undef), (bif d1 then (.int .u32 oc.win) else undef), (bif d2 then (.pointer (some ⟨gO, 16, none⟩)) else undef), (bif d3 then (.slice B16 oc.skips.length q16) else undef), (bif d4 then (.pointer (some ⟨gO, 15, none⟩)) else undef), (bif d5 then (.slice B15 oc.dups.length q15) else undef), (bif d6 then (.pointer (some ⟨gK, 11, none⟩)) else undef), (bif d8 then (.pointer (some ⟨gK, 16, none⟩)) else undef), (bif d10 then (.pointer (some ⟨gK, 15, none⟩)) else undef), undef, undef, undef, undef, undef, undef, undef, undef, undef, undef, undef, undef, undef, undef, undef, undef, undef, undef, undef, undef, undef, undef, undef, undef, undef], []⟩ ∧ Mix csQ Y (fun i => (d7 && i == 11) || ((d9 && i == 16) || ((d11 && i == 15)))) cs' ∧ Blk wq gK 31 cs' ∧ Fr (only gK) w6 wq) ?_ ?_ _ _ _ _ (by decide) ?_
        · intro i o listed act wq hi hI hun hdeps K hK
          obtain ⟨d0, d1, d2, d3, d4, d5, d6, d7, d8, d9, d10, d11, cs', rfl, rfl, hM, hZ, hF⟩ := hI
          have hlt : i < 12 := (Array.getElem?_eq_some_iff.1 hi).1
          rcases (show i = 0 ∨ i = 1 ∨ i = 2 ∨ i = 3 ∨ i = 4 ∨ i = 5 ∨ i = 6 ∨ i = 7 ∨ i = 8 ∨ i = 9 ∨ i = 10 ∨ i = 11 by omega) with rfl | rfl | rfl | rfl | rfl | rfl | rfl | rfl | rfl | rfl | rfl | rfl
          · skip
            obtain rfl : _ = o := Option.some.inj hi
            obtain rfl : d0 = false := by simpa using hun
            clear hun hdeps hi hlt
            go_simp
            exact hK _ _ ⟨true, d1, d2, d3, d4, d5, d6, d7, d8, d9, d10, d11, cs', rfl, rfl, hM, hZ, hF⟩
          · skip
            obtain rfl : _ = o := Option.some.inj hi
            obtain rfl : d1 = false := by simpa using hun
            obtain rfl : d0 = true := hdeps _ (Array.mem_of_getElem? (i := 0) rfl) rfl
            clear hun hdeps hi hlt
            have cc := ((HBO.out.fr hF hgne).cell 11).trans HV11.out
            go_simp
            exact hK _ _ ⟨true, true, d2, d3, d4, d5, d6, d7, d8, d9, d10, d11, cs', rfl, rfl, hM, hZ, hF⟩
          · skip
            obtain rfl : _ = o := Option.some.inj hi
            obtain rfl : d2 = false := by simpa using hun
            clear hun hdeps hi hlt
            go_simp
            exact hK _ _ ⟨d0, d1, true, d3, d4, d5, d6, d7, d8, d9, d10, d11, cs', rfl, rfl, hM, hZ, hF⟩
          · skip
            obtain rfl : _ = o := Option.some.inj hi
            obtain rfl : d3 = false := by simpa using hun
            obtain rfl : d2 = true := hdeps _ (Array.mem_of_getElem? (i := 0) rfl) rfl
            clear hun hdeps hi hlt
            have cc := ((HBO.out.fr hF hgne).cell 16).trans HV16.out
            go_simp
            exact hK _ _ ⟨d0, d1, true, true, d4, d5, d6, d7, d8, d9, d10, d11, cs', rfl, rfl, hM, hZ, hF⟩
          · skip
            obtain rfl : _ = o := Option.some.inj hi
            obtain rfl : d4 = false := by simpa using hun
            clear hun hdeps hi hlt
            go_simp
            exact hK _ _ ⟨d0, d1, d2, d3, true, d5, d6, d7, d8, d9, d10, d11, cs', rfl, rfl, hM, hZ, hF⟩
          · skip
            obtain rfl : _ = o := Option.some.inj hi
            obtain rfl : d5 = false := by simpa using hun
            obtain rfl : d4 = true := hdeps _ (Array.mem_of_getElem? (i := 0) rfl) rfl
            clear hun hdeps hi hlt
            have cc := ((HBO.out.fr hF hgne).cell 15).trans HV15.out
            go_simp
            exact hK _ _ ⟨d0, d1, d2, d3, true, true, d6, d7, d8, d9, d10, d11, cs', rfl, rfl, hM, hZ, hF⟩
          · skip
            obtain rfl : _ = o := Option.some.inj hi
            obtain rfl : d6 = false := by simpa using hun
            clear hun hdeps hi hlt
            go_simp
            exact hK _ _ ⟨d0, d1, d2, d3, d4, d5, true, d7, d8, d9, d10, d11, cs', rfl, rfl, hM, hZ, hF⟩
          · skip
            obtain rfl : _ = o := Option.some.inj hi
            obtain rfl : d7 = false := by simpa using hun
            obtain rfl : d6 = true := hdeps _ (Array.mem_of_getElem? (i := 0) rfl) rfl
            obtain rfl : d1 = true := hdeps _ (Array.mem_of_getElem? (i := 1) rfl) rfl
            clear hun hdeps hi hlt
            have cz := hZ.cell 11
            have fz := hZ.frozen 11
            have fm := Array.getElem?_eq_getElem (xs := cs') (i := 11) (by rw [hM.size]; decide)
            rw [fm] at cz
            clear fm
            go_simp
            exact hK _ _ ⟨d0, true, d2, d3, d4, d5, true, true, d8, d9, d10, d11, cs'.setIfInBounds 11 (.int .u32 oc.win), rfl, rfl, (hM.set HV11.out (by decide)).congr (fun i => by simp only [Bool.false_and, Bool.true_and, Bool.false_or]; ac_rfl), hZ.set 11 _, hF.set_only 11 none _⟩
          · skip
            obtain rfl : _ = o := Option.some.inj hi
            obtain rfl : d8 = false := by simpa using hun
            clear hun hdeps hi hlt
            go_simp
            exact hK _ _ ⟨d0, d1, d2, d3, d4, d5, d6, d7, true, d9, d10, d11, cs', rfl, rfl, hM, hZ, hF⟩
          · skip
            obtain rfl : _ = o := Option.some.inj hi
            obtain rfl : d9 = false := by simpa using hun
            obtain rfl : d8 = true := hdeps _ (Array.mem_of_getElem? (i := 0) rfl) rfl
            obtain rfl : d3 = true := hdeps _ (Array.mem_of_getElem? (i := 1) rfl) rfl
            obtain rfl : d7 = true := hdeps _ (Array.mem_of_getElem? (i := 2) rfl) rfl
            clear hun hdeps hi hlt
            have cz := hZ.cell 16
            have fz := hZ.frozen 16
            have fm := Array.getElem?_eq_getElem (xs := cs') (i := 16) (by rw [hM.size]; decide)
            rw [fm] at cz
            clear fm
            go_simp
            exact hK _ _ ⟨d0, d1, d2, true, d4, d5, d6, true, true, true, d10, d11, cs'.setIfInBounds 16 (.slice B16 oc.skips.length q16), rfl, rfl, (hM.set HV16.out (by decide)).congr (fun i => by simp only [Bool.false_and, Bool.true_and, Bool.false_or]; ac_rfl), hZ.set 16 _, hF.set_only 16 none _⟩
          · skip
            obtain rfl : _ = o := Option.some.inj hi
            obtain rfl : d10 = false := by simpa using hun
            clear hun hdeps hi hlt
            go_simp
            exact hK _ _ ⟨d0, d1, d2, d3, d4, d5, d6, d7, d8, d9, true, d11, cs', rfl, rfl, hM, hZ, hF⟩
          · skip
            obtain rfl : _ = o := Option.some.inj hi
            obtain rfl : d11 = false := by simpa using hun
            obtain rfl : d10 = true := hdeps _ (Array.mem_of_getElem? (i := 0) rfl) rfl
            obtain rfl : d5 = true := hdeps _ (Array.mem_of_getElem? (i := 1) rfl) rfl
            obtain rfl : d9 = true := hdeps _ (Array.mem_of_getElem? (i := 2) rfl) rfl
            clear hun hdeps hi hlt
            have cz := hZ.cell 15
            have fz := hZ.frozen 15
            have fm := Array.getElem?_eq_getElem (xs := cs') (i := 15) (by rw [hM.size]; decide)
            rw [fm] at cz
            clear fm
            go_simp
            exact hK _ _ ⟨d0, d1, d2, d3, d4, true, d6, d7, d8, true, true, true, cs'.setIfInBounds 15 (.slice B15 oc.dups.length q15), rfl, rfl, (hM.set HV15.out (by decide)).congr (fun i => by simp only [Bool.false_and, Bool.true_and, Bool.false_or]; ac_rfl), hZ.set 15 _, hF.set_only 15 none _⟩
        · intro listed act wq hI hr0
          obtain ⟨d0, d1, d2, d3, d4, d5, d6, d7, d8, d9, d10, d11, cs', rfl, rfl, hM, hZ, hF⟩ := hI
          have hall := Reg.all_of_done (by kernel_rfl) rfl hr0
          obtain rfl : d0 = true := hall 0 (by decide)
          obtain rfl : d1 = true := hall 1 (by decide)
          obtain rfl : d2 = true := hall 2 (by decide)
          obtain rfl : d3 = true := hall 3 (by decide)
          obtain rfl : d4 = true := hall 4 (by decide)
          obtain rfl : d5 = true := hall 5 (by decide)
          obtain rfl : d6 = true := hall 6 (by decide)
          obtain rfl : d7 = true := hall 7 (by decide)
          obtain rfl : d8 = true := hall 8 (by decide)
          obtain rfl : d9 = true := hall 9 (by decide)
          obtain rfl : d10 = true := hall 10 (by decide)
          obtain rfl : d11 = true := hall 11 (by decide)
          clear hall hr0
          simp only [cond_true]
          replace hM := hM.congr (S' := fun i => if (strip c).k = 7 then i == 6 || (i == 18 || (i == 14 || i == 4)) else if (strip c).k = 11 ∨ (strip c).k = 8 then i == 5 || (i == 17 || i == 1) else if (strip c).k = 0 ∨ (strip c).k = 64 then i == 11 || (i == 16 || i == 15) else if (strip c).k = 3 then i == 18 || (i == 16 || i == 3) else i == 14 || (i == 15 || (i == 6 || i == 8))) (fun i => by rw [strip_k]; have := HKS.out; simp [this])
          have hs6 := hF.size
          have B8 := Bl.trans B7 (Bl.of_fr hF B7.size (fun k h => by have h9 : k = gK := h; omega))
          have CG9 := HCG2.out.fr hF (fun k h1 h2 h3 => by have h9 : k = gK := h3; omega)
          have CO9 := HOK.out.bl B8 (Nat.le_refl _)
          have B8s := B8.size
          have CKX := hM.v (CG9.more (Nat.zero_le w2.heap.size) (Nat.le_of_lt hZ.lt)) (CO9.more (Nat.le_refl 0) B8.size)
          rw [← bare_mix] at CKX
          obtain ⟨k1, k2⟩ := bare_same (o := oc) HE.out
          have CP2 := cput_calls _ _ cs' (bare (strip c) oc) wq CKX (Nat.le_refl _) (bare_b (strip_b HBD.out) HBO2.out) (bare_l (strip_l HLO.out.1) HLO.out.2)
          unfold PutC at CP2
          rw [cO_ok k2, k1, k2, HZS.out] at CP2
          have o9 := OwnB.fr HO6.out hF (fun k hk h => by have h9 : k = gK := h; subst h9; exact OwnB.ne HO6.out bG (by decide) hk)
          have HCP2 := Lib.hid CP2
          have hszM := hM.size
          have HO9 := Lib.hid o9
          clear CP2 k1 k2 CKX CG9 CO9 o9 HO6 hM
          go_upto_region 23 with fail
          refine wp_region_lit ?_
          refine wpList_plain rfl (fun K hK => ?_)
          refine Mem.oper_load rfl rfl hZ hup rfl (by rw [hszM]; kernel_rfl) ?_
          refine hK _ _ ?_
          clear hK K
          go_wp2_with fail
          refine HCP2.out.mono ?_
          rintro e w9 ⟨B9, A9, p9, rfl, o99⟩
          have kt1 : (convert 29 9 (.slice A9 zs.length p9)).run Try.prog w9 = .ok (.string (bstr zs)) w9 := slb_str (SlB.of_own o99)
          have kt2 : (convert 29 9 (.slice A zs.length p)).run Try.prog w9 = .ok (.string (bstr zs)) w9 := slb_str (SlB.of_own (OwnB.fr HO9.out (Fr.of_below (S := nothing) B9) (fun _ _ h => h)))
          have BB := Bl.trans B8 (Bl.low B9 B8.size)
          clear o99 HCP2 B8 B9 hZ bG
          go_wp2
          go_ret
          exact ⟨rfl, BB⟩
        · exact ⟨false, false, false, false, false, false, false, false, false, false, false, false, csQ, rfl, rfl, (Mix.refl Y szQ).congr (fun i => by simp), bG, (Fr.refl _ w6).drew⟩
      have e0 : (c.k == 0) = false := beq_eq_false_iff_ne.2 h
      have HK0 := Lib.hid h
      clear h
      by_cases h : c.k = 64
      · have e64 : (c.k == 64) = true := beq_iff_eq.2 h
        have HKS := Lib.hid h
        clear h
        go_upto_region 20 with fail
        clear ck e7 e11 e8 e0 e64
        have HV11 := Lib.hid HOK.out.c11
        obtain ⟨B16, q16, hv16, -⟩ := HOK.out.c16
        have HV16 := Lib.hid hv16
        clear hv16
        obtain ⟨B15, q15, hv15, -⟩ := HOK.out.c15
        have HV15 := Lib.hid hv15
        clear hv15
        refine wp_region_any (by kernel_rfl) ?_
        refine Reg.wpAny_inv (I := fun listed act wq => ∃ (d0 d1 d2 d3 d4 d5 d6 d7 d8 d9 d10 d11 : Bool) (cs' : Array Value), listed = #[d0, d1, d2, d3, d4, d5, d6, d7, d8, d9, d10, d11] ∧ act = ⟨#[Value.agg X, Value.agg Y, Value.pointer (some { block := w.heap.size, off := 0 }), Value.pointer (some { block := gO, off := 0 }), Value.bool false, Value.slice A zs.length p, Value.int IntKind.i64 0, Value.pointer (some { block := gK, off := 0 }), Value.int IntKind.i64 ↑zs.length, Value.int IntKind.i64 0, undef, undef, Value.bool true, Value.bool false, Value.agg X, Value.int IntKind.i64 (szC c), Value.agg Y, Value.int IntKind.i64 (szC oc), Value.int IntKind.i64 (mx (szC c) (szC oc)), Value.bool false, Value.tuple #[Value.slice A zs.length p, Value.int IntKind.i64 0], Value.agg X, Value.tuple #[Value.slice A zs.length p, Value.int IntKind.i64 0], Value.slice A zs.length p, Value.int IntKind.i64 0, Value.int IntKind.i64 0, Value.bool false, Value.tuple #[Value.agg csQ, Value.int IntKind.i64 ↑zs.length, Value.int IntKind.i64 0], Value.slice A zs.length p, Value.tuple #[Value.agg csQ, Value.int IntKind.i64 ↑zs.length, Value.int IntKind.i64 0], Value.agg csQ, Value.int IntKind.i64 ↑zs.length, Value.int IntKind.i64 0, Value.int IntKind.i64 0, Value.bool false, Value.pointer (some { block := gK, off := 0 }), Value.int IntKind.u8 c.k, undef, undef, undef, undef, undef, undef, undef, undef, undef, undef, undef, undef, Value.bool false, Value.bool false, undef, undef, undef, undef, undef, undef, undef, undef, undef, undef, undef, undef, Value.bool false, Value.bool false, Value.bool false, undef, undef, undef, undef, undef, undef, undef, undef, undef, Value.bool true, Value.bool false, Value.bool true, (bif d0 then (.pointer (some ⟨gO, 11, none⟩)) else undef), (bif d1 then (.int .u32 oc.win) else undef), (bif d2 then (.pointer (some ⟨gO, 16, none⟩)) else undef), (bif d3 then (.slice B16 oc.skips.length q16) else undef), (bif d4 then (.pointer (some ⟨gO, 15, none⟩)) else undef), (bif d5 then (.slice B15 oc.dups.length q15) else undef), (bif d6 then (.pointer (some ⟨gK, 11, none⟩)) else undef), (bif d8 then (.pointer (some ⟨gK, 16, none⟩)) else undef), (bif d10 then (.pointer (some ⟨gK, 15, none⟩)) else undef), undef, undef, undef, undef, undef, undef, undef, undef, undef, undef, undef, undef, undef, undef, undef, undef, undef, undef, undef, undef, undef, undef, undef, undef, undef], []⟩ ∧ Mix csQ Y (fun i => (d7 && i == 11) || ((d9 && i == 16) || ((d11 && i == 15)))) cs' ∧ Blk wq gK 31 cs' ∧ Fr (only gK) w6 wq) ?_ ?_ _ _ _ _ (by decide) ?_
        · intro i o listed act wq hi hI hun hdeps K hK
          obtain ⟨d0, d1, d2, d3, d4, d5, d6, d7, d8, d9, d10, d11, cs', rfl, rfl, hM, hZ, hF⟩ := hI
          have hlt : i < 12 := (Array.getElem?_eq_some_iff.1 hi).1
          rcases (show i = 0 ∨ i = 1 ∨ i = 2 ∨ i = 3 ∨ i = 4 ∨ i = 5 ∨ i = 6 ∨ i = 7 ∨ i = 8 ∨ i = 9 ∨ i = 10 ∨ i = 11 by omega) with rfl | rfl | rfl | rfl | rfl | rfl | rfl | rfl | rfl | rfl | rfl | rfl
          · skip
            obtain rfl : _ = o := Option.some.inj hi
            obtain rfl : d0 = false := by simpa using hun
            clear hun hdeps hi hlt
            go_simp
            exact hK _ _ ⟨true, d1, d2, d3, d4, d5, d6, d7, d8, d9, d10, d11, cs', rfl, rfl, hM, hZ, hF⟩
          · skip
            obtain rfl : _ = o := Option.some.inj hi
            obtain rfl : d1 = false := by simpa using hun
            obtain rfl : d0 = true := hdeps _ (Array.mem_of_getElem? (i := 0) rfl) rfl
            clear hun hdeps hi hlt
            have cc := ((HBO.out.fr hF hgne).cell 11).trans HV11.out
            go_simp
            exact hK _ _ ⟨true, true, d2, d3, d4, d5, d6, d7, d8, d9, d10, d11, cs', rfl, rfl, hM, hZ, hF⟩
          · skip
            obtain rfl : _ = o := Option.some.inj hi
            obtain rfl : d2 = false := by simpa using hun
            clear hun hdeps hi hlt
            go_simp
            exact hK _ _ ⟨d0, d1, true, d3, d4, d5, d6, d7, d8, d9, d10, d11, cs', rfl, rfl, hM, hZ, hF⟩
          · skip
            obtain rfl : _ = o := Option.some.inj hi
            obtain rfl : d3 = false := by simpa using hun
            obtain rfl : d2 = true := hdeps _ (Array.mem_of_getElem? (i := 0) rfl) rfl
            clear hun hdeps hi hlt
            have cc := ((HBO.out.fr hF hgne).cell 16).trans HV16.out
            go_simp
            exact hK _ _ ⟨d0, d1, true, true, d4, d5, d6, d7, d8, d9, d10, d11, cs', rfl, rfl, hM, hZ, hF⟩
          · skip
            obtain rfl : _ = o := Option.some.inj hi
            obtain rfl : d4 = false := by simpa using hun
            clear hun hdeps hi hlt
            go_simp
            exact hK _ _ ⟨d0, d1, d2, d3, true, d5, d6, d7, d8, d9, d10, d11, cs', rfl, rfl, hM, hZ, hF⟩
          · skip
            obtain rfl : _ = o := Option.some.inj hi
            obtain rfl : d5 = false := by simpa using hun
            obtain rfl : d4 = true := hdeps _ (Array.mem_of_getElem? (i := 0) rfl) rfl
            clear hun hdeps hi hlt
            have cc := ((HBO.out.fr hF hgne).cell 15).trans HV15.out
            go_simp
            exact hK _ _ ⟨d0, d1, d2, d3, true, true, d6, d7, d8, d9, d10, d11, cs', rfl, rfl, hM, hZ, hF⟩
          · skip
            obtain rfl : _ = o := Option.some.inj hi
            obtain rfl : d6 = false := by simpa using hun
            clear hun hdeps hi hlt
            go_simp
            exact hK _ _ ⟨d0, d1, d2, d3, d4, d5, true, d7, d8, d9, d10, d11, cs', rfl, rfl, hM, hZ, hF⟩
          · skip
            obtain rfl : _ = o := Option.some.inj hi
            obtain rfl : d7 = false := by simpa using hun
            obtain rfl : d6 = true := hdeps _ (Array.mem_of_getElem? (i := 0) rfl) rfl
            obtain rfl : d1 = true := hdeps _ (Array.mem_of_getElem? (i := 1) rfl) rfl
            clear hun hdeps hi hlt
            have cz := hZ.cell 11
            have fz := hZ.frozen 11
            have fm := Array.getElem?_eq_getElem (xs := cs') (i := 11) (by rw [hM.size]; decide)
            rw [fm] at cz
            clear fm
            go_simp
            exact hK _ _ ⟨d0, true, d2, d3, d4, d5, true, true, d8, d9, d10, d11, cs'.setIfInBounds 11 (.int .u32 oc.win), rfl, rfl, (hM.set HV11.out (by decide)).congr (fun i => by simp only [Bool.false_and, Bool.true_and, Bool.false_or]; ac_rfl), hZ.set 11 _, hF.set_only 11 none _⟩
          · skip
            obtain rfl : _ = o := Option.some.inj hi
            obtain rfl : d8 = false := by simpa using hun
            clear hun hdeps hi hlt
            go_simp
            exact hK _ _ ⟨d0, d1, d2, d3, d4, d5, d6, d7, true, d9, d10, d11, cs', rfl, rfl, hM, hZ, hF⟩
          · skip
            obtain rfl : _ = o := Option.some.inj hi
            obtain rfl : d9 = false := by simpa using hun
            obtain rfl : d8 = true := hdeps _ (Array.mem_of_getElem? (i := 0) rfl) rfl
            obtain rfl : d3 = true := hdeps _ (Array.mem_of_getElem? (i := 1) rfl) rfl
            obtain rfl : d7 = true := hdeps _ (Array.mem_of_getElem? (i := 2) rfl) rfl
            clear hun hdeps hi hlt
            have cz := hZ.cell 16
            have fz := hZ.frozen 16
            have fm := Array.getElem?_eq_getElem (xs := cs') (i := 16) (by rw [hM.size]; decide)
            rw [fm] at cz
            clear fm
            go_simp
            exact hK _ _ ⟨d0, d1, d2, true, d4, d5, d6, true, true, true, d10, d11, cs'.setIfInBounds 16 (.slice B16 oc.skips.length q16), rfl, rfl, (hM.set HV16.out (by decide)).congr (fun i => by simp only [Bool.false_and, Bool.true_and, Bool.false_or]; ac_rfl), hZ.set 16 _, hF.set_only 16 none _⟩
          · skip
            obtain rfl : _ = o := Option.some.inj hi
            obtain rfl : d10 = false := by simpa using hun
            clear hun hdeps hi hlt
            go_simp
            exact hK _ _ ⟨d0, d1, d2, d3, d4, d5, d6, d7, d8, d9, true, d11, cs', rfl, rfl, hM, hZ, hF⟩
          · skip
            obtain rfl : _ = o := Option.some.inj hi
            obtain rfl : d11 = false := by simpa using hun
            obtain rfl : d10 = true := hdeps _ (Array.mem_of_getElem? (i := 0) rfl) rfl
            obtain rfl : d5 = true := hdeps _ (Array.mem_of_getElem? (i := 1) rfl) rfl
            obtain rfl : d9 = true := hdeps _ (Array.mem_of_getElem? (i := 2) rfl) rfl
            clear hun hdeps hi hlt
            have cz := hZ.cell 15
            have fz := hZ.frozen 15
            have fm := Array.getElem?_eq_getElem (xs := cs') (i := 15) (by rw [hM.size]; decide)
            rw [fm] at cz
            clear fm
            go_simp
            exact hK _ _ ⟨d0, d1, d2, d3, d4, true, d6, d7, d8, true, true, true, cs'.setIfInBounds 15 (.slice B15 oc.dups.length q15), rfl, rfl, (hM.set HV15.out (by decide)).congr (fun i => by simp only [Bool.false_and, Bool.true_and, Bool.false_or]; ac_rfl), hZ.set 15 _, hF.set_only 15 none _⟩
        · intro listed act wq hI hr0
          obtain ⟨d0, d1, d2, d3, d4, d5, d6, d7, d8, d9, d10, d11, cs', rfl, rfl, hM, hZ, hF⟩ := hI
          have hall := Reg.all_of_done (by kernel_rfl) rfl hr0
          obtain rfl : d0 = true := hall 0 (by decide)
          obtain rfl : d1 = true := hall 1 (by decide)
          obtain rfl : d2 = true := hall 2 (by decide)
          obtain rfl : d3 = true := hall 3 (by decide)
          obtain rfl : d4 = true := hall 4 (by decide)
          obtain rfl : d5 = true := hall 5 (by decide)
          obtain rfl : d6 = true := hall 6 (by decide)
          obtain rfl : d7 = true := hall 7 (by decide)
          obtain rfl : d8 = true := hall 8 (by decide)
          obtain rfl : d9 = true := hall 9 (by decide)
          obtain rfl : d10 = true := hall 10 (by decide)
          obtain rfl : d11 = true := hall 11 (by decide)
          clear hall hr0
          simp only [cond_true]
          replace hM := hM.congr (S' := fun i => if (strip c).k = 7 then i == 6 || (i == 18 || (i == 14 || i == 4)) else if (strip c).k = 11 ∨ (strip c).k = 8 then i == 5 || (i == 17 || i == 1) else if (strip c).k = 0 ∨ (strip c).k = 64 then i == 11 || (i == 16 || i == 15) else if (strip c).k = 3 then i == 18 || (i == 16 || i == 3) else i == 14 || (i == 15 || (i == 6 || i == 8))) (fun i => by rw [strip_k]; have := HKS.out; simp [this])
          have hs6 := hF.size
          have B8 := Bl.trans B7 (Bl.of_fr hF B7.size (fun k h => by have h9 : k = gK := h; omega))
          have CG9 := HCG2.out.fr hF (fun k h1 h2 h3 => by have h9 : k = gK := h3; omega)
          have CO9 := HOK.out.bl B8 (Nat.le_refl _)
          have B8s := B8.size
          have CKX := hM.v (CG9.more (Nat.zero_le w2.heap.size) (Nat.le_of_lt hZ.lt)) (CO9.more (Nat.le_refl 0) B8.size)
          rw [← bare_mix] at CKX
          obtain ⟨k1, k2⟩ := bare_same (o := oc) HE.out
          have CP2 := cput_calls _ _ cs' (bare (strip c) oc) wq CKX (Nat.le_refl _) (bare_b (strip_b HBD.out) HBO2.out) (bare_l (strip_l HLO.out.1) HLO.out.2)
          unfold PutC at CP2
          rw [cO_ok k2, k1, k2, HZS.out] at CP2
          have o9 := OwnB.fr HO6.out hF (fun k hk h => by have h9 : k = gK := h; subst h9; exact OwnB.ne HO6.out bG (by decide) hk)
          have HCP2 := Lib.hid CP2
          have hszM := hM.size
          have HO9 := Lib.hid o9
          clear CP2 k1 k2 CKX CG9 CO9 o9 HO6 hM
          go_upto_region 23 with fail
          refine wp_region_lit ?_
          refine wpList_plain rfl (fun K hK => ?_)
          refine Mem.oper_load rfl rfl hZ hup rfl (by rw [hszM]; kernel_rfl) ?_
          refine hK _ _ ?_
          clear hK K
          go_wp2_with fail
          refine HCP2.out.mono ?_
          rintro e w9 ⟨B9, A9, p9, rfl, o99⟩
          have kt1 : (convert 29 9 (.slice A9 zs.length p9)).run Try.prog w9 = .ok (.string (bstr zs)) w9 := slb_str (SlB.of_own o99)
          have kt2 : (convert 29 9 (.slice A zs.length p)).run Try.prog w9 = .ok (.string (bstr zs)) w9 := slb_str (SlB.of_own (OwnB.fr HO9.out (Fr.of_below (S := nothing) B9) (fun _ _ h => h)))
          have BB := Bl.trans B8 (Bl.low B9 B8.size)
          clear o99 HCP2 B8 B9 hZ bG
          go_wp2
          go_ret
          exact ⟨rfl, BB⟩
        · exact ⟨false, false, false, false, false, false, false, false, false, false, false, false, csQ, rfl, rfl, (Mix.refl Y szQ).congr (fun i => by simp), bG, (Fr.refl _ w6).drew⟩
      have e64 : (c.k == 64) = false := beq_eq_false_iff_ne.2 h
      have HK64 := Lib.hid h
      clear h
      by_cases h : c.k = 3
      · have e3 : (c.k == 3) = true := beq_iff_eq.2 h
        have HKS := Lib.hid h
        clear h
        go_upto_region 22 with fail
        clear ck e7 e11 e8 e0 e64 e3
        obtain ⟨B18, q18, hv18, -⟩ := HOK.out.c18
        have HV18 := Lib.hid hv18
        clear hv18
        obtain ⟨B16, q16, hv16, -⟩ := HOK.out.c16
        have HV16 := Lib.hid hv16
        clear hv16
        have HV3 := Lib.hid HOK.out.c3
        refine wp_region_any (by kernel_rfl) ?_
        refine Reg.wpAny_inv (I := fun listed act wq => ∃ (d0 d1 d2 d3 d4 d5 d6 d7 d8 d9 d10 d11 : Bool) (cs' : Array Value), listed = #[d0, d1, d2, d3, d4, d5, d6, d7, d8, d9, d10, d11] ∧ act = ⟨#[Value.agg X, Value.agg Y, Value.pointer (some { block := w.heap.size, off := 0 }), Value.pointer (some { block := gO, off := 0 }), Value.bool false, Value.slice A zs.length p, Value.int IntKind.i64 0, Value.pointer (some { block := gK, off := 0 }), Value.int IntKind.i64 ↑zs.length, Value.int IntKind.i64 0, undef, undef, Value.bool true, Value.bool false, Value.agg X, Value.int IntKind.i64 (szC c), Value.agg Y, Value.int IntKind.i64 (szC oc), Value.int IntKind.i64 (mx (szC c) (szC oc)), Value.bool false, Value.tuple #[Value.slice A zs.length p, Value.int IntKind.i64 0], Value.agg X, Value.tuple #[Value.slice A zs.length p, Value.int IntKind.i64 0], Value.slice A zs.length p, Value.int IntKind.i64 0, Value.int IntKind.i64 0, Value.bool false, Value.tuple #[Value.agg csQ, Value.int IntKind.i64 ↑zs.length, Value.int IntKind.i64 0], Value.slice A zs.length p, Value.tuple #[Value.agg csQ, Value.int IntKind.i64 ↑zs.length, Value.int IntKind.i64 0], Value.agg csQ, Value.int IntKind.i64 ↑zs.length, Value.int IntKind.i64 0, Value.int IntKind.i64 0, Value.bool false, Value.pointer (some { block := gK, off := 0 }), Value.int IntKind.u8 c.k, undef, undef, undef, undef, undef, undef, undef, undef, undef, undef, undef, undef, Value.bool false, Value.bool false, undef, undef, undef, undef, undef, undef, undef, undef, undef, undef, undef, undef, Value.bool false, Value.bool false, Value.bool false, undef, undef, undef, undef, undef, undef, undef, undef, undef, Value.bool false, Value.bool false, Value.bool false, undef, undef, undef, undef, undef, undef, undef, undef, undef, Value.bool true, Value.bool true, (bif d0 then (.pointer (some ⟨gO, 18, none⟩)) else undef), (bif d1 then (.slice B18 oc.body.length q18) else undef), (bif d2 then (.pointer (some ⟨gO, 16, none⟩)) else undef), (bif d3 then (.slice B16 oc.skips.length q16) else undef), (bif d4 then (.pointer (some ⟨gO, 3, none⟩)) else undef), (bif d5 then (.bool oc.l) else undef), (bif d6 then (.pointer (some ⟨gK, 18, none⟩)) else undef), (bif d8 then (.pointer (some ⟨gK, 16, none⟩)) else undef), (bif d10 then (.pointer (some ⟨gK, 3, none⟩)) else undef), undef, undef, undef, undef, undef, undef, undef, undef, undef, undef, undef, undef, undef, undef], []⟩ ∧ Mix csQ Y (fun i => (d7 && i == 18) || ((d9 && i == 16) || ((d11 && i == 3)))) cs' ∧ Blk wq gK 31 cs' ∧ Fr (only gK) w6 wq) ?_ ?_ _ _ _ _ (by decide) ?_
        · intro i o listed act wq hi hI hun hdeps K hK
          obtain ⟨d0, d1, d2, d3, d4, d5, d6, d7, d8, d9, d10, d11, cs', rfl, rfl, hM, hZ, hF⟩ := hI
          have hlt : i < 12 := (Array.getElem?_eq_some_iff.1 hi).1
          rcases (show i = 0 ∨ i = 1 ∨ i = 2 ∨ i = 3 ∨ i = 4 ∨ i = 5 ∨ i = 6 ∨ i = 7 ∨ i = 8 ∨ i = 9 ∨ i = 10 ∨ i = 11 by omega) with rfl | rfl | rfl | rfl | rfl | rfl | rfl | rfl | rfl | rfl | rfl | rfl
          · skip
            obtain rfl : _ = o := Option.some.inj hi
            obtain rfl : d0 = false := by simpa using hun
            clear hun hdeps hi hlt
            go_simp
            exact hK _ _ ⟨true, d1, d2, d3, d4, d5, d6, d7, d8, d9, d10, d11, cs', rfl, rfl, hM, hZ, hF⟩
          · skip
            obtain rfl : _ = o := Option.some.inj hi
            obtain rfl : d1 = false := by simpa using hun
            obtain rfl : d0 = true := hdeps _ (Array.mem_of_getElem? (i := 0) rfl) rfl
            clear hun hdeps hi hlt
            have cc := ((HBO.out.fr hF hgne).cell 18).trans HV18.out
            go_simp
            exact hK _ _ ⟨true, true, d2, d3, d4, d5, d6, d7, d8, d9, d10, d11, cs', rfl, rfl, hM, hZ, hF⟩
          · skip
            obtain rfl : _ = o := Option.some.inj hi
            obtain rfl : d2 = false := by simpa using hun
            clear hun hdeps hi hlt
            go_simp
            exact hK _ _ ⟨d0, d1, true, d3, d4, d5, d6, d7, d8, d9, d10, d11, cs', rfl, rfl, hM, hZ, hF⟩
          · skip
            obtain rfl : _ = o := Option.some.inj hi
            obtain rfl : d3 = false := by simpa using hun
            obtain rfl : d2 = true := hdeps _ (Array.mem_of_getElem? (i := 0) rfl) rfl
            clear hun hdeps hi hlt
            have cc := ((HBO.out.fr hF hgne).cell 16).trans HV16.out
            go_simp
            exact hK _ _ ⟨d0, d1, true, true, d4, d5, d6, d7, d8, d9, d10, d11, cs', rfl, rfl, hM, hZ, hF⟩
          · skip
            obtain rfl : _ = o := Option.some.inj hi
            obtain rfl : d4 = false := by simpa using hun
            clear hun hdeps hi hlt
            go_simp
            exact hK _ _ ⟨d0, d1, d2, d3, true, d5, d6, d7, d8, d9, d10, d11, cs', rfl, rfl, hM, hZ, hF⟩
          · skip
            obtain rfl : _ = o := Option.some.inj hi
            obtain rfl : d5 = false := by simpa using hun
            obtain rfl : d4 = true := hdeps _ (Array.mem_of_getElem? (i := 0) rfl) rfl
            clear hun hdeps hi hlt
            have cc := ((HBO.out.fr hF hgne).cell 3).trans HV3.out
            go_simp
            exact hK _ _ ⟨d0, d1, d2, d3, true, true, d6, d7, d8, d9, d10, d11, cs', rfl, rfl, hM, hZ, hF⟩
          · skip
            obtain rfl : _ = o := Option.some.inj hi
            obtain rfl : d6 = false := by simpa using hun
            clear hun hdeps hi hlt
            go_simp
            exact hK _ _ ⟨d0, d1, d2, d3, d4, d5, true, d7, d8, d9, d10, d11, cs', rfl, rfl, hM, hZ, hF⟩
          · skip
            obtain rfl : _ = o := Option.some.inj hi
            obtain rfl : d7 = false := by simpa using hun
            obtain rfl : d6 = true := hdeps _ (Array.mem_of_getElem? (i := 0) rfl) rfl
            obtain rfl : d1 = true := hdeps _ (Array.mem_of_getElem? (i := 1) rfl) rfl
            clear hun hdeps hi hlt
            have cz := hZ.cell 18
            have fz := hZ.frozen 18
            have fm := Array.getElem?_eq_getElem (xs := cs') (i := 18) (by rw [hM.size]; decide)
            rw [fm] at cz
            clear fm
            go_simp
            exact hK _ _ ⟨d0, true, d2, d3, d4, d5, true, true, d8, d9, d10, d11, cs'.setIfInBounds 18 (.slice B18 oc.body.length q18), rfl, rfl, (hM.set HV18.out (by decide)).congr (fun i => by simp only [Bool.false_and, Bool.true_and, Bool.false_or]; ac_rfl), hZ.set 18 _, hF.set_only 18 none _⟩
          · skip
            obtain rfl : _ = o := Option.some.inj hi
            obtain rfl : d8 = false := by simpa using hun
            clear hun hdeps hi hlt
            go_simp
            exact hK _ _ ⟨d0, d1, d2, d3, d4, d5, d6, d7, true, d9, d10, d11, cs', rfl, rfl, hM, hZ, hF⟩
          · skip
            obtain rfl : _ = o := Option.some.inj hi
            obtain rfl : d9 = false := by simpa using hun
            obtain rfl : d8 = true := hdeps _ (Array.mem_of_getElem? (i := 0) rfl) rfl
            obtain rfl : d3 = true := hdeps _ (Array.mem_of_getElem? (i := 1) rfl) rfl
            obtain rfl : d7 = true := hdeps _ (Array.mem_of_getElem? (i := 2) rfl) rfl
            clear hun hdeps hi hlt
            have cz := hZ.cell 16
            have fz := hZ.frozen 16
            have fm := Array.getElem?_eq_getElem (xs := cs') (i := 16) (by rw [hM.size]; decide)
            rw [fm] at cz
            clear fm
            go_simp
            exact hK _ _ ⟨d0, d1, d2, true, d4, d5, d6, true, true, true, d10, d11, cs'.setIfInBounds 16 (.slice B16 oc.skips.length q16), rfl, rfl, (hM.set HV16.out (by decide)).congr (fun i => by simp only [Bool.false_and, Bool.true_and, Bool.false_or]; ac_rfl), hZ.set 16 _, hF.set_only 16 none _⟩
          · skip
            obtain rfl : _ = o := Option.some.inj hi
            obtain rfl : d10 = false := by simpa using hun
            clear hun hdeps hi hlt
            go_simp
            exact hK _ _ ⟨d0, d1, d2, d3, d4, d5, d6, d7, d8, d9, true, d11, cs', rfl, rfl, hM, hZ, hF⟩
          · skip
            obtain rfl : _ = o := Option.some.inj hi
            obtain rfl : d11 = false := by simpa using hun
            obtain rfl : d10 = true := hdeps _ (Array.mem_of_getElem? (i := 0) rfl) rfl
            obtain rfl : d5 = true := hdeps _ (Array.mem_of_getElem? (i := 1) rfl) rfl
            obtain rfl : d9 = true := hdeps _ (Array.mem_of_getElem? (i := 2) rfl) rfl
            clear hun hdeps hi hlt
            have cz := hZ.cell 3
            have fz := hZ.frozen 3
            have fm := Array.getElem?_eq_getElem (xs := cs') (i := 3) (by rw [hM.size]; decide)
            rw [fm] at cz
            clear fm
            go_simp
            exact hK _ _ ⟨d0, d1, d2, d3, d4, true, d6, d7, d8, true, true, true, cs'.setIfInBounds 3 (.bool oc.l), rfl, rfl, (hM.set HV3.out (by decide)).congr (fun i => by simp only [Bool.false_and, Bool.true_and, Bool.false_or]; ac_rfl), hZ.set 3 _, hF.set_only 3 none _⟩
        · intro listed act wq hI hr0
          obtain ⟨d0, d1, d2, d3, d4, d5, d6, d7, d8, d9, d10, d11, cs', rfl, rfl, hM, hZ, hF⟩ := hI
          have hall := Reg.all_of_done (by kernel_rfl) rfl hr0
          obtain rfl : d0 = true := hall 0 (by decide)
          obtain rfl : d1 = true := hall 1 (by decide)
          obtain rfl : d2 = true := hall 2 (by decide)
          obtain rfl : d3 = true := hall 3 (by decide)
          obtain rfl : d4 = true := hall 4 (by decide)
          obtain rfl : d5 = true := hall 5 (by decide)
          obtain rfl : d6 = true := hall 6 (by decide)
          obtain rfl : d7 = true := hall 7 (by decide)
          obtain rfl : d8 = true := hall 8 (by decide)
          obtain rfl : d9 = true := hall 9 (by decide)
          obtain rfl : d10 = true := hall 10 (by decide)
          obtain rfl : d11 = true := hall 11 (by decide)
          clear hall hr0
          simp only [cond_true]
          replace hM := hM.congr (S' := fun i => if (strip c).k = 7 then i == 6 || (i == 18 || (i == 14 || i == 4)) else if (strip c).k = 11 ∨ (strip c).k = 8 then i == 5 || (i == 17 || i == 1) else if (strip c).k = 0 ∨ (strip c).k = 64 then i == 11 || (i == 16 || i == 15) else if (strip c).k = 3 then i == 18 || (i == 16 || i == 3) else i == 14 || (i == 15 || (i == 6 || i == 8))) (fun i => by rw [strip_k]; have := HKS.out; simp [this])
          have hs6 := hF.size
          have B8 := Bl.trans B7 (Bl.of_fr hF B7.size (fun k h => by have h9 : k = gK := h; omega))
          have CG9 := HCG2.out.fr hF (fun k h1 h2 h3 => by have h9 : k = gK := h3; omega)
          have CO9 := HOK.out.bl B8 (Nat.le_refl _)
          have B8s := B8.size
          have CKX := hM.v (CG9.more (Nat.zero_le w2.heap.size) (Nat.le_of_lt hZ.lt)) (CO9.more (Nat.le_refl 0) B8.size)
          rw [← bare_mix] at CKX
          obtain ⟨k1, k2⟩ := bare_same (o := oc) HE.out
          have CP2 := cput_calls _ _ cs' (bare (strip c) oc) wq CKX (Nat.le_refl _) (bare_b (strip_b HBD.out) HBO2.out) (bare_l (strip_l HLO.out.1) HLO.out.2)
          unfold PutC at CP2
          rw [cO_ok k2, k1, k2, HZS.out] at CP2
          have o9 := OwnB.fr HO6.out hF (fun k hk h => by have h9 : k = gK := h; subst h9; exact OwnB.ne HO6.out bG (by decide) hk)
          have HCP2 := Lib.hid CP2
          have hszM := hM.size
          have HO9 := Lib.hid o9
          clear CP2 k1 k2 CKX CG9 CO9 o9 HO6 hM
          go_upto_region 23 with fail
          refine wp_region_lit ?_
          refine wpList_plain rfl (fun K hK => ?_)
          refine Mem.oper_load rfl rfl hZ hup rfl (by rw [hszM]; kernel_rfl) ?_
          refine hK _ _ ?_
          clear hK K
          go_wp2_with fail
          refine HCP2.out.mono ?_
          rintro e w9 ⟨B9, A9, p9, rfl, o99⟩
          have kt1 : (convert 29 9 (.slice A9 zs.length p9)).run Try.prog w9 = .ok (.string (bstr zs)) w9 := slb_str (SlB.of_own o99)
          have kt2 : (convert 29 9 (.slice A zs.length p)).run Try.prog w9 = .ok (.string (bstr zs)) w9 := slb_str (SlB.of_own (OwnB.fr HO9.out (Fr.of_below (S := nothing) B9) (fun _ _ h => h)))
          have BB := Bl.trans B8 (Bl.low B9 B8.size)
          clear o99 HCP2 B8 B9 hZ bG
          go_wp2
          go_ret
          exact ⟨rfl, BB⟩
        · exact ⟨false, false, false, false, false, false, false, false, false, false, false, false, csQ, rfl, rfl, (Mix.refl Y szQ).congr (fun i => by simp), bG, (Fr.refl _ w6).drew⟩
      have e3 : (c.k == 3) = false := beq_eq_false_iff_ne.2 h
      have HKS := Lib.hid (show (c.k = 7) = False ∧ (c.k = 11) = False ∧ (c.k = 8) = False ∧ (c.k = 0) = False ∧ (c.k = 64) = False ∧ (c.k = 3) = False from ⟨eq_false HK7.out, eq_false HK11.out, eq_false HK8.out, eq_false HK0.out, eq_false HK64.out, eq_false h⟩)
      clear h
      go_upto_region 12 with fail
      clear ck e7 e11 e8 e0 e64 e3
      obtain ⟨B14, q14, hv14, -⟩ := HOK.out.c14
      have HV14 := Lib.hid hv14
      clear hv14
      obtain ⟨B15, q15, hv15, -⟩ := HOK.out.c15
      have HV15 := Lib.hid hv15
      clear hv15
      have HV6 := Lib.hid HOK.out.c6
      have HV8 := Lib.hid HOK.out.c8
      refine wp_region_any (by kernel_rfl) ?_
      refine Reg.wpAny_inv (I := fun listed act wq => ∃ (d0 d1 d2 d3 d4 d5 d6 d7 d8 d9 d10 d11 d12 d13 d14 d15 : Bool) (cs' : Array Value), listed = #[d0, d1, d2, d3, d4, d5, d6, d7, d8, d9, d10, d11, d12, d13, d14, d15] ∧ act = ⟨#[Value.agg X, Value.agg Y, Value.pointer (some { block := w.heap.size, off := 0 }), Value.pointer (some { block := gO, off := 0 }), Value.bool false, Value.slice A zs.length p, Value.int IntKind.i64 0, Value.pointer (some { block := gK, off := 0 }), Value.int IntKind.i64 ↑zs.length, Value.int IntKind.i64 0, undef, undef, Value.bool true, Value.bool false, Value.agg X, Value.int IntKind.i64 (szC c), Value.agg Y, Value.int IntKind.i64 (szC oc), Value.int IntKind.i64 (mx (szC c) (szC oc)), Value.bool false, Value.tuple #[Value.slice A zs.length p, Value.int IntKind.i64 0], Value.agg X, Value.tuple #[Value.slice A zs.length p, Value.int IntKind.i64 0], Value.slice A zs.length p, Value.int IntKind.i64 0, Value.int IntKind.i64 0, Value.bool false, Value.tuple #[Value.agg csQ, Value.int IntKind.i64 ↑zs.length, Value.int IntKind.i64 0], Value.slice A zs.length p, Value.tuple #[Value.agg csQ, Value.int IntKind.i64 ↑zs.length, Value.int IntKind.i64 0], Value.agg csQ, Value.int IntKind.i64 ↑zs.length, Value.int IntKind.i64 0, Value.int IntKind.i64 0, Value.bool false, Value.pointer (some { block := gK, off := 0 }), Value.int IntKind.u8 c.k, (bif d0 then (.pointer (some ⟨gO, 14, none⟩)) else undef), (bif d1 then (.slice B14 oc.gaps.length q14) else undef), (bif d2 then (.pointer (some ⟨gO, 15, none⟩)) else undef), (bif d3 then (.slice B15 oc.dups.length q15) else undef), (bif d4 then (.pointer (some ⟨gO, 6, none⟩)) else undef), (bif d5 then (.int .u16 oc.st) else undef), (bif d6 then (.pointer (some ⟨gO, 8, none⟩)) else undef), (bif d7 then (.int .u32 oc.pp) else undef), (bif d8 then (.pointer (some ⟨gK, 14, none⟩)) else undef), (bif d10 then (.pointer (some ⟨gK, 15, none⟩)) else undef), (bif d12 then (.pointer (some ⟨gK, 6, none⟩)) else undef), (bif d14 then (.pointer (some ⟨gK, 8, none⟩)) else undef), Value.bool false, Value.bool false, undef, undef, undef, undef, undef, undef, undef, undef, undef, undef, undef, undef, Value.bool false, Value.bool false, Value.bool false, undef, undef, undef, undef, undef, undef, undef, undef, undef, Value.bool false, Value.bool false, Value.bool false, undef, undef, undef, undef, undef, undef, undef, undef, undef, Value.bool false, Value.bool false, undef, undef, undef, undef, undef, undef, undef, undef, undef, undef, undef, undef, undef, undef, undef, undef, undef, undef, undef, undef, undef, undef, undef], []⟩ ∧ Mix csQ Y (fun i => (d9 && i == 14) || ((d11 && i == 15) || ((d13 && i == 6) || ((d15 && i == 8))))) cs' ∧ Blk wq gK 31 cs' ∧ Fr (only gK) w6 wq) ?_ ?_ _ _ _ _ (by decide) ?_
      · intro i o listed act wq hi hI hun hdeps K hK
        obtain ⟨d0, d1, d2, d3, d4, d5, d6, d7, d8, d9, d10, d11, d12, d13, d14, d15, cs', rfl, rfl, hM, hZ, hF⟩ := hI
        have hlt : i < 16 := (Array.getElem?_eq_some_iff.1 hi).1
        rcases (show i = 0 ∨ i = 1 ∨ i = 2 ∨ i = 3 ∨ i = 4 ∨ i = 5 ∨ i = 6 ∨ i = 7 ∨ i = 8 ∨ i = 9 ∨ i = 10 ∨ i = 11 ∨ i = 12 ∨ i = 13 ∨ i = 14 ∨ i = 15 by omega) with rfl | rfl | rfl | rfl | rfl | rfl | rfl | rfl | rfl | rfl | rfl | rfl | rfl | rfl | rfl | rfl
        · skip
          obtain rfl : _ = o := Option.some.inj hi
          obtain rfl : d0 = false := by simpa using hun
          clear hun hdeps hi hlt
          go_simp
          exact hK _ _ ⟨true, d1, d2, d3, d4, d5, d6, d7, d8, d9, d10, d11, d12, d13, d14, d15, cs', rfl, rfl, hM, hZ, hF⟩
        · skip
          obtain rfl : _ = o := Option.some.inj hi
          obtain rfl : d1 = false := by simpa using hun
          obtain rfl : d0 = true := hdeps _ (Array.mem_of_getElem? (i := 0) rfl) rfl
          clear hun hdeps hi hlt
          have cc := ((HBO.out.fr hF hgne).cell 14).trans HV14.out
          go_simp
          exact hK _ _ ⟨true, true, d2, d3, d4, d5, d6, d7, d8, d9, d10, d11, d12, d13, d14, d15, cs', rfl, rfl, hM, hZ, hF⟩
        · skip
          obtain rfl : _ = o := Option.some.inj hi
          obtain rfl : d2 = false := by simpa using hun
          clear hun hdeps hi hlt
          go_simp
          exact hK _ _ ⟨d0, d1, true, d3, d4, d5, d6, d7, d8, d9, d10, d11, d12, d13, d14, d15, cs', rfl, rfl, hM, hZ, hF⟩
        · skip
          obtain rfl : _ = o := Option.some.inj hi
          obtain rfl : d3 = false := by simpa using hun
          obtain rfl : d2 = true := hdeps _ (Array.mem_of_getElem? (i := 0) rfl) rfl
          clear hun hdeps hi hlt
          have cc := ((HBO.out.fr hF hgne).cell 15).trans HV15.out
          go_simp
          exact hK _ _ ⟨d0, d1, true, true, d4, d5, d6, d7, d8, d9, d10, d11, d12, d13, d14, d15, cs', rfl, rfl, hM, hZ, hF⟩
        · skip
          obtain rfl : _ = o := Option.some.inj hi
          obtain rfl : d4 = false := by simpa using hun
          clear hun hdeps hi hlt
          go_simp
          exact hK _ _ ⟨d0, d1, d2, d3, true, d5, d6, d7, d8, d9, d10, d11, d12, d13, d14, d15, cs', rfl, rfl, hM, hZ, hF⟩
        · skip
          obtain rfl : _ = o := Option.some.inj hi
          obtain rfl : d5 = false := by simpa using hun
          obtain rfl : d4 = true := hdeps _ (Array.mem_of_getElem? (i := 0) rfl) rfl
          clear hun hdeps hi hlt
          have cc := ((HBO.out.fr hF hgne).cell 6).trans HV6.out
          go_simp
          exact hK _ _ ⟨d0, d1, d2, d3, true, true, d6, d7, d8, d9, d10, d11, d12, d13, d14, d15, cs', rfl, rfl, hM, hZ, hF⟩
        · skip
          obtain rfl : _ = o := Option.some.inj hi
          obtain rfl : d6 = false := by simpa using hun
          clear hun hdeps hi hlt
          go_simp
          exact hK _ _ ⟨d0, d1, d2, d3, d4, d5, true, d7, d8, d9, d10, d11, d12, d13, d14, d15, cs', rfl, rfl, hM, hZ, hF⟩
        · skip
          obtain rfl : _ = o := Option.some.inj hi
          obtain rfl : d7 = false := by simpa using hun
          obtain rfl : d6 = true := hdeps _ (Array.mem_of_getElem? (i := 0) rfl) rfl
          clear hun hdeps hi hlt
          have cc := ((HBO.out.fr hF hgne).cell 8).trans HV8.out
          go_simp
          exact hK _ _ ⟨d0, d1, d2, d3, d4, d5, true, true, d8, d9, d10, d11, d12, d13, d14, d15, cs', rfl, rfl, hM, hZ, hF⟩
        · skip
          obtain rfl : _ = o := Option.some.inj hi
          obtain rfl : d8 = false := by simpa using hun
          clear hun hdeps hi hlt
          go_simp
          exact hK _ _ ⟨d0, d1, d2, d3, d4, d5, d6, d7, true, d9, d10, d11, d12, d13, d14, d15, cs', rfl, rfl, hM, hZ, hF⟩
        · skip
          obtain rfl : _ = o := Option.some.inj hi
          obtain rfl : d9 = false := by simpa using hun
          obtain rfl : d8 = true := hdeps _ (Array.mem_of_getElem? (i := 0) rfl) rfl
          obtain rfl : d1 = true := hdeps _ (Array.mem_of_getElem? (i := 1) rfl) rfl
          clear hun hdeps hi hlt
          have cz := hZ.cell 14
          have fz := hZ.frozen 14
          have fm := Array.getElem?_eq_getElem (xs := cs') (i := 14) (by rw [hM.size]; decide)
          rw [fm] at cz
          clear fm
          go_simp
          exact hK _ _ ⟨d0, true, d2, d3, d4, d5, d6, d7, true, true, d10, d11, d12, d13, d14, d15, cs'.setIfInBounds 14 (.slice B14 oc.gaps.length q14), rfl, rfl, (hM.set HV14.out (by decide)).congr (fun i => by simp only [Bool.false_and, Bool.true_and, Bool.false_or]; ac_rfl), hZ.set 14 _, hF.set_only 14 none _⟩
        · skip
          obtain rfl : _ = o := Option.some.inj hi
          obtain rfl : d10 = false := by simpa using hun
          clear hun hdeps hi hlt
          go_simp
          exact hK _ _ ⟨d0, d1, d2, d3, d4, d5, d6, d7, d8, d9, true, d11, d12, d13, d14, d15, cs', rfl, rfl, hM, hZ, hF⟩
        · skip
          obtain rfl : _ = o := Option.some.inj hi
          obtain rfl : d11 = false := by simpa using hun
          obtain rfl : d10 = true := hdeps _ (Array.mem_of_getElem? (i := 0) rfl) rfl
          obtain rfl : d3 = true := hdeps _ (Array.mem_of_getElem? (i := 1) rfl) rfl
          obtain rfl : d9 = true := hdeps _ (Array.mem_of_getElem? (i := 2) rfl) rfl
          clear hun hdeps hi hlt
          have cz := hZ.cell 15
          have fz := hZ.frozen 15
          have fm := Array.getElem?_eq_getElem (xs := cs') (i := 15) (by rw [hM.size]; decide)
          rw [fm] at cz
          clear fm
          go_simp
          exact hK _ _ ⟨d0, d1, d2, true, d4, d5, d6, d7, d8, true, true, true, d12, d13, d14, d15, cs'.setIfInBounds 15 (.slice B15 oc.dups.length q15), rfl, rfl, (hM.set HV15.out (by decide)).congr (fun i => by simp only [Bool.false_and, Bool.true_and, Bool.false_or]; ac_rfl), hZ.set 15 _, hF.set_only 15 none _⟩
        · skip
          obtain rfl : _ = o := Option.some.inj hi
          obtain rfl : d12 = false := by simpa using hun
          clear hun hdeps hi hlt
          go_simp
          exact hK _ _ ⟨d0, d1, d2, d3, d4, d5, d6, d7, d8, d9, d10, d11, true, d13, d14, d15, cs', rfl, rfl, hM, hZ, hF⟩
        · skip
          obtain rfl : _ = o := Option.some.inj hi
          obtain rfl : d13 = false := by simpa using hun
          obtain rfl : d12 = true := hdeps _ (Array.mem_of_getElem? (i := 0) rfl) rfl
          obtain rfl : d5 = true := hdeps _ (Array.mem_of_getElem? (i := 1) rfl) rfl
          obtain rfl : d11 = true := hdeps _ (Array.mem_of_getElem? (i := 2) rfl) rfl
          clear hun hdeps hi hlt
          have cz := hZ.cell 6
          have fz := hZ.frozen 6
          have fm := Array.getElem?_eq_getElem (xs := cs') (i := 6) (by rw [hM.size]; decide)
          rw [fm] at cz
          clear fm
          go_simp
          exact hK _ _ ⟨d0, d1, d2, d3, d4, true, d6, d7, d8, d9, d10, true, true, true, d14, d15, cs'.setIfInBounds 6 (.int .u16 oc.st), rfl, rfl, (hM.set HV6.out (by decide)).congr (fun i => by simp only [Bool.false_and, Bool.true_and, Bool.false_or]; ac_rfl), hZ.set 6 _, hF.set_only 6 none _⟩
        · skip
          obtain rfl : _ = o := Option.some.inj hi
          obtain rfl : d14 = false := by simpa using hun
          clear hun hdeps hi hlt
          go_simp
          exact hK _ _ ⟨d0, d1, d2, d3, d4, d5, d6, d7, d8, d9, d10, d11, d12, d13, true, d15, cs', rfl, rfl, hM, hZ, hF⟩
        · skip
          obtain rfl : _ = o := Option.some.inj hi
          obtain rfl : d15 = false := by simpa using hun
          obtain rfl : d14 = true := hdeps _ (Array.mem_of_getElem? (i := 0) rfl) rfl
          obtain rfl : d7 = true := hdeps _ (Array.mem_of_getElem? (i := 1) rfl) rfl
          obtain rfl : d13 = true := hdeps _ (Array.mem_of_getElem? (i := 2) rfl) rfl
          clear hun hdeps hi hlt
          have cz := hZ.cell 8
          have fz := hZ.frozen 8
          have fm := Array.getElem?_eq_getElem (xs := cs') (i := 8) (by rw [hM.size]; decide)
          rw [fm] at cz
          clear fm
          go_simp
          exact hK _ _ ⟨d0, d1, d2, d3, d4, d5, d6, true, d8, d9, d10, d11, d12, true, true, true, cs'.setIfInBounds 8 (.int .u32 oc.pp), rfl, rfl, (hM.set HV8.out (by decide)).congr (fun i => by simp only [Bool.false_and, Bool.true_and, Bool.false_or]; ac_rfl), hZ.set 8 _, hF.set_only 8 none _⟩
      · intro listed act wq hI hr0
        obtain ⟨d0, d1, d2, d3, d4, d5, d6, d7, d8, d9, d10, d11, d12, d13, d14, d15, cs', rfl, rfl, hM, hZ, hF⟩ := hI
        have hall := Reg.all_of_done (by kernel_rfl) rfl hr0
        obtain rfl : d0 = true := hall 0 (by decide)
        obtain rfl : d1 = true := hall 1 (by decide)
        obtain rfl : d2 = true := hall 2 (by decide)
        obtain rfl : d3 = true := hall 3 (by decide)
        obtain rfl : d4 = true := hall 4 (by decide)
        obtain rfl : d5 = true := hall 5 (by decide)
        obtain rfl : d6 = true := hall 6 (by decide)
        obtain rfl : d7 = true := hall 7 (by decide)
        obtain rfl : d8 = true := hall 8 (by decide)
        obtain rfl : d9 = true := hall 9 (by decide)
        obtain rfl : d10 = true := hall 10 (by decide)
        obtain rfl : d11 = true := hall 11 (by decide)
        obtain rfl : d12 = true := hall 12 (by decide)
        obtain rfl : d13 = true := hall 13 (by decide)
        obtain rfl : d14 = true := hall 14 (by decide)
        obtain rfl : d15 = true := hall 15 (by decide)
        clear hall hr0
        simp only [cond_true]
        replace hM := hM.congr (S' := fun i => if (strip c).k = 7 then i == 6 || (i == 18 || (i == 14 || i == 4)) else if (strip c).k = 11 ∨ (strip c).k = 8 then i == 5 || (i == 17 || i == 1) else if (strip c).k = 0 ∨ (strip c).k = 64 then i == 11 || (i == 16 || i == 15) else if (strip c).k = 3 then i == 18 || (i == 16 || i == 3) else i == 14 || (i == 15 || (i == 6 || i == 8))) (fun i => by rw [strip_k]; have := HKS.out; simp [this])
        have hs6 := hF.size
        have B8 := Bl.trans B7 (Bl.of_fr hF B7.size (fun k h => by have h9 : k = gK := h; omega))
        have CG9 := HCG2.out.fr hF (fun k h1 h2 h3 => by have h9 : k = gK := h3; omega)
        have CO9 := HOK.out.bl B8 (Nat.le_refl _)
        have B8s := B8.size
        have CKX := hM.v (CG9.more (Nat.zero_le w2.heap.size) (Nat.le_of_lt hZ.lt)) (CO9.more (Nat.le_refl 0) B8.size)
        rw [← bare_mix] at CKX
        obtain ⟨k1, k2⟩ := bare_same (o := oc) HE.out
        have CP2 := cput_calls _ _ cs' (bare (strip c) oc) wq CKX (Nat.le_refl _) (bare_b (strip_b HBD.out) HBO2.out) (bare_l (strip_l HLO.out.1) HLO.out.2)
        unfold PutC at CP2
        rw [cO_ok k2, k1, k2, HZS.out] at CP2
        have o9 := OwnB.fr HO6.out hF (fun k hk h => by have h9 : k = gK := h; subst h9; exact OwnB.ne HO6.out bG (by decide) hk)
        have HCP2 := Lib.hid CP2
        have hszM := hM.size
        have HO9 := Lib.hid o9
        clear CP2 k1 k2 CKX CG9 CO9 o9 HO6 hM
        go_upto_region 23 with fail
        refine wp_region_lit ?_
        refine wpList_plain rfl (fun K hK => ?_)
        refine Mem.oper_load rfl rfl hZ hup rfl (by rw [hszM]; kernel_rfl) ?_
        refine hK _ _ ?_
        clear hK K
        go_wp2_with fail
        refine HCP2.out.mono ?_
        rintro e w9 ⟨B9, A9, p9, rfl, o99⟩
        have kt1 : (convert 29 9 (.slice A9 zs.length p9)).run Try.prog w9 = .ok (.string (bstr zs)) w9 := slb_str (SlB.of_own o99)
        have kt2 : (convert 29 9 (.slice A zs.length p)).run Try.prog w9 = .ok (.string (bstr zs)) w9 := slb_str (SlB.of_own (OwnB.fr HO9.out (Fr.of_below (S := nothing) B9) (fun _ _ h => h)))
        have BB := Bl.trans B8 (Bl.low B9 B8.size)
        clear o99 HCP2 B8 B9 hZ bG
        go_wp2
        go_ret
        exact ⟨rfl, BB⟩
      · exact ⟨false, false, false, false, false, false, false, false, false, false, false, false, false, false, false, false, csQ, rfl, rfl, (Mix.refl Y szQ).congr (fun i => by simp), bG, (Fr.refl _ w6).drew⟩
    · rw [cO_bad hE] at CP
      have HCP := Lib.hid CP
      have hne : (cE c != 0) = true := by simpa using hE
      clear CP hs hE
      go_upto_region 5 with fail
      refine wp_region_lit ?_
      refine wpList_plain rfl (fun K hK => ?_)
      refine Mem.oper_load rfl rfl bC1 hup rfl (by rw [hsz]; kernel_rfl) ?_
      refine hK _ _ ?_
      clear hK K
      go_wp2_with fail
      refine HCP.out.mono ?_
      rintro e w2 ⟨B5, A, p, rfl, -⟩
      have B6 := Bl.trans B3 (Bl.low B5 B3.size)
      clear HCP
      go_wp2
      go_ret
      exact ⟨rfl, B6⟩
  · exact ⟨false, false, false, false, false, false, rfl, rfl, Bl.of_fr (Fr.refl nothing w0).drew (Nat.le_refl _) (fun k h => h.elim)⟩

end Go.Proofs.Ytaifihoheieneaa.ChunkBare
