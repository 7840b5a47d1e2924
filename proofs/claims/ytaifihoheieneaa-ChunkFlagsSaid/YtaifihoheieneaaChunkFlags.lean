/- The walk of flumelaw06.ChunkFlags: true for all chunks and flags. No conditions but the row's own. -/
import Derived.Test.YtaifihoheieneaaChkTop
namespace Go.Proofs.Ytaifihoheieneaa.ChunkFlags
open Go.RowKit Go.Proofs.Ytaifihoheieneaa.Mem Go.Proofs.Ytaifihoheieneaa.Octet Go.Proofs.Ytaifihoheieneaa.Prm Go.Proofs.Ytaifihoheieneaa.Chk
set_option linter.unusedVariables false
set_option linter.unusedSimpArgs false
set_option maxHeartbeats 4000000 in
set_option maxRecDepth 100000 in
theorem walk (cs : List Value) (f : Int) (w : World) (hsee : Sees Try.prog w 31 cs) (hfw : (Lit.int .u8 f).wf = true) :
    Calls Try.prog 6 #[.agg ⟨cs⟩, .int .u8 f] w fun e w' => e = .returned (.bool true) ∧ Below w.heap.size w w' := by
  obtain ⟨c, hC, hBd, -, -, -, hpl, -⟩ := ck_of_see hsee
  obtain ⟨X, hX⟩ : ∃ X, cs.toArray = X := ⟨_, rfl⟩
  rw [hX] at hC
  rw [show (Value.agg ⟨cs⟩) = .agg X by rw [← hX]]
  clear hX hsee
  have hfr := range_u8 f hfw
  clear hfw
  have hup := Try.underlying31
  have hsz := hC.size
  have HCK := Lib.hid hC
  have HBD := Lib.hid hBd
  have B0 : Below w.heap.size w (w.alloc (.cells X 31)) := (Below.refl _ w).alloc (Nat.le_refl _) _
  have bC := Blk.new w X 31
  clear hC hBd
  go_enter Try.func6, Try.ntmps6
  go_wp2_with fail
  refine (first_calls _).mono ?_
  rintro e w0 ⟨rfl, B1⟩
  have bC0 := bC.fr (Fr.of_below (S := nothing) B1) id
  have B2 := Bl.trans B0 (Bl.low B1 (by simp))
  clear B0 B1 bC
  go_upto_region 3 with fail
  refine wp_region_lit ?_
  refine wpList_plain rfl (fun K hK => ?_)
  refine Mem.oper_load rfl rfl bC0 hup rfl (by rw [hsz]; kernel_rfl) ?_
  refine hK _ _ ?_
  clear hK K
  go_wp2_with fail
  refine (size_calls _ _ _ c w0 (HCK.out.bl B2 (Nat.le_refl _)) B2.size hpl).mono ?_
  rintro e w1 ⟨rfl, B3⟩
  have bC1 := bC0.fr (Fr.of_below (S := nothing) B3) id
  have B4 := Bl.trans B2 (Bl.low B3 B2.size)
  clear bC0 B2 B3
  by_cases hs : 100000 < szC c
  · have hd : decide ((100000 : Int) < szC c) = true := decide_eq_true hs
    clear hs
    go_wp2
    go_ret
    exact ⟨rfl, B4⟩
  have hd : decide ((100000 : Int) < szC c) = false := decide_eq_false hs
  have hL := ckl_of (c := c) (by omega)
  have CP := cput_calls _ _ _ c w1 (HCK.out.bl B4 (Nat.le_refl _)) B4.size HBD.out hL
  unfold PutC at CP
  by_cases hE : cE c = 0
  · rw [cO_ok hE, hE] at CP
    have HCP := Lib.hid CP
    clear CP hs
    go_upto_region 5 with fail
    refine wp_region_lit ?_
    refine wpList_plain rfl (fun K hK => ?_)
    refine Mem.oper_load rfl rfl bC1 hup rfl (by rw [hsz]; kernel_rfl) ?_
    refine hK _ _ ?_
    clear hK K
    go_wp2_with fail
    refine HCP.out.mono ?_
    rintro e w2 ⟨B5, A, p, rfl, o⟩
    have bC2 := bC1.fr (Fr.of_below (S := nothing) B5) id
    have B6 := Bl.trans B4 (Bl.low B5 B4.size)
    have hlen : 4 ≤ (cB c).length := cB_len4
    have htop := cB_top hE
    obtain ⟨g, rfl, hg, -, hcs⟩ := own_row o (by omega)
    obtain ⟨k1, f1, o3⟩ := hcs 1 (by omega)
    have o3 := o3 f
    rw [cB_set] at o3
    have F3 : Fr (only g) w2 (w2.setCell ⟨g, 1, none⟩ (.int .u8 f)) := (Fr.refl _ _).set_only 1 none _
    have gX : w.heap.size ≠ g := by have := B4.size; have := bC1.lt; omega
    have bC3 := bC2.fr F3 gX
    have B7 := Bl.trans B6 (Bl.of_fr F3 B6.size (fun k h => by have h9 : k = g := h; have := B4.size; omega))
    have hkn := (cE_parts hE).1
    have hok := rOk_fl (got_ok HBD.out hE) f
    have hxl := (cE_parts hE).2.2
    have hgE := zz_got (f := f) hkn HBD.out.k hfr hxl []
    have hgC := zz_ck (f := f) hkn HBD.out.k hfr hxl []
    rw [List.append_nil, hok] at hgE
    rw [List.append_nil, hok] at hgC
    have hM : (cB c).length = (zz c.k f (bB c)).length := by rw [← cB_set, List.length_set]
    have hzi := isb_zz HBD.out.k hfr (isb_bB HBD.out)
    obtain ⟨M, hMM⟩ : ∃ M : Nat, (cB c).length = M := ⟨_, rfl⟩
    rw [hMM] at o3 hM hlen htop ⊢
    generalize (cB c)[1]'(by omega) = z1 at k1
    have hb1 : (1 : Int) < M := by omega
    have HO3 := Lib.hid o3
    have HH := Lib.hid (And.intro hgE (And.intro hgC (And.intro hM (And.intro hzi htop))))
    clear o3 hcs o F3 bC2 bC1 B6 B5 B4 HCP hgE hgC hM hzi htop hMM hok hxl hkn
    go_upto_region 9 with fail
    generalize w2.setCell ⟨g, 1, none⟩ (.int .u8 f) = w3 at *
    obtain ⟨hgE, hgC, hM, hzi, htop⟩ := HH.out
    have o3 := HO3.out
    have CG := cget_calls _ _ _ (zz c.k f (bB c)) w3 (SlB.of_own o3) (Nat.le_refl _) hzi (by rw [← hM]; omega)
    unfold GetC at CG
    obtain ⟨e1, e2, e3⟩ := f_bits' hfr
    have hCK := HBD.out.k
    clear HH HO3 hzi o3 k1 f1 hM
    cases hf : fOk c.k f with
    | true =>
      obtain ⟨hgN, hgCk⟩ := hgC hf
      rw [hgN, hgCk, hgE, hf, if_neg (by decide)] at CG
      clear hgN hgC hgE
      have HCG := Lib.hid CG
      clear CG
      refine wp_region_lit ?_
      refine wpList_plain rfl (fun K hK => ?_)
      go_simp
      refine hK _ _ ?_
      clear hK K
      -- HCG: the contract, hidden; w3: the world before; names out: bG block's fact, HCKG the chunk's facts (hidden), gK the block, w6 the world, F6 the frame
      refine wpList_plain rfl (fun K hK => ?_)
      go_simp
      go_at_call 18
      refine HCG.out.mono ?_
      rintro e wQ ⟨BQ, csQ, rfl, hckQ⟩
      simp only []
      refine hK _ _ ?_
      clear hK K HCG
      have szQ := hckQ.size
      have HCKG := Lib.hid hckQ
      clear hckQ
      refine wpList_plain rfl (fun K hK => ?_)
      go_simp
      refine hK _ _ ?_
      clear hK K
      refine wpList_plain rfl (fun K hK => ?_)
      go_simp
      refine hK _ _ ?_
      clear hK K
      refine wpList_plain rfl (fun K hK => ?_)
      go_simp
      refine hK _ _ ?_
      clear hK K
      refine wpList_plain rfl (fun K hK => ?_)
      go_simp
      refine hK _ _ ?_
      clear hK K
      refine wpList_plain rfl (fun K hK => ?_)
      go_simp
      refine hK _ _ ?_
      clear hK K
      refine wpList_plain rfl (fun K hK => ?_)
      refine Mem.oper_store (cs0 := #[.int .u8 0, .bool false, .bool false, .bool false, .bool false, .int .u32 0, .int .u16 0, .int .u32 0, .int .u32 0, .int .u32 0, .int .u32 0, .int .u32 0, .int .u16 0, .int .u16 0, .slice none 0 0, .slice none 0 0, .slice none 0 0, .slice none 0 0, .slice none 0 0]) (cs := csQ) rfl rfl rfl (Blk.new wQ #[.int .u8 0, .bool false, .bool false, .bool false, .bool false, .int .u32 0, .int .u16 0, .int .u32 0, .int .u32 0, .int .u32 0, .int .u32 0, .int .u32 0, .int .u16 0, .int .u16 0, .slice none 0 0, .slice none 0 0, .slice none 0 0, .slice none 0 0, .slice none 0 0] 31) (by rw [szQ]; kernel_rfl) (by rw [szQ]; rfl) HCKG.out.one ?_
      refine hK _ _ ?_
      clear hK K
      refine wpList_plain rfl (fun K hK => ?_)
      go_simp
      refine hK _ _ ?_
      clear hK K
      refine wpList_plain rfl (fun K hK => ?_)
      go_simp
      refine hK _ _ ?_
      clear hK K
      refine wpList_nil ?_
      have bG : Blk ((wQ.alloc (.cells #[.int .u8 0, .bool false, .bool false, .bool false, .bool false, .int .u32 0, .int .u16 0, .int .u32 0, .int .u32 0, .int .u32 0, .int .u32 0, .int .u32 0, .int .u16 0, .int .u16 0, .slice none 0 0, .slice none 0 0, .slice none 0 0, .slice none 0 0, .slice none 0 0] 31)).setRow wQ.heap.size csQ) wQ.heap.size 31 csQ := blk_row csQ (Blk.new wQ #[.int .u8 0, .bool false, .bool false, .bool false, .bool false, .int .u32 0, .int .u16 0, .int .u32 0, .int .u32 0, .int .u32 0, .int .u32 0, .int .u32 0, .int .u16 0, .int .u16 0, .slice none 0 0, .slice none 0 0, .slice none 0 0, .slice none 0 0, .slice none 0 0] 31)
      have fQ : Fr nothing wQ ((wQ.alloc (.cells #[.int .u8 0, .bool false, .bool false, .bool false, .bool false, .int .u32 0, .int .u16 0, .int .u32 0, .int .u32 0, .int .u32 0, .int .u32 0, .int .u32 0, .int .u16 0, .int .u16 0, .slice none 0 0, .slice none 0 0, .slice none 0 0, .slice none 0 0, .slice none 0 0] 31)).setRow wQ.heap.size csQ) := ((Fr.refl nothing wQ).alloc _).trans (fr_row wQ.heap.size csQ) (fun k hk h => by have h9 : k = wQ.heap.size := h; omega)
      have F6 : Fr nothing w3 ((wQ.alloc (.cells #[.int .u8 0, .bool false, .bool false, .bool false, .bool false, .int .u32 0, .int .u16 0, .int .u32 0, .int .u32 0, .int .u32 0, .int .u32 0, .int .u32 0, .int .u16 0, .int .u16 0, .slice none 0 0, .slice none 0 0, .slice none 0 0, .slice none 0 0, .slice none 0 0] 31)).setRow wQ.heap.size csQ) := (Fr.of_below (S := nothing) BQ).trans fQ (fun k _ h => h)
      have hsQ : w3.heap.size ≤ wQ.heap.size := BQ.size
      have htQ : wQ.heap.size < ((wQ.alloc (.cells #[.int .u8 0, .bool false, .bool false, .bool false, .bool false, .int .u32 0, .int .u16 0, .int .u32 0, .int .u32 0, .int .u32 0, .int .u32 0, .int .u32 0, .int .u16 0, .int .u16 0, .slice none 0 0, .slice none 0 0, .slice none 0 0, .slice none 0 0, .slice none 0 0] 31)).setRow wQ.heap.size csQ).heap.size := bG.lt
      generalize (wQ.alloc (.cells #[.int .u8 0, .bool false, .bool false, .bool false, .bool false, .int .u32 0, .int .u16 0, .int .u32 0, .int .u32 0, .int .u32 0, .int .u32 0, .int .u32 0, .int .u16 0, .int .u16 0, .slice none 0 0, .slice none 0 0, .slice none 0 0, .slice none 0 0, .slice none 0 0] 31)).setRow wQ.heap.size csQ = w6 at *
      generalize wQ.heap.size = gK at *
      clear BQ fQ
      have bC6 := bC3.fr F6 id
      have B9 := Bl.trans B7 (Bl.of_fr F6 B7.size (fun k h => h.elim))
      have ck := (bC6.cell 0).trans HCK.out.c0
      clear F6 bC3 B7
      have x1 := (bG.cell 1).trans HCKG.out.c1
      have x2 := (bG.cell 2).trans HCKG.out.c2
      have x3 := (bG.cell 3).trans HCKG.out.c3
      have x4 := (bG.cell 4).trans HCKG.out.c4
      clear bG bC6 HCKG
      by_cases h0 : c.k = 0
      · have h1 : (c.k == 0) = true := beq_iff_eq.2 h0
        have h8 : decide (f < 8) = true := by unfold fOk at hf; rwa [if_pos (.inl h0)] at hf
        obtain ⟨y2, y1, y3⟩ := rC_fl3 (f := f) (xs := bB c) (.inl h0)
        rw [y1] at x1
        rw [y2] at x2
        rw [y3] at x3
        clear y1 y2 y3 x4
        clear h0 hf
        go_wp2
        go_ret
        exact ⟨rfl, B9⟩
      have h1 : (c.k == 0) = false := beq_eq_false_iff_ne.2 h0
      have g0 := Lib.hid h0
      clear h0
      by_cases h0 : c.k = 64
      · have h2 : (c.k == 64) = true := beq_iff_eq.2 h0
        have h8 : decide (f < 8) = true := by unfold fOk at hf; rwa [if_pos (.inr h0)] at hf
        obtain ⟨y2, y1, y3⟩ := rC_fl3 (f := f) (xs := bB c) (.inr h0)
        rw [y1] at x1
        rw [y2] at x2
        rw [y3] at x3
        clear y1 y2 y3 x4
        clear h0 hf
        go_wp2
        go_ret
        exact ⟨rfl, B9⟩
      have h2 : (c.k == 64) = false := beq_eq_false_iff_ne.2 h0
      have g1 := Lib.hid h0
      clear h0 x1 x2 x3 e1 e2 e3
      by_cases h0 : c.k = 6
      · have h3 : (c.k == 6) = true := beq_iff_eq.2 h0
        have h8 : f < 2 := by unfold fOk at hf; rw [if_neg (by omega), if_pos (.inl h0)] at hf; exact of_decide_eq_true hf
        rw [rC_fl1 (.inl h0), flE_one hfr.1 h8] at x4
        replace h8 := decide_eq_true h8
        clear h0 hf
        go_wp2
        go_ret
        exact ⟨rfl, B9⟩
      have h3 : (c.k == 6) = false := beq_eq_false_iff_ne.2 h0
      have g2 := Lib.hid h0
      clear h0
      by_cases h0 : c.k = 14
      · have h4 : (c.k == 14) = true := beq_iff_eq.2 h0
        have h8 : f < 2 := by unfold fOk at hf; rw [if_neg (by omega), if_pos (.inr h0)] at hf; exact of_decide_eq_true hf
        rw [rC_fl1 (.inr h0), flE_one hfr.1 h8] at x4
        replace h8 := decide_eq_true h8
        clear h0 hf
        go_wp2
        go_ret
        exact ⟨rfl, B9⟩
      have h4 : (c.k == 14) = false := beq_eq_false_iff_ne.2 h0
      clear x4
      have h8 : (f == 0) = true := by unfold fOk at hf; have := g0.out; have := g1.out; have := g2.out; rw [if_neg (by omega), if_neg (by omega)] at hf; exact beq_iff_eq.2 (of_decide_eq_true hf)
      clear g0 g1 g2
      clear h0 hf
      go_wp2
      go_ret
      exact ⟨rfl, B9⟩
    | false =>
      rw [hgE, hf, if_pos rfl] at CG
      clear hgC hgE
      have HCG := Lib.hid CG
      clear CG
      refine wp_region_lit ?_
      refine wpList_plain rfl (fun K hK => ?_)
      go_simp
      refine hK _ _ ?_
      clear hK K
      -- HCG: the contract, hidden; w3: the world before; names out: bG block's fact, HCKG the chunk's facts (hidden), gK the block, w6 the world, F6 the frame
      refine wpList_plain rfl (fun K hK => ?_)
      go_simp
      go_at_call 18
      refine HCG.out.mono ?_
      rintro e wQ ⟨BQ, csQ, rfl, hckQ⟩
      simp only []
      refine hK _ _ ?_
      clear hK K HCG
      have szQ := hckQ.size
      have HCKG := Lib.hid hckQ
      clear hckQ
      refine wpList_plain rfl (fun K hK => ?_)
      go_simp
      refine hK _ _ ?_
      clear hK K
      refine wpList_plain rfl (fun K hK => ?_)
      go_simp
      refine hK _ _ ?_
      clear hK K
      refine wpList_plain rfl (fun K hK => ?_)
      go_simp
      refine hK _ _ ?_
      clear hK K
      refine wpList_plain rfl (fun K hK => ?_)
      go_simp
      refine hK _ _ ?_
      clear hK K
      refine wpList_plain rfl (fun K hK => ?_)
      go_simp
      refine hK _ _ ?_
      clear hK K
      refine wpList_plain rfl (fun K hK => ?_)
      refine Mem.oper_store (cs0 := #[.int .u8 0, .bool false, .bool false, .bool false, .bool false, .int .u32 0, .int .u16 0, .int .u32 0, .int .u32 0, .int .u32 0, .int .u32 0, .int .u32 0, .int .u16 0, .int .u16 0, .slice none 0 0, .slice none 0 0, .slice none 0 0, .slice none 0 0, .slice none 0 0]) (cs := csQ) rfl rfl rfl (Blk.new wQ #[.int .u8 0, .bool false, .bool false, .bool false, .bool false, .int .u32 0, .int .u16 0, .int .u32 0, .int .u32 0, .int .u32 0, .int .u32 0, .int .u32 0, .int .u16 0, .int .u16 0, .slice none 0 0, .slice none 0 0, .slice none 0 0, .slice none 0 0, .slice none 0 0] 31) (by rw [szQ]; kernel_rfl) (by rw [szQ]; rfl) HCKG.out.one ?_
      refine hK _ _ ?_
      clear hK K
      refine wpList_plain rfl (fun K hK => ?_)
      go_simp
      refine hK _ _ ?_
      clear hK K
      refine wpList_plain rfl (fun K hK => ?_)
      go_simp
      refine hK _ _ ?_
      clear hK K
      refine wpList_nil ?_
      have bG : Blk ((wQ.alloc (.cells #[.int .u8 0, .bool false, .bool false, .bool false, .bool false, .int .u32 0, .int .u16 0, .int .u32 0, .int .u32 0, .int .u32 0, .int .u32 0, .int .u32 0, .int .u16 0, .int .u16 0, .slice none 0 0, .slice none 0 0, .slice none 0 0, .slice none 0 0, .slice none 0 0] 31)).setRow wQ.heap.size csQ) wQ.heap.size 31 csQ := blk_row csQ (Blk.new wQ #[.int .u8 0, .bool false, .bool false, .bool false, .bool false, .int .u32 0, .int .u16 0, .int .u32 0, .int .u32 0, .int .u32 0, .int .u32 0, .int .u32 0, .int .u16 0, .int .u16 0, .slice none 0 0, .slice none 0 0, .slice none 0 0, .slice none 0 0, .slice none 0 0] 31)
      have fQ : Fr nothing wQ ((wQ.alloc (.cells #[.int .u8 0, .bool false, .bool false, .bool false, .bool false, .int .u32 0, .int .u16 0, .int .u32 0, .int .u32 0, .int .u32 0, .int .u32 0, .int .u32 0, .int .u16 0, .int .u16 0, .slice none 0 0, .slice none 0 0, .slice none 0 0, .slice none 0 0, .slice none 0 0] 31)).setRow wQ.heap.size csQ) := ((Fr.refl nothing wQ).alloc _).trans (fr_row wQ.heap.size csQ) (fun k hk h => by have h9 : k = wQ.heap.size := h; omega)
      have F6 : Fr nothing w3 ((wQ.alloc (.cells #[.int .u8 0, .bool false, .bool false, .bool false, .bool false, .int .u32 0, .int .u16 0, .int .u32 0, .int .u32 0, .int .u32 0, .int .u32 0, .int .u32 0, .int .u16 0, .int .u16 0, .slice none 0 0, .slice none 0 0, .slice none 0 0, .slice none 0 0, .slice none 0 0] 31)).setRow wQ.heap.size csQ) := (Fr.of_below (S := nothing) BQ).trans fQ (fun k _ h => h)
      have hsQ : w3.heap.size ≤ wQ.heap.size := BQ.size
      have htQ : wQ.heap.size < ((wQ.alloc (.cells #[.int .u8 0, .bool false, .bool false, .bool false, .bool false, .int .u32 0, .int .u16 0, .int .u32 0, .int .u32 0, .int .u32 0, .int .u32 0, .int .u32 0, .int .u16 0, .int .u16 0, .slice none 0 0, .slice none 0 0, .slice none 0 0, .slice none 0 0, .slice none 0 0] 31)).setRow wQ.heap.size csQ).heap.size := bG.lt
      generalize (wQ.alloc (.cells #[.int .u8 0, .bool false, .bool false, .bool false, .bool false, .int .u32 0, .int .u16 0, .int .u32 0, .int .u32 0, .int .u32 0, .int .u32 0, .int .u32 0, .int .u16 0, .int .u16 0, .slice none 0 0, .slice none 0 0, .slice none 0 0, .slice none 0 0, .slice none 0 0] 31)).setRow wQ.heap.size csQ = w6 at *
      generalize wQ.heap.size = gK at *
      clear BQ fQ
      have bC6 := bC3.fr F6 id
      have B9 := Bl.trans B7 (Bl.of_fr F6 B7.size (fun k h => h.elim))
      have ck := (bC6.cell 0).trans HCK.out.c0
      clear F6 bC3 B7
      clear bG bC6 HCKG e1 e2 e3
      by_cases h0 : c.k = 0
      · have h1 : (c.k == 0) = true := beq_iff_eq.2 h0
        have h8 : decide (f < 8) = false := by unfold fOk at hf; rwa [if_pos (.inl h0)] at hf
        clear h0 hf
        go_wp2
        go_ret
        exact ⟨rfl, B9⟩
      have h1 : (c.k == 0) = false := beq_eq_false_iff_ne.2 h0
      have g0 := Lib.hid h0
      clear h0
      by_cases h0 : c.k = 64
      · have h2 : (c.k == 64) = true := beq_iff_eq.2 h0
        have h8 : decide (f < 8) = false := by unfold fOk at hf; rwa [if_pos (.inr h0)] at hf
        clear h0 hf
        go_wp2
        go_ret
        exact ⟨rfl, B9⟩
      have h2 : (c.k == 64) = false := beq_eq_false_iff_ne.2 h0
      have g1 := Lib.hid h0
      clear h0
      by_cases h0 : c.k = 6
      · have h3 : (c.k == 6) = true := beq_iff_eq.2 h0
        have h8 : decide (f < 2) = false := by unfold fOk at hf; rwa [if_neg (by omega), if_pos (.inl h0)] at hf
        clear h0 hf
        go_wp2
        go_ret
        exact ⟨rfl, B9⟩
      have h3 : (c.k == 6) = false := beq_eq_false_iff_ne.2 h0
      have g2 := Lib.hid h0
      clear h0
      by_cases h0 : c.k = 14
      · have h4 : (c.k == 14) = true := beq_iff_eq.2 h0
        have h8 : decide (f < 2) = false := by unfold fOk at hf; rwa [if_neg (by omega), if_pos (.inr h0)] at hf
        clear h0 hf
        go_wp2
        go_ret
        exact ⟨rfl, B9⟩
      have h4 : (c.k == 14) = false := beq_eq_false_iff_ne.2 h0
      have h8 : (f == 0) = false := by unfold fOk at hf; have := g0.out; have := g1.out; have := g2.out; rw [if_neg (by omega), if_neg (by omega)] at hf; exact beq_eq_false_iff_ne.2 (of_decide_eq_false hf)
      clear g0 g1 g2
      clear h0 hf
      go_wp2
      go_ret
      exact ⟨rfl, B9⟩
  · rw [cO_bad hE] at CP
    have HCP := Lib.hid CP
    have hne : (cE c != 0) = true := by simpa using hE
    clear CP hs hE
    go_upto_region 5 with fail
    refine wp_region_lit ?_
    refine wpList_plain rfl (fun K hK => ?_)
    refine Mem.oper_load rfl rfl bC1 hup rfl (by rw [hsz]; kernel_rfl) ?_
    refine hK _ _ ?_
    clear hK K
    go_wp2_with fail
    refine HCP.out.mono ?_
    rintro e w2 ⟨B5, A, p, rfl, -⟩
    have B6 := Bl.trans B4 (Bl.low B5 B4.size)
    clear HCP
    go_wp2
    go_ret
    exact ⟨rfl, B6⟩
end Go.Proofs.Ytaifihoheieneaa.ChunkFlags
