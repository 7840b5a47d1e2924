/- The walk of flumelaw06.ChunkCuts: true for all chunks. No conditions but the row's own. -/
import Derived.Test.YtaifihoheieneaaChkTop
namespace Go.Proofs.Ytaifihoheieneaa.ChunkCuts
open Go.RowKit Go.Proofs.Ytaifihoheieneaa.Mem Go.Proofs.Ytaifihoheieneaa.Octet Go.Proofs.Ytaifihoheieneaa.Prm Go.Proofs.Ytaifihoheieneaa.Chk
set_option linter.unusedVariables false
set_option linter.unusedSimpArgs false
theorem two_rd (w : World) (x : Int) : RdB (w.alloc (.cells #[.int .u8 x, .int .u8 x] 5)) 0 (w.heap.size + 1) (some ⟨w.heap.size, 0, none⟩) [x, x] := by
  obtain ⟨A, c, e, -, -, -, r⟩ := lit_slb w #[.int .u8 x, .int .u8 x] (0, 0) [x, x] (by simp) (by simp [maxLen]) (by
    intro i hi
    match i, hi with
    | 0, _ => rfl
    | 1, _ => rfl)
  injection e with e1 e2 e3
  rw [e1]
  exact r
theorem get_more {c : Ck} (hB : CkB c) (hE : cE c = 0) (more : List Int) : gE (cB c ++ more) = 0 ∧ gN (cB c ++ more) = (cB c).length ∧ (gCk (cB c ++ more)).k = c.k := by
  have hok := got_ok hB hE
  obtain ⟨h1, h2⟩ := put_long hB hE more hok
  refine ⟨?_, h1, ?_⟩
  · rw [put_got hB hE, hok]; rfl
  · rw [h2]; exact rC_k _ _ _
set_option maxHeartbeats 4000000 in
set_option maxRecDepth 100000 in
theorem walk (cs : List Value) (at' more : Int) (w : World) (hsee : Sees Try.prog w 31 cs) (haw : (Lit.int .i64 at').wf = true) (hmw : (Lit.int .u8 more).wf = true) :
    Calls Try.prog 5 #[.agg ⟨cs⟩, .int .i64 at', .int .u8 more] w fun e w' => e = .returned (.bool true) ∧ Below w.heap.size w w' := by
  obtain ⟨c, hC, hBd, -, -, -, hpl, -⟩ := ck_of_see hsee
  obtain ⟨X, hX⟩ : ∃ X, cs.toArray = X := ⟨_, rfl⟩
  rw [hX] at hC
  rw [show (Value.agg ⟨cs⟩) = .agg X by rw [← hX]]
  clear hX hsee
  have hmr := range_u8 more hmw
  clear hmw haw
  have hup := Try.underlying31
  have hsz := hC.size
  have HCK := Lib.hid hC
  have HBD := Lib.hid hBd
  have B0 : Below w.heap.size w (w.alloc (.cells X 31)) := (Below.refl _ w).alloc (Nat.le_refl _) _
  have bC := Blk.new w X 31
  clear hC hBd
  go_enter Try.func5, Try.ntmps5
  go_wp2_with fail
  refine (first_calls _).mono ?_
  rintro e w0 ⟨rfl, B1⟩
  have bC0 := bC.fr (Fr.of_below (S := nothing) B1) id
  have B2 := Bl.trans B0 (Bl.low B1 (by simp))
  clear B0 B1 bC
  go_upto_region 3 with fail
  refine wp_region_lit ?_
  refine wpList_plain rfl (fun K hK => ?_)
  refine Mem.oper_load rfl rfl bC0 hup rfl (by rw [hsz]; kernel_rfl) ?_
  refine hK _ _ ?_
  clear hK K
  go_wp2_with fail
  refine (size_calls _ _ _ c w0 (HCK.out.bl B2 (Nat.le_refl _)) B2.size hpl).mono ?_
  rintro e w1 ⟨rfl, B3⟩
  have bC1 := bC0.fr (Fr.of_below (S := nothing) B3) id
  have B4 := Bl.trans B2 (Bl.low B3 B2.size)
  clear bC0 B2 B3
  by_cases hs : 100000 < szC c
  · have hd : decide ((100000 : Int) < szC c) = true := decide_eq_true hs
    clear hs
    go_wp2
    go_ret
    exact ⟨rfl, B4⟩
  have hd : decide ((100000 : Int) < szC c) = false := decide_eq_false hs
  have hL := ckl_of (c := c) (by omega)
  have CP := cput_calls _ _ _ c w1 (HCK.out.bl B4 (Nat.le_refl _)) B4.size HBD.out hL
  unfold PutC at CP
  by_cases hE : cE c = 0
  · rw [cO_ok hE, hE] at CP
    have HCP := Lib.hid CP
    clear CP hs
    go_upto_region 5 with fail
    refine wp_region_lit ?_
    refine wpList_plain rfl (fun K hK => ?_)
    refine Mem.oper_load rfl rfl bC1 hup rfl (by rw [hsz]; kernel_rfl) ?_
    refine hK _ _ ?_
    clear hK K
    go_wp2_with fail
    refine HCP.out.mono ?_
    rintro e w2 ⟨B5, A, p, rfl, o⟩
    have bC2 := bC1.fr (Fr.of_below (S := nothing) B5) id
    have B6 := Bl.trans B4 (Bl.low B5 B4.size)
    have hlen : 4 ≤ (cB c).length := cB_len4
    have htop := cB_top hE
    have IB := isb_cB HBD.out
    have HCUT := Lib.hid (fun j (hj : j < (cB c).length) => put_cut hE hj)
    have HMORE := Lib.hid (fun more => get_more HBD.out hE more)
    clear HCP bC1 B4 B5 hE
    generalize cB c = bs at *
    obtain ⟨j, hj, hjv⟩ : ∃ j : Nat, j < bs.length ∧ IntKind.i64.wrap ((IntKind.u64.wrap at').tmod (bs.length : Int)) = (j : Int) := by
      have e : IntKind.u64.wrap at' = at' % 18446744073709551616 := by simp [IntKind.wrap, IntKind.bits, IntKind.signed]
      rw [e, Int.tmod_eq_emod_of_nonneg (by omega)]
      have h2 := Int.emod_nonneg (at' % 18446744073709551616) (show (bs.length : Int) ≠ 0 by omega)
      have h3 := Int.emod_lt_of_pos (at' % 18446744073709551616) (show (0 : Int) < bs.length by omega)
      rw [IntWalk.i64_in _ (by omega)]
      exact ⟨((at' % 18446744073709551616) % (bs.length : Int)).toNat, by omega, by omega⟩
    have hz : ¬ bs = [] := fun h => by rw [h] at hlen; simp at hlen
    have hu : IntKind.u64.wrap (bs.length : Int) = bs.length := by simp [IntKind.wrap, IntKind.bits, IntKind.signed]; omega
    have S0 := SlB.of_own o
    obtain ⟨A', c', e, q1, q2, q3, q4⟩ := S0
    injection e with ea eb ec
    subst ea; subst ec
    have SC : SlB w2 w1.heap.size w2.heap.size (.slice A j p) (bs.take j) := ⟨A, p, by rw [List.length_take, Nat.min_eq_left (by omega)], by rw [List.length_take]; omega, q2, q3, q4.take j⟩
    have CG := cget_calls _ _ _ _ w2 SC (Nat.le_refl _) (isb_take IB j) (by rw [List.length_take]; omega)
    unfold GetC at CG
    have e40 := HCUT.out j hj
    rw [e40, gN_bad (by rw [e40]; decide)] at CG
    have HCG := Lib.hid CG
    have HO := Lib.hid o
    have HIB := Lib.hid IB
    have hjc : (j : Int) ≤ p := by omega
    clear CG SC e40 o q3 q4 IB q1 eb
    go_upto_region 8 with fail
    refine wp_region_lit ?_
    refine wpList_plain rfl (fun K hK => ?_)
    go_simp
    refine hK _ _ ?_
    clear hK K
    refine wpList_plain rfl (fun K hK => ?_)
    go_simp
    refine hK _ _ ?_
    clear hK K
    refine wpList_plain rfl (fun K hK => ?_)
    go_simp
    refine hK _ _ ?_
    clear hK K
    refine wpList_plain rfl (fun K hK => ?_)
    go_simp
    refine hK _ _ ?_
    clear hK K
    refine wpList_plain rfl (fun K hK => ?_)
    go_simp
    refine hK _ _ ?_
    clear hK K
    refine wpList_plain rfl (fun K hK => ?_)
    go_simp
    refine hK _ _ ?_
    clear hK K
    refine wpList_plain rfl (fun K hK => ?_)
    go_simp
    refine hK _ _ ?_
    clear hK K
    refine wpList_plain rfl (fun K hK => ?_)
    go_simp
    refine hK _ _ ?_
    clear hK K
    refine wpList_plain rfl (fun K hK => ?_)
    go_simp
    refine hK _ _ ?_
    clear hK K
    -- HCG: the contract, hidden; w2: the world before; names out: bY block's fact, HY the chunk's facts (hidden), gY the block, w3 the world, F3 the frame
    refine wpList_plain rfl (fun K hK => ?_)
    go_simp
    go_at_call 18
    refine HCG.out.mono ?_
    rintro e wQ ⟨BQ, csQ, rfl, hckQ⟩
    simp only []
    refine hK _ _ ?_
    clear hK K HCG
    have szQ := hckQ.size
    have HY := Lib.hid hckQ
    clear hckQ
    refine wpList_plain rfl (fun K hK => ?_)
    go_simp
    refine hK _ _ ?_
    clear hK K
    refine wpList_plain rfl (fun K hK => ?_)
    go_simp
    refine hK _ _ ?_
    clear hK K
    refine wpList_plain rfl (fun K hK => ?_)
    go_simp
    refine hK _ _ ?_
    clear hK K
    refine wpList_plain rfl (fun K hK => ?_)
    go_simp
    refine hK _ _ ?_
    clear hK K
    refine wpList_plain rfl (fun K hK => ?_)
    go_simp
    refine hK _ _ ?_
    clear hK K
    refine wpList_plain rfl (fun K hK => ?_)
    refine Mem.oper_store (cs0 := #[.int .u8 0, .bool false, .bool false, .bool false, .bool false, .int .u32 0, .int .u16 0, .int .u32 0, .int .u32 0, .int .u32 0, .int .u32 0, .int .u32 0, .int .u16 0, .int .u16 0, .slice none 0 0, .slice none 0 0, .slice none 0 0, .slice none 0 0, .slice none 0 0]) (cs := csQ) rfl rfl rfl (Blk.new wQ #[.int .u8 0, .bool false, .bool false, .bool false, .bool false, .int .u32 0, .int .u16 0, .int .u32 0, .int .u32 0, .int .u32 0, .int .u32 0, .int .u32 0, .int .u16 0, .int .u16 0, .slice none 0 0, .slice none 0 0, .slice none 0 0, .slice none 0 0, .slice none 0 0] 31) (by rw [szQ]; kernel_rfl) (by rw [szQ]; rfl) HY.out.one ?_
    refine hK _ _ ?_
    clear hK K
    refine wpList_plain rfl (fun K hK => ?_)
    go_simp
    refine hK _ _ ?_
    clear hK K
    refine wpList_plain rfl (fun K hK => ?_)
    go_simp
    refine hK _ _ ?_
    clear hK K
    refine wpList_nil ?_
    have bY : Blk ((wQ.alloc (.cells #[.int .u8 0, .bool false, .bool false, .bool false, .bool false, .int .u32 0, .int .u16 0, .int .u32 0, .int .u32 0, .int .u32 0, .int .u32 0, .int .u32 0, .int .u16 0, .int .u16 0, .slice none 0 0, .slice none 0 0, .slice none 0 0, .slice none 0 0, .slice none 0 0] 31)).setRow wQ.heap.size csQ) wQ.heap.size 31 csQ := blk_row csQ (Blk.new wQ #[.int .u8 0, .bool false, .bool false, .bool false, .bool false, .int .u32 0, .int .u16 0, .int .u32 0, .int .u32 0, .int .u32 0, .int .u32 0, .int .u32 0, .int .u16 0, .int .u16 0, .slice none 0 0, .slice none 0 0, .slice none 0 0, .slice none 0 0, .slice none 0 0] 31)
    have fQ : Fr nothing wQ ((wQ.alloc (.cells #[.int .u8 0, .bool false, .bool false, .bool false, .bool false, .int .u32 0, .int .u16 0, .int .u32 0, .int .u32 0, .int .u32 0, .int .u32 0, .int .u32 0, .int .u16 0, .int .u16 0, .slice none 0 0, .slice none 0 0, .slice none 0 0, .slice none 0 0, .slice none 0 0] 31)).setRow wQ.heap.size csQ) := ((Fr.refl nothing wQ).alloc _).trans (fr_row wQ.heap.size csQ) (fun k hk h => by have h9 : k = wQ.heap.size := h; omega)
    have F3 : Fr nothing w2 ((wQ.alloc (.cells #[.int .u8 0, .bool false, .bool false, .bool false, .bool false, .int .u32 0, .int .u16 0, .int .u32 0, .int .u32 0, .int .u32 0, .int .u32 0, .int .u32 0, .int .u16 0, .int .u16 0, .slice none 0 0, .slice none 0 0, .slice none 0 0, .slice none 0 0, .slice none 0 0] 31)).setRow wQ.heap.size csQ) := (Fr.of_below (S := nothing) BQ).trans fQ (fun k _ h => h)
    have hsQ : w2.heap.size ≤ wQ.heap.size := BQ.size
    have htQ : wQ.heap.size < ((wQ.alloc (.cells #[.int .u8 0, .bool false, .bool false, .bool false, .bool false, .int .u32 0, .int .u16 0, .int .u32 0, .int .u32 0, .int .u32 0, .int .u32 0, .int .u32 0, .int .u16 0, .int .u16 0, .slice none 0 0, .slice none 0 0, .slice none 0 0, .slice none 0 0, .slice none 0 0] 31)).setRow wQ.heap.size csQ).heap.size := bY.lt
    generalize (wQ.alloc (.cells #[.int .u8 0, .bool false, .bool false, .bool false, .bool false, .int .u32 0, .int .u16 0, .int .u32 0, .int .u32 0, .int .u32 0, .int .u32 0, .int .u32 0, .int .u16 0, .int .u16 0, .slice none 0 0, .slice none 0 0, .slice none 0 0, .slice none 0 0, .slice none 0 0] 31)).setRow wQ.heap.size csQ = w3 at *
    generalize wQ.heap.size = gY at *
    clear BQ fQ
    have bC3 := bC2.fr F3 id
    have B7 := Bl.trans B6 (Bl.of_fr F3 B6.size (fun k h => h.elim))
    have o3 := OwnB.fr HO.out F3 (fun _ _ h => h)
    obtain ⟨A3, c3, e3, -, -, -, rd⟩ := SlB.of_own o3
    injection e3 with e31 e32 e33
    subst e31; subst e33
    clear e32 F3 B6 bC2 HO hjc hz hu hjv hj HCUT bY HY
    have own0 : (w3.alloc (.cells #[] 5)).ownsRow w3.heap.size 5 1 (.slice (some ⟨w3.heap.size, 0, none⟩) 0 0) ([] : List Int).length (byts []) :=
      ⟨rfl, .inr ⟨w3.heap.size, 0, #[], rfl, Nat.le_refl _, heap_alloc_new w3 _, Nat.le_refl _, Nat.zero_le _, rfl, rfl⟩⟩
    have rE := RdB.fr (S := nothing) rd ((Fr.refl _ w3).alloc (.cells #[] 5)) (fun _ _ _ h => h)
    have hapl : ([] : List Int).length + bs.length ≤ 140737488355328 := by simp; omega
    have hapl2 : bs.length + [more, more].length ≤ 140737488355328 := by simp; omega
    have hbw : w3.heap.size ≤ (w3.alloc (.cells #[] 5)).heap.size := by simp
    obtain ⟨ib, hib, hbz0, hbz1, hbz2⟩ := info_parts info_b
    go_upto_region 9 with fail
    refine wp_region_lit ?_
    refine wpList_plain rfl (fun K hK => ?_)
    go_simp
    refine hK _ _ ?_
    clear hK K
    refine wpList_plain rfl (fun K hK => ?_)
    go_simp
    refine hK _ _ ?_
    clear hK K
    refine wpList_append_b _ rfl (.tmp 42) (.tmp 43) _ rfl w3.heap.size 5 ib Try.underlying29 hib hbz0 hbz1 hbz2 _ [] rfl own0 _ _ _ _ _ bs rfl rfl rE hapl hbw ?_
    intro v1 wA hown hg hat
    have o1 : OwnB wA w3.heap.size 5 v1 bs := hown
    have BA := ((Below.refl w3.heap.size w3).alloc (Nat.le_refl _) (.cells #[] 5)).grown hg (by simp) (fun k hk => by have hk' : some w3.heap.size = some k := hk; injection hk' with hk'; omega)
    obtain ⟨B1s, c1s, rfl, -, -⟩ := OwnB.slice o1
    have o1' := OwnB.fr (S := nothing) o1 ((Fr.refl _ wA).alloc (.cells #[.int .u8 more, .int .u8 more] 5)) (fun _ _ h => h)
    have RM := two_rd wA more
    have hwA : w3.heap.size ≤ (wA.alloc (.cells #[.int .u8 more, .int .u8 more] 5)).heap.size := Nat.le_trans BA.size (by simp)
    clear hown hg hat own0 rE o1 o3 rd hapl hbw
    refine wpList_plain rfl (fun K hK => ?_)
    go_simp
    refine hK _ _ ?_
    clear hK K
    refine wpList_plain rfl (fun K hK => ?_)
    go_simp
    refine hK _ _ ?_
    clear hK K
    refine wpList_plain rfl (fun K hK => ?_)
    go_simp
    refine hK _ _ ?_
    clear hK K
    refine wpList_append_b _ rfl (.tmp 44) (.tmp 47) _ rfl w3.heap.size 5 ib Try.underlying29 hib hbz0 hbz1 hbz2 _ bs rfl o1' 0 (wA.heap.size + 1) _ _ _ [more, more] rfl rfl RM hapl2 hwA ?_
    intro v2 wB hown hg hat
    have o2 : OwnB wB w3.heap.size 5 v2 (bs ++ [more, more]) := hown
    have BB := Bl.trans BA (Bl.of_fr (Fr.grown (S := fun k => w3.heap.size ≤ k) ((Fr.refl _ wA).alloc (.cells #[.int .u8 more, .int .u8 more] 5)) hg (fun k hk => .inl (OwnB.ge o1' k hk))) BA.size (fun k hk => hk))
    obtain ⟨B2s, c2s, rfl, -, -⟩ := OwnB.slice o2
    clear hown hg hat o1' RM hwA BA
    have B8 := Bl.trans B7 (Bl.low BB B7.size)
    have bC8 := bC3.fr (Fr.of_below (S := nothing) BB) id
    have CG := cget_calls _ _ _ _ wB (SlB.of_own o2) (Nat.le_refl _) (isb_app HIB.out (fun x hx => by
      simp only [List.mem_cons, List.not_mem_nil, or_false, or_self] at hx; rw [hx]; exact hmr)) (by simp; omega)
    unfold GetC at CG
    obtain ⟨g1, g2, g3⟩ := HMORE.out [more, more]
    rw [g1, g2, show (bs ++ [more, more]).length = bs.length + 2 by simp] at CG
    have HCG := Lib.hid CG
    have HG3 := Lib.hid g3
    clear CG g1 g2 g3 o2 BB B7 bC3 HMORE HIB
    -- HCG: the contract, hidden; wB: the world before; names out: bZ block's fact, HZ the chunk's facts (hidden), gZ the block, w9 the world, F9 the frame
    refine wpList_plain rfl (fun K hK => ?_)
    go_simp
    go_at_call 18
    refine HCG.out.mono ?_
    rintro e wQ ⟨BQ, csQ, rfl, hckQ⟩
    simp only []
    refine hK _ _ ?_
    clear hK K HCG
    have szQ := hckQ.size
    have HZ := Lib.hid hckQ
    clear hckQ
    refine wpList_plain rfl (fun K hK => ?_)
    go_simp
    refine hK _ _ ?_
    clear hK K
    refine wpList_plain rfl (fun K hK => ?_)
    go_simp
    refine hK _ _ ?_
    clear hK K
    refine wpList_plain rfl (fun K hK => ?_)
    go_simp
    refine hK _ _ ?_
    clear hK K
    refine wpList_plain rfl (fun K hK => ?_)
    go_simp
    refine hK _ _ ?_
    clear hK K
    refine wpList_plain rfl (fun K hK => ?_)
    go_simp
    refine hK _ _ ?_
    clear hK K
    refine wpList_plain rfl (fun K hK => ?_)
    refine Mem.oper_store (cs0 := #[.int .u8 0, .bool false, .bool false, .bool false, .bool false, .int .u32 0, .int .u16 0, .int .u32 0, .int .u32 0, .int .u32 0, .int .u32 0, .int .u32 0, .int .u16 0, .int .u16 0, .slice none 0 0, .slice none 0 0, .slice none 0 0, .slice none 0 0, .slice none 0 0]) (cs := csQ) rfl rfl rfl (Blk.new wQ #[.int .u8 0, .bool false, .bool false, .bool false, .bool false, .int .u32 0, .int .u16 0, .int .u32 0, .int .u32 0, .int .u32 0, .int .u32 0, .int .u32 0, .int .u16 0, .int .u16 0, .slice none 0 0, .slice none 0 0, .slice none 0 0, .slice none 0 0, .slice none 0 0] 31) (by rw [szQ]; kernel_rfl) (by rw [szQ]; rfl) HZ.out.one ?_
    refine hK _ _ ?_
    clear hK K
    refine wpList_plain rfl (fun K hK => ?_)
    go_simp
    refine hK _ _ ?_
    clear hK K
    refine wpList_plain rfl (fun K hK => ?_)
    go_simp
    refine hK _ _ ?_
    clear hK K
    refine wpList_nil ?_
    have bZ : Blk ((wQ.alloc (.cells #[.int .u8 0, .bool false, .bool false, .bool false, .bool false, .int .u32 0, .int .u16 0, .int .u32 0, .int .u32 0, .int .u32 0, .int .u32 0, .int .u32 0, .int .u16 0, .int .u16 0, .slice none 0 0, .slice none 0 0, .slice none 0 0, .slice none 0 0, .slice none 0 0] 31)).setRow wQ.heap.size csQ) wQ.heap.size 31 csQ := blk_row csQ (Blk.new wQ #[.int .u8 0, .bool false, .bool false, .bool false, .bool false, .int .u32 0, .int .u16 0, .int .u32 0, .int .u32 0, .int .u32 0, .int .u32 0, .int .u32 0, .int .u16 0, .int .u16 0, .slice none 0 0, .slice none 0 0, .slice none 0 0, .slice none 0 0, .slice none 0 0] 31)
    have fQ : Fr nothing wQ ((wQ.alloc (.cells #[.int .u8 0, .bool false, .bool false, .bool false, .bool false, .int .u32 0, .int .u16 0, .int .u32 0, .int .u32 0, .int .u32 0, .int .u32 0, .int .u32 0, .int .u16 0, .int .u16 0, .slice none 0 0, .slice none 0 0, .slice none 0 0, .slice none 0 0, .slice none 0 0] 31)).setRow wQ.heap.size csQ) := ((Fr.refl nothing wQ).alloc _).trans (fr_row wQ.heap.size csQ) (fun k hk h => by have h9 : k = wQ.heap.size := h; omega)
    have F9 : Fr nothing wB ((wQ.alloc (.cells #[.int .u8 0, .bool false, .bool false, .bool false, .bool false, .int .u32 0, .int .u16 0, .int .u32 0, .int .u32 0, .int .u32 0, .int .u32 0, .int .u32 0, .int .u16 0, .int .u16 0, .slice none 0 0, .slice none 0 0, .slice none 0 0, .slice none 0 0, .slice none 0 0] 31)).setRow wQ.heap.size csQ) := (Fr.of_below (S := nothing) BQ).trans fQ (fun k _ h => h)
    have hsQ : wB.heap.size ≤ wQ.heap.size := BQ.size
    have htQ : wQ.heap.size < ((wQ.alloc (.cells #[.int .u8 0, .bool false, .bool false, .bool false, .bool false, .int .u32 0, .int .u16 0, .int .u32 0, .int .u32 0, .int .u32 0, .int .u32 0, .int .u32 0, .int .u16 0, .int .u16 0, .slice none 0 0, .slice none 0 0, .slice none 0 0, .slice none 0 0, .slice none 0 0] 31)).setRow wQ.heap.size csQ).heap.size := bZ.lt
    generalize (wQ.alloc (.cells #[.int .u8 0, .bool false, .bool false, .bool false, .bool false, .int .u32 0, .int .u16 0, .int .u32 0, .int .u32 0, .int .u32 0, .int .u32 0, .int .u32 0, .int .u16 0, .int .u16 0, .slice none 0 0, .slice none 0 0, .slice none 0 0, .slice none 0 0, .slice none 0 0] 31)).setRow wQ.heap.size csQ = w9 at *
    generalize wQ.heap.size = gZ at *
    clear BQ fQ
    have bC9 := bC8.fr F9 id
    have B9 := Bl.trans B8 (Bl.of_fr F9 B8.size (fun k h => h.elim))
    have ck := (bC9.cell 0).trans HCK.out.c0
    have cz := (bZ.cell 0).trans HZ.out.c0
    rw [HG3.out] at cz
    clear bZ HZ bC9 bC8 F9 B8 HG3 hlen htop
    go_wp2
    go_ret
    exact ⟨rfl, B9⟩
  · rw [cO_bad hE] at CP
    have HCP := Lib.hid CP
    have hne : (cE c != 0) = true := by simpa using hE
    clear CP hs hE
    go_upto_region 5 with fail
    refine wp_region_lit ?_
    refine wpList_plain rfl (fun K hK => ?_)
    refine Mem.oper_load rfl rfl bC1 hup rfl (by rw [hsz]; kernel_rfl) ?_
    refine hK _ _ ?_
    clear hK K
    go_wp2_with fail
    refine HCP.out.mono ?_
    rintro e w2 ⟨B5, A, p, rfl, -⟩
    have B6 := Bl.trans B4 (Bl.low B5 B4.size)
    clear HCP
    go_wp2
    go_ret
    exact ⟨rfl, B6⟩
end Go.Proofs.Ytaifihoheieneaa.ChunkCuts
