/- The walk of flumelaw20.DcepCuts: true for all offers, places and bytes. Conditions: utf8's tables read as laid. -/
import Derived.Test.YtdbndinnakkloaaDoorDcpSee
namespace Go.Proofs.YtdbndinnakkloaaDoor.DcepCuts
open Go.RowKit Go.Proofs.YtdbndinnakkloaaDoor.Mem Go.Proofs.YtdbndinnakkloaaDoor.Octet Go.Proofs.YtdbndinnakkloaaDoor.Dcp
set_option linter.unusedVariables false
set_option linter.unusedSimpArgs false
theorem one_rd (w : World) (x : Int) : RdB (w.alloc (.cells #[.int .u8 x] 5)) 0 (w.heap.size + 1) (some ⟨w.heap.size, 0, none⟩) [x] := by
  obtain ⟨A, c, e, -, -, -, r⟩ := lit_slb w #[.int .u8 x] (0, 0) [x] (by simp) (by simp [maxLen]) (by intro i hi; simp at hi; subst hi; rfl)
  injection e with e1 e2 e3
  rw [e1]
  exact r
set_option maxHeartbeats 4000000 in
set_option maxRecDepth 100000 in
theorem walk (cs : List Value) (at' more : Int) (w : World) (hT : Tabs w) (hsee : Sees Tryd.prog w 30 cs) (hp1 : (Lit.int .i64 at').wf = true) (hp2 : (Lit.int .u8 more).wf = true) :
    Calls Tryd.prog 4 #[.agg ⟨cs⟩, .int .i64 at', .int .u8 more] w fun e w' => e = .returned (.bool true) ∧ Below w.heap.size w w' := by
  obtain ⟨ls, k, n, pri, l, p, em, hn, hl, hp⟩ := offer_of_see hsee
  rw [em]
  have hmr := range_u8 more hp2
  unfold maxLen at hl hp
  clear em hsee hp1 hp2
  have B0 : Below w.heap.size w (w.alloc (.cells #[.bool ls, .int .i64 k, .int .u32 n, .int .u16 pri, .string l, .string p] 30)) := (Below.refl _ w).alloc (Nat.le_refl _) _
  have bM := Blk.new w #[.bool ls, .int .i64 k, .int .u32 n, .int .u16 pri, .string l, .string p] 30
  have T0 := hT.below B0
  have hup := Tryd.underlying30
  have HF := Lib.hid (first_calls _ T0)
  go_enter Tryd.func4, Tryd.ntmps4
  go_wp2_with fail
  refine HF.out.mono ?_
  rintro e w0 ⟨rfl, B1⟩
  have bM0 := Blk.fr bM (Fr.of_below (S := nothing) B1) id
  have B2 := Bl.trans B0 (Bl.low B1 B0.size)
  have T2 := hT.below B2
  clear B0 B1 bM T0 HF
  have CP := Lib.hid (put_calls ls k n pri l p w0 T2 (by omega) (by omega))
  go_upto_region 3 with fail
  refine wp_region_lit ?_
  refine wpList_plain rfl (fun K hK => ?_)
  refine oper_load rfl rfl bM0 hup rfl (by kernel_rfl) ?_
  refine hK _ _ ?_
  clear hK K
  go_wp2_with fail
  refine CP.out.mono ?_
  rintro e w1 ⟨B3, h⟩
  have B4 := Bl.trans B2 (Bl.low B3 B2.size)
  have T4 := hT.below B4
  clear CP T2 bM0 hl hp
  rcases h with ⟨hE, rfl⟩ | ⟨hE, A, c, rfl, o⟩
  · have hne : (putE k n l p != 0) = true := by simpa using hE
    generalize putE k n l p = E at *
    clear hE
    go_wp2
    go_ret
    exact ⟨rfl, B4⟩
  · have hr : rightB k n = true := by
      unfold putE at hE
      split at hE
      · assumption
      · cases hE
    obtain ⟨hl2, hp2, -, -⟩ := textE_ok (show textE l p = 0 by unfold putE at hE; rwa [if_pos hr] at hE)
    have HL := obytes_len ls k n pri l p
    have IB : IsB (obytes ls k n pri l p) := isb_obytes hr
    have HCUT := Lib.hid (fun j hj => gE_cut (ls := ls) (pri := pri) hr hn hl2 hp2 j hj)
    have HMORE := Lib.hid (fun x => gE_more (ls := ls) (pri := pri) hr hn hl2 hp2 x)
    generalize obytes ls k n pri l p = bs at *
    have hb1 : 12 ≤ bs.length := by omega
    have hb2 : bs.length ≤ 1000 := by omega
    clear HL hE hr hl2 hp2 B2 B3
    obtain ⟨j, hj, hjv⟩ : ∃ j : Nat, j < bs.length ∧ wrap64 ((IntKind.u64.wrap at').tmod (bs.length : Int)) = (j : Int) := by
      have := um_range at' (bs.length : Int) (by omega) (by omega)
      unfold um at this
      exact ⟨(wrap64 ((IntKind.u64.wrap at').tmod (bs.length : Int))).toNat, by omega, by omega⟩
    have hz : ((bs.length : Int) == 0) = false := beq_eq_false_iff_ne.2 (by omega)
    have S0 := SlB.of_own o
    obtain ⟨A', c', e, q1, q2, q3, q4⟩ := S0
    injection e with ea eb ec
    subst ea; subst ec
    have SC : SlB w1 w0.heap.size w1.heap.size (.slice A j c) (bs.take j) := ⟨A, c, by rw [List.length_take, Nat.min_eq_left (by omega)], by rw [List.length_take]; omega, q2, q3, q4.take j⟩
    have CG := get_calls _ _ _ _ w1 T4 SC (Nat.le_refl _) (fun x hx => IB x (List.mem_of_mem_take hx)) (by rw [List.length_take]; omega)
    have e40 := HCUT.out j hj
    rw [gV_bad (by rw [e40]; decide), e40] at CG
    have HCG := Lib.hid CG
    have HO := Lib.hid o
    have HIB := Lib.hid IB
    have hjc : (j : Int) ≤ c := by omega
    clear CG SC e40 o q3 q4 IB q1 eb
    go_wp2_with fail
    refine HCG.out.mono ?_
    rintro e w2 ⟨rfl, B5⟩
    clear HCG hjc hz hj
    go_upto_region 7 with fail
    have bY := Blk.new w2 #[.bool false, .int .i64 0, .int .u32 0, .int .u16 0, .string ⟨#[]⟩, .string ⟨#[]⟩] 30
    have FY : Fr nothing w2 (w2.alloc (.cells #[.bool false, .int .i64 0, .int .u32 0, .int .u16 0, .string ⟨#[]⟩, .string ⟨#[]⟩] 30)) := (Fr.refl _ w2).alloc _
    have F13 : Fr nothing w1 (w2.alloc (.cells #[.bool false, .int .i64 0, .int .u32 0, .int .u16 0, .string ⟨#[]⟩, .string ⟨#[]⟩] 30)) := (Fr.of_below (S := nothing) B5).trans FY (fun _ _ h => h)
    have B6 := Bl.trans B4 (Bl.of_fr F13 B4.size (fun k h => False.elim h))
    have hYw : w.heap.size ≤ w2.heap.size := Nat.le_trans B4.size B5.size
    generalize w2.alloc (.cells #[.bool false, .int .i64 0, .int .u32 0, .int .u16 0, .string ⟨#[]⟩, .string ⟨#[]⟩] 30) = w3 at *
    generalize w2.heap.size = Y at *
    have o3 := OwnB.fr HO.out F13 (fun _ _ h => h)
    obtain ⟨A3, c3, e3, -, -, -, rd⟩ := SlB.of_own o3
    injection e3 with e31 e32 e33
    subst e31; subst e33
    clear e32 F13 FY B5 B4 T4 HO
    have own0 : (w3.alloc (.cells #[] 5)).ownsRow w3.heap.size 5 1 (.slice (some ⟨w3.heap.size, 0, none⟩) 0 0) ([] : List Int).length (byts []) :=
      ⟨rfl, .inr ⟨w3.heap.size, 0, #[], rfl, Nat.le_refl _, heap_alloc_new w3 _, Nat.le_refl _, Nat.zero_le _, rfl, rfl⟩⟩
    have rE := RdB.fr (S := nothing) rd ((Fr.refl _ w3).alloc (.cells #[] 5)) (fun _ _ _ h => h)
    have hapl : ([] : List Int).length + bs.length ≤ 140737488355328 := by simp; omega
    have hapl2 : bs.length + [more].length ≤ 140737488355328 := by simp; omega
    have hbw : w3.heap.size ≤ (w3.alloc (.cells #[] 5)).heap.size := by simp
    obtain ⟨ib, hib, hbz0, hbz1, hbz2⟩ := info_parts info_b
    have HB6 := Lib.hid B6
    have HBY := Lib.hid bY
    clear rd o3 B6 bY
    go_wp2_with (first
      | (at_builtin; refine wpList_append_b _ rfl (.tmp 41) (.tmp 43) _ rfl w3.heap.size 5 ib Tryd.underlying22 hib hbz0 hbz1 hbz2 _ bs rfl o1' 0 (wA.heap.size + 1) _ _ _ [more] rfl rfl RM hapl2 hwA ?_; intro v2 wB hown hg hat; have o2 : OwnB wB w3.heap.size 5 v2 (bs ++ [more]) := hown; have HBB := Lib.hid (Bl.trans HBA.out (Bl.of_fr (Fr.grown (S := fun k => w3.heap.size ≤ k) ((Fr.refl _ wA).alloc (.cells #[.int .u8 more] 5)) hg (fun k hk => .inl (OwnB.ge o1' k hk))) HSA.out (fun k hk => hk))); obtain ⟨B2s, c2s, rfl, -, -⟩ := OwnB.slice o2; clear hown hg hat o1' RM hwA HBA)
      | (at_builtin; refine wpList_append_b _ rfl (.tmp 39) (.tmp 40) _ rfl w3.heap.size 5 ib Tryd.underlying22 hib hbz0 hbz1 hbz2 _ [] rfl own0 _ _ _ _ _ bs rfl rfl rE hapl hbw ?_; intro v1 wA hown hg hat; have o1 : OwnB wA w3.heap.size 5 v1 bs := hown; have HBA := Lib.hid (((Below.refl w3.heap.size w3).alloc (Nat.le_refl _) (.cells #[] 5)).grown hg (by simp) (fun k hk => by have hk' : some w3.heap.size = some k := hk; injection hk' with hk'; omega)); have HSA := Lib.hid HBA.out.size; obtain ⟨B1s, c1s, rfl, -, -⟩ := OwnB.slice o1; have o1' := OwnB.fr (S := nothing) o1 ((Fr.refl _ wA).alloc (.cells #[.int .u8 more] 5)) (fun _ _ h => h); have RM := one_rd wA more; have hwA : w3.heap.size ≤ (wA.alloc (.cells #[.int .u8 more] 5)).heap.size := Nat.le_trans HSA.out (by simp); clear hown hg hat own0 rE o1))
    have B7 := Bl.trans HB6.out (Bl.low HBB.out HB6.out.size)
    have bY7 := Blk.fr HBY.out (Fr.of_below (S := nothing) HBB.out) id
    have T7 := hT.below B7
    have CG := get_calls _ _ _ _ wB T7 (SlB.of_own o2) (Nat.le_refl _) (fun x hx => by
      rcases List.mem_append.1 hx with h | h
      · exact HIB.out x h
      · rw [List.mem_singleton] at h; rw [h]; exact hmr) (by simp; omega)
    have e41 := HMORE.out more
    rw [gV_bad (by rw [e41]; decide), e41, show (bs ++ [more]).length = bs.length + 1 by simp] at CG
    have HCG := Lib.hid CG
    clear CG e41 o2 HBB HB6 HBY T7
    refine HCG.out.mono ?_
    rintro e w8 ⟨rfl, B8⟩
    have B9 := Bl.trans B7 (Bl.low B8 B7.size)
    have bY8 := Blk.fr bY7 (Fr.of_below (S := nothing) B8) id
    clear HCG B7 bY7 B8
    go_upto_region 8 with fail
    have bX := Blk.new w8 #[.bool false, .int .i64 0, .int .u32 0, .int .u16 0, .string ⟨#[]⟩, .string ⟨#[]⟩] 30
    have bY9 := bY8.alloc (.cells #[.bool false, .int .i64 0, .int .u32 0, .int .u16 0, .string ⟨#[]⟩, .string ⟨#[]⟩] 30)
    have BZ := B9.alloc B9.size (.cells #[.bool false, .int .i64 0, .int .u32 0, .int .u16 0, .string ⟨#[]⟩, .string ⟨#[]⟩] 30)
    generalize w8.alloc (.cells #[.bool false, .int .i64 0, .int .u32 0, .int .u16 0, .string ⟨#[]⟩, .string ⟨#[]⟩] 30) = w9 at *
    generalize w8.heap.size = X at *
    have x0 := bX.cell 0
    have x1 := bX.cell 1
    have x2 := bX.cell 2
    have x3 := bX.cell 3
    have x4 := bX.cell 4
    have x5 := bX.cell 5
    simp at x0 x1 x2 x3 x4 x5
    have y0 := bY9.cell 0
    have y1 := bY9.cell 1
    have y2 := bY9.cell 2
    have y3 := bY9.cell 3
    have y4 := bY9.cell 4
    have y5 := bY9.cell 5
    simp at y0 y1 y2 y3 y4 y5
    clear bX bY9 bY8 B9
    go_wp2
    go_ret
    exact ⟨rfl, BZ⟩
end Go.Proofs.YtdbndinnakkloaaDoor.DcepCuts
