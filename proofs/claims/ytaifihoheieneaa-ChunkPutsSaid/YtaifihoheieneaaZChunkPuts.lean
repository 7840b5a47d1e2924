/- The walk of flumelaw06.ChunkPuts: true for all chunks and bytes. No conditions but the row's own. -/
import Derived.Test.YtaifihoheieneaaZChkFirst
import Derived.Test.YtaifihoheieneaaZChkRP5
import Derived.Test.YtaifihoheieneaaZChkRCopy
import Derived.Test.YtaifihoheieneaaZChkRS6
namespace Go.Proofs.Ytaifihoheieneaa.ChunkPuts
open Go.RowKit Go.Proofs.Ytaifihoheieneaa.Mem Go.Proofs.Ytaifihoheieneaa.Octet Go.Proofs.Ytaifihoheieneaa.Prm Go.Proofs.Ytaifihoheieneaa.Chk
set_option linter.unusedVariables false
set_option linter.unusedSimpArgs false
theorem get_all {c : Ck} (hB : CkB c) (hE : cE c = 0) (more : List Int) : gE (cB c ++ more) = 0 ∧ gN (cB c ++ more) = (cB c).length ∧ gCk (cB c ++ more) = strip c := by
  have hok := got_ok hB hE
  obtain ⟨h1, h2⟩ := put_long hB hE more hok
  refine ⟨?_, h1, ?_⟩
  · rw [put_got hB hE, hok]; rfl
  · rw [h2]; exact got_ck hB hE
theorem sz_lens {c : Ck} (h : szC c ≤ 400000) : c.gaps.length ≤ 1000000 ∧ c.dups.length ≤ 1000000 ∧ c.skips.length ≤ 1000000 ∧ c.ps.length ≤ 1000000 ∧ c.body.length ≤ 1000000 := by
  have mxa : ∀ a b : Int, a ≤ mx a b ∧ b ≤ mx a b := fun a b => by unfold mx; split <;> omega
  unfold szC at h
  by_cases hb : 1000000 < szM c
  · rw [if_pos hb] at h; omega
  · have hsm : szM c = mx (mx (mx (mx (c.gaps.length : Int) c.dups.length) c.skips.length) c.body.length) c.ps.length := rfl
    have h1 := mxa (c.gaps.length : Int) c.dups.length
    have h2 := mxa (mx (c.gaps.length : Int) c.dups.length) c.skips.length
    have h3 := mxa (mx (mx (c.gaps.length : Int) c.dups.length) c.skips.length) c.body.length
    have h4 := mxa (mx (mx (mx (c.gaps.length : Int) c.dups.length) c.skips.length) c.body.length) c.ps.length
    rw [hsm] at hb
    omega
set_option maxHeartbeats 8000000 in
set_option maxRecDepth 100000 in
theorem walk (cs : List Value) (a : Option Addr) (cap : Nat) (l : List Int) (w : World) (hsee : Sees Try.prog w 31 cs) (hr : ReadsI w .u8 a l) (hc : l.length ≤ cap) (hm : cap ≤ maxLen) (hy : l.length * 1 ≤ 140737488351232)
    (hw : ∀ x ∈ l, (Lit.int .u8 x).wf = true) :
    Calls Try.prog 3 #[.agg ⟨cs⟩, .slice a l.length cap] w fun e w' => e = .returned (.bool true) ∧ Below w.heap.size w w' := by
  obtain ⟨c, hC, hBd, -, -, -, hpl, -⟩ := ck_of_see hsee
  obtain ⟨X, hX⟩ : ∃ X, cs.toArray = X := ⟨_, rfl⟩
  rw [hX] at hC
  rw [show (Value.agg ⟨cs⟩) = .agg X by rw [← hX]]
  clear hX hsee
  have HIL := Lib.hid (show IsB l from fun x hx => range_u8 x (hw x hx))
  have hup := Try.underlying31
  have hsz := hC.size
  have HCK := Lib.hid hC
  have HBD := Lib.hid hBd
  have B0 : Below w.heap.size w (w.alloc (.cells X 31)) := (Below.refl _ w).alloc (Nat.le_refl _) _
  have bC := Blk.new w X 31
  clear hC hBd hw
  go_enter Try.func3, Try.ntmps3
  go_wp2_with fail
  refine (first_calls _).mono ?_
  rintro e w0 ⟨rfl, B1⟩
  have bC0 := bC.fr (Fr.of_below (S := nothing) B1) id
  have B2 := Bl.trans B0 (Bl.low B1 (by simp))
  clear B0 B1 bC
  go_upto_region 3 with fail
  refine wp_region_lit ?_
  refine wpList_plain rfl (fun K hK => ?_)
  refine Mem.oper_load rfl rfl bC0 hup rfl (by rw [hsz]; kernel_rfl) ?_
  refine hK _ _ ?_
  clear hK K
  go_wp2_with fail
  refine (size_calls _ _ _ c w0 (HCK.out.bl B2 (Nat.le_refl _)) B2.size hpl).mono ?_
  rintro e w1 ⟨rfl, B3⟩
  have bC1 := bC0.fr (Fr.of_below (S := nothing) B3) id
  have B4 := Bl.trans B2 (Bl.low B3 B2.size)
  clear bC0 B2 B3
  by_cases hs : 400000 < szC c
  · have hd : decide ((400000 : Int) < szC c) = true := decide_eq_true hs
    clear hs
    go_wp2
    go_ret
    exact ⟨rfl, B4⟩
  have hd : decide ((400000 : Int) < szC c) = false := decide_eq_false hs
  by_cases hs2 : 2000 < l.length
  · have hd2 : decide ((2000 : Int) < (l.length : Int)) = true := decide_eq_true (by omega)
    clear hs hs2
    go_wp2
    go_ret
    exact ⟨rfl, B4⟩
  have hd2 : decide ((2000 : Int) < (l.length : Int)) = false := decide_eq_false (by omega)
  have hL := ckl_of (c := c) (by omega)
  have HL := Lib.hid hL
  have CC := rcopy_calls _ _ X c w1 (HCK.out.bl B4 (Nat.le_refl _)) B4.size (sz_lens (by omega)) (sz_vals (by omega))
  have HCC := Lib.hid CC
  clear CC hs
  go_upto_region 5 with fail
  clear hd hd2
  refine wp_region_lit ?_
  refine wpList_plain rfl (fun K hK => ?_)
  refine Mem.oper_load rfl rfl bC1 hup rfl (by rw [hsz]; kernel_rfl) ?_
  refine hK _ _ ?_
  clear hK K
  refine wpList_plain rfl (fun K hK => ?_)
  go_simp
  go_at_call 12
  refine HCC.out.mono ?_
  rintro e w2 ⟨B5, Y, rfl, hYV⟩
  simp only []
  refine hK _ _ ?_
  clear hK K HCC
  have hszY := hYV.size
  have HY0 := Lib.hid hYV
  clear hYV
  refine wpList_plain rfl (fun K hK => ?_)
  go_simp
  refine hK _ _ ?_
  clear hK K
  refine wpList_plain rfl (fun K hK => ?_)
  refine Mem.oper_store (cs0 := zch) (cs := Y) rfl rfl rfl (Blk.new w2 zch 31) (by rw [hszY]; kernel_rfl) (by rw [hszY]; rfl) HY0.out.one ?_
  refine hK _ _ ?_
  clear hK K
  refine wpList_nil ?_
  have bY : Blk ((w2.alloc (.cells zch 31)).setRow w2.heap.size Y) w2.heap.size 31 Y := blk_row Y (Blk.new w2 zch 31)
  have fQ : Fr nothing w2 ((w2.alloc (.cells zch 31)).setRow w2.heap.size Y) := ((Fr.refl nothing w2).alloc _).trans (fr_row w2.heap.size Y) (fun k hk h => by have h9 : k = w2.heap.size := h; omega)
  have bX := (bC1.fr (Fr.of_below (S := nothing) B5) id).fr fQ id
  have hYV := HY0.out.fr fQ (fun _ _ _ h => h)
  have B6 := Bl.trans (Bl.trans B4 (Bl.low B5 B4.size)) (Bl.of_fr fQ (Nat.le_trans B4.size B5.size) (fun k h => h.elim))
  have hys : w2.heap.size ≤ ((w2.alloc (.cells zch 31)).setRow w2.heap.size Y).heap.size := fQ.size
  generalize (w2.alloc (.cells zch 31)).setRow w2.heap.size Y = w3 at *
  generalize w2.heap.size = gY at *
  clear fQ B4 B5 bC1 HY0
  have CP := cput_calls _ _ Y c w3 hYV hys HBD.out HL.out
  unfold PutC at CP
  obtain ⟨E, hE⟩ : ∃ E, cE c = E := ⟨_, rfl⟩
  obtain ⟨zs, hzs⟩ : ∃ zs, cO c = zs := ⟨_, rfl⟩
  rw [hE, hzs] at CP
  have HCP := Lib.hid CP
  have HYV3 := Lib.hid hYV
  have HEE := Lib.hid hE
  have HZZ := Lib.hid hzs
  clear CP hYV hE hzs
  go_upto_region 6 with fail
  refine wp_region_lit ?_
  refine wpList_plain rfl (fun K hK => ?_)
  refine Mem.oper_load rfl rfl bY hup rfl (by rw [hszY]; kernel_rfl) ?_
  refine hK _ _ ?_
  clear hK K
  go_wp2_with fail
  refine HCP.out.mono ?_
  rintro e w4 ⟨B7, A, p, rfl, o1⟩
  have bX4 := bX.fr (Fr.of_below (S := nothing) B7) id
  have bY4 := bY.fr (Fr.of_below (S := nothing) B7) id
  have B8 := Bl.trans B6 (Bl.low B7 B6.size)
  have hYV4 := HYV3.out.fr (Fr.of_below (S := nothing) B7) (fun _ _ _ h => h)
  have hys4 := Nat.le_trans hys B7.size
  have CR := Chk.rput_calls _ _ X c w4 (HCK.out.bl B8 (Nat.le_refl _)) B8.size HBD.out HL.out
  unfold PutC at CR
  rw [HEE.out, HZZ.out] at CR
  have HCR := Lib.hid CR
  clear CR HCP bX bY B6 B7 HYV3 hys
  go_upto_region 7 with fail
  refine wp_region_lit ?_
  refine wpList_plain rfl (fun K hK => ?_)
  refine Mem.oper_load rfl rfl bX4 hup rfl (by rw [hsz]; kernel_rfl) ?_
  refine hK _ _ ?_
  clear hK K
  go_wp2_with fail
  refine HCR.out.mono ?_
  rintro e w5 ⟨B9, A2, p2, rfl, o2⟩
  have bX := bX4.fr (Fr.of_below (S := nothing) B9) id
  have bY := bY4.fr (Fr.of_below (S := nothing) B9) id
  have B7 := Bl.trans B8 (Bl.low B9 B8.size)
  have HYV := Lib.hid (hYV4.fr (Fr.of_below (S := nothing) B9) (fun _ _ _ h => h))
  have HYS := Lib.hid (Nat.le_trans hys4 B9.size)
  have HO1 := Lib.hid (OwnB.fr o1 (Fr.of_below (S := nothing) B9) (fun _ _ h => h))
  have HO2 := Lib.hid o2
  clear o1 o2 bX4 bY4 B8 B9 hYV4 hys4 HCR
  go_upto_region 8 with fail
  refine wp_region_any (by kernel_rfl) ?_
  refine Reg.wpAny_inv (I := fun listed act wq => ∃ (d0 d1 d2 d3 d4 d5 d6 d7 d8 d9 d10 d11 d12 d13 d14 d15 d16 d17 d18 d19 d20 d21 d22 d23 d24 d25 : Bool), listed = #[d0, d1, d2, d3, d4, d5, d6, d7, d8, d9, d10, d11, d12, d13, d14, d15, d16, d17, d18, d19, d20, d21, d22, d23, d24, d25] ∧ act = ⟨#[Value.agg X, Value.slice a l.length cap, Value.pointer (some { block := w.heap.size, off := 0 }), undef, Value.bool false, Value.pointer (some { block := gY, off := 0 }), Value.slice A zs.length p, Value.int IntKind.i64 E, Value.slice A2 zs.length p2, Value.int IntKind.i64 E, undef, undef, undef, Value.bool true, Value.bool false, Value.agg X, Value.int IntKind.i64 (szC c), Value.bool false, Value.bool false, Value.slice a l.length cap, Value.int IntKind.i64 ↑l.length, Value.bool false, Value.bool false, Value.agg X, Value.agg Y, Value.tuple #[Value.slice A zs.length p, Value.int IntKind.i64 E], Value.agg Y, Value.tuple #[Value.slice A zs.length p, Value.int IntKind.i64 E], Value.slice A zs.length p, Value.int IntKind.i64 E, Value.tuple #[Value.slice A2 zs.length p2, Value.int IntKind.i64 E], Value.agg X, Value.tuple #[Value.slice A2 zs.length p2, Value.int IntKind.i64 E], Value.slice A2 zs.length p2, Value.int IntKind.i64 E, (bif d0 then (.int .i64 E) else undef), (bif d1 then (.int .i64 E) else undef), (bif d2 then (.bool false) else undef), (bif d3 then (.bool false) else undef), (bif d4 then (.slice A zs.length p) else undef), (bif d5 then (.string (bstr zs)) else undef), (bif d6 then (.slice A2 zs.length p2) else undef), (bif d7 then (.string (bstr zs)) else undef), (bif d8 then (.bool false) else undef), (bif d9 then (.bool false) else undef), (bif d10 then (.bool false) else undef), (bif d11 then (.agg Y) else undef), (bif d12 then (.agg X) else undef), (bif d13 then (.bool true) else undef), (bif d14 then (.bool false) else undef), (bif d15 then (.bool false) else undef), (bif d16 then (.bool false) else undef), (bif d17 then (.pointer (some ⟨w.heap.size, 0, none⟩)) else undef), (bif d18 then (.int .u8 c.k) else undef), (bif d19 then (.bool (kn c.k)) else undef), (bif d20 then (.pointer (some ⟨w.heap.size, 0, none⟩)) else undef), (bif d21 then (.int .u8 c.k) else undef), (bif d22 then (.int .i64 c.k) else undef), (bif d23 then (.bool (kn c.k)) else undef), (bif d24 then (.bool false) else undef), (bif d25 then (.bool false) else undef), undef, undef, undef, undef, undef, undef, undef, undef, undef, undef, undef, undef, undef, undef, undef, undef, undef, undef, undef, undef, undef, undef, undef, undef, undef, undef, undef, undef, undef], []⟩ ∧ Below w5.heap.size w5 wq) ?_ ?_ _ _ _ _ (by decide) ?_
  · intro i o listed act wq hi hI hun hdeps K hK
    obtain ⟨d0, d1, d2, d3, d4, d5, d6, d7, d8, d9, d10, d11, d12, d13, d14, d15, d16, d17, d18, d19, d20, d21, d22, d23, d24, d25, rfl, rfl, hF⟩ := hI
    have hlt : i < 26 := (Array.getElem?_eq_some_iff.1 hi).1
    rcases (show i = 0 ∨ i = 1 ∨ i = 2 ∨ i = 3 ∨ i = 4 ∨ i = 5 ∨ i = 6 ∨ i = 7 ∨ i = 8 ∨ i = 9 ∨ i = 10 ∨ i = 11 ∨ i = 12 ∨ i = 13 ∨ i = 14 ∨ i = 15 ∨ i = 16 ∨ i = 17 ∨ i = 18 ∨ i = 19 ∨ i = 20 ∨ i = 21 ∨ i = 22 ∨ i = 23 ∨ i = 24 ∨ i = 25 by omega) with rfl | rfl | rfl | rfl | rfl | rfl | rfl | rfl | rfl | rfl | rfl | rfl | rfl | rfl | rfl | rfl | rfl | rfl | rfl | rfl | rfl | rfl | rfl | rfl | rfl | rfl
    · skip
      obtain rfl : _ = o := Option.some.inj hi
      obtain rfl : d0 = false := by simpa using hun
      clear hun hdeps hi hlt
      go_simp
      exact hK _ _ ⟨true, d1, d2, d3, d4, d5, d6, d7, d8, d9, d10, d11, d12, d13, d14, d15, d16, d17, d18, d19, d20, d21, d22, d23, d24, d25, rfl, rfl, hF⟩
    · skip
      obtain rfl : _ = o := Option.some.inj hi
      obtain rfl : d1 = false := by simpa using hun
      clear hun hdeps hi hlt
      go_simp
      exact hK _ _ ⟨d0, true, d2, d3, d4, d5, d6, d7, d8, d9, d10, d11, d12, d13, d14, d15, d16, d17, d18, d19, d20, d21, d22, d23, d24, d25, rfl, rfl, hF⟩
    · skip
      obtain rfl : _ = o := Option.some.inj hi
      obtain rfl : d2 = false := by simpa using hun
      obtain rfl : d0 = true := hdeps _ (Array.mem_of_getElem? (i := 0) rfl) rfl
      obtain rfl : d1 = true := hdeps _ (Array.mem_of_getElem? (i := 1) rfl) rfl
      clear hun hdeps hi hlt
      go_simp
      exact hK _ _ ⟨true, true, true, d3, d4, d5, d6, d7, d8, d9, d10, d11, d12, d13, d14, d15, d16, d17, d18, d19, d20, d21, d22, d23, d24, d25, rfl, rfl, hF⟩
    · skip
      obtain rfl : _ = o := Option.some.inj hi
      obtain rfl : d3 = false := by simpa using hun
      obtain rfl : d2 = true := hdeps _ (Array.mem_of_getElem? (i := 0) rfl) rfl
      clear hun hdeps hi hlt
      go_simp
      exact hK _ _ ⟨d0, d1, true, true, d4, d5, d6, d7, d8, d9, d10, d11, d12, d13, d14, d15, d16, d17, d18, d19, d20, d21, d22, d23, d24, d25, rfl, rfl, hF⟩
    · skip
      obtain rfl : _ = o := Option.some.inj hi
      obtain rfl : d4 = false := by simpa using hun
      obtain rfl : d3 = true := hdeps _ (Array.mem_of_getElem? (i := 0) rfl) rfl
      clear hun hdeps hi hlt
      go_simp
      exact hK _ _ ⟨d0, d1, d2, true, true, d5, d6, d7, d8, d9, d10, d11, d12, d13, d14, d15, d16, d17, d18, d19, d20, d21, d22, d23, d24, d25, rfl, rfl, hF⟩
    · skip
      obtain rfl : _ = o := Option.some.inj hi
      obtain rfl : d5 = false := by simpa using hun
      obtain rfl : d4 = true := hdeps _ (Array.mem_of_getElem? (i := 0) rfl) rfl
      obtain rfl : d3 = true := hdeps _ (Array.mem_of_getElem? (i := 1) rfl) rfl
      clear hun hdeps hi hlt
      have kt := slb_str (SlB.of_own (OwnB.fr HO1.out (Fr.of_below (S := nothing) hF) (fun _ _ h => h)))
      go_simp
      exact hK _ _ ⟨d0, d1, d2, true, true, true, d6, d7, d8, d9, d10, d11, d12, d13, d14, d15, d16, d17, d18, d19, d20, d21, d22, d23, d24, d25, rfl, rfl, hF⟩
    · skip
      obtain rfl : _ = o := Option.some.inj hi
      obtain rfl : d6 = false := by simpa using hun
      obtain rfl : d3 = true := hdeps _ (Array.mem_of_getElem? (i := 0) rfl) rfl
      clear hun hdeps hi hlt
      go_simp
      exact hK _ _ ⟨d0, d1, d2, true, d4, d5, true, d7, d8, d9, d10, d11, d12, d13, d14, d15, d16, d17, d18, d19, d20, d21, d22, d23, d24, d25, rfl, rfl, hF⟩
    · skip
      obtain rfl : _ = o := Option.some.inj hi
      obtain rfl : d7 = false := by simpa using hun
      obtain rfl : d6 = true := hdeps _ (Array.mem_of_getElem? (i := 0) rfl) rfl
      obtain rfl : d3 = true := hdeps _ (Array.mem_of_getElem? (i := 1) rfl) rfl
      clear hun hdeps hi hlt
      have kt := slb_str (SlB.of_own (OwnB.fr HO2.out (Fr.of_below (S := nothing) hF) (fun _ _ h => h)))
      go_simp
      exact hK _ _ ⟨d0, d1, d2, true, d4, d5, true, true, d8, d9, d10, d11, d12, d13, d14, d15, d16, d17, d18, d19, d20, d21, d22, d23, d24, d25, rfl, rfl, hF⟩
    · skip
      obtain rfl : _ = o := Option.some.inj hi
      obtain rfl : d8 = false := by simpa using hun
      obtain rfl : d5 = true := hdeps _ (Array.mem_of_getElem? (i := 0) rfl) rfl
      obtain rfl : d7 = true := hdeps _ (Array.mem_of_getElem? (i := 1) rfl) rfl
      obtain rfl : d3 = true := hdeps _ (Array.mem_of_getElem? (i := 2) rfl) rfl
      clear hun hdeps hi hlt
      go_simp
      exact hK _ _ ⟨d0, d1, d2, true, d4, true, d6, true, true, d9, d10, d11, d12, d13, d14, d15, d16, d17, d18, d19, d20, d21, d22, d23, d24, d25, rfl, rfl, hF⟩
    · skip
      obtain rfl : _ = o := Option.some.inj hi
      obtain rfl : d9 = false := by simpa using hun
      obtain rfl : d3 = true := hdeps _ (Array.mem_of_getElem? (i := 0) rfl) rfl
      obtain rfl : d8 = true := hdeps _ (Array.mem_of_getElem? (i := 1) rfl) rfl
      clear hun hdeps hi hlt
      go_simp
      exact hK _ _ ⟨d0, d1, d2, true, d4, d5, d6, d7, true, true, d10, d11, d12, d13, d14, d15, d16, d17, d18, d19, d20, d21, d22, d23, d24, d25, rfl, rfl, hF⟩
    · skip
      obtain rfl : _ = o := Option.some.inj hi
      obtain rfl : d10 = false := by simpa using hun
      obtain rfl : d9 = true := hdeps _ (Array.mem_of_getElem? (i := 0) rfl) rfl
      obtain rfl : d3 = true := hdeps _ (Array.mem_of_getElem? (i := 1) rfl) rfl
      clear hun hdeps hi hlt
      go_simp
      exact hK _ _ ⟨d0, d1, d2, true, d4, d5, d6, d7, d8, true, true, d11, d12, d13, d14, d15, d16, d17, d18, d19, d20, d21, d22, d23, d24, d25, rfl, rfl, hF⟩
    · skip
      obtain rfl : _ = o := Option.some.inj hi
      obtain rfl : d11 = false := by simpa using hun
      obtain rfl : d10 = true := hdeps _ (Array.mem_of_getElem? (i := 0) rfl) rfl
      clear hun hdeps hi hlt
      rw [if_pos (show Region.wanted _ _ = true from rfl)]
      refine Mem.oper_load rfl rfl (bY.fr (Fr.of_below (S := nothing) hF) id) hup rfl (by rw [hszY]; kernel_rfl) ?_
      exact hK _ _ ⟨d0, d1, d2, d3, d4, d5, d6, d7, d8, d9, true, true, d12, d13, d14, d15, d16, d17, d18, d19, d20, d21, d22, d23, d24, d25, rfl, rfl, hF⟩
    · skip
      obtain rfl : _ = o := Option.some.inj hi
      obtain rfl : d12 = false := by simpa using hun
      obtain rfl : d10 = true := hdeps _ (Array.mem_of_getElem? (i := 0) rfl) rfl
      clear hun hdeps hi hlt
      rw [if_pos (show Region.wanted _ _ = true from rfl)]
      refine Mem.oper_load rfl rfl (bX.fr (Fr.of_below (S := nothing) hF) id) hup rfl (by rw [hsz]; kernel_rfl) ?_
      exact hK _ _ ⟨d0, d1, d2, d3, d4, d5, d6, d7, d8, d9, true, d11, true, d13, d14, d15, d16, d17, d18, d19, d20, d21, d22, d23, d24, d25, rfl, rfl, hF⟩
    · skip
      obtain rfl : _ = o := Option.some.inj hi
      obtain rfl : d13 = false := by simpa using hun
      obtain rfl : d11 = true := hdeps _ (Array.mem_of_getElem? (i := 0) rfl) rfl
      obtain rfl : d12 = true := hdeps _ (Array.mem_of_getElem? (i := 1) rfl) rfl
      obtain rfl : d10 = true := hdeps _ (Array.mem_of_getElem? (i := 2) rfl) rfl
      clear hun hdeps hi hlt
      have HS := Lib.hid (rsame_calls _ _ _ _ Y X c wq (HYV.out.fr (Fr.of_below (S := nothing) hF) (fun _ _ _ h => h)) (HCK.out.bl (Bl.trans B7 (Bl.low hF B7.size)) (Nat.le_refl _)) (Nat.le_trans HYS.out hF.size) (Nat.le_trans B7.size hF.size) HBD.out HL.out)
      go_simp
      go_at_call 15
      refine HS.out.mono ?_
      rintro e w' ⟨rfl, B'⟩
      replace hF := Bl.trans hF (Bl.low B' hF.size)
      clear HS B'
      simp only []
      exact hK _ _ ⟨d0, d1, d2, d3, d4, d5, d6, d7, d8, d9, true, true, true, true, d14, d15, d16, d17, d18, d19, d20, d21, d22, d23, d24, d25, rfl, rfl, hF⟩
    · skip
      obtain rfl : _ = o := Option.some.inj hi
      obtain rfl : d14 = false := by simpa using hun
      obtain rfl : d13 = true := hdeps _ (Array.mem_of_getElem? (i := 0) rfl) rfl
      obtain rfl : d10 = true := hdeps _ (Array.mem_of_getElem? (i := 1) rfl) rfl
      clear hun hdeps hi hlt
      go_simp
      exact hK _ _ ⟨d0, d1, d2, d3, d4, d5, d6, d7, d8, d9, true, d11, d12, true, true, d15, d16, d17, d18, d19, d20, d21, d22, d23, d24, d25, rfl, rfl, hF⟩
    · skip
      obtain rfl : _ = o := Option.some.inj hi
      obtain rfl : d15 = false := by simpa using hun
      obtain rfl : d10 = true := hdeps _ (Array.mem_of_getElem? (i := 0) rfl) rfl
      obtain rfl : d14 = true := hdeps _ (Array.mem_of_getElem? (i := 1) rfl) rfl
      clear hun hdeps hi hlt
      go_simp
      exact hK _ _ ⟨d0, d1, d2, d3, d4, d5, d6, d7, d8, d9, true, d11, d12, d13, true, true, d16, d17, d18, d19, d20, d21, d22, d23, d24, d25, rfl, rfl, hF⟩
    · skip
      obtain rfl : _ = o := Option.some.inj hi
      obtain rfl : d16 = false := by simpa using hun
      obtain rfl : d15 = true := hdeps _ (Array.mem_of_getElem? (i := 0) rfl) rfl
      obtain rfl : d13 = true := hdeps _ (Array.mem_of_getElem? (i := 1) rfl) rfl
      clear hun hdeps hi hlt
      go_simp
      exact hK _ _ ⟨d0, d1, d2, d3, d4, d5, d6, d7, d8, d9, d10, d11, d12, true, d14, true, true, d17, d18, d19, d20, d21, d22, d23, d24, d25, rfl, rfl, hF⟩
    · skip
      obtain rfl : _ = o := Option.some.inj hi
      obtain rfl : d17 = false := by simpa using hun
      obtain rfl : d16 = true := hdeps _ (Array.mem_of_getElem? (i := 0) rfl) rfl
      clear hun hdeps hi hlt
      go_simp
      exact hK _ _ ⟨d0, d1, d2, d3, d4, d5, d6, d7, d8, d9, d10, d11, d12, d13, d14, d15, true, true, d18, d19, d20, d21, d22, d23, d24, d25, rfl, rfl, hF⟩
    · skip
      obtain rfl : _ = o := Option.some.inj hi
      obtain rfl : d18 = false := by simpa using hun
      obtain rfl : d17 = true := hdeps _ (Array.mem_of_getElem? (i := 0) rfl) rfl
      obtain rfl : d16 = true := hdeps _ (Array.mem_of_getElem? (i := 1) rfl) rfl
      clear hun hdeps hi hlt
      have cc := ((bX.fr (Fr.of_below (S := nothing) hF) id).cell 0).trans HCK.out.c0
      go_simp
      exact hK _ _ ⟨d0, d1, d2, d3, d4, d5, d6, d7, d8, d9, d10, d11, d12, d13, d14, d15, true, true, true, d19, d20, d21, d22, d23, d24, d25, rfl, rfl, hF⟩
    · skip
      obtain rfl : _ = o := Option.some.inj hi
      obtain rfl : d19 = false := by simpa using hun
      obtain rfl : d18 = true := hdeps _ (Array.mem_of_getElem? (i := 0) rfl) rfl
      obtain rfl : d16 = true := hdeps _ (Array.mem_of_getElem? (i := 1) rfl) rfl
      clear hun hdeps hi hlt
      have HS := Lib.hid (known_calls c.k wq)
      go_simp
      go_at_call 16
      refine HS.out.mono ?_
      rintro e w' ⟨rfl, hw'⟩
      rw [hw']
      clear HS hw'
      simp only []
      exact hK _ _ ⟨d0, d1, d2, d3, d4, d5, d6, d7, d8, d9, d10, d11, d12, d13, d14, d15, true, d17, true, true, d20, d21, d22, d23, d24, d25, rfl, rfl, hF⟩
    · skip
      obtain rfl : _ = o := Option.some.inj hi
      obtain rfl : d20 = false := by simpa using hun
      obtain rfl : d16 = true := hdeps _ (Array.mem_of_getElem? (i := 0) rfl) rfl
      clear hun hdeps hi hlt
      go_simp
      exact hK _ _ ⟨d0, d1, d2, d3, d4, d5, d6, d7, d8, d9, d10, d11, d12, d13, d14, d15, true, d17, d18, d19, true, d21, d22, d23, d24, d25, rfl, rfl, hF⟩
    · skip
      obtain rfl : _ = o := Option.some.inj hi
      obtain rfl : d21 = false := by simpa using hun
      obtain rfl : d20 = true := hdeps _ (Array.mem_of_getElem? (i := 0) rfl) rfl
      obtain rfl : d16 = true := hdeps _ (Array.mem_of_getElem? (i := 1) rfl) rfl
      clear hun hdeps hi hlt
      have cc := ((bX.fr (Fr.of_below (S := nothing) hF) id).cell 0).trans HCK.out.c0
      go_simp
      exact hK _ _ ⟨d0, d1, d2, d3, d4, d5, d6, d7, d8, d9, d10, d11, d12, d13, d14, d15, true, d17, d18, d19, true, true, d22, d23, d24, d25, rfl, rfl, hF⟩
    · skip
      obtain rfl : _ = o := Option.some.inj hi
      obtain rfl : d22 = false := by simpa using hun
      obtain rfl : d21 = true := hdeps _ (Array.mem_of_getElem? (i := 0) rfl) rfl
      obtain rfl : d16 = true := hdeps _ (Array.mem_of_getElem? (i := 1) rfl) rfl
      clear hun hdeps hi hlt
      have hw9 : IntKind.i64.wrap c.k = c.k := IntWalk.i64_in _ (by have := HBD.out.k; omega)
      go_simp
      exact hK _ _ ⟨d0, d1, d2, d3, d4, d5, d6, d7, d8, d9, d10, d11, d12, d13, d14, d15, true, d17, d18, d19, d20, true, true, d23, d24, d25, rfl, rfl, hF⟩
    · skip
      obtain rfl : _ = o := Option.some.inj hi
      obtain rfl : d23 = false := by simpa using hun
      obtain rfl : d22 = true := hdeps _ (Array.mem_of_getElem? (i := 0) rfl) rfl
      obtain rfl : d19 = true := hdeps _ (Array.mem_of_getElem? (i := 1) rfl) rfl
      obtain rfl : d16 = true := hdeps _ (Array.mem_of_getElem? (i := 2) rfl) rfl
      clear hun hdeps hi hlt
      have HS := Lib.hid (rknown_calls c.k wq HBD.out.k)
      go_simp
      go_at_call 17
      refine HS.out.mono ?_
      rintro e w' ⟨rfl, hw'⟩
      rw [hw']
      clear HS hw'
      simp only []
      exact hK _ _ ⟨d0, d1, d2, d3, d4, d5, d6, d7, d8, d9, d10, d11, d12, d13, d14, d15, true, d17, d18, true, d20, d21, true, true, d24, d25, rfl, rfl, hF⟩
    · skip
      obtain rfl : _ = o := Option.some.inj hi
      obtain rfl : d24 = false := by simpa using hun
      obtain rfl : d19 = true := hdeps _ (Array.mem_of_getElem? (i := 0) rfl) rfl
      obtain rfl : d23 = true := hdeps _ (Array.mem_of_getElem? (i := 1) rfl) rfl
      obtain rfl : d16 = true := hdeps _ (Array.mem_of_getElem? (i := 2) rfl) rfl
      clear hun hdeps hi hlt
      go_simp
      exact hK _ _ ⟨d0, d1, d2, d3, d4, d5, d6, d7, d8, d9, d10, d11, d12, d13, d14, d15, true, d17, d18, true, d20, d21, d22, true, true, d25, rfl, rfl, hF⟩
    · skip
      obtain rfl : _ = o := Option.some.inj hi
      obtain rfl : d25 = false := by simpa using hun
      obtain rfl : d16 = true := hdeps _ (Array.mem_of_getElem? (i := 0) rfl) rfl
      obtain rfl : d24 = true := hdeps _ (Array.mem_of_getElem? (i := 1) rfl) rfl
      clear hun hdeps hi hlt
      go_simp
      exact hK _ _ ⟨d0, d1, d2, d3, d4, d5, d6, d7, d8, d9, d10, d11, d12, d13, d14, d15, true, d17, d18, d19, d20, d21, d22, d23, true, true, rfl, rfl, hF⟩
  · intro listed act wq hI hr0
    obtain ⟨d0, d1, d2, d3, d4, d5, d6, d7, d8, d9, d10, d11, d12, d13, d14, d15, d16, d17, d18, d19, d20, d21, d22, d23, d24, d25, rfl, rfl, hF⟩ := hI
    have hall := Reg.all_of_done (by kernel_rfl) rfl hr0
    obtain rfl : d0 = true := hall 0 (by decide)
    obtain rfl : d1 = true := hall 1 (by decide)
    obtain rfl : d2 = true := hall 2 (by decide)
    obtain rfl : d3 = true := hall 3 (by decide)
    obtain rfl : d4 = true := hall 4 (by decide)
    obtain rfl : d5 = true := hall 5 (by decide)
    obtain rfl : d6 = true := hall 6 (by decide)
    obtain rfl : d7 = true := hall 7 (by decide)
    obtain rfl : d8 = true := hall 8 (by decide)
    obtain rfl : d9 = true := hall 9 (by decide)
    obtain rfl : d10 = true := hall 10 (by decide)
    obtain rfl : d11 = true := hall 11 (by decide)
    obtain rfl : d12 = true := hall 12 (by decide)
    obtain rfl : d13 = true := hall 13 (by decide)
    obtain rfl : d14 = true := hall 14 (by decide)
    obtain rfl : d15 = true := hall 15 (by decide)
    obtain rfl : d16 = true := hall 16 (by decide)
    obtain rfl : d17 = true := hall 17 (by decide)
    obtain rfl : d18 = true := hall 18 (by decide)
    obtain rfl : d19 = true := hall 19 (by decide)
    obtain rfl : d20 = true := hall 20 (by decide)
    obtain rfl : d21 = true := hall 21 (by decide)
    obtain rfl : d22 = true := hall 22 (by decide)
    obtain rfl : d23 = true := hall 23 (by decide)
    obtain rfl : d24 = true := hall 24 (by decide)
    obtain rfl : d25 = true := hall 25 (by decide)
    clear hall hr0
    simp only [cond_true]
    generalize wq = w6 at *
    have B8 := Bl.trans B7 (Bl.low hF B7.size)
    have bX6 := bX.fr (Fr.of_below (S := nothing) hF) id
    have HO3 := Lib.hid (OwnB.fr HO1.out (Fr.of_below (S := nothing) hF) (fun _ _ h => h))
    clear hF bX bY HO1 HO2 B7
    by_cases h0 : E = 0
    · have hne : (E != 0) = false := by simp [h0]
      have HE := Lib.hid (HEE.out.trans h0)
      subst h0
      clear hne
      have hzs : zs = cB c := by rw [← HZZ.out, cO_ok HE.out]
      have IB := isb_cB HBD.out
      have htop := cB_top HE.out
      have HM := Lib.hid (get_all HBD.out HE.out l)
      rw [← hzs] at IB htop HM
      have HIB := Lib.hid IB
      have HZB := Lib.hid hzs
      clear hzs IB
      obtain ⟨A3, c3, e3, -, -, -, rd⟩ := SlB.of_own HO3.out
      injection e3 with e31 e32 e33
      subst e31; subst e33
      have rM := (rdb_of hr).fr (Bl.fr B8) (fun k _ h2 h3 => by have h9 : w.heap.size ≤ k := h3; omega)
      have own0 : (w6.alloc (.cells #[] 5)).ownsRow w6.heap.size 5 1 (.slice (some ⟨w6.heap.size, 0, none⟩) 0 0) ([] : List Int).length (byts []) :=
        ⟨rfl, .inr ⟨w6.heap.size, 0, #[], rfl, Nat.le_refl _, heap_alloc_new w6 _, Nat.le_refl _, Nat.zero_le _, rfl, rfl⟩⟩
      have rE := RdB.fr (S := nothing) rd ((Fr.refl _ w6).alloc (.cells #[] 5)) (fun _ _ _ h => h)
      have rM1 := RdB.fr (S := nothing) rM ((Fr.refl _ w6).alloc (.cells #[] 5)) (fun _ _ _ h => h)
      have hapl : ([] : List Int).length + zs.length ≤ 140737488355328 := by simp; omega
      have hapl2 : zs.length + l.length ≤ 140737488355328 := by omega
      have hbw : w6.heap.size ≤ (w6.alloc (.cells #[] 5)).heap.size := by simp
      have hrmh : w.heap.size ≤ w6.heap.size := B8.size
      obtain ⟨ib, hib, hbz0, hbz1, hbz2⟩ := info_parts info_b
      clear e32
      go_upto_region 12 with fail
      refine wp_region_lit ?_
      refine wpList_plain rfl (fun K hK => ?_)
      go_simp
      refine hK _ _ ?_
      clear hK K
      refine wpList_plain rfl (fun K hK => ?_)
      go_simp
      refine hK _ _ ?_
      clear hK K
      refine wpList_append_b _ rfl (.tmp 67) (.tmp 68) _ rfl w6.heap.size 5 ib Try.underlying29 hib hbz0 hbz1 hbz2 _ [] rfl own0 _ _ _ _ _ zs rfl rfl rE hapl hbw ?_
      intro v1 wA hown hg hat
      have o1 : OwnB wA w6.heap.size 5 v1 zs := hown
      have BA := ((Below.refl w6.heap.size w6).alloc (Nat.le_refl _) (.cells #[] 5)).grown hg (by simp) (fun k hk => by have hk' : some w6.heap.size = some k := hk; injection hk' with hk'; omega)
      have rM2 := rM.fr (Bl.fr BA) (fun k _ h2 h3 => by have h9 : w6.heap.size ≤ k := h3; omega)
      obtain ⟨B1s, c1s, rfl, -, -⟩ := OwnB.slice o1
      have hwA : w6.heap.size ≤ wA.heap.size := BA.size
      clear hown hg hat own0 rE rM1 rM rd hapl hbw
      refine wpList_plain rfl (fun K hK => ?_)
      go_simp
      refine hK _ _ ?_
      clear hK K
      refine wpList_append_b _ rfl (.tmp 69) (.tmp 70) _ rfl w6.heap.size 5 ib Try.underlying29 hib hbz0 hbz1 hbz2 _ zs rfl o1 _ _ _ _ _ l rfl rfl rM2 hapl2 hwA ?_
      intro v2 wB hown hg hat
      have o2 : OwnB wB w6.heap.size 5 v2 (zs ++ l) := hown
      have BB := Bl.trans BA (Bl.of_fr ((Fr.refl _ wA).grown (S := fun k => w6.heap.size ≤ k) hg (fun k hk => .inl (OwnB.ge o1 k hk))) BA.size (fun k hk => hk))
      obtain ⟨B2s, n2s, c2s, rfl, hn2s⟩ : ∃ A n c, v2 = .slice A n c ∧ n = (zs ++ l).length := (by obtain ⟨A, c, e, -⟩ := OwnB.slice o2; exact ⟨A, _, c, e, rfl⟩)
      clear hown hg hat o1 BA rM2
      have B9 := Bl.trans B8 (Bl.low BB B8.size)
      have bX8 := bX6.fr (Fr.of_below (S := nothing) BB) id
      have o2' := SlB.of_own o2
      have CG := cget_calls _ _ _ _ wB o2' (Nat.le_refl _) (isb_app HIB.out HIL.out) (by simp; omega)
      unfold GetC at CG
      obtain ⟨g1, g2, g3⟩ := HM.out
      rw [g1, g2, g3] at CG
      have HCG := Lib.hid CG
      clear CG g1 g2 g3 o2 o2' BB B8 bX6 HM hn2s
      -- HCG: the contract, hidden; wB: the world before; names out: bZ block's fact, HZ the chunk's facts (hidden), gZ the block, w9 the world, F9 the frame
      refine wpList_plain rfl (fun K hK => ?_)
      go_simp
      go_at_call 18
      refine HCG.out.mono ?_
      rintro e wQ ⟨BQ, csQ, rfl, hckQ⟩
      simp only []
      refine hK _ _ ?_
      clear hK K HCG
      have szQ := hckQ.size
      have HckQ := Lib.hid hckQ
      clear hckQ
      refine wpList_plain rfl (fun K hK => ?_)
      go_simp
      refine hK _ _ ?_
      clear hK K
      refine wpList_plain rfl (fun K hK => ?_)
      go_simp
      refine hK _ _ ?_
      clear hK K
      refine wpList_plain rfl (fun K hK => ?_)
      go_simp
      refine hK _ _ ?_
      clear hK K
      refine wpList_plain rfl (fun K hK => ?_)
      go_simp
      refine hK _ _ ?_
      clear hK K
      refine wpList_plain rfl (fun K hK => ?_)
      go_simp
      refine hK _ _ ?_
      clear hK K
      refine wpList_plain rfl (fun K hK => ?_)
      refine Mem.oper_store (cs0 := zch) (cs := csQ) rfl rfl rfl (Blk.new wQ zch 31) (by rw [szQ]; kernel_rfl) (by rw [szQ]; rfl) HckQ.out.one ?_
      refine hK _ _ ?_
      clear hK K
      refine wpList_plain rfl (fun K hK => ?_)
      go_simp
      refine hK _ _ ?_
      clear hK K
      refine wpList_plain rfl (fun K hK => ?_)
      go_simp
      refine hK _ _ ?_
      clear hK K
      refine wpList_nil ?_
      have bZ : Blk ((wQ.alloc (.cells zch 31)).setRow wQ.heap.size csQ) wQ.heap.size 31 csQ := blk_row csQ (Blk.new wQ zch 31)
      have fQ : Fr nothing wQ ((wQ.alloc (.cells zch 31)).setRow wQ.heap.size csQ) := ((Fr.refl nothing wQ).alloc _).trans (fr_row wQ.heap.size csQ) (fun k hk h => by have h9 : k = wQ.heap.size := h; omega)
      have F9 : Fr nothing wB ((wQ.alloc (.cells zch 31)).setRow wQ.heap.size csQ) := (Fr.of_below (S := nothing) BQ).trans fQ (fun k _ h => h)
      have hsQ : wB.heap.size ≤ wQ.heap.size := BQ.size
      have htQ : wQ.heap.size < ((wQ.alloc (.cells zch 31)).setRow wQ.heap.size csQ).heap.size := bZ.lt
      have hck6 := HckQ.out.fr fQ (fun _ _ _ h => h)
      generalize (wQ.alloc (.cells zch 31)).setRow wQ.heap.size csQ = w9 at *
      generalize wQ.heap.size = gZ at *
      have HZ := Lib.hid hck6
      clear BQ fQ hck6 HckQ
      have bX9 := bX8.fr F9 id
      have B10 := Bl.trans B9 (Bl.of_fr F9 B9.size (fun k h => h.elim))
      have HKN := Lib.hid (cE_parts HE.out).1
      clear bX8 F9 B9 htop hapl2
      go_upto_region 13 with fail
      refine wp_region_any (by kernel_rfl) ?_
      refine Reg.wpAny_inv (I := fun listed act wq => ∃ (d0 d1 d2 d3 d4 d5 d6 d7 d8 d9 d10 d11 d12 d13 d14 : Bool) (cs9 : Array Value), listed = #[d0, d1, d2, d3, d4, d5, d6, d7, d8, d9, d10, d11, d12, d13, d14] ∧ act = ⟨#[Value.agg X, Value.slice a l.length cap, Value.pointer (some { block := w.heap.size, off := 0 }), undef, (bif d14 then (.bool true) else (.bool false)), Value.pointer (some { block := gY, off := 0 }), Value.slice A zs.length p, Value.int IntKind.i64 0, Value.slice A2 zs.length p2, Value.int IntKind.i64 0, Value.pointer (some { block := gZ, off := 0 }), Value.int IntKind.i64 ↑zs.length, Value.int IntKind.i64 0, Value.bool true, Value.bool false, Value.agg X, Value.int IntKind.i64 (szC c), Value.bool false, Value.bool false, Value.slice a l.length cap, Value.int IntKind.i64 ↑l.length, Value.bool false, Value.bool false, Value.agg X, Value.agg Y, Value.tuple #[Value.slice A zs.length p, Value.int IntKind.i64 0], Value.agg Y, Value.tuple #[Value.slice A zs.length p, Value.int IntKind.i64 0], Value.slice A zs.length p, Value.int IntKind.i64 0, Value.tuple #[Value.slice A2 zs.length p2, Value.int IntKind.i64 0], Value.agg X, Value.tuple #[Value.slice A2 zs.length p2, Value.int IntKind.i64 0], Value.slice A2 zs.length p2, Value.int IntKind.i64 0, Value.int IntKind.i64 0, Value.int IntKind.i64 0, Value.bool false, Value.bool false, Value.slice A zs.length p, Value.string (bstr zs), Value.slice A2 zs.length p2, Value.string (bstr zs), Value.bool false, Value.bool false, Value.bool false, Value.agg Y, Value.agg X, Value.bool true, Value.bool false, Value.bool false, Value.bool false, Value.pointer (some { block := w.heap.size, off := 0 }), Value.int IntKind.u8 c.k, Value.bool (kn c.k), Value.pointer (some { block := w.heap.size, off := 0 }), Value.int IntKind.u8 c.k, Value.int IntKind.i64 c.k, Value.bool (kn c.k), Value.bool false, Value.bool false, Value.int IntKind.i64 0, Value.bool false, undef, undef, undef, Value.tuple #[Value.agg csQ, Value.int IntKind.i64 ↑zs.length, Value.int IntKind.i64 0], Value.slice (some { block := w6.heap.size, off := 0 }) 0 0, Value.slice A zs.length p, Value.slice B1s zs.length c1s, Value.slice a l.length cap, Value.slice B2s n2s c2s, Value.tuple #[Value.agg csQ, Value.int IntKind.i64 ↑zs.length, Value.int IntKind.i64 0], Value.agg csQ, Value.int IntKind.i64 ↑zs.length, Value.int IntKind.i64 0, (bif d0 then (.int .i64 0) else undef), (bif d1 then (.bool true) else undef), (bif d2 then (.bool true) else undef), (bif d3 then (.int .i64 zs.length) else undef), (bif d4 then (.slice A zs.length p) else undef), (bif d5 then (.int .i64 zs.length) else undef), (bif d6 then (.bool true) else undef), (bif d7 then (.bool true) else undef), (bif d8 then (.bool true) else undef), (bif d9 then (.agg csQ) else undef), (bif d10 then (.agg X) else undef), (bif d11 then (.agg cs9) else undef), (bif d12 then (.bool true) else undef), (bif d13 then (.bool true) else undef)], []⟩ ∧ Below w9.heap.size w9 wq ∧ (d11 = true → CkV wq 0 wq.heap.size cs9 (strip c))) ?_ ?_ _ _ _ _ (by decide) ?_
      · intro i o listed act wq hi hI hun hdeps K hK
        obtain ⟨d0, d1, d2, d3, d4, d5, d6, d7, d8, d9, d10, d11, d12, d13, d14, cs9, rfl, rfl, hF, h11⟩ := hI
        have hlt : i < 15 := (Array.getElem?_eq_some_iff.1 hi).1
        rcases (show i = 0 ∨ i = 1 ∨ i = 2 ∨ i = 3 ∨ i = 4 ∨ i = 5 ∨ i = 6 ∨ i = 7 ∨ i = 8 ∨ i = 9 ∨ i = 10 ∨ i = 11 ∨ i = 12 ∨ i = 13 ∨ i = 14 by omega) with rfl | rfl | rfl | rfl | rfl | rfl | rfl | rfl | rfl | rfl | rfl | rfl | rfl | rfl | rfl
        · skip
          obtain rfl : _ = o := Option.some.inj hi
          obtain rfl : d0 = false := by simpa using hun
          clear hun hdeps hi hlt
          go_simp
          exact hK _ _ ⟨true, d1, d2, d3, d4, d5, d6, d7, d8, d9, d10, d11, d12, d13, d14, cs9, rfl, rfl, hF, h11⟩
        · skip
          obtain rfl : _ = o := Option.some.inj hi
          obtain rfl : d1 = false := by simpa using hun
          obtain rfl : d0 = true := hdeps _ (Array.mem_of_getElem? (i := 0) rfl) rfl
          clear hun hdeps hi hlt
          go_simp
          exact hK _ _ ⟨true, true, d2, d3, d4, d5, d6, d7, d8, d9, d10, d11, d12, d13, d14, cs9, rfl, rfl, hF, h11⟩
        · skip
          obtain rfl : _ = o := Option.some.inj hi
          obtain rfl : d2 = false := by simpa using hun
          obtain rfl : d1 = true := hdeps _ (Array.mem_of_getElem? (i := 0) rfl) rfl
          clear hun hdeps hi hlt
          go_simp
          exact hK _ _ ⟨d0, true, true, d3, d4, d5, d6, d7, d8, d9, d10, d11, d12, d13, d14, cs9, rfl, rfl, hF, h11⟩
        · skip
          obtain rfl : _ = o := Option.some.inj hi
          obtain rfl : d3 = false := by simpa using hun
          obtain rfl : d2 = true := hdeps _ (Array.mem_of_getElem? (i := 0) rfl) rfl
          clear hun hdeps hi hlt
          go_simp
          exact hK _ _ ⟨d0, d1, true, true, d4, d5, d6, d7, d8, d9, d10, d11, d12, d13, d14, cs9, rfl, rfl, hF, h11⟩
        · skip
          obtain rfl : _ = o := Option.some.inj hi
          obtain rfl : d4 = false := by simpa using hun
          obtain rfl : d2 = true := hdeps _ (Array.mem_of_getElem? (i := 0) rfl) rfl
          clear hun hdeps hi hlt
          go_simp
          exact hK _ _ ⟨d0, d1, true, d3, true, d5, d6, d7, d8, d9, d10, d11, d12, d13, d14, cs9, rfl, rfl, hF, h11⟩
        · skip
          obtain rfl : _ = o := Option.some.inj hi
          obtain rfl : d5 = false := by simpa using hun
          obtain rfl : d4 = true := hdeps _ (Array.mem_of_getElem? (i := 0) rfl) rfl
          obtain rfl : d2 = true := hdeps _ (Array.mem_of_getElem? (i := 1) rfl) rfl
          clear hun hdeps hi hlt
          go_simp
          exact hK _ _ ⟨d0, d1, true, d3, true, true, d6, d7, d8, d9, d10, d11, d12, d13, d14, cs9, rfl, rfl, hF, h11⟩
        · skip
          obtain rfl : _ = o := Option.some.inj hi
          obtain rfl : d6 = false := by simpa using hun
          obtain rfl : d3 = true := hdeps _ (Array.mem_of_getElem? (i := 0) rfl) rfl
          obtain rfl : d5 = true := hdeps _ (Array.mem_of_getElem? (i := 1) rfl) rfl
          obtain rfl : d2 = true := hdeps _ (Array.mem_of_getElem? (i := 2) rfl) rfl
          clear hun hdeps hi hlt
          go_simp
          exact hK _ _ ⟨d0, d1, true, true, d4, true, true, d7, d8, d9, d10, d11, d12, d13, d14, cs9, rfl, rfl, hF, h11⟩
        · skip
          obtain rfl : _ = o := Option.some.inj hi
          obtain rfl : d7 = false := by simpa using hun
          obtain rfl : d2 = true := hdeps _ (Array.mem_of_getElem? (i := 0) rfl) rfl
          obtain rfl : d6 = true := hdeps _ (Array.mem_of_getElem? (i := 1) rfl) rfl
          clear hun hdeps hi hlt
          go_simp
          exact hK _ _ ⟨d0, d1, true, d3, d4, d5, true, true, d8, d9, d10, d11, d12, d13, d14, cs9, rfl, rfl, hF, h11⟩
        · skip
          obtain rfl : _ = o := Option.some.inj hi
          obtain rfl : d8 = false := by simpa using hun
          obtain rfl : d7 = true := hdeps _ (Array.mem_of_getElem? (i := 0) rfl) rfl
          obtain rfl : d2 = true := hdeps _ (Array.mem_of_getElem? (i := 1) rfl) rfl
          clear hun hdeps hi hlt
          go_simp
          exact hK _ _ ⟨d0, d1, true, d3, d4, d5, d6, true, true, d9, d10, d11, d12, d13, d14, cs9, rfl, rfl, hF, h11⟩
        · skip
          obtain rfl : _ = o := Option.some.inj hi
          obtain rfl : d9 = false := by simpa using hun
          obtain rfl : d8 = true := hdeps _ (Array.mem_of_getElem? (i := 0) rfl) rfl
          clear hun hdeps hi hlt
          rw [if_pos (show Region.wanted _ _ = true from rfl)]
          refine Mem.oper_load rfl rfl (bZ.fr (Fr.of_below (S := nothing) hF) id) hup rfl (by rw [szQ]; kernel_rfl) ?_
          exact hK _ _ ⟨d0, d1, d2, d3, d4, d5, d6, d7, true, true, d10, d11, d12, d13, d14, cs9, rfl, rfl, hF, h11⟩
        · skip
          obtain rfl : _ = o := Option.some.inj hi
          obtain rfl : d10 = false := by simpa using hun
          obtain rfl : d8 = true := hdeps _ (Array.mem_of_getElem? (i := 0) rfl) rfl
          clear hun hdeps hi hlt
          rw [if_pos (show Region.wanted _ _ = true from rfl)]
          refine Mem.oper_load rfl rfl (bX9.fr (Fr.of_below (S := nothing) hF) id) hup rfl (by rw [hsz]; kernel_rfl) ?_
          exact hK _ _ ⟨d0, d1, d2, d3, d4, d5, d6, d7, true, d9, true, d11, d12, d13, d14, cs9, rfl, rfl, hF, h11⟩
        · skip
          obtain rfl : _ = o := Option.some.inj hi
          obtain rfl : d11 = false := by simpa using hun
          obtain rfl : d10 = true := hdeps _ (Array.mem_of_getElem? (i := 0) rfl) rfl
          obtain rfl : d8 = true := hdeps _ (Array.mem_of_getElem? (i := 1) rfl) rfl
          clear hun hdeps hi hlt
          have HS := Lib.hid (rstrip_calls _ _ X c wq (HCK.out.bl (Bl.trans B10 (Bl.low hF B10.size)) (Nat.le_refl _)) (Nat.le_trans B10.size hF.size) HBD.out HL.out HKN.out)
          have HS2 := Lib.hid (show Calls Try.prog _ _ _ _ from HS.out)
          go_simp
          go_at_call 19
          refine HS.out.mono ?_
          rintro e w' ⟨B', cs8, rfl, hs8⟩
          have hF' := Bl.trans hF (Bl.low B' hF.size)
          clear HS HS2
          simp only []
          exact hK _ _ ⟨d0, d1, d2, d3, d4, d5, d6, d7, true, d9, true, true, d12, d13, d14, cs8, rfl, rfl, hF', fun _ => hs8⟩
        · skip
          obtain rfl : _ = o := Option.some.inj hi
          obtain rfl : d12 = false := by simpa using hun
          obtain rfl : d9 = true := hdeps _ (Array.mem_of_getElem? (i := 0) rfl) rfl
          obtain rfl : d11 = true := hdeps _ (Array.mem_of_getElem? (i := 1) rfl) rfl
          obtain rfl : d8 = true := hdeps _ (Array.mem_of_getElem? (i := 3) rfl) rfl
          clear hun hdeps hi hlt
          have HS := Lib.hid (rsame_calls _ _ _ _ csQ cs9 (strip c) wq (HZ.out.fr (Fr.of_below (S := nothing) hF) (fun _ _ _ h => h)) (h11 rfl) (Nat.le_trans (Nat.le_of_lt bZ.lt) hF.size) (Nat.le_refl _) (strip_b HBD.out) (strip_l HL.out))
          go_simp
          go_at_call 15
          refine HS.out.mono ?_
          rintro e w' ⟨rfl, B'⟩
          have h11' : (true = true → CkV w' 0 w'.heap.size cs9 (strip c)) := fun _ => ((h11 rfl).fr (Fr.of_below (S := nothing) B') (fun _ _ _ h => h)).more (Nat.le_refl _) B'.size
          have hF' := Bl.trans hF (Bl.low B' hF.size)
          clear HS B'
          simp only []
          exact hK _ _ ⟨d0, d1, d2, d3, d4, d5, d6, d7, true, true, d10, true, true, d13, d14, cs9, rfl, rfl, hF', h11'⟩
        · skip
          obtain rfl : _ = o := Option.some.inj hi
          obtain rfl : d13 = false := by simpa using hun
          obtain rfl : d8 = true := hdeps _ (Array.mem_of_getElem? (i := 0) rfl) rfl
          obtain rfl : d12 = true := hdeps _ (Array.mem_of_getElem? (i := 1) rfl) rfl
          clear hun hdeps hi hlt
          go_simp
          exact hK _ _ ⟨d0, d1, d2, d3, d4, d5, d6, d7, true, d9, d10, d11, true, true, d14, cs9, rfl, rfl, hF, h11⟩
        · skip
          obtain rfl : _ = o := Option.some.inj hi
          obtain rfl : d14 = false := by simpa using hun
          obtain rfl : d13 = true := hdeps _ (Array.mem_of_getElem? (i := 0) rfl) rfl
          obtain rfl : d12 = true := hdeps _ (Array.mem_of_getElem? (i := 1) rfl) rfl
          clear hun hdeps hi hlt
          go_simp
          exact hK _ _ ⟨d0, d1, d2, d3, d4, d5, d6, d7, d8, d9, d10, d11, true, true, true, cs9, rfl, rfl, hF, h11⟩
      · intro listed act wq hI hr0
        obtain ⟨d0, d1, d2, d3, d4, d5, d6, d7, d8, d9, d10, d11, d12, d13, d14, cs9, rfl, rfl, hF, h11⟩ := hI
        have hall := Reg.all_of_done (by kernel_rfl) rfl hr0
        obtain rfl : d0 = true := hall 0 (by decide)
        obtain rfl : d1 = true := hall 1 (by decide)
        obtain rfl : d2 = true := hall 2 (by decide)
        obtain rfl : d3 = true := hall 3 (by decide)
        obtain rfl : d4 = true := hall 4 (by decide)
        obtain rfl : d5 = true := hall 5 (by decide)
        obtain rfl : d6 = true := hall 6 (by decide)
        obtain rfl : d7 = true := hall 7 (by decide)
        obtain rfl : d8 = true := hall 8 (by decide)
        obtain rfl : d9 = true := hall 9 (by decide)
        obtain rfl : d10 = true := hall 10 (by decide)
        obtain rfl : d11 = true := hall 11 (by decide)
        obtain rfl : d12 = true := hall 12 (by decide)
        obtain rfl : d13 = true := hall 13 (by decide)
        obtain rfl : d14 = true := hall 14 (by decide)
        clear hall hr0
        simp only [cond_true]
        have BF := Bl.trans B10 (Bl.low hF B10.size)
        clear hF h11 bZ bX9 B10
        go_wp2
        go_ret
        exact ⟨rfl, BF⟩
      · exact ⟨false, false, false, false, false, false, false, false, false, false, false, false, false, false, false, #[], rfl, rfl, Bl.of_fr (Fr.refl nothing w9).drew (Nat.le_refl _) (fun k h => h.elim), (fun h => by cases h)⟩
    · have hne : (E != 0) = true := by simp [h0]
      have hzs : zs = [] := by rw [← HZZ.out, cO_bad (by rw [HEE.out]; exact h0)]
      subst hzs
      clear h0
      go_wp2
      go_ret
      exact ⟨rfl, B8⟩
  · exact ⟨false, false, false, false, false, false, false, false, false, false, false, false, false, false, false, false, false, false, false, false, false, false, false, false, false, false, rfl, rfl, Bl.of_fr (Fr.refl nothing w5).drew (Nat.le_refl _) (fun k h => h.elim)⟩
end Go.Proofs.Ytaifihoheieneaa.ChunkPuts
