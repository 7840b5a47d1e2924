/- The walk of flumelaw03.CrcMoves: true for all bytes, every place and all other bytes. No conditions but the row's own. -/
import Derived.Test.YtdapcjeofgimgaaCrcSeal
namespace Go.Proofs.Ytdapcjeofgimgaa.CrcMoves
open Go.RowKit Go.Proofs.Ytdapcjeofgimgaa.Mem Go.Proofs.Ytdapcjeofgimgaa.Octet Go.Proofs.Ytdapcjeofgimgaa.Crc
set_option linter.unusedVariables false
set_option linter.unusedSimpArgs false
attribute [local go_sem] max2_mx min2_mn max_two min_two

set_option maxHeartbeats 2000000 in
set_option maxRecDepth 100000 in
theorem walk (a : Option Addr) (cap : Nat) (l : List Int) (p : Int) (o0 o1 o2 o3 : Int) (w : World) (hr : ReadsI w .u8 a l) (hc : l.length ≤ cap) (hm : cap ≤ maxLen) (hy : l.length * 1 ≤ 140737488351232)
    (hw : ∀ x ∈ l, (Lit.int .u8 x).wf = true) (hnil : a = none → cap = 0) (hwp : (Lit.int .i64 p).wf = true)
    (ho0 : (Lit.int .u8 o0).wf = true) (ho1 : (Lit.int .u8 o1).wf = true) (ho2 : (Lit.int .u8 o2).wf = true) (ho3 : (Lit.int .u8 o3).wf = true) :
    Calls Try.prog 6 #[.slice a l.length cap, .int .i64 p, .agg #[.int .u8 o0, .int .u8 o1, .int .u8 o2, .int .u8 o3]] w fun e w' => e = .returned (.bool true) ∧ Below w.heap.size w w' := by
  obtain ⟨K, hK⟩ : ∃ K : Nat, mn l.length 2000 = K := ⟨min l.length 2000, by unfold mn; split <;> omega⟩
  have hK1 : K ≤ l.length ∧ K ≤ 2000 := by unfold mn at hK; split at hK <;> omega
  have X0 := slb_cut hr hc hm hnil K hK1.1
  have hKc : K ≤ cap := by omega
  have ib : IsB (l.take K) := fun x hx => range_u8 x (hw x (List.mem_of_mem_take hx))
  have hlen : (l.take K).length = K := by rw [List.length_take]; omega
  have r0 := Lib.hid (range_u8 _ ho0)
  have r1 := Lib.hid (range_u8 _ ho1)
  have r2 := Lib.hid (range_u8 _ ho2)
  have r3 := Lib.hid (range_u8 _ ho3)
  clear hr hw hnil hy hwp ho0 ho1 ho2 ho3
  obtain ⟨i0, hi0, hz0, hz1, hz2⟩ := info_parts info_b
  have OT := Blk.new w #[.int .u8 o0, .int .u8 o1, .int .u8 o2, .int .u8 o3] 37
  have BT := (Below.refl w.heap.size w).alloc (Nat.le_refl _) (.cells #[.int .u8 o0, .int .u8 o1, .int .u8 o2, .int .u8 o3] 37)
  have XT := SlB.fr X0 (S := nothing) ((Fr.refl _ w).alloc (.cells #[.int .u8 o0, .int .u8 o1, .int .u8 o2, .int .u8 o3] 37)) (fun _ _ _ h => h)
  clear X0
  go_enter Try.func6, Try.ntmps6
  go_wp2_with fail
  refine (first_calls _).mono ?_
  rintro e w0 ⟨rfl, B0⟩
  have OT0 := OT.fr (Fr.of_below (S := nothing) B0) (fun h => h)
  have X0 := SlB.fr XT (Fr.of_below (S := nothing) B0) (fun _ _ _ h => h)
  have B1 := Bl.trans BT (Bl.low B0 BT.size)
  have hwo : w.heap.size < w0.heap.size := OT0.lt
  clear OT BT XT B0
  have own0 : (w0.alloc (.cells #[] 5)).ownsRow w0.heap.size 5 1 (.slice (some ⟨w0.heap.size, 0, none⟩) 0 0) ([] : List Int).length (byts []) :=
    ⟨rfl, .inr ⟨w0.heap.size, 0, #[], rfl, Nat.le_refl _, heap_alloc_new w0 _, Nat.le_refl _, Nat.zero_le _, rfl, rfl⟩⟩
  obtain ⟨A3, c3, e3, h31, h32, h33, rd2⟩ := SlB.fr X0 (S := nothing) ((Fr.refl _ w0).alloc (.cells #[] 5)) (fun _ _ _ h => h)
  injection e3 with e3 el4 e4
  subst e3; subst e4
  clear h31 h32 h33 el4
  have hbig : ([] : List Int).length + (l.take K).length ≤ 140737488355328 := by simp; omega
  go_wp2_with (at_builtin; refine wpList_append_b _ rfl (.tmp 17) (.tmp 22) _ rfl w0.heap.size 5 i0 Try.underlying22 hi0 hz0 hz1 hz2 _ [] rfl own0 _ _ _ _ _ (l.take K) rfl hlen.symm rd2 hbig (by simp) ?_; intro v' w' hown hg hat; clear own0 rd2; have oB : OwnB w' w0.heap.size 5 v' (l.take K) := hown; have BB : Below w0.heap.size w0 w' := ((Below.refl _ _).alloc (Nat.le_refl _) _).grown hg (by simp) (fun k hk => by have hk' : some w0.heap.size = some k := hk; injection hk' with hk'; omega); clear hown hg hat)
  generalize hxs : l.take K = xs at oB ib hlen
  obtain rfl : K = xs.length := hlen.symm
  have hx3 : xs.length ≤ 2000 := hK1.2
  clear X0 hxs hK hK1 hKc hbig hlen
  obtain ⟨Ab, cb, rfl, -, -⟩ := OwnB.slice oB
  have B2 := Bl.trans B1 (Bl.low BB B1.size)
  have OT1 := OT0.fr (Fr.of_below (S := nothing) BB) (fun h => h)
  have SB := SlB.of_own oB
  have hcb : cb ≤ 9223372036854775807 := by
    obtain ⟨A', cc, e, h1, h2, h3, h4⟩ := SB
    injection e with _ _ e2
    subst e2
    unfold maxLen at h2
    omega
  have hsz := BB.size
  clear OT0 B1 BB
  rcases hf : fitsAt xs.length p with _ | _
  · go_wp2_with fail
    refine (seal_no Ab xs.length cb p w' (by omega) hf).mono ?_
    rintro e w1 ⟨rfl, rfl⟩
    go_wp2
    go_ret
    exact ⟨rfl, B2⟩
  · obtain ⟨q, rfl, hq⟩ : ∃ q : Nat, p = q ∧ q + 4 ≤ xs.length := by
      simp only [fitsAt, decide_eq_true_eq] at hf
      exact ⟨p.toNat, by omega, by omega⟩
    clear hf
    go_wp2_with fail
    refine (seal_calls _ _ Ab cb xs q w' SB (by omega) hcb ib hq).mono ?_
    rintro e w1 ⟨Bs, cs, rfl, os, B3⟩
    have oB1 := OwnB.fr oB (Fr.of_below (S := nothing) B3) (fun _ _ h => h)
    have OT2 := OT1.fr (Fr.of_below (S := nothing) B3) (fun h => h)
    have B4 := Bl.trans B2 (Bl.low B3 B2.size)
    have hsz2 := B3.size
    have hob := fun k hk => OwnB.lt oB k hk
    clear oB OT1 B2 B3 SB
    go_wp2_with fail
    go_loopw [35] (fun i wi => ∃ (k : Nat) (ys : List Int), k ≤ 4 ∧ i = .int .i64 k ∧ ys.length = xs.length ∧ IsB ys ∧ (∀ i, i < xs.length → ¬ (q ≤ i ∧ i < q + 4) → ys[i]? = xs[i]?) ∧ OwnB wi w0.heap.size 5 (.slice Ab xs.length cb) ys ∧
      OwnB wi w'.heap.size 5 (.slice Bs xs.length cs) (sealW xs q) ∧ Blk wi w.heap.size 37 #[.int .u8 o0, .int .u8 o1, .int .u8 o2, .int .u8 o3] ∧ Below w.heap.size w wi) (fun i _ => 4 - (intOf i).toNat)
    case atStart => exact ⟨0, xs, Nat.zero_le _, rfl, rfl, ib, fun _ _ _ => rfl, oB1, os, OT2, B4⟩
    case round =>
      clear oB1 os OT2 B4
      obtain ⟨k, ys, hk, rfl, hyl, iby, hys, oA, oS, OT, B⟩ := hrel
      have HIY := Lib.hid iby
      have HYS := Lib.hid hys
      have HYL := Lib.hid hyl
      clear iby hys hyl
      rcases (show k = 0 ∨ k = 1 ∨ k = 2 ∨ k = 3 ∨ k = 4 by omega) with rfl | rfl | rfl | rfl | rfl
      · have zc := OT.cell 0
        simp at zc
        obtain ⟨ai, rfl, hbo, ⟨x, hcx⟩, hfx, hbx, hst⟩ := own_put oA (q) (by omega)
        have hs2 := hst o0
        have fA : Fr (OfV (.slice (some ai) xs.length cb)) wr (wr.setCell (ai.add (q)) (.int .u8 o0)) := (Fr.refl _ _).setCell (.inl (hbo _ rfl)) _
        have oS2 := OwnB.fr oS fA (fun k h1 h2 => by have := OwnB.ge oS k h1; have := hob k h2; omega)
        have OT3 := OT.fr fA (fun h => by have := OwnB.ge oA _ h; omega)
        have B5 := Bl.trans B (Bl.of_fr fA B.size (fun k hk => by have := OwnB.ge oA k hk; omega))
        have ea : ai.add (q) = ai.add q := by first | rfl | simp [Addr.add]
        rw [ea] at hcx hfx hs2 oS2 OT3 B5
        have b1 : (q : Int) + 0 < xs.length := by omega
        have b0 : (0 : Int) ≤ (q : Int) + 0 := by omega
        clear oA oS OT B hst fA ea hbo hbx
        have HS2 := Lib.hid hs2
        have HOS := Lib.hid oS2
        have HB5 := Lib.hid B5
        have HOT := Lib.hid OT3
        clear hs2 oS2 B5 OT3
        go_wp2
        go_roundw
        case rel =>
          refine ⟨0 + 1, ys.set (q) o0, by omega, rfl, by rw [List.length_set, HYL.out], fun y hy => ?_, fun i hi hn => ?_, HS2.out, HOS.out, HOT.out, HB5.out⟩
          · rcases List.mem_or_eq_of_mem_set hy with hy | rfl
            · exact HIY.out y hy
            · exact r0.out
          · rw [List.getElem?_set_ne (by omega)]
            exact HYS.out i hi hn
        case measure => simp [intOf]
      · have zc := OT.cell 1
        simp at zc
        obtain ⟨ai, rfl, hbo, ⟨x, hcx⟩, hfx, hbx, hst⟩ := own_put oA (q + 1) (by omega)
        have hs2 := hst o1
        have fA : Fr (OfV (.slice (some ai) xs.length cb)) wr (wr.setCell (ai.add (q + 1)) (.int .u8 o1)) := (Fr.refl _ _).setCell (.inl (hbo _ rfl)) _
        have oS2 := OwnB.fr oS fA (fun k h1 h2 => by have := OwnB.ge oS k h1; have := hob k h2; omega)
        have OT3 := OT.fr fA (fun h => by have := OwnB.ge oA _ h; omega)
        have B5 := Bl.trans B (Bl.of_fr fA B.size (fun k hk => by have := OwnB.ge oA k hk; omega))
        have ea : ai.add (q + 1) = ⟨ai.block, ai.off + (q + 1), none⟩ := by first | rfl | simp [Addr.add]
        rw [ea] at hcx hfx hs2 oS2 OT3 B5
        have b1 : (q : Int) + 1 < xs.length := by omega
        have b0 : (0 : Int) ≤ (q : Int) + 1 := by omega
        clear oA oS OT B hst fA ea hbo hbx
        have HS2 := Lib.hid hs2
        have HOS := Lib.hid oS2
        have HB5 := Lib.hid B5
        have HOT := Lib.hid OT3
        clear hs2 oS2 B5 OT3
        go_wp2
        go_roundw
        case rel =>
          refine ⟨1 + 1, ys.set (q + 1) o1, by omega, rfl, by rw [List.length_set, HYL.out], fun y hy => ?_, fun i hi hn => ?_, HS2.out, HOS.out, HOT.out, HB5.out⟩
          · rcases List.mem_or_eq_of_mem_set hy with hy | rfl
            · exact HIY.out y hy
            · exact r1.out
          · rw [List.getElem?_set_ne (by omega)]
            exact HYS.out i hi hn
        case measure => simp [intOf]
      · have zc := OT.cell 2
        simp at zc
        obtain ⟨ai, rfl, hbo, ⟨x, hcx⟩, hfx, hbx, hst⟩ := own_put oA (q + 2) (by omega)
        have hs2 := hst o2
        have fA : Fr (OfV (.slice (some ai) xs.length cb)) wr (wr.setCell (ai.add (q + 2)) (.int .u8 o2)) := (Fr.refl _ _).setCell (.inl (hbo _ rfl)) _
        have oS2 := OwnB.fr oS fA (fun k h1 h2 => by have := OwnB.ge oS k h1; have := hob k h2; omega)
        have OT3 := OT.fr fA (fun h => by have := OwnB.ge oA _ h; omega)
        have B5 := Bl.trans B (Bl.of_fr fA B.size (fun k hk => by have := OwnB.ge oA k hk; omega))
        have ea : ai.add (q + 2) = ⟨ai.block, ai.off + (q + 1 + 1), none⟩ := by first | rfl | simp [Addr.add]
        rw [ea] at hcx hfx hs2 oS2 OT3 B5
        have b1 : (q : Int) + 2 < xs.length := by omega
        have b0 : (0 : Int) ≤ (q : Int) + 2 := by omega
        clear oA oS OT B hst fA ea hbo hbx
        have HS2 := Lib.hid hs2
        have HOS := Lib.hid oS2
        have HB5 := Lib.hid B5
        have HOT := Lib.hid OT3
        clear hs2 oS2 B5 OT3
        go_wp2
        go_roundw
        case rel =>
          refine ⟨2 + 1, ys.set (q + 2) o2, by omega, rfl, by rw [List.length_set, HYL.out], fun y hy => ?_, fun i hi hn => ?_, HS2.out, HOS.out, HOT.out, HB5.out⟩
          · rcases List.mem_or_eq_of_mem_set hy with hy | rfl
            · exact HIY.out y hy
            · exact r2.out
          · rw [List.getElem?_set_ne (by omega)]
            exact HYS.out i hi hn
        case measure => simp [intOf]
      · have zc := OT.cell 3
        simp at zc
        obtain ⟨ai, rfl, hbo, ⟨x, hcx⟩, hfx, hbx, hst⟩ := own_put oA (q + 3) (by omega)
        have hs2 := hst o3
        have fA : Fr (OfV (.slice (some ai) xs.length cb)) wr (wr.setCell (ai.add (q + 3)) (.int .u8 o3)) := (Fr.refl _ _).setCell (.inl (hbo _ rfl)) _
        have oS2 := OwnB.fr oS fA (fun k h1 h2 => by have := OwnB.ge oS k h1; have := hob k h2; omega)
        have OT3 := OT.fr fA (fun h => by have := OwnB.ge oA _ h; omega)
        have B5 := Bl.trans B (Bl.of_fr fA B.size (fun k hk => by have := OwnB.ge oA k hk; omega))
        have ea : ai.add (q + 3) = ⟨ai.block, ai.off + (q + 1 + 1 + 1), none⟩ := by first | rfl | simp [Addr.add]
        rw [ea] at hcx hfx hs2 oS2 OT3 B5
        have b1 : (q : Int) + 3 < xs.length := by omega
        have b0 : (0 : Int) ≤ (q : Int) + 3 := by omega
        clear oA oS OT B hst fA ea hbo hbx
        have HS2 := Lib.hid hs2
        have HOS := Lib.hid oS2
        have HB5 := Lib.hid B5
        have HOT := Lib.hid OT3
        clear hs2 oS2 B5 OT3
        go_wp2
        go_roundw
        case rel =>
          refine ⟨3 + 1, ys.set (q + 3) o3, by omega, rfl, by rw [List.length_set, HYL.out], fun y hy => ?_, fun i hi hn => ?_, HS2.out, HOS.out, HOT.out, HB5.out⟩
          · rcases List.mem_or_eq_of_mem_set hy with hy | rfl
            · exact HIY.out y hy
            · exact r3.out
          · rw [List.getElem?_set_ne (by omega)]
            exact HYS.out i hi hn
        case measure => simp [intOf]
      · have SY := SlB.of_own oA
        have e1 : sealW ys q = sealW xs q := seal_same HYL.out hq HYS.out
        have c1 := seal_calls _ _ Ab cb ys q wr (by rw [HYL.out]; exact SY) (by rw [HYL.out]; omega) hcb HIY.out (by rw [HYL.out]; exact hq)
        rw [HYL.out, e1] at c1
        have C1 := Lib.hid c1
        clear c1 SY e1
        go_wp2_with fail
        refine C1.out.mono ?_
        rintro e wa ⟨B5, c5, rfl, o5, Ba⟩
        have oS2 := OwnB.fr oS (Fr.of_below (S := nothing) Ba) (fun _ _ h => h)
        have Bb := Bl.trans B (Bl.low Ba B.size)
        have SS := SlB.of_own oS2
        have hcs : cs ≤ 9223372036854775807 := by
          obtain ⟨A', cc, e, h1, h2, h3, h4⟩ := SS
          injection e with _ _ e2
          subst e2
          unfold maxLen at h2
          omega
        have c2 := seal_calls _ _ Bs cs (sealW xs q) q wa (by rw [sealW_len]; exact SS) (by rw [sealW_len]; omega) hcs (isb_sealW ib q) (by rw [sealW_len]; exact hq)
        rw [sealW_len, seal_twice hq] at c2
        have C2 := Lib.hid c2
        clear c2 SS C1 oS oA OT B
        go_wp2_with fail
        refine C2.out.mono ?_
        rintro e wb ⟨B6, c6, rfl, o6, Bc⟩
        have t1 := slb_str (SlB.of_own (OwnB.fr o5 (Fr.of_below (S := nothing) Bc) (fun _ _ h => h)))
        have t2 := slb_str (SlB.of_own (OwnB.fr oS2 (Fr.of_below (S := nothing) Bc) (fun _ _ h => h)))
        have t3 := slb_str (SlB.of_own o6)
        have Bd := Bl.trans Bb (Bl.low Bc Bb.size)
        clear C2
        go_wp2
        go_ret
        exact ⟨rfl, Bd⟩
end Go.Proofs.Ytdapcjeofgimgaa.CrcMoves
