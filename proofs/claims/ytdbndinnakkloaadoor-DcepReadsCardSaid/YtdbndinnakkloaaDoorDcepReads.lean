/- The walk of flumelaw20.DcepReads: true for all bytes. Conditions: utf8's tables read as laid. -/
import Derived.Test.YtdbndinnakkloaaDoorDcpRGet
import Derived.Test.YtdbndinnakkloaaDoorDcpBack
import Derived.Deep.RegionHeldLaw
import Derived.Deep.RegionLaw
namespace Go.Proofs.YtdbndinnakkloaaDoor.DcepReads
open Go.RowKit Go.Proofs.YtdbndinnakkloaaDoor.Mem Go.Proofs.YtdbndinnakkloaaDoor.Octet Go.Proofs.YtdbndinnakkloaaDoor.Dcp
set_option linter.unusedVariables false
set_option linter.unusedSimpArgs false
theorem str_eq2 {bs : List Int} (hB : IsB bs) : ((bstr bs).toList == [2]) = decide (bs = [2]) := by
  have h := bstr_beq hB (ys := [2]) (by intro x hx; simp at hx; omega)
  have e : (bstr [2]).toList = [2] := by kernel_rfl
  rw [← h, e]
set_option maxHeartbeats 4000000 in
set_option maxRecDepth 100000 in
theorem walk (a : Option Addr) (cap : Nat) (l : List Int) (w : World) (hT : Tabs w) (hr : ReadsI w .u8 a l) (hc : l.length ≤ cap) (hm : cap ≤ maxLen) (hs : l.length * 1 ≤ 140737488351232) (hw : ∀ x ∈ l, (Lit.int .u8 x).wf = true) (hn : a = none → cap = 0) :
    Calls Tryd.prog 3 #[.slice a l.length cap] w fun e w' => e = .returned (.bool true) ∧ Below w.heap.size w w' := by
  have hB : IsB l := fun x hx => range_u8 x (hw x hx)
  have X : SlB w 0 w.heap.size (.slice a l.length cap) l := ⟨a, cap, rfl, hc, hm, hn, rdb_of hr⟩
  have hll : l.length ≤ 140737488351232 := by omega
  have HF := Lib.hid (first_calls w hT)
  have hup := Tryd.underlying30
  clear hr hc hm hs hw hn
  go_enter Tryd.func3, Tryd.ntmps3
  go_wp2_with fail
  refine HF.out.mono ?_
  rintro e w0 ⟨rfl, B0⟩
  clear HF
  obtain ⟨A3, c3, e3, -, -, -, rd⟩ := SlB.bl X B0 (Nat.le_refl _)
  injection e3 with e31 e32 e33
  subst e31; subst e33
  clear e32
  have own0 : (w0.alloc (.cells #[] 5)).ownsRow w0.heap.size 5 1 (.slice (some ⟨w0.heap.size, 0, none⟩) 0 0) ([] : List Int).length (byts []) :=
    ⟨rfl, .inr ⟨w0.heap.size, 0, #[], rfl, Nat.le_refl _, heap_alloc_new w0 _, Nat.le_refl _, Nat.zero_le _, rfl, rfl⟩⟩
  have rE := RdB.fr (S := nothing) rd ((Fr.refl _ w0).alloc (.cells #[] 5)) (fun _ _ _ h => h)
  have hapl : ([] : List Int).length + l.length ≤ 140737488355328 := by simp; omega
  have hbw : w0.heap.size ≤ (w0.alloc (.cells #[] 5)).heap.size := by simp
  obtain ⟨ib, hib, hbz0, hbz1, hbz2⟩ := info_parts info_b
  have HB0 := Lib.hid B0
  clear rd B0
  go_upto_region 4 with (first
    | (at_builtin; refine wpList_append_b _ rfl (.tmp 12) (.tmp 13) _ rfl w0.heap.size 5 ib Tryd.underlying22 hib hbz0 hbz1 hbz2 _ [] rfl own0 _ _ _ _ _ l rfl rfl rE hapl hbw ?_; intro v1 w1 hown hg hat; have o1 : OwnB w1 w0.heap.size 5 v1 l := hown; have HBA := Lib.hid (((Below.refl w0.heap.size w0).alloc (Nat.le_refl _) (.cells #[] 5)).grown hg (by simp) (fun k hk => by have hk' : some w0.heap.size = some k := hk; injection hk' with hk'; omega)); obtain ⟨B1s, c1s, rfl, -, -⟩ := OwnB.slice o1; have HO := Lib.hid o1; clear hown hg hat own0 rE o1 hapl hbw))
  have B1 := Bl.trans HB0.out (Bl.low HBA.out HB0.out.size)
  have T1 := hT.below B1
  have CG := get_calls _ _ _ l w1 T1 (SlB.of_own HO.out) (Nat.le_refl _) hB (by omega)
  clear HB0 HBA
  by_cases hE : gE l = 0
  · have hV : gV l = #[.bool (decide (128 ≤ hd l 1)), .int .i64 (gK l), .int .u32 (gN l), .int .u16 (gP l), .string (gL l), .string (gR l)] := by unfold gV; rw [if_pos hE]; rfl
    have RP := re_put hB hE
    have hzL : (gL l).size ≤ 9223372036854775807 := by unfold gL; rw [bstr_size, List.length_take, List.length_drop]; omega
    have hzR : (gR l).size ≤ 9223372036854775807 := by unfold gR; rw [bstr_size, List.length_take, List.length_drop]; omega
    generalize decide (128 ≤ hd l 1) = ls at *
    generalize gK l = k at *
    generalize gN l = n at *
    generalize gP l = pri at *
    generalize gL l = L at *
    generalize gR l = R at *
    rw [hV, hE] at CG
    have HCG := Lib.hid CG
    have HRP := Lib.hid RP
    clear CG RP
    go_wp2_with fail
    refine HCG.out.mono ?_
    rintro e w2 ⟨rfl, B2⟩
    go_upto_region 5 with fail
    have b4 := Blk.new w2 #[.bool ls, .int .i64 k, .int .u32 n, .int .u16 pri, .string L, .string R] 30
    have F3 : Fr nothing w1 (w2.alloc (.cells #[.bool ls, .int .i64 k, .int .u32 n, .int .u16 pri, .string L, .string R] 30)) := (Fr.of_below (S := nothing) B2).trans ((Fr.refl nothing w2).alloc _) (fun _ _ h => h)
    have B3 := Bl.trans B1 (Bl.of_fr F3 B1.size (fun k h => False.elim h))
    have hg4 : w.heap.size ≤ w2.heap.size := Nat.le_trans B1.size B2.size
    generalize w2.alloc (.cells #[.bool ls, .int .i64 k, .int .u32 n, .int .u16 pri, .string L, .string R] 30) = w3 at *
    generalize w2.heap.size = g4 at *
    have X3 := SlB.bl X B3 (Nat.le_refl _)
    have o3 := OwnB.fr HO.out F3 (fun _ _ h => h)
    have HO3 := Lib.hid o3
    have CR := rget_calls _ _ _ l w3 X3 B3.size hB (by omega)
    rw [hV, hE] at CR
    have HCR := Lib.hid CR
    clear CR HCG HO F3 B2 B1 T1 o3 X3
    go_wp2_with fail
    refine HCR.out.mono ?_
    rintro e w4 ⟨rfl, B4⟩
    clear HCR
    go_upto_region 6 with fail
    have b6 := Blk.new w4 #[.bool ls, .int .i64 k, .int .u32 n, .int .u16 pri, .string L, .string R] 30
    have F5 : Fr nothing w3 (w4.alloc (.cells #[.bool ls, .int .i64 k, .int .u32 n, .int .u16 pri, .string L, .string R] 30)) := (Fr.of_below (S := nothing) B4).trans ((Fr.refl nothing w4).alloc _) (fun _ _ h => h)
    have B5 := Bl.trans B3 (Bl.of_fr F5 B3.size (fun k h => False.elim h))
    have b4' := Blk.fr b4 F5 id
    generalize w4.alloc (.cells #[.bool ls, .int .i64 k, .int .u32 n, .int .u16 pri, .string L, .string R] 30) = w5 at *
    generalize w4.heap.size = g6 at *
    have FD : Fr nothing w5 w5.drew := (Fr.refl _ w5).drew
    have o5 := OwnB.fr (OwnB.fr HO3.out F5 (fun _ _ h => h)) FD (fun _ _ h => h)
    have B6 := Bl.trans B5 (Bl.of_fr FD B5.size (fun k h => False.elim h))
    have X6 := SlB.bl X B6 (Nat.le_refl _)
    have kt := slb_str X6
    have b4d := Blk.fr b4' FD id
    have b6d := Blk.fr b6 FD id
    have kx0 := b4d.cell 0
    have kx1 := b4d.cell 1
    have kx2 := b4d.cell 2
    have kx3 := b4d.cell 3
    have kx4 := b4d.cell 4
    have kx5 := b4d.cell 5
    have ky0 := b6d.cell 0
    have ky1 := b6d.cell 1
    have ky2 := b6d.cell 2
    have ky3 := b6d.cell 3
    have ky4 := b6d.cell 4
    have ky5 := b6d.cell 5
    simp at kx0 kx1 kx2 kx3 kx4 kx5 ky0 ky1 ky2 ky3 ky4 ky5
    have HG := Lib.hid (granted_calls _ _ _ l w5.drew (SlB.of_own o5) (by omega))
    have HB6 := Lib.hid B6
    have H4 := Lib.hid b4d
    have H6 := Lib.hid b6d
    clear B6 B5 B4 B3 b4 b4' b6 FD F5 o5 X6 HO3 b4d b6d
    have hD := str_eq2 hB
    go_region_held_law (fun wq => (convert 22 9 (.slice a l.length cap)).run Tryd.prog wq = .ok (.string (bstr l)) wq ∧ wq.cell? ⟨g4, 0, none⟩ = some (.bool ls) ∧ wq.cell? ⟨g4, 1, none⟩ = some (.int .i64 k) ∧ wq.cell? ⟨g4, 2, none⟩ = some (.int .u32 n) ∧ wq.cell? ⟨g4, 3, none⟩ = some (.int .u16 pri) ∧ wq.cell? ⟨g4, 4, none⟩ = some (.string L) ∧ wq.cell? ⟨g4, 5, none⟩ = some (.string R) ∧ wq.cell? ⟨g6, 0, none⟩ = some (.bool ls) ∧ wq.cell? ⟨g6, 1, none⟩ = some (.int .i64 k) ∧ wq.cell? ⟨g6, 2, none⟩ = some (.int .u32 n) ∧ wq.cell? ⟨g6, 3, none⟩ = some (.int .u16 pri) ∧ wq.cell? ⟨g6, 4, none⟩ = some (.string L) ∧ wq.cell? ⟨g6, 5, none⟩ = some (.string R)) (first | exact ⟨kt, kx0, kx1, kx2, kx3, kx4, kx5, ky0, ky1, ky2, ky3, ky4, ky5⟩ | exact ⟨jt, jx0, jx1, jx2, jx3, jx4, jx5, jy0, jy1, jy2, jy3, jy4, jy5⟩) (first
      | (go_at_call 10; refine HG.out.mono ?_; rintro e w6 ⟨rfl, B7⟩; have c4 := Blk.fr H4.out (Fr.of_below (S := nothing) B7) id; have c6 := Blk.fr H6.out (Fr.of_below (S := nothing) B7) id; have jt := slb_str (SlB.bl X (Bl.trans HB6.out (Bl.low B7 HB6.out.size)) (Nat.le_refl _)); have jx0 := c4.cell 0; have jx1 := c4.cell 1; have jx2 := c4.cell 2; have jx3 := c4.cell 3; have jx4 := c4.cell 4; have jx5 := c4.cell 5; have jy0 := c6.cell 0; have jy1 := c6.cell 1; have jy2 := c6.cell 2; have jy3 := c6.cell 3; have jy4 := c6.cell 4; have jy5 := c6.cell 5; simp at jx0 jx1 jx2 jx3 jx4 jx5 jy0 jy1 jy2 jy3 jy4 jy5; have HB7 := Lib.hid (Bl.trans HB6.out (Bl.low B7 HB6.out.size)); have HC4 := Lib.hid c4; clear B7 c4 c6))
    rename_i hK hH
    refine hK _ _ ?_
    clear hK hH
    have CP := put_calls ls k n pri L R w6 (hT.below HB7.out) hzL hzR
    rw [HRP.out.1, HRP.out.2] at CP
    have HCP := Lib.hid CP
    clear CP hzL hzR
    go_upto_region 10 with fail
    refine wp_region_lit ?_
    refine wpList_plain rfl (fun K hK => ?_)
    refine oper_load rfl rfl HC4.out hup rfl (by kernel_rfl) ?_
    refine hK _ _ ?_
    clear hK K
    go_wp2_with fail
    refine HCP.out.mono ?_
    rintro e w8 ⟨B8, h⟩
    obtain ⟨-, A9, c9, rfl, o9⟩ := h.resolve_left (fun h => h.1 rfl)
    have B9 := Bl.trans HB7.out (Bl.low B8 HB7.out.size)
    have cx := slb_str (SlB.of_own o9)
    have cb := slb_str (SlB.bl X B9 (Nat.le_refl _))
    clear h o9 B8 HCP
    go_wp2
    go_ret
    exact ⟨by first | rfl | simp, B9⟩
  · have hV : gV l = #[.bool false, .int .i64 0, .int .u32 0, .int .u16 0, .string ⟨#[]⟩, .string ⟨#[]⟩] := gV_bad hE
    obtain ⟨E, hEE⟩ : ∃ E, gE l = E := ⟨_, rfl⟩
    rw [hV, hEE] at CG
    have HCG := Lib.hid CG
    have hne : (E != 0) = true := by simpa [hEE] using hE
    replace hE := hEE
    clear CG hEE
    go_wp2_with fail
    refine HCG.out.mono ?_
    rintro e w2 ⟨rfl, B2⟩
    go_upto_region 5 with fail
    have b4 := Blk.new w2 #[.bool false, .int .i64 0, .int .u32 0, .int .u16 0, .string ⟨#[]⟩, .string ⟨#[]⟩] 30
    have F3 : Fr nothing w1 (w2.alloc (.cells #[.bool false, .int .i64 0, .int .u32 0, .int .u16 0, .string ⟨#[]⟩, .string ⟨#[]⟩] 30)) := (Fr.of_below (S := nothing) B2).trans ((Fr.refl nothing w2).alloc _) (fun _ _ h => h)
    have B3 := Bl.trans B1 (Bl.of_fr F3 B1.size (fun k h => False.elim h))
    have hg4 : w.heap.size ≤ w2.heap.size := Nat.le_trans B1.size B2.size
    generalize w2.alloc (.cells #[.bool false, .int .i64 0, .int .u32 0, .int .u16 0, .string ⟨#[]⟩, .string ⟨#[]⟩] 30) = w3 at *
    generalize w2.heap.size = g4 at *
    have X3 := SlB.bl X B3 (Nat.le_refl _)
    have o3 := OwnB.fr HO.out F3 (fun _ _ h => h)
    have HO3 := Lib.hid o3
    have CR := rget_calls _ _ _ l w3 X3 B3.size hB (by omega)
    rw [hV, hE] at CR
    have HCR := Lib.hid CR
    clear CR HCG HO F3 B2 B1 T1 o3 X3
    go_wp2_with fail
    refine HCR.out.mono ?_
    rintro e w4 ⟨rfl, B4⟩
    clear HCR
    go_upto_region 6 with fail
    have b6 := Blk.new w4 #[.bool false, .int .i64 0, .int .u32 0, .int .u16 0, .string ⟨#[]⟩, .string ⟨#[]⟩] 30
    have F5 : Fr nothing w3 (w4.alloc (.cells #[.bool false, .int .i64 0, .int .u32 0, .int .u16 0, .string ⟨#[]⟩, .string ⟨#[]⟩] 30)) := (Fr.of_below (S := nothing) B4).trans ((Fr.refl nothing w4).alloc _) (fun _ _ h => h)
    have B5 := Bl.trans B3 (Bl.of_fr F5 B3.size (fun k h => False.elim h))
    have b4' := Blk.fr b4 F5 id
    generalize w4.alloc (.cells #[.bool false, .int .i64 0, .int .u32 0, .int .u16 0, .string ⟨#[]⟩, .string ⟨#[]⟩] 30) = w5 at *
    generalize w4.heap.size = g6 at *
    have FD : Fr nothing w5 w5.drew := (Fr.refl _ w5).drew
    have o5 := OwnB.fr (OwnB.fr HO3.out F5 (fun _ _ h => h)) FD (fun _ _ h => h)
    have B6 := Bl.trans B5 (Bl.of_fr FD B5.size (fun k h => False.elim h))
    have X6 := SlB.bl X B6 (Nat.le_refl _)
    have kt := slb_str X6
    have b4d := Blk.fr b4' FD id
    have b6d := Blk.fr b6 FD id
    have kx0 := b4d.cell 0
    have kx1 := b4d.cell 1
    have kx2 := b4d.cell 2
    have kx3 := b4d.cell 3
    have kx4 := b4d.cell 4
    have kx5 := b4d.cell 5
    have ky0 := b6d.cell 0
    have ky1 := b6d.cell 1
    have ky2 := b6d.cell 2
    have ky3 := b6d.cell 3
    have ky4 := b6d.cell 4
    have ky5 := b6d.cell 5
    simp at kx0 kx1 kx2 kx3 kx4 kx5 ky0 ky1 ky2 ky3 ky4 ky5
    have HG := Lib.hid (granted_calls _ _ _ l w5.drew (SlB.of_own o5) (by omega))
    have HB6 := Lib.hid B6
    have H4 := Lib.hid b4d
    have H6 := Lib.hid b6d
    clear B6 B5 B4 B3 b4 b4' b6 FD F5 o5 X6 HO3 b4d b6d
    have hD := str_eq2 hB
    go_region_held_law (fun wq => (convert 22 9 (.slice a l.length cap)).run Tryd.prog wq = .ok (.string (bstr l)) wq ∧ wq.cell? ⟨g4, 0, none⟩ = some (.bool false) ∧ wq.cell? ⟨g4, 1, none⟩ = some (.int .i64 0) ∧ wq.cell? ⟨g4, 2, none⟩ = some (.int .u32 0) ∧ wq.cell? ⟨g4, 3, none⟩ = some (.int .u16 0) ∧ wq.cell? ⟨g4, 4, none⟩ = some (.string ⟨#[]⟩) ∧ wq.cell? ⟨g4, 5, none⟩ = some (.string ⟨#[]⟩) ∧ wq.cell? ⟨g6, 0, none⟩ = some (.bool false) ∧ wq.cell? ⟨g6, 1, none⟩ = some (.int .i64 0) ∧ wq.cell? ⟨g6, 2, none⟩ = some (.int .u32 0) ∧ wq.cell? ⟨g6, 3, none⟩ = some (.int .u16 0) ∧ wq.cell? ⟨g6, 4, none⟩ = some (.string ⟨#[]⟩) ∧ wq.cell? ⟨g6, 5, none⟩ = some (.string ⟨#[]⟩)) (first | exact ⟨kt, kx0, kx1, kx2, kx3, kx4, kx5, ky0, ky1, ky2, ky3, ky4, ky5⟩ | exact ⟨jt, jx0, jx1, jx2, jx3, jx4, jx5, jy0, jy1, jy2, jy3, jy4, jy5⟩) (first
      | (go_at_call 10; refine HG.out.mono ?_; rintro e w6 ⟨rfl, B7⟩; have c4 := Blk.fr H4.out (Fr.of_below (S := nothing) B7) id; have c6 := Blk.fr H6.out (Fr.of_below (S := nothing) B7) id; have jt := slb_str (SlB.bl X (Bl.trans HB6.out (Bl.low B7 HB6.out.size)) (Nat.le_refl _)); have jx0 := c4.cell 0; have jx1 := c4.cell 1; have jx2 := c4.cell 2; have jx3 := c4.cell 3; have jx4 := c4.cell 4; have jx5 := c4.cell 5; have jy0 := c6.cell 0; have jy1 := c6.cell 1; have jy2 := c6.cell 2; have jy3 := c6.cell 3; have jy4 := c6.cell 4; have jy5 := c6.cell 5; simp at jx0 jx1 jx2 jx3 jx4 jx5 jy0 jy1 jy2 jy3 jy4 jy5; have HB7 := Lib.hid (Bl.trans HB6.out (Bl.low B7 HB6.out.size)); have HC4 := Lib.hid c4; clear B7 c4 c6))
    rename_i hK hH
    refine hK _ _ ?_
    clear hK hH
    go_wp2
    go_ret
    exact ⟨rfl, HB7.out⟩
end Go.Proofs.YtdbndinnakkloaaDoor.DcepReads
