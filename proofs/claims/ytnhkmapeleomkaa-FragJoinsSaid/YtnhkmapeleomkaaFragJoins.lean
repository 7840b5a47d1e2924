/- The walk of flumelaw12.FragJoins: true for all messages, lengths and kinds. No conditions but the row's own. -/
import Derived.Test.YtnhkmapeleomkaaFragJ0
import Derived.Test.YtnhkmapeleomkaaFragCounts
import Derived.Deep.AppendLies
namespace Go.Proofs.Ytnhkmapeleomkaa.FragJoins
open Go.RowKit Go.Proofs.Ytnhkmapeleomkaa.Mem Go.Proofs.Ytnhkmapeleomkaa.Octet Go.Proofs.Ytnhkmapeleomkaa.Frag Go.Proofs.Ytnhkmapeleomkaa.FragAlike Go.Proofs.Ytnhkmapeleomkaa.FragCounts Go.Proofs.Ytnhkmapeleomkaa.Chk Go.Proofs.Ytnhkmapeleomkaa.Pkt
set_option linter.unusedVariables false
set_option linter.unusedSimpArgs false
set_option maxHeartbeats 4000000 in
set_option maxRecDepth 100000 in
theorem walk (cs : List Value) (most : Int) (inter : Bool) (w : World) (hsee : Sees Try.prog w 26 cs) (hp : (Lit.int .i64 most).wf = true) :
    Calls Try.prog 6 #[.agg ⟨cs⟩, .int .i64 most, .bool inter] w fun e w' => e = .returned (.bool true) ∧ Below w.heap.size w w' := by
  obtain ⟨st, mid, pp, ls, A, c, bs, em, X, hmid, hbl, hst, hpp, hB⟩ := msg_of_see2 hsee
  rw [em]
  unfold msg
  clear em hsee hp
  have HRNG := Lib.hid (And.intro hst (And.intro hpp hB))
  clear hst hpp hB
  have B0 : Below w.heap.size w (w.alloc (.cells #[.int .u16 st, .bool ls, .int .u32 mid, .int .u32 pp, .slice A bs.length c] 26)) := (Below.refl _ w).alloc (Nat.le_refl _) _
  have bM := Blk.new w #[.int .u16 st, .bool ls, .int .u32 mid, .int .u32 pp, .slice A bs.length c] 26
  have hup := Try.underlying26
  go_enter Try.func6, Try.ntmps6
  go_wp2_with fail
  refine (first_calls _).mono ?_
  rintro e w0 ⟨rfl, B1⟩
  have bM0 := Blk.fr bM (Fr.of_below (S := nothing) B1) id
  have X0 := SlB.bl (SlB.bl X B0 (Nat.le_refl _)) B1 (by simp)
  have B2 := Bl.trans B0 (Bl.low B1 (by simp))
  have cM0 := bM0.cell 0
  have cM1 := bM0.cell 1
  have cM2 := bM0.cell 2
  have cM3 := bM0.cell 3
  have cM4 := bM0.cell 4
  simp at cM0 cM1 cM2 cM3 cM4
  clear B0 B1 bM X
  by_cases h7 : 70000 < bs.length
  · have hd7 : decide ((70000 : Int) < bs.length) = true := decide_eq_true (by omega)
    clear h7
    go_wp2
    go_ret
    exact ⟨rfl, B2⟩
  have hd7 : decide ((70000 : Int) < bs.length) = false := decide_eq_false (by omega)
  have H7 := Lib.hid (show bs.length ≤ 70000 by omega)
  have CA := cut_calls _ _ st mid pp ls A c bs most inter w0 X0 B2.size hmid
  unfold CutR msg at CA
  have HCA := Lib.hid CA
  clear CA h7
  by_cases hpos : 0 < most
  · have hpd : decide ((0 : Int) < most) = true := decide_eq_true hpos
    have hpz : (most == 0) = false := beq_eq_false_iff_ne.2 (by omega)
    go_upto_region 5 with fail
    · go_ret
      exact ⟨rfl, B2⟩
    · generalize wrap64 ((bs.length : Int) / most) = Q at *
      obtain ⟨k, rfl⟩ : ∃ k : Nat, most = k := ⟨most.toNat, by omega⟩
      clear hpd hpz hd7
      go_wp2_with fail
      refine HCA.out.mono ?_
      rintro e w1 ⟨B3, hA⟩
      rw [Int.toNat_natCast] at hA
      clear HCA
      have bM1 := Blk.fr bM0 (Fr.of_below (S := nothing) B3) id
      have B4 := Bl.trans B2 (Bl.low B3 B2.size)
      have X1 := SlB.bl X0 B3 B2.size
      have hs2 := B2.size
      have dM0 := bM1.cell 0
      have dM1 := bM1.cell 1
      have dM2 := bM1.cell 2
      have dM3 := bM1.cell 3
      have dM4 := bM1.cell 4
      simp at dM0 dM1 dM2 dM3 dM4
      clear X0 bM0 cM0 cM1 cM2 cM3 cM4 B2
      by_cases he : cutE k inter bs.length = 0
      · obtain ⟨BA, ca, rfl, OA⟩ := (hA.resolve_right (fun h => h.1 he)).2
        clear hA
        obtain ⟨hk1, hk2, hn0, hn1⟩ := cutE_ok he
        have HK := Lib.hid (And.intro (show 1 ≤ k by omega) (And.intro (show (k : Int) ≤ room inter from hk2) (show 0 < npc k bs by unfold npc; exact Nat.div_pos (by omega) (by omega))))
        have hNb : npc k bs ≤ 70000 := by have := Nat.div_le_self (bs.length + k - 1) k; unfold room at hk2; unfold npc; split at hk2 <;> omega
        have hkb : k ≤ 1172 := by unfold room at hk2; split at hk2 <;> omega
        have hlA := pieces_len st ls mid pp inter bs k
        have HPA := Lib.hid (piece_all st ls mid pp inter bs k)
        have HBL := Lib.hid (fun j h => body_len bs k j (by omega) h)
        have HJ := Lib.hid (joined bs k)
        have HJA := Lib.hid (joined_all bs k (by omega))
        clear hk1 hk2 hn0 hn1
        generalize npc k bs = N at *
        generalize pieces st ls mid pp inter bs k = pA at *
        clear he
        go_wp2_with fail
        go_loopw [9, 46] (fun s9 i wr => ∃ j : Nat, j ≤ N ∧ i = .int .i64 j ∧ s9 = .string (bstr (bs.take (j * k))) ∧ OwnCk wr w0.heap.size (.slice BA N ca) pA ∧ SlB wr 0 w.heap.size (.slice A bs.length c) bs ∧ Blk wr w.heap.size 26 #[.int .u16 st, .bool ls, .int .u32 mid, .int .u32 pp, .slice A bs.length c] ∧ Below w.heap.size w wr) (fun _ i _ => N - (intOf i).toNat)
        case atStart => exact ⟨0, Nat.zero_le _, rfl, by rw [Nat.zero_mul, List.take_zero]; rfl, OA, X1, bM1, B4⟩
        case round =>
          clear OA bM1 B4 X1 B3 dM0 dM1 dM2 dM3 dM4
          obtain ⟨j, hj, rfl, rfl, OA, X1, bM1, B4⟩ := hrel
          by_cases hlt : j < N
          · have hjl : (j : Int) < N := by omega
            have hj0 : (0 : Int) ≤ j := by omega
            have eA := HPA.out j (by omega)
            obtain ⟨g, s, rfl, hg1, hg2, os, hc⟩ := OwnCk.cells OA j (by omega)
            rw [eA] at os hc
            obtain ⟨xs, hxs⟩ : ∃ x, (bs.drop (j * k)).take k = x := ⟨_, rfl⟩
            have hbb := HBL.out j hlt
            have hjn := HJ.out j
            rw [hxs] at os hc hbb hjn
            have hxB : IsB xs := by rw [← hxs]; exact Prm.isb_take (Prm.isb_drop HRNG.out.2.2 _) _
            obtain ⟨kk, hkk⟩ : ∃ x : Int, (if inter then 64 else 0) = x := ⟨_, rfl⟩
            obtain ⟨md, hmd⟩ : ∃ x : Int, (if inter then mid else mid % 65536) = x := ⟨_, rfl⟩
            obtain ⟨fr, hfr⟩ : ∃ x : Int, (if inter then (j : Int) else 0) = x := ⟨_, rfl⟩
            obtain ⟨b, hb⟩ : ∃ x, decide (j = 0) = x := ⟨_, rfl⟩
            obtain ⟨e, he⟩ : ∃ x, decide (j + 1 = N) = x := ⟨_, rfl⟩
            rw [hkk, hmd, hfr, hb, he] at os hc
            obtain ⟨As, cs', rfl, -, -⟩ := OwnB.slice os
            replace hc : ∀ i v, ([.int .u8 kk, .bool b, .bool e, .bool ls, .bool false, .int .u32 0, .int .u16 st, .int .u32 md, .int .u32 pp, .int .u32 fr, .int .u32 0, .int .u32 0, .int .u16 0, .int .u16 0, .slice none 0 0, .slice none 0 0, .slice none 0 0, .slice none 0 0, .slice As xs.length cs'] : List Value)[i]? = some v → wr.cell? ((⟨g, j * 19, none⟩ : Addr).add i) = some v := hc
            have hkx : kk = 0 ∧ xs.length ≤ 1172 ∨ kk = 64 ∧ xs.length ≤ 1168 := by
              have h9 := HK.out.2.1
              unfold room at h9
              cases inter with
              | true => simp at hkk h9; exact .inr ⟨hkk.symm, by omega⟩
              | false => simp at hkk h9; exact .inl ⟨hkk.symm, by omega⟩
            have hmr : 0 ≤ md ∧ md < 4294967296 := by
              cases inter with
              | true => simp at hmd; omega
              | false => simp at hmd; omega
            have hfr2 : 0 ≤ fr ∧ fr < 4294967296 := by
              cases inter with
              | true => simp at hfr; omega
              | false => simp at hfr; omega
            have hck := ckP_e (kk := kk) (b := b) (e := e) (ls := ls) (st := st) (mid := md) (pp := pp) (fr := fr) hkx hbb.1
            have hcb := ckP_b (kk := kk) (b := b) (e := e) (ls := ls) (st := st) (mid := md) (pp := pp) (fr := fr) (by omega) HRNG.out.1 hmr HRNG.out.2.1 hfr2 hxB
            have hcl := ckP_l (kk := kk) (b := b) (e := e) (ls := ls) (st := st) (mid := md) (pp := pp) (fr := fr) (xs := xs) (by omega)
            have HCK := Lib.hid (And.intro hck (And.intro hcb hcl))
            have HKX := Lib.hid hkx
            have HBB := Lib.hid hbb
            have HJN := Lib.hid hjn
            clear hxs hkk hmd hfr hkx hmr hfr2 hck hcb hcl hjn
            have hup2 := Try.underlying42
            go_upto_region 11 with fail
            refine wp_region_lit ?_
            refine wpList_plain rfl (fun K hK => ?_)
            go_simp
            refine hK _ _ ?_
            clear hK K
            refine wpList_plain rfl (fun K hK => ?_)
            go_simp
            refine hK _ _ ?_
            clear hK K
            refine wpList_plain rfl (fun K hK => ?_)
            refine oper_load_at rfl rfl hc hup2 (by kernel_rfl) ?_
            refine hK _ _ ?_
            clear hK K
            refine wpList_plain rfl (fun K hK => ?_)
            go_simp
            refine hK _ _ ?_
            clear hK K
            refine wpList_plain rfl (fun K hK => ?_)
            go_simp
            refine hK _ _ ?_
            clear hK K
            refine wpList_plain rfl (fun K hK => ?_)
            refine Frag.oper_store (cs0 := #[.int .u8 0, .bool false, .bool false, .bool false, .bool false, .int .u32 0, .int .u16 0, .int .u32 0, .int .u32 0, .int .u32 0, .int .u32 0, .int .u32 0, .int .u16 0, .int .u16 0, .slice none 0 0, .slice none 0 0, .slice none 0 0, .slice none 0 0, .slice none 0 0]) rfl rfl rfl (Blk.new wr _ _) (by kernel_rfl) rfl (by simp [pcs, Value.oneCell']) ?_
            refine hK _ _ ?_
            clear hK K
            refine wpList_nil ?_
            obtain ⟨w5, hw5⟩ : ∃ w5, ((wr.alloc (.cells #[.int .u8 0, .bool false, .bool false, .bool false, .bool false, .int .u32 0, .int .u16 0, .int .u32 0, .int .u32 0, .int .u32 0, .int .u32 0, .int .u32 0, .int .u16 0, .int .u16 0, .slice none 0 0, .slice none 0 0, .slice none 0 0, .slice none 0 0, .slice none 0 0] 42)).setRow wr.heap.size #[.int .u8 kk, .bool b, .bool e, .bool ls, .bool false, .int .u32 0, .int .u16 st, .int .u32 md, .int .u32 pp, .int .u32 fr, .int .u32 0, .int .u32 0, .int .u16 0, .int .u16 0, .slice none 0 0, .slice none 0 0, .slice none 0 0, .slice none 0 0, .slice As xs.length cs']) = w5 := ⟨_, rfl⟩
            have bC := Frag.blk_row (#[.int .u8 kk, .bool b, .bool e, .bool ls, .bool false, .int .u32 0, .int .u16 st, .int .u32 md, .int .u32 pp, .int .u32 fr, .int .u32 0, .int .u32 0, .int .u16 0, .int .u16 0, .slice none 0 0, .slice none 0 0, .slice none 0 0, .slice none 0 0, .slice As xs.length cs']) (Blk.new wr #[.int .u8 0, .bool false, .bool false, .bool false, .bool false, .int .u32 0, .int .u16 0, .int .u32 0, .int .u32 0, .int .u32 0, .int .u32 0, .int .u32 0, .int .u16 0, .int .u16 0, .slice none 0 0, .slice none 0 0, .slice none 0 0, .slice none 0 0, .slice none 0 0] 42)
            have FQ : Fr nothing wr ((wr.alloc (.cells #[.int .u8 0, .bool false, .bool false, .bool false, .bool false, .int .u32 0, .int .u16 0, .int .u32 0, .int .u32 0, .int .u32 0, .int .u32 0, .int .u32 0, .int .u16 0, .int .u16 0, .slice none 0 0, .slice none 0 0, .slice none 0 0, .slice none 0 0, .slice none 0 0] 42)).setRow wr.heap.size #[.int .u8 kk, .bool b, .bool e, .bool ls, .bool false, .int .u32 0, .int .u16 st, .int .u32 md, .int .u32 pp, .int .u32 fr, .int .u32 0, .int .u32 0, .int .u16 0, .int .u16 0, .slice none 0 0, .slice none 0 0, .slice none 0 0, .slice none 0 0, .slice As xs.length cs']) := ((Fr.refl nothing wr).alloc _).trans (Frag.fr_row wr.heap.size #[.int .u8 kk, .bool b, .bool e, .bool ls, .bool false, .int .u32 0, .int .u16 st, .int .u32 md, .int .u32 pp, .int .u32 fr, .int .u32 0, .int .u32 0, .int .u16 0, .int .u16 0, .slice none 0 0, .slice none 0 0, .slice none 0 0, .slice none 0 0, .slice As xs.length cs']) (fun k hk h => by have h9 : k = wr.heap.size := h; omega)
            rw [hw5] at bC FQ ⊢
            clear hw5
            have bM2 := Blk.fr bM1 FQ id
            have OA2 := OwnCk.fr OA FQ (fun _ _ h => h)
            have B5 := Bl.trans B4 (Bl.of_fr FQ B4.size (fun k h => False.elim h))
            have X2 := SlB.fr X1 FQ (fun _ _ _ h => h)
            have os2 := OwnB.fr os FQ (fun _ _ h => h)
            have kt := slb_str (SlB.of_own os2)
            have hs5 : w.heap.size ≤ w5.heap.size := B5.size
            clear OA X1 bM1 B4 os hc FQ eA
            generalize wr.heap.size = gK at *
            have c1 := bC.cell 1
            have c2 := bC.cell 2
            have c18 := bC.cell 18
            simp at c1 c2 c18
            have q1 : ((j : Int) == 0) = b := by rw [← hb]; by_cases h : j = 0 <;> simp [h]
            have q2 : ((j : Int) == (N : Int) - 1) = e := by
              rw [← he]
              by_cases h : j + 1 = N
              · rw [decide_eq_true h, beq_iff_eq]; omega
              · rw [decide_eq_false h]; exact beq_eq_false_iff_ne.2 (by omega)
            have q3 : decide ((k : Int) < xs.length) = false := decide_eq_false (by have := HBB.out.2.1; omega)
            have q5 : xs.length ≤ k := HBB.out.2.1
            have hz0 : (bstr (bs.take (j * k))).size + (bstr xs).size ≤ 9223372036854775807 := by
              rw [bstr_size, bstr_size, List.length_take]
              have := H7.out
              have := HBB.out.2.1
              omega
            have hz1 : ((bstr (bs.take (j * k))).size : Int) + ((bstr xs).size : Int) ≤ 9223372036854775807 := by omega
            have hz2 : ¬ (IntKind.i64.max < ((bstr (bs.take (j * k))).size : Int) + ((bstr xs).size : Int)) := by rw [show IntKind.i64.max = 9223372036854775807 from rfl]; omega
            have hz3 : ¬ (IntKind.i64.max < (((bstr (bs.take (j * k))).size + (bstr xs).size : Nat) : Int)) := by rw [show IntKind.i64.max = 9223372036854775807 from rfl]; omega
            have HRel := Lib.hid (And.intro OA2 (And.intro X2 (And.intro bM2 B5)))
            have HOS := Lib.hid os2
            have HBC := Lib.hid bC
            clear OA2 X2 bM2 B5 os2 bC hb
            by_cases hlast : j + 1 < N
            · obtain rfl : e = false := by rw [← he]; exact decide_eq_false (by omega)
              have hd1 : decide ((j : Int) + 1 < N) = true := decide_eq_true (by omega)
              have hxk : ((xs.length : Int) != k) = false := by have := HBB.out.2.2 hlast; simp [this]
              clear he hbb
              by_cases h3 : j < 3
              · have hd3 : decide ((j : Int) < 3) = true := decide_eq_true (by omega)
                clear hlast h3
                go_upto_region 16 with fail
                refine wp_region_lit ?_
                refine wpList_plain rfl (fun K hK => ?_)
                refine Frag.oper_load rfl rfl HBC.out hup2 rfl (by kernel_rfl) ?_
                refine hK _ _ ?_
                clear hK K
                refine wpList_plain rfl (fun K hK => ?_)
                refine oper_build_1 _ #[.int .u8 kk, .bool b, .bool false, .bool ls, .bool false, .int .u32 0, .int .u16 st, .int .u32 md, .int .u32 pp, .int .u32 fr, .int .u32 0, .int .u32 0, .int .u16 0, .int .u16 0, .slice none 0 0, .slice none 0 0, .slice none 0 0, .slice none 0 0, .slice As xs.length cs'] rfl rfl rfl ?_
                refine hK _ _ ?_
                clear hK K
                refine wpList_plain rfl (fun K hK => ?_)
                go_simp
                refine hK _ _ ?_
                clear hK K
                have FA : Fr nothing w5 (w5.alloc (.cells #[.int .u8 kk, .bool b, .bool false, .bool ls, .bool false, .int .u32 0, .int .u16 st, .int .u32 md, .int .u32 pp, .int .u32 fr, .int .u32 0, .int .u32 0, .int .u16 0, .int .u16 0, .slice none 0 0, .slice none 0 0, .slice none 0 0, .slice none 0 0, .slice As xs.length cs'] 42)) := (Fr.refl nothing w5).alloc _
                have SX := SlB.of_own (OwnB.fr HOS.out FA (fun _ _ h => h))
                have hrw : ∀ i v, ([.int .u8 kk, .bool b, .bool false, .bool ls, .bool false, .int .u32 0, .int .u16 st, .int .u32 md, .int .u32 pp, .int .u32 fr, .int .u32 0, .int .u32 0, .int .u16 0, .int .u16 0, .slice none 0 0, .slice none 0 0, .slice none 0 0, .slice none 0 0, .slice As xs.length cs'] : List Value)[i]? = some v → (w5.alloc (.cells #[.int .u8 kk, .bool b, .bool false, .bool ls, .bool false, .int .u32 0, .int .u16 st, .int .u32 md, .int .u32 pp, .int .u32 fr, .int .u32 0, .int .u32 0, .int .u16 0, .int .u16 0, .slice none 0 0, .slice none 0 0, .slice none 0 0, .slice none 0 0, .slice As xs.length cs'] 42)).cell? ((⟨w5.heap.size, 0, none⟩ : Addr).add i) = some v := World.news_of_block (heap_alloc_new w5 _)
                have hsl : w5.heap.size < (w5.alloc (.cells #[.int .u8 kk, .bool b, .bool false, .bool ls, .bool false, .int .u32 0, .int .u16 st, .int .u32 md, .int .u32 pp, .int .u32 fr, .int .u32 0, .int .u32 0, .int .u16 0, .int .u16 0, .slice none 0 0, .slice none 0 0, .slice none 0 0, .slice none 0 0, .slice As xs.length cs'] 42)).heap.size := by simp
                have HPP := Lib.hid (pput_one _ _ ⟨w5.heap.size, 0, none⟩ 1 [.int .u8 kk, .bool b, .bool false, .bool ls, .bool false, .int .u32 0, .int .u16 st, .int .u32 md, .int .u32 pp, .int .u32 fr, .int .u32 0, .int .u32 0, .int .u16 0, .int .u16 0, .slice none 0 0, .slice none 0 0, .slice none 0 0, .slice none 0 0, .slice As xs.length cs'] _ _ hrw hsl (ckP_v (kk := kk) (b := b) (e := false) (ls := ls) (st := st) (mid := md) (pp := pp) (fr := fr) SX) (Nat.le_refl _) HCK.out.2.1 HCK.out.2.2 HCK.out.1.1 HCK.out.1.2 (isb_cB (show kk = 0 ∨ kk = 64 by have := HKX.out; omega) HCK.out.2.1))
                have HR6 := Lib.hid (And.intro (OwnCk.fr HRel.out.1 FA (fun _ _ h => h)) (And.intro (SlB.fr HRel.out.2.1 FA (fun _ _ _ h => h)) (And.intro (Blk.fr HRel.out.2.2.1 FA id) (Bl.trans HRel.out.2.2.2 (Bl.of_fr FA HRel.out.2.2.2.size (fun k h => h.elim))))))
                clear FA SX hrw hsl HRel HBC HOS
                go_wp2_with fail
                refine HPP.out.mono ?_
                rintro e7 w7 ⟨B7, v7, rfl⟩
                have HRel := Lib.hid (And.intro (OwnCk.fr HR6.out.1 (Fr.of_below (S := nothing) B7) (fun _ _ h => h)) (And.intro (SlB.fr HR6.out.2.1 (Fr.of_below (S := nothing) B7) (fun _ _ _ h => h)) (And.intro (Blk.fr HR6.out.2.2.1 (Fr.of_below (S := nothing) B7) id) (Bl.trans HR6.out.2.2.2 (Bl.low B7 HR6.out.2.2.2.size)))))
                clear HR6 B7 HPP
                go_wp2
                go_roundw
                case rel => exact ⟨j + 1, by omega, by go_num, by rw [HJN.out, ← bstr_app], HRel.out.1, HRel.out.2.1, HRel.out.2.2.1, HRel.out.2.2.2⟩
                case measure => simp [intOf]; omega
              · have hd3 : decide ((j : Int) < 3) = false := decide_eq_false (by omega)
                clear hlast h3
                go_wp2
                go_roundw
                case rel => exact ⟨j + 1, by omega, by go_num, by rw [HJN.out, ← bstr_app], HRel.out.1, HRel.out.2.1, HRel.out.2.2.1, HRel.out.2.2.2⟩
                case measure => simp [intOf]; omega
            · obtain rfl : e = true := by rw [← he]; exact decide_eq_true (by omega)
              have hd1 : decide ((j : Int) + 1 < N) = false := decide_eq_false (by omega)
              clear he hbb
              by_cases h3 : j < 3
              · have hd3 : decide ((j : Int) < 3) = true := decide_eq_true (by omega)
                clear hlast h3
                go_upto_region 16 with fail
                refine wp_region_lit ?_
                refine wpList_plain rfl (fun K hK => ?_)
                refine Frag.oper_load rfl rfl HBC.out hup2 rfl (by kernel_rfl) ?_
                refine hK _ _ ?_
                clear hK K
                refine wpList_plain rfl (fun K hK => ?_)
                refine oper_build_1 _ #[.int .u8 kk, .bool b, .bool true, .bool ls, .bool false, .int .u32 0, .int .u16 st, .int .u32 md, .int .u32 pp, .int .u32 fr, .int .u32 0, .int .u32 0, .int .u16 0, .int .u16 0, .slice none 0 0, .slice none 0 0, .slice none 0 0, .slice none 0 0, .slice As xs.length cs'] rfl rfl rfl ?_
                refine hK _ _ ?_
                clear hK K
                refine wpList_plain rfl (fun K hK => ?_)
                go_simp
                refine hK _ _ ?_
                clear hK K
                have FA : Fr nothing w5 (w5.alloc (.cells #[.int .u8 kk, .bool b, .bool true, .bool ls, .bool false, .int .u32 0, .int .u16 st, .int .u32 md, .int .u32 pp, .int .u32 fr, .int .u32 0, .int .u32 0, .int .u16 0, .int .u16 0, .slice none 0 0, .slice none 0 0, .slice none 0 0, .slice none 0 0, .slice As xs.length cs'] 42)) := (Fr.refl nothing w5).alloc _
                have SX := SlB.of_own (OwnB.fr HOS.out FA (fun _ _ h => h))
                have hrw : ∀ i v, ([.int .u8 kk, .bool b, .bool true, .bool ls, .bool false, .int .u32 0, .int .u16 st, .int .u32 md, .int .u32 pp, .int .u32 fr, .int .u32 0, .int .u32 0, .int .u16 0, .int .u16 0, .slice none 0 0, .slice none 0 0, .slice none 0 0, .slice none 0 0, .slice As xs.length cs'] : List Value)[i]? = some v → (w5.alloc (.cells #[.int .u8 kk, .bool b, .bool true, .bool ls, .bool false, .int .u32 0, .int .u16 st, .int .u32 md, .int .u32 pp, .int .u32 fr, .int .u32 0, .int .u32 0, .int .u16 0, .int .u16 0, .slice none 0 0, .slice none 0 0, .slice none 0 0, .slice none 0 0, .slice As xs.length cs'] 42)).cell? ((⟨w5.heap.size, 0, none⟩ : Addr).add i) = some v := World.news_of_block (heap_alloc_new w5 _)
                have hsl : w5.heap.size < (w5.alloc (.cells #[.int .u8 kk, .bool b, .bool true, .bool ls, .bool false, .int .u32 0, .int .u16 st, .int .u32 md, .int .u32 pp, .int .u32 fr, .int .u32 0, .int .u32 0, .int .u16 0, .int .u16 0, .slice none 0 0, .slice none 0 0, .slice none 0 0, .slice none 0 0, .slice As xs.length cs'] 42)).heap.size := by simp
                have HPP := Lib.hid (pput_one _ _ ⟨w5.heap.size, 0, none⟩ 1 [.int .u8 kk, .bool b, .bool true, .bool ls, .bool false, .int .u32 0, .int .u16 st, .int .u32 md, .int .u32 pp, .int .u32 fr, .int .u32 0, .int .u32 0, .int .u16 0, .int .u16 0, .slice none 0 0, .slice none 0 0, .slice none 0 0, .slice none 0 0, .slice As xs.length cs'] _ _ hrw hsl (ckP_v (kk := kk) (b := b) (e := true) (ls := ls) (st := st) (mid := md) (pp := pp) (fr := fr) SX) (Nat.le_refl _) HCK.out.2.1 HCK.out.2.2 HCK.out.1.1 HCK.out.1.2 (isb_cB (show kk = 0 ∨ kk = 64 by have := HKX.out; omega) HCK.out.2.1))
                have HR6 := Lib.hid (And.intro (OwnCk.fr HRel.out.1 FA (fun _ _ h => h)) (And.intro (SlB.fr HRel.out.2.1 FA (fun _ _ _ h => h)) (And.intro (Blk.fr HRel.out.2.2.1 FA id) (Bl.trans HRel.out.2.2.2 (Bl.of_fr FA HRel.out.2.2.2.size (fun k h => h.elim))))))
                clear FA SX hrw hsl HRel HBC HOS
                go_wp2_with fail
                refine HPP.out.mono ?_
                rintro e7 w7 ⟨B7, v7, rfl⟩
                have HRel := Lib.hid (And.intro (OwnCk.fr HR6.out.1 (Fr.of_below (S := nothing) B7) (fun _ _ h => h)) (And.intro (SlB.fr HR6.out.2.1 (Fr.of_below (S := nothing) B7) (fun _ _ _ h => h)) (And.intro (Blk.fr HR6.out.2.2.1 (Fr.of_below (S := nothing) B7) id) (Bl.trans HR6.out.2.2.2 (Bl.low B7 HR6.out.2.2.2.size)))))
                clear HR6 B7 HPP
                go_wp2
                go_roundw
                case rel => exact ⟨j + 1, by omega, by go_num, by rw [HJN.out, ← bstr_app], HRel.out.1, HRel.out.2.1, HRel.out.2.2.1, HRel.out.2.2.2⟩
                case measure => simp [intOf]; omega
              · have hd3 : decide ((j : Int) < 3) = false := decide_eq_false (by omega)
                clear hlast h3
                go_upto_region 16 with fail
                refine wp_region_lit ?_
                refine wpList_plain rfl (fun K hK => ?_)
                refine Frag.oper_load rfl rfl HBC.out hup2 rfl (by kernel_rfl) ?_
                refine hK _ _ ?_
                clear hK K
                refine wpList_plain rfl (fun K hK => ?_)
                refine oper_build_1 _ #[.int .u8 kk, .bool b, .bool true, .bool ls, .bool false, .int .u32 0, .int .u16 st, .int .u32 md, .int .u32 pp, .int .u32 fr, .int .u32 0, .int .u32 0, .int .u16 0, .int .u16 0, .slice none 0 0, .slice none 0 0, .slice none 0 0, .slice none 0 0, .slice As xs.length cs'] rfl rfl rfl ?_
                refine hK _ _ ?_
                clear hK K
                refine wpList_plain rfl (fun K hK => ?_)
                go_simp
                refine hK _ _ ?_
                clear hK K
                have FA : Fr nothing w5 (w5.alloc (.cells #[.int .u8 kk, .bool b, .bool true, .bool ls, .bool false, .int .u32 0, .int .u16 st, .int .u32 md, .int .u32 pp, .int .u32 fr, .int .u32 0, .int .u32 0, .int .u16 0, .int .u16 0, .slice none 0 0, .slice none 0 0, .slice none 0 0, .slice none 0 0, .slice As xs.length cs'] 42)) := (Fr.refl nothing w5).alloc _
                have SX := SlB.of_own (OwnB.fr HOS.out FA (fun _ _ h => h))
                have hrw : ∀ i v, ([.int .u8 kk, .bool b, .bool true, .bool ls, .bool false, .int .u32 0, .int .u16 st, .int .u32 md, .int .u32 pp, .int .u32 fr, .int .u32 0, .int .u32 0, .int .u16 0, .int .u16 0, .slice none 0 0, .slice none 0 0, .slice none 0 0, .slice none 0 0, .slice As xs.length cs'] : List Value)[i]? = some v → (w5.alloc (.cells #[.int .u8 kk, .bool b, .bool true, .bool ls, .bool false, .int .u32 0, .int .u16 st, .int .u32 md, .int .u32 pp, .int .u32 fr, .int .u32 0, .int .u32 0, .int .u16 0, .int .u16 0, .slice none 0 0, .slice none 0 0, .slice none 0 0, .slice none 0 0, .slice As xs.length cs'] 42)).cell? ((⟨w5.heap.size, 0, none⟩ : Addr).add i) = some v := World.news_of_block (heap_alloc_new w5 _)
                have hsl : w5.heap.size < (w5.alloc (.cells #[.int .u8 kk, .bool b, .bool true, .bool ls, .bool false, .int .u32 0, .int .u16 st, .int .u32 md, .int .u32 pp, .int .u32 fr, .int .u32 0, .int .u32 0, .int .u16 0, .int .u16 0, .slice none 0 0, .slice none 0 0, .slice none 0 0, .slice none 0 0, .slice As xs.length cs'] 42)).heap.size := by simp
                have HPP := Lib.hid (pput_one _ _ ⟨w5.heap.size, 0, none⟩ 1 [.int .u8 kk, .bool b, .bool true, .bool ls, .bool false, .int .u32 0, .int .u16 st, .int .u32 md, .int .u32 pp, .int .u32 fr, .int .u32 0, .int .u32 0, .int .u16 0, .int .u16 0, .slice none 0 0, .slice none 0 0, .slice none 0 0, .slice none 0 0, .slice As xs.length cs'] _ _ hrw hsl (ckP_v (kk := kk) (b := b) (e := true) (ls := ls) (st := st) (mid := md) (pp := pp) (fr := fr) SX) (Nat.le_refl _) HCK.out.2.1 HCK.out.2.2 HCK.out.1.1 HCK.out.1.2 (isb_cB (show kk = 0 ∨ kk = 64 by have := HKX.out; omega) HCK.out.2.1))
                have HR6 := Lib.hid (And.intro (OwnCk.fr HRel.out.1 FA (fun _ _ h => h)) (And.intro (SlB.fr HRel.out.2.1 FA (fun _ _ _ h => h)) (And.intro (Blk.fr HRel.out.2.2.1 FA id) (Bl.trans HRel.out.2.2.2 (Bl.of_fr FA HRel.out.2.2.2.size (fun k h => h.elim))))))
                clear FA SX hrw hsl HRel HBC HOS
                go_wp2_with fail
                refine HPP.out.mono ?_
                rintro e7 w7 ⟨B7, v7, rfl⟩
                have HRel := Lib.hid (And.intro (OwnCk.fr HR6.out.1 (Fr.of_below (S := nothing) B7) (fun _ _ h => h)) (And.intro (SlB.fr HR6.out.2.1 (Fr.of_below (S := nothing) B7) (fun _ _ _ h => h)) (And.intro (Blk.fr HR6.out.2.2.1 (Fr.of_below (S := nothing) B7) id) (Bl.trans HR6.out.2.2.2 (Bl.low B7 HR6.out.2.2.2.size)))))
                clear HR6 B7 HPP
                go_wp2
                go_roundw
                case rel => exact ⟨j + 1, by omega, by go_num, by rw [HJN.out, ← bstr_app], HRel.out.1, HRel.out.2.1, HRel.out.2.2.1, HRel.out.2.2.2⟩
                case measure => simp [intOf]; omega
          · obtain rfl : j = N := by omega
            have hjl : ¬ ((j : Nat) : Int) < j := by omega
            have kb := slb_str X1
            have dM0 := bM1.cell 0
            have dM1 := bM1.cell 1
            have dM2 := bM1.cell 2
            have dM3 := bM1.cell 3
            have dM4 := bM1.cell 4
            simp at dM0 dM1 dM2 dM3 dM4
            rw [HJA.out]
            have HB4 := Lib.hid B4
            clear B4 X1 OA bM1
            go_wp2
            go_ret
            exact ⟨by first | rfl | simp, HB4.out⟩
      · obtain rfl : e = _ := (hA.resolve_left (fun h => he h.1)).2
        have hne : (cutE k inter bs.length != 0) = true := by simpa using he
        clear hA he
        go_wp2
        go_ret
        exact ⟨rfl, B4⟩
  · have hpd : decide ((0 : Int) < most) = false := decide_eq_false hpos
    have he : cutE most inter bs.length ≠ 0 := fun h => by have := cutE_ok h; omega
    clear hpos
    go_wp2_with fail
    refine HCA.out.mono ?_
    rintro e w1 ⟨B3, hA⟩
    obtain rfl : e = _ := (hA.resolve_left (fun h => he h.1)).2
    have hne : (cutE most inter bs.length != 0) = true := by simpa using he
    have B4 := Bl.trans B2 (Bl.low B3 B2.size)
    clear HCA hA he
    go_wp2
    go_ret
    exact ⟨rfl, B4⟩
end Go.Proofs.Ytnhkmapeleomkaa.FragJoins
