/- The walk of flumelaw12.FragCounts: true for all messages and lengths. No conditions but the row's own. -/
import Derived.Test.YtnhkmapeleomkaaFragAlike
namespace Go.Proofs.Ytnhkmapeleomkaa.FragCounts
open Go.RowKit Go.Proofs.Ytnhkmapeleomkaa.Mem Go.Proofs.Ytnhkmapeleomkaa.Octet Go.Proofs.Ytnhkmapeleomkaa.Frag Go.Proofs.Ytnhkmapeleomkaa.FragAlike
set_option linter.unusedVariables false
set_option linter.unusedSimpArgs false
section
variable {P : Program}
/-- A load of a whole struct out of a row. -/
theorem oper_load_at {o : Oper} {a : Act} {w : World} {K : Act → World → Prop} {Q : Exit → Act → World → Prop} {t : TypeId} {x : Operand} {ad : Addr} {cs : List Value} {fs : Array Field} (ho : o.op = .load t x) (hx : a.eval x = .pointer (some ad))
    (hc : ∀ j v, cs[j]? = some v → w.cell? (ad.add j) = some v) (hu : P.underlying t = some (.struct fs)) (hi : (P.info? t).map (·.size) = some cs.length) (h : K (a.put o.dst (.agg cs.toArray)) w) : o.wp P a w K Q := by
  have hl := run_loadCells_list (P := P) (w := w) ad cs hc
  have hr : (loadVar t ad).run P w = .ok (.agg cs.toArray) w := by
    cases hq : P.info? t with
    | none => simp [hq] at hi
    | some i =>
      have hs : i.size = cs.length := by simpa [hq] using hi
      have hagg : (isAgg t).run P w = .ok true w := by
        unfold isAgg
        rw [Sem.run_bind, run_underlying hu w]
        rfl
      unfold loadVar
      rw [Sem.run_bind, hagg]
      simp [sizeOf, typeInfo, hq, hs, hl]
  unfold Oper.wp execOp
  simp only [ho, hx, Instr.loadAt, Instr.sureAddr, Sem.run_bind, Sem.run_pure, Result.andThen_ok, hr]
  exact h
end
theorem wr_id (x : Int) (h : 0 ≤ x ∧ x < 9223372036854775808) : wrap64 x = x := by unfold wrap64; omega
/-- All cells of a piece. -/
theorem OwnCk.cells {w : World} {base : Nat} {A : Option Addr} {n cap : Nat} {ps : List Pc} (h : OwnCk w base (.slice A n cap) ps) (i : Nat) (hi : i < ps.length) :
    ∃ g s, A = some ⟨g, 0, none⟩ ∧ base ≤ g ∧ g < w.heap.size ∧ OwnB w base 5 s ps[i].body ∧ ∀ j v, (pcs ps[i] s)[j]? = some v → w.cell? ((⟨g, i * 19, none⟩ : Addr).add j) = some v := by
  obtain ⟨qs, rfl, hq, h1, h2⟩ := h.split
  have hi' : i < qs.length := by simpa using hi
  rcases h1.2 with ⟨e, h0⟩ | ⟨g, cap', cur, e, hb, hg, rest⟩
  · omega
  · injection e with e1 e2 e3
    subst e1; subst e2; subst e3
    have hm := List.getElem_mem hi'
    refine ⟨g, qs[i].2, rfl, hb, (Array.getElem?_eq_some_iff.1 hg).1, by simpa using (h2 _ hm).1, fun j v hv => ?_⟩
    have hj : j < 19 := by
      have := (List.getElem?_eq_some_iff.1 hv).1
      simpa [pcs] using this
    rw [show (⟨g, i * 19, none⟩ : Addr).add j = ⟨g, i * 19 + j, none⟩ by unfold Addr.add; split <;> simp_all, h1.cellAt _ (by omega), ccells_at qs i j hi' hj]
    simpa using hv
/-- The fields of a piece. -/
theorem piece_fields (st : Int) (ls : Bool) (mid pp : Int) (bs : List Int) (k : Nat) : ∀ j, j < (pieces st ls mid pp true bs k).length → ∀ (h : j < (pieces st ls mid pp true bs k).length), ∃ (xs : List Int) (b e : Bool),
    (pieces st ls mid pp true bs k)[j] = { kind := 64, bg := b, en := e, ls := ls, st := st, mid := mid, pp := pp, fr := j, body := xs } := by
  intro j _ h1
  exact ⟨(bs.drop (j * k)).take k, decide (j = 0), decide (j + 1 = npc k bs), by simp [pieces, piece, raw]⟩
theorem cut_len (k n : Nat) (h1 : 1 ≤ k) (h2 : k ≤ 1168) (h : cutE k true n ≠ 0) : (((n : Int) == 0) || decide ((65536 : Int) < n)) = true := by
  unfold cutE room at h
  rw [if_neg (by simp; omega)] at h
  by_cases h0 : n = 0
  · subst h0; rfl
  · rw [if_neg h0] at h
    by_cases h3 : 65536 < n
    · simp; omega
    · rw [if_neg h3] at h; exact absurd rfl h
set_option maxHeartbeats 4000000 in
set_option maxRecDepth 100000 in
theorem walk (cs : List Value) (most : Int) (w : World) (hsee : Sees Try.prog w 26 cs) (hp : (Lit.int .i64 most).wf = true) :
    Calls Try.prog 4 #[.agg ⟨cs⟩, .int .i64 most] w fun e w' => e = .returned (.bool true) ∧ Below w.heap.size w w' := by
  obtain ⟨st, mid, pp, ls, A, c, bs, em, X, hmid, hbl⟩ := msg_of_see hsee
  rw [em]
  unfold msg
  clear em hsee hp
  have B0 : Below w.heap.size w (w.alloc (.cells #[.int .u16 st, .bool ls, .int .u32 mid, .int .u32 pp, .slice A bs.length c] 26)) := (Below.refl _ w).alloc (Nat.le_refl _) _
  have bM := Blk.new w #[.int .u16 st, .bool ls, .int .u32 mid, .int .u32 pp, .slice A bs.length c] 26
  obtain ⟨k, hk, hk1, hk2⟩ := k_range most
  have HK := Lib.hid hk
  clear hk
  have hup := Try.underlying26
  go_enter Try.func4, Try.ntmps4
  go_wp2_with fail
  refine (first_calls _).mono ?_
  rintro e w0 ⟨rfl, B1⟩
  have bM0 := Blk.fr bM (Fr.of_below (S := nothing) B1) id
  have X0 := SlB.bl (SlB.bl X B0 (Nat.le_refl _)) B1 (by simp)
  have B2 := Bl.trans B0 (Bl.low B1 (by simp))
  have cM0 := bM0.cell 0
  have cM1 := bM0.cell 1
  have cM2 := bM0.cell 2
  have cM3 := bM0.cell 3
  have cM4 := bM0.cell 4
  simp at cM0 cM1 cM2 cM3 cM4
  clear B0 B1 bM X
  go_upto_region 4 with fail
  rw [HK.out]
  by_cases h7 : 70000 < bs.length
  · have hd7 : decide ((70000 : Int) < bs.length) = true := decide_eq_true (by omega)
    clear h7
    go_wp2
    go_ret
    exact ⟨rfl, B2⟩
  · have hd7 : decide ((70000 : Int) < bs.length) = false := decide_eq_false (by omega)
    have hkp : (0 : Int) < k := by omega
    have hkn : ((k : Int) == 0) = false := beq_eq_false_iff_ne.2 (by omega)
    have H7 := Lib.hid (show bs.length ≤ 70000 by omega)
    go_upto_region 6 with fail
    · go_wp2
      go_ret
      exact ⟨rfl, B2⟩
    · clear hd7 h7
      generalize wrap64 ((bs.length : Int) / k) = Q at *
      have CA := cut_nat _ _ st mid pp ls A c bs k true w0 X0 B2.size hmid
      have HCA := Lib.hid CA
      clear CA
      go_wp2_with fail
      refine HCA.out.mono ?_
      rintro e w1 ⟨B3, hA⟩
      clear HCA
      have bM1 := Blk.fr bM0 (Fr.of_below (S := nothing) B3) id
      have B4 := Bl.trans B2 (Bl.low B3 B2.size)
      have hs2 := B2.size
      have dM0 := bM1.cell 0
      have dM1 := bM1.cell 1
      have dM2 := bM1.cell 2
      have dM3 := bM1.cell 3
      have dM4 := bM1.cell 4
      simp at dM0 dM1 dM2 dM3 dM4
      clear X0 bM0 cM0 cM1 cM2 cM3 cM4 B2 B3
      by_cases he : cutE k true bs.length = 0
      · obtain ⟨BA, ca, rfl, OA⟩ := (hA.resolve_right (fun h => h.1 he)).2
        clear hA
        have hNb : npc k bs ≤ 70000 := by have := cutE_ok he; unfold npc; have := Nat.div_le_self (bs.length + k - 1) k; omega
        have hlA := pieces_len st ls mid pp true bs k
        have HPC := Lib.hid (pieces_at st ls mid pp bs k)
        have HND := Lib.hid (show ((npc k bs : Nat) : Int) = ((bs.length : Int) + k - 1) / k by unfold npc; rw [Int.natCast_ediv]; congr 1; have := cutE_ok he; omega)
        have hlB := pieces_len st ls mid pp false bs k
        have HFR := Lib.hid (piece_fields st ls mid pp bs k)
        clear HPC hlB
        generalize npc k bs = N at *
        generalize pieces st ls mid pp true bs k = pA at *
        go_wp2_with fail
        go_loopw [54] (fun i wr => ∃ j : Nat, j ≤ N ∧ i = .int .i64 j ∧ OwnCk wr w0.heap.size (.slice BA N ca) pA ∧ Blk wr w.heap.size 26 #[.int .u16 st, .bool ls, .int .u32 mid, .int .u32 pp, .slice A bs.length c] ∧ Below w.heap.size w wr) (fun i _ => N - (intOf i).toNat)
        case atStart => exact ⟨0, Nat.zero_le _, rfl, OA, bM1, B4⟩
        case round =>
          clear OA bM1 B4 dM0 dM1 dM2 dM3 dM4
          obtain ⟨j, hj, rfl, OA, bM1, B4⟩ := hrel
          by_cases hlt : j < N
          · have hjl : (j : Int) < N := by omega
            have hj0 : (0 : Int) ≤ j := by omega
            obtain ⟨xs, b, e, eA⟩ := HFR.out j (by omega) (by omega)
            obtain ⟨g, s, rfl, hg1, hg2, os, hc⟩ := OwnCk.cells OA j (by omega)
            rw [eA] at os hc
            obtain ⟨As, cs', rfl, -, -⟩ := OwnB.slice os
            replace hc : ∀ i v, ([.int .u8 64, .bool b, .bool e, .bool ls, .bool false, .int .u32 0, .int .u16 st, .int .u32 mid, .int .u32 pp, .int .u32 j, .int .u32 0, .int .u32 0, .int .u16 0, .int .u16 0, .slice none 0 0, .slice none 0 0, .slice none 0 0, .slice none 0 0, .slice As xs.length cs'] : List Value)[i]? = some v → wr.cell? ((⟨g, j * 19, none⟩ : Addr).add i) = some v := hc
            have hup2 := Try.underlying42
            go_upto_region 11 with fail
            refine wp_region_lit ?_
            refine wpList_plain rfl (fun K hK => ?_)
            go_simp
            refine hK _ _ ?_
            clear hK K
            refine wpList_plain rfl (fun K hK => ?_)
            go_simp
            refine hK _ _ ?_
            clear hK K
            refine wpList_plain rfl (fun K hK => ?_)
            refine oper_load_at rfl rfl hc hup2 (by kernel_rfl) ?_
            refine hK _ _ ?_
            clear hK K
            refine wpList_plain rfl (fun K hK => ?_)
            go_simp
            refine hK _ _ ?_
            clear hK K
            refine wpList_plain rfl (fun K hK => ?_)
            go_simp
            refine hK _ _ ?_
            clear hK K
            refine wpList_plain rfl (fun K hK => ?_)
            refine oper_store (cs0 := #[.int .u8 0, .bool false, .bool false, .bool false, .bool false, .int .u32 0, .int .u16 0, .int .u32 0, .int .u32 0, .int .u32 0, .int .u32 0, .int .u32 0, .int .u16 0, .int .u16 0, .slice none 0 0, .slice none 0 0, .slice none 0 0, .slice none 0 0, .slice none 0 0]) rfl rfl rfl (Blk.new wr _ _) (by kernel_rfl) rfl (by simp [pcs, Value.oneCell']) ?_
            refine hK _ _ ?_
            clear hK K
            refine wpList_nil ?_
            obtain ⟨w5, hw5⟩ : ∃ w5, ((wr.alloc (.cells #[.int .u8 0, .bool false, .bool false, .bool false, .bool false, .int .u32 0, .int .u16 0, .int .u32 0, .int .u32 0, .int .u32 0, .int .u32 0, .int .u32 0, .int .u16 0, .int .u16 0, .slice none 0 0, .slice none 0 0, .slice none 0 0, .slice none 0 0, .slice none 0 0] 42)).setRow wr.heap.size #[.int .u8 64, .bool b, .bool e, .bool ls, .bool false, .int .u32 0, .int .u16 st, .int .u32 mid, .int .u32 pp, .int .u32 j, .int .u32 0, .int .u32 0, .int .u16 0, .int .u16 0, .slice none 0 0, .slice none 0 0, .slice none 0 0, .slice none 0 0, .slice As xs.length cs']) = w5 := ⟨_, rfl⟩
            have bC := blk_row (#[.int .u8 64, .bool b, .bool e, .bool ls, .bool false, .int .u32 0, .int .u16 st, .int .u32 mid, .int .u32 pp, .int .u32 j, .int .u32 0, .int .u32 0, .int .u16 0, .int .u16 0, .slice none 0 0, .slice none 0 0, .slice none 0 0, .slice none 0 0, .slice As xs.length cs']) (Blk.new wr #[.int .u8 0, .bool false, .bool false, .bool false, .bool false, .int .u32 0, .int .u16 0, .int .u32 0, .int .u32 0, .int .u32 0, .int .u32 0, .int .u32 0, .int .u16 0, .int .u16 0, .slice none 0 0, .slice none 0 0, .slice none 0 0, .slice none 0 0, .slice none 0 0] 42)
            have FQ : Fr nothing wr ((wr.alloc (.cells #[.int .u8 0, .bool false, .bool false, .bool false, .bool false, .int .u32 0, .int .u16 0, .int .u32 0, .int .u32 0, .int .u32 0, .int .u32 0, .int .u32 0, .int .u16 0, .int .u16 0, .slice none 0 0, .slice none 0 0, .slice none 0 0, .slice none 0 0, .slice none 0 0] 42)).setRow wr.heap.size #[.int .u8 64, .bool b, .bool e, .bool ls, .bool false, .int .u32 0, .int .u16 st, .int .u32 mid, .int .u32 pp, .int .u32 j, .int .u32 0, .int .u32 0, .int .u16 0, .int .u16 0, .slice none 0 0, .slice none 0 0, .slice none 0 0, .slice none 0 0, .slice As xs.length cs']) := ((Fr.refl nothing wr).alloc _).trans (fr_row wr.heap.size #[.int .u8 64, .bool b, .bool e, .bool ls, .bool false, .int .u32 0, .int .u16 st, .int .u32 mid, .int .u32 pp, .int .u32 j, .int .u32 0, .int .u32 0, .int .u16 0, .int .u16 0, .slice none 0 0, .slice none 0 0, .slice none 0 0, .slice none 0 0, .slice As xs.length cs']) (fun k hk h => by have h9 : k = wr.heap.size := h; omega)
            rw [hw5] at bC FQ ⊢
            clear hw5
            have bM2 := Blk.fr bM1 FQ id
            have HOA := Lib.hid (OwnCk.fr OA FQ (fun _ _ h => h))
            have HB4 := Lib.hid (Bl.trans B4 (Bl.of_fr FQ B4.size (fun k h => False.elim h)))
            have HBM := Lib.hid bM2
            have c9 := bC.cell 9
            have c7 := bC.cell 7
            have c6 := bC.cell 6
            have c8 := bC.cell 8
            have c3 := bC.cell 3
            have c5 := bC.cell 5
            simp at c9 c7 c6 c8 c3 c5
            have dM0 := bM2.cell 0
            have dM1 := bM2.cell 1
            have dM2 := bM2.cell 2
            have dM3 := bM2.cell 3
            have dM4 := bM2.cell 4
            simp at dM0 dM1 dM2 dM3 dM4
            have hw32 : IntKind.u32.wrap (j : Int) = j := by rw [IntKind.wrap_u32]; omega
            clear bC FQ bM2 OA B4 bM1 hc os eA
            go_wp2
            go_roundw
            case rel => exact ⟨j + 1, by omega, by go_num, HOA.out, HBM.out, HB4.out⟩
            case measure => simp [intOf]; omega
          · obtain rfl : j = N := by omega
            have hjl : ¬ ((j : Nat) : Int) < j := by omega
            have dM0 := bM1.cell 0
            have dM1 := bM1.cell 1
            have dM2 := bM1.cell 2
            have dM3 := bM1.cell 3
            have dM4 := bM1.cell 4
            simp at dM0 dM1 dM2 dM3 dM4
            have hw := wr_id ((bs.length : Int) + k) (by have := H7.out; omega)
            have hw2 := wr_id ((bs.length : Int) + k - 1) (by have := H7.out; omega)
            have hwt : wrap64 (((bs.length : Int) + k - 1).tdiv k) = (j : Int) := by
              rw [Int.tdiv_eq_ediv_of_nonneg (by omega), ← HND.out]
              exact wr_id _ (by omega)
            go_wp2
            go_ret
            exact ⟨by first | rfl | simp_all, B4⟩
      · have eA := (hA.resolve_left (fun h => he h.1)).2
        subst eA
        clear hA
        have hcl := cut_len k bs.length hk1 hk2 he
        have hne : (cutE k true bs.length != 0) = true := by simpa using he
        generalize cutE k true bs.length = E at *
        by_cases h0 : ((bs.length : Int) == 0) = true
        · go_wp2
          go_ret
          exact ⟨rfl, B4⟩
        · have h0' : ((bs.length : Int) == 0) = false := by simpa using h0
          have h1' : decide ((65536 : Int) < bs.length) = true := by rw [h0', Bool.false_or] at hcl; exact hcl
          clear h0 hcl
          go_wp2
          go_ret
          exact ⟨rfl, B4⟩
end Go.Proofs.Ytnhkmapeleomkaa.FragCounts
