/- The walk of flumelaw12.FragCuts: true for all messages, lengths and kinds. No conditions but the row's own. -/
import Derived.Test.YtnhkmapeleomkaaFragCounts
import Derived.Test.YtnhkmapeleomkaaFragRCut
import Derived.Test.YtnhkmapeleomkaaFragSame
import Derived.Test.YtnhkmapeleomkaaOwnUp
import Derived.StillTailTactics
namespace Go.Proofs.Ytnhkmapeleomkaa.FragCuts
open Go.RowKit Go.Proofs.Ytnhkmapeleomkaa.Mem Go.Proofs.Ytnhkmapeleomkaa.Octet Go.Proofs.Ytnhkmapeleomkaa.Frag
set_option linter.unusedVariables false
set_option linter.unusedSimpArgs false
/-- What either cut hands back. -/
def res (st : Int) (ls : Bool) (mid pp : Int) (bs : List Int) (most : Int) (inter : Bool) : List Pc := if cutE most inter bs.length = 0 then pieces st ls mid pp inter bs most.toNat else []
theorem res_len (st : Int) (ls : Bool) (mid pp : Int) (bs : List Int) (most : Int) (inter : Bool) : (res st ls mid pp bs most inter).length ≤ 70000 := by
  unfold res
  split
  · rename_i h
    have h2 := cutE_ok h
    rw [pieces_len]
    have h3 : npc most.toNat bs ≤ bs.length + most.toNat - 1 := Nat.div_le_self _ _
    unfold room at h2
    have h4 : most ≤ 1172 := by have := h2.2.1; split at this <;> omega
    omega
  · simp
/-- A load of a whole struct out of a row, that leaves the world. -/
theorem still_load_at {P : Program} {o : Oper} {a : Act} {w : World} {K : Act → Prop} {t : TypeId} {x : Operand} {ad : Addr} {cs : List Value} {fs : Array Field} (ho : o.op = .load t x) (hx : a.eval x = .pointer (some ad))
    (hc : ∀ j v, cs[j]? = some v → w.cell? (ad.add j) = some v) (hu : P.underlying t = some (.struct fs)) (hi : (P.info? t).map (·.size) = some cs.length) (h : K (a.put o.dst (.agg cs.toArray))) : o.still P a w K := by
  have hl := run_loadCells_list (P := P) (w := w) ad cs hc
  have hr : (loadVar t ad).run P w = .ok (.agg cs.toArray) w := by
    cases hq : P.info? t with
    | none => simp [hq] at hi
    | some i =>
      have hs : i.size = cs.length := by simpa [hq] using hi
      have hagg : (isAgg t).run P w = .ok true w := by
        unfold isAgg
        rw [Sem.run_bind, run_underlying hu w]
        rfl
      unfold loadVar
      rw [Sem.run_bind, hagg]
      simp [sizeOf, typeInfo, hq, hs, hl]
  unfold Oper.still execOp
  simp only [ho, hx, Instr.loadAt, Instr.sureAddr, Sem.run_bind, Sem.run_pure, Result.andThen_ok, hr]
  exact ⟨rfl, h⟩
theorem cut_uni {w w' : World} {st mid pp : Int} {ls : Bool} {bs : List Int} {most : Int} {inter : Bool} {e : Ending} (h : CutR w st ls mid pp bs most inter e w') :
    Below w.heap.size w w' ∧ ∃ B c', e = .returned (.tuple #[.slice B (res st ls mid pp bs most inter).length c', .int .i64 (cutE most inter bs.length)]) ∧ OwnCk w' w.heap.size (.slice B (res st ls mid pp bs most inter).length c') (res st ls mid pp bs most inter) := by
  obtain ⟨hb, h⟩ := h
  refine ⟨hb, ?_⟩
  rcases h with ⟨he, B, c', e1, o⟩ | ⟨he, e1⟩
  · refine ⟨B, c', ?_, ?_⟩
    · rw [e1, he, show (res st ls mid pp bs most inter) = pieces st ls mid pp inter bs most.toNat by unfold res; rw [if_pos he], pieces_len]
    · rw [show (res st ls mid pp bs most inter) = pieces st ls mid pp inter bs most.toNat by unfold res; rw [if_pos he], pieces_len]
      exact o
  · have er : res st ls mid pp bs most inter = [] := by unfold res; rw [if_neg he]
    refine ⟨none, 0, ?_, ?_⟩
    · rw [er]; exact e1
    · rw [er]; exact OwnCk.nil _ _
set_option maxHeartbeats 4000000 in
set_option maxRecDepth 100000 in
theorem walk (cs : List Value) (most : Int) (inter : Bool) (w : World) (hsee : Sees Try.prog w 26 cs) (hp : (Lit.int .i64 most).wf = true) :
    Calls Try.prog 3 #[.agg ⟨cs⟩, .int .i64 most, .bool inter] w fun e w' => e = .returned (.bool true) ∧ Below w.heap.size w w' := by
  obtain ⟨st, mid, pp, ls, A, c, bs, em, X, hmid, hbl⟩ := msg_of_see hsee
  rw [em]
  unfold msg
  clear em hsee hp
  have B0 : Below w.heap.size w (w.alloc (.cells #[.int .u16 st, .bool ls, .int .u32 mid, .int .u32 pp, .slice A bs.length c] 26)) := (Below.refl _ w).alloc (Nat.le_refl _) _
  have bM := Blk.new w #[.int .u16 st, .bool ls, .int .u32 mid, .int .u32 pp, .slice A bs.length c] 26
  have hup := Try.underlying26
  go_enter Try.func3, Try.ntmps3
  go_wp2_with fail
  refine (first_calls _).mono ?_
  rintro e w0 ⟨rfl, B1⟩
  have bM0 := Blk.fr bM (Fr.of_below (S := nothing) B1) id
  have X0 := SlB.bl (SlB.bl X B0 (Nat.le_refl _)) B1 (by simp)
  have B2 := Bl.trans B0 (Bl.low B1 (by simp))
  have cM0 := bM0.cell 0
  have cM1 := bM0.cell 1
  have cM2 := bM0.cell 2
  have cM3 := bM0.cell 3
  have cM4 := bM0.cell 4
  simp at cM0 cM1 cM2 cM3 cM4
  clear B0 B1 bM X
  by_cases h7 : 70000 < bs.length
  · have hd7 : decide ((70000 : Int) < bs.length) = true := decide_eq_true (by omega)
    clear h7
    go_wp2
    go_ret
    exact ⟨rfl, B2⟩
  · have hd7 : decide ((70000 : Int) < bs.length) = false := decide_eq_false (by omega)
    have H7 := Lib.hid (show bs.length ≤ 70000 by omega)
    by_cases hm : 0 < most
    · have hdm : decide (0 < most) = true := decide_eq_true hm
      have hkn : (most == 0) = false := beq_eq_false_iff_ne.2 (by omega)
      go_upto_region 5 with fail
      · go_wp2
        go_ret
        exact ⟨rfl, B2⟩
      · generalize wrap64 ((bs.length : Int) / most) = Q at *
        clear hd7 h7 hdm hkn hm
        refine wp_region_lit ?_
        refine wpList_plain rfl (fun K hK => ?_)
        refine oper_load rfl rfl bM0 hup rfl (by kernel_rfl) ?_
        refine hK _ _ ?_
        clear hK K
        refine wpList_plain rfl (fun K hK => ?_)
        go_simp
        refine hK _ _ ?_
        clear hK K
        refine wpList_plain rfl (fun K hK => ?_)
        refine oper_store (cs0 := #[.int .u16 0, .bool false, .int .u32 0, .int .u32 0, .slice none 0 0]) rfl rfl rfl (Blk.new w0 _ _) (by kernel_rfl) rfl (by simp [Value.oneCell']) ?_
        refine hK _ _ ?_
        clear hK K
        refine wpList_nil ?_
        have bO := blk_row (#[.int .u16 st, .bool ls, .int .u32 mid, .int .u32 pp, .slice A bs.length c]) (Blk.new w0 #[.int .u16 0, .bool false, .int .u32 0, .int .u32 0, .slice none 0 0] 26)
        have FQ : Fr nothing w0 ((w0.alloc (.cells #[.int .u16 0, .bool false, .int .u32 0, .int .u32 0, .slice none 0 0] 26)).setRow w0.heap.size #[.int .u16 st, .bool ls, .int .u32 mid, .int .u32 pp, .slice A bs.length c]) := ((Fr.refl nothing w0).alloc _).trans (fr_row w0.heap.size #[.int .u16 st, .bool ls, .int .u32 mid, .int .u32 pp, .slice A bs.length c]) (fun k hk h => by have h9 : k = w0.heap.size := h; omega)
        generalize ((w0.alloc (.cells #[.int .u16 0, .bool false, .int .u32 0, .int .u32 0, .slice none 0 0] 26)).setRow w0.heap.size #[.int .u16 st, .bool ls, .int .u32 mid, .int .u32 pp, .slice A bs.length c]) = w5 at *
        have bM5 := Blk.fr bM0 FQ id
        have X5 := SlB.fr X0 FQ (fun _ _ _ h => h)
        have B5 := Bl.trans B2 (Bl.of_fr FQ B2.size (fun k h => False.elim h))
        have hne0 : w.heap.size ≠ w0.heap.size := by have := bM0.lt; omega
        have hX5 : w.heap.size ≤ w0.heap.size := B2.size
        generalize hG : w0.heap.size = gO at *
        clear bM0 X0 FQ B2 cM0 cM1 cM2 cM3 cM4
        obtain ⟨A3, c3, e3, h31, h32, h33, rd⟩ := X5
        injection e3 with e3 el4 e4
        subst e3; subst e4
        have own0 : (w5.alloc (.cells #[] 5)).ownsRow w5.heap.size 5 1 (.slice (some ⟨w5.heap.size, 0, none⟩) 0 0) ([] : List Int).length (byts []) :=
          ⟨rfl, .inr ⟨w5.heap.size, 0, #[], rfl, Nat.le_refl _, heap_alloc_new w5 _, Nat.le_refl _, Nat.zero_le _, rfl, rfl⟩⟩
        have rE1 := RdB.fr (S := nothing) rd ((Fr.refl _ w5).alloc (.cells #[] 5)) (fun _ _ _ h => h)
        have cM4' := (bM5.alloc (.cells #[] 5)).cell 4
        simp at cM4'
        have hapl : ([] : List Int).length + bs.length ≤ 140737488355328 := by have := H7.out; simp; omega
        have hbw : w5.heap.size ≤ (w5.alloc (.cells #[] 5)).heap.size := by simp
        have hgw := bO.lt
        obtain ⟨ib, hib, hbz0, hbz1, hbz2⟩ := info_parts info_b
        have HBM5 := Lib.hid bM5
        have HBO5 := Lib.hid bO
        have HB5 := Lib.hid B5
        have HRD := Lib.hid rd
        clear bM5 bO B5 rd
        go_upto_region 7 with (first | (at_builtin; go_loud (refine wpList_append_b _ rfl (.tmp 33) (.tmp 35) _ rfl w5.heap.size 5 ib Try.underlying24 hib hbz0 hbz1 hbz2 _ [] rfl own0 0 w.heap.size _ _ _ bs rfl rfl rE1 hapl hbw ?_; intro v1 w6 hown hg9 hat; have o1 : OwnB w6 w5.heap.size 5 v1 bs := hown; obtain ⟨B1, c1, rfl, -, -⟩ := OwnB.slice o1; have G1 : Fr (OfV (.slice (some ⟨w5.heap.size, 0, none⟩) 0 0)) _ w6 := (Fr.refl _ _).grown hg9 (fun k hk => .inl hk); have hs1 : ∀ k, OfV (.slice (some ⟨w5.heap.size, 0, none⟩) 0 0) k → k = w5.heap.size := (fun k h => (Option.some.inj h).symm); have F9 : Fr nothing w5 w6 := ((Fr.refl nothing w5).alloc (.cells #[] 5)).trans G1 (fun k h1 h2 => by have := hs1 _ h2; omega); have bO6 := Blk.fr HBO5.out F9 id; have cB := bO6.cell 4; have fB := bO6.frozen 4; simp at cB; have HBM := Lib.hid (Blk.fr HBM5.out F9 id); have HBO := Lib.hid bO6; have HR6 := Lib.hid (RdB.fr HRD.out F9 (fun _ _ _ h => h)); have HB6 := Lib.hid (Bl.trans HB5.out (Bl.of_fr F9 HB5.out.size (fun k h => False.elim h))); have HOB := Lib.hid o1; have HSZ := Lib.hid F9.size; clear hown hat G1 own0 rE1 F9 bO6 HBM5 HBO5 HRD HB5 o1 cM4' hapl hbw)))
        have bO7 : Blk (World.setCell w6 ⟨gO, 4, none⟩ (.slice B1 bs.length c1)) gO 26 #[.int .u16 st, .bool ls, .int .u32 mid, .int .u32 pp, .slice B1 bs.length c1] := HBO.out.set 4 (.slice B1 bs.length c1)
        have F7 : Fr (only gO) w6 (World.setCell w6 ⟨gO, 4, none⟩ (.slice B1 bs.length c1)) := (Fr.refl _ _).set_only 4 none _
        generalize World.setCell w6 ⟨gO, 4, none⟩ (.slice B1 bs.length c1) = w7 at *
        have bM7 := Blk.fr HBM.out F7 (fun h => hne0 h)
        have o7 := OwnB.fr HOB.out F7 (fun k h1 h2 => by have h9 : k = gO := h2; exact OwnB.ne HOB.out HBO.out (by decide) (h9 ▸ h1))
        have hgs := HSZ.out
        have X7 : SlB w7 0 w.heap.size (.slice A bs.length c) bs := ⟨A, c, rfl, h31, h32, h33, RdB.fr HR6.out F7 (fun k _ h1 h2 => by have h9 : k = gO := h2; omega)⟩
        have B7 := Bl.trans HB6.out (Bl.of_fr F7 HB6.out.size (fun k h => by have h9 : k = gO := h; omega))
        have hne1 : (Value.slice B1 bs.length c1).ownBlock ≠ some gO := OwnB.ne o7 bO7 (by decide)
        have hs67 : w6.heap.size ≤ w7.heap.size := F7.size
        clear HBM HOB HR6 HB6 HBO F7 cB fB h31 h32 h33 el4
        have cO0 := bO7.cell 0
        have cO1 := bO7.cell 1
        have cO2 := bO7.cell 2
        have cO3 := bO7.cell 3
        have cO4 := bO7.cell 4
        simp at cO0 cO1 cO2 cO3 cO4
        have CA := cut_calls _ _ st mid pp ls B1 c1 bs most inter w7 (SlB.of_own o7) (Nat.le_refl _) hmid
        unfold msg at CA
        have HCA := Lib.hid CA
        have H57 := Lib.hid (show w5.heap.size ≤ w7.heap.size by omega)
        clear CA
        go_wp2_with fail
        refine HCA.out.mono ?_
        rintro e w8 hR
        obtain ⟨B8, BA, ca, rfl, OA⟩ := cut_uni hR
        clear hR HCA
        have bO8 := Blk.fr bO7 (Fr.of_below (S := nothing) B8) id
        have bM8 := Blk.fr bM7 (Fr.of_below (S := nothing) B8) id
        have X8 := SlB.bl X7 B8 B7.size
        have o8 := OwnB.fr o7 (Fr.of_below (S := nothing) B8) (fun _ _ h => h)
        have B9 := Bl.trans B7 (Bl.low B8 B7.size)
        have hLT := fun k h => OwnB.lt o7 k h
        have hs78 := B8.size
        have hs7 := B7.size
        clear bO7 bM7 X7 o7 B7 B8 cO0 cO1 cO2 cO3 cO4
        have cM0 := bM8.cell 0
        have cM1 := bM8.cell 1
        have cM2 := bM8.cell 2
        have cM3 := bM8.cell 3
        have cM4 := bM8.cell 4
        simp at cM0 cM1 cM2 cM3 cM4
        have CA := rcut_calls _ _ st mid pp ls A c bs most inter w8 X8 B9.size hmid
        have HCA := Lib.hid CA
        clear CA
        go_wp2_with fail
        refine HCA.out.mono ?_
        rintro e w9 hR
        obtain ⟨B10, BB, cb, rfl, OB⟩ := cut_uni hR
        clear hR HCA X8
        have bO9 := Blk.fr bO8 (Fr.of_below (S := nothing) B10) id
        have o9 := OwnB.low (OwnB.fr o8 (Fr.of_below (S := nothing) B10) (fun _ _ h => h)) (Nat.le_refl _)
        have B11 := Bl.trans B9 (Bl.low B10 B9.size)
        have OA9 := OwnCk.fr OA (Fr.of_below (S := nothing) B10) (fun _ _ h => h)
        have hs89 := B10.size
        have HPL := Lib.hid (res_len st ls mid pp bs most inter)
        generalize res st ls mid pp bs most inter = ps at *
        generalize cutE most inter bs.length = E at *
        clear OA o8 bO8 bM8 B9 B10 cM0 cM1 cM2 cM3 cM4
        have cO0 := bO9.cell 0
        have cO1 := bO9.cell 1
        have cO2 := bO9.cell 2
        have cO3 := bO9.cell 3
        have cO4 := bO9.cell 4
        simp at cO0 cO1 cO2 cO3 cO4
        go_wp2_with fail
        go_loopw [55] (fun i wr => ∃ (j : Nat) (xs : List Int), j ≤ bs.length ∧ xs.length = bs.length ∧ i = .int .i64 j ∧ OwnB wr w5.heap.size 5 (.slice B1 bs.length c1) xs ∧ OwnCk wr w7.heap.size (.slice BA ps.length ca) ps ∧ OwnCk wr w8.heap.size (.slice BB ps.length cb) ps ∧ Blk wr gO 26 #[.int .u16 st, .bool ls, .int .u32 mid, .int .u32 pp, .slice B1 bs.length c1] ∧ Below w.heap.size w wr) (fun i _ => bs.length - (intOf i).toNat)
        case atStart => exact ⟨0, bs, Nat.zero_le _, rfl, rfl, o9, OA9, OB, bO9, B11⟩
        case round =>
          clear OA9 OB o9 bO9 B11 cO0 cO1 cO2 cO3 cO4
          obtain ⟨j, xs, hj, hxl, rfl, o9, OA9, OB, bO9, B11⟩ := hrel
          have cO0 := bO9.cell 0
          have cO1 := bO9.cell 1
          have cO2 := bO9.cell 2
          have cO3 := bO9.cell 3
          have cO4 := bO9.cell 4
          simp at cO0 cO1 cO2 cO3 cO4
          by_cases hlt : j < bs.length
          · have hjl : (j : Int) < bs.length := by omega
            have hjb : (j : Int) ≤ 70000 := by have := H7.out; omega
            obtain ⟨ad, rfl, ⟨x, hcx⟩, hfx, hbx, hown, hst⟩ := own_at o9 j hlt
            have hne2 : (ad.add j).block ≠ gO := fun h => hne1 (hown _ h)
            have hlt7 : (ad.add j).block < w7.heap.size := hLT _ (hown _ rfl)
            replace hown := Lib.hid hown
            replace hst := Lib.hid hst
            replace hxl := Lib.hid hxl
            go_upto_region 13 with fail
            obtain ⟨xs', o9'⟩ := hst.out (bits .xor .u8 x 255)
            have FX : Fr (OfV (.slice (some ad) bs.length c1)) wr (wr.setCell (ad.add j) (.int .u8 (bits .xor .u8 x 255))) := (Fr.refl _ _).setCell (.inl (hown.out _ rfl)) _
            generalize wr.setCell (ad.add j) (.int .u8 (bits .xor .u8 x 255)) = wn at *
            have hxl' : xs'.length = bs.length := by
              obtain ⟨A9, c9, e9, -, -⟩ := OwnB.slice o9'
              injection e9 with e91 e92 e93
              exact e92.symm
            have HR := Lib.hid (show OwnCk wn w7.heap.size (.slice BA ps.length ca) ps ∧ OwnCk wn w8.heap.size (.slice BB ps.length cb) ps ∧ Blk wn gO 26 #[.int .u16 st, .bool ls, .int .u32 mid, .int .u32 pp, .slice (some ad) bs.length c1] ∧ Below w.heap.size w wn from
              ⟨OwnCk.fr OA9 FX (fun k h1 h2 => by have := hLT k h2; omega), OwnCk.fr OB FX (fun k h1 h2 => by have := hLT k h2; omega), Blk.fr bO9 FX (fun h => hne1 h), Bl.trans B11 (Bl.of_fr FX B11.size (fun k h => by have := OwnB.ge o9 k h; omega))⟩)
            replace hxl' := Lib.hid hxl'
            replace o9' := Lib.hid o9'
            clear FX hst hown hcx hfx cO0 cO1 cO2 cO3 cO4 OA9 OB bO9 B11 o9
            go_wp2
            go_roundw
            case rel => exact ⟨j + 1, xs', by omega, hxl'.out, by go_num, o9'.out, HR.out⟩
            case measure => simp [intOf]; omega
          · have hjl : ¬ ((j : Nat) : Int) < bs.length := by omega
            clear hlt hj
            have HPB := HPL.out
            have hnn : ((ps.length : Int) != ps.length) = false := by simp
            go_wp2_with (first | (refine (rroom_calls inter _).mono ?_; rintro e wz ⟨rfl, rfl⟩) | (refine (room_calls inter _).mono ?_; rintro e wz ⟨rfl, rfl⟩))
            clear cO0 cO1 cO2 cO3 cO4
            go_loopw [85] (fun i wq => ∃ j : Nat, j ≤ ps.length ∧ i = .int .i64 j ∧ OwnCk wq w7.heap.size (.slice BA ps.length ca) ps ∧ OwnCk wq w8.heap.size (.slice BB ps.length cb) ps ∧ Below w.heap.size w wq) (fun i _ => ps.length - (intOf i).toNat)
            case atStart => exact ⟨0, Nat.zero_le _, rfl, OA9, OB, B11⟩
            case round =>
              clear OA9 OB B11
              obtain ⟨i, hi, rfl, OA9, OB, B11⟩ := hrel
              by_cases hlt : i < ps.length
              · have hjl : (i : Int) < ps.length := by omega
                have hj0 : (0 : Int) ≤ i := by omega
                obtain ⟨g1, s1, rfl, -, -, os1, hc1⟩ := FragCounts.OwnCk.cells OA9 i hlt
                obtain ⟨g2, s2, rfl, -, -, os2, hc2⟩ := FragCounts.OwnCk.cells OB i hlt
                have hs1w : w.heap.size ≤ wr.heap.size := B11.size
                obtain ⟨p, hp⟩ : ∃ p, ps[i] = p := ⟨_, rfl⟩
                rw [hp] at os1 hc1 os2 hc2
                clear hp
                obtain ⟨k, b, e, l, st1, mid1, pp1, fr, body⟩ := p
                obtain ⟨A1, k1, rfl, -, -⟩ := OwnB.slice os1
                obtain ⟨A2, k2, rfl, -, -⟩ := OwnB.slice os2
                replace hc1 : ∀ j v, ([.int .u8 k, .bool b, .bool e, .bool l, .bool false, .int .u32 0, .int .u16 st1, .int .u32 mid1, .int .u32 pp1, .int .u32 fr, .int .u32 0, .int .u32 0, .int .u16 0, .int .u16 0, .slice none 0 0, .slice none 0 0, .slice none 0 0, .slice none 0 0, .slice A1 body.length k1] : List Value)[j]? = some v → wr.cell? ((⟨g1, i * 19, none⟩ : Addr).add j) = some v := hc1
                replace hc2 : ∀ j v, ([.int .u8 k, .bool b, .bool e, .bool l, .bool false, .int .u32 0, .int .u16 st1, .int .u32 mid1, .int .u32 pp1, .int .u32 fr, .int .u32 0, .int .u32 0, .int .u16 0, .int .u16 0, .slice none 0 0, .slice none 0 0, .slice none 0 0, .slice none 0 0, .slice A2 body.length k2] : List Value)[j]? = some v → wr.cell? ((⟨g2, i * 19, none⟩ : Addr).add j) = some v := hc2
                have SX1 : SlB wr w7.heap.size wr.heap.size (.slice A1 body.length k1) body := SlB.of_own os1
                have SX2 : SlB wr w8.heap.size wr.heap.size (.slice A2 body.length k2) body := SlB.of_own os2
                have HC1 := Lib.hid hc1
                have HC2 := Lib.hid hc2
                have HSX1 := Lib.hid SX1
                have HSX2 := Lib.hid SX2
                have HOA := Lib.hid OA9
                have HOB := Lib.hid OB
                clear hc1 hc2 SX1 SX2 OA9 OB os1 os2
                have hup2 := Try.underlying42
                go_upto_region 19 with fail
                refine wp_region_still_tail 8 (by kernel_rfl) (by kernel_rfl) ?_
                simp only [List.take_succ_cons, List.take_zero, List.drop_succ_cons, List.drop_zero]
                still_step
                still_step
                still_step
                refine wpStill_step (fun K hK => ?_)
                rw [if_pos (show Region.wanted _ _ = true from rfl)]
                refine still_load_at rfl rfl (cs := [.int .u8 k, .bool b, .bool e, .bool l, .bool false, .int .u32 0, .int .u16 st1, .int .u32 mid1, .int .u32 pp1, .int .u32 fr, .int .u32 0, .int .u32 0, .int .u16 0, .int .u16 0, .slice none 0 0, .slice none 0 0, .slice none 0 0, .slice none 0 0, .slice A1 body.length k1]) HC1.out hup2 (by kernel_rfl) ?_
                refine hK _ ?_
                clear hK K
                still_step
                still_step
                still_step
                refine wpStill_step (fun K hK => ?_)
                rw [if_pos (show Region.wanted _ _ = true from rfl)]
                refine still_load_at rfl rfl (cs := [.int .u8 k, .bool b, .bool e, .bool l, .bool false, .int .u32 0, .int .u16 st1, .int .u32 mid1, .int .u32 pp1, .int .u32 fr, .int .u32 0, .int .u32 0, .int .u16 0, .int .u16 0, .slice none 0 0, .slice none 0 0, .slice none 0 0, .slice none 0 0, .slice A2 body.length k2]) HC2.out hup2 (by kernel_rfl) ?_
                refine hK _ ?_
                clear hK K
                refine wpStill_nil ?_
                change wpList _ _ _ _ _ wr.drew
                have FD : Fr nothing wr wr.drew := (Fr.refl _ wr).drew
                have HOA2 := Lib.hid (OwnCk.fr HOA.out FD (fun _ _ h => h))
                have HOB2 := Lib.hid (OwnCk.fr HOB.out FD (fun _ _ h => h))
                have S1 := SlB.fr HSX1.out FD (fun _ _ _ h => h)
                have S2 := SlB.fr HSX2.out FD (fun _ _ _ h => h)
                have BD := Bl.trans B11 (Bl.of_fr FD B11.size (fun k h => False.elim h))
                have hsz : wr.heap.size = wr.drew.heap.size := rfl
                rw [hsz] at S1 S2
                clear HOA HOB HSX1 HSX2 HC1 HC2 B11 FD hsz
                generalize wr.drew = wd at *
                have HC := Lib.hid (same_alike k st1 mid1 pp1 fr b e l A1 A2 k1 k2 body wd _ _ S1 S2)
                have HBD := Lib.hid BD
                clear S1 S2 BD
                go_wp2_with fail
                refine HC.out.mono ?_
                rintro e wk ⟨rfl, Bk⟩
                have HOA3 := Lib.hid (OwnCk.fr HOA2.out (Fr.of_below (S := nothing) Bk) (fun _ _ h => h))
                have HOB3 := Lib.hid (OwnCk.fr HOB2.out (Fr.of_below (S := nothing) Bk) (fun _ _ h => h))
                have HB3 := Lib.hid (Bl.trans HBD.out (Bl.low Bk HBD.out.size))
                clear HC HOA2 HOB2 HBD Bk
                go_wp2
                go_roundw
                case rel => exact ⟨i + 1, by omega, by go_num, HOA3.out, HOB3.out, HB3.out⟩
                case measure => simp [intOf]; omega
              · have hjl : ¬ ((i : Nat) : Int) < ps.length := by omega
                clear hlt hi OA9 OB
                go_wp2
                go_ret
                exact ⟨rfl, B11⟩
    · have hdm : decide (0 < most) = false := decide_eq_false hm
      go_upto_region 5 with fail
      clear hd7 h7 hdm hm
      refine wp_region_lit ?_
      refine wpList_plain rfl (fun K hK => ?_)
      refine oper_load rfl rfl bM0 hup rfl (by kernel_rfl) ?_
      refine hK _ _ ?_
      clear hK K
      refine wpList_plain rfl (fun K hK => ?_)
      go_simp
      refine hK _ _ ?_
      clear hK K
      refine wpList_plain rfl (fun K hK => ?_)
      refine oper_store (cs0 := #[.int .u16 0, .bool false, .int .u32 0, .int .u32 0, .slice none 0 0]) rfl rfl rfl (Blk.new w0 _ _) (by kernel_rfl) rfl (by simp [Value.oneCell']) ?_
      refine hK _ _ ?_
      clear hK K
      refine wpList_nil ?_
      have bO := blk_row (#[.int .u16 st, .bool ls, .int .u32 mid, .int .u32 pp, .slice A bs.length c]) (Blk.new w0 #[.int .u16 0, .bool false, .int .u32 0, .int .u32 0, .slice none 0 0] 26)
      have FQ : Fr nothing w0 ((w0.alloc (.cells #[.int .u16 0, .bool false, .int .u32 0, .int .u32 0, .slice none 0 0] 26)).setRow w0.heap.size #[.int .u16 st, .bool ls, .int .u32 mid, .int .u32 pp, .slice A bs.length c]) := ((Fr.refl nothing w0).alloc _).trans (fr_row w0.heap.size #[.int .u16 st, .bool ls, .int .u32 mid, .int .u32 pp, .slice A bs.length c]) (fun k hk h => by have h9 : k = w0.heap.size := h; omega)
      generalize ((w0.alloc (.cells #[.int .u16 0, .bool false, .int .u32 0, .int .u32 0, .slice none 0 0] 26)).setRow w0.heap.size #[.int .u16 st, .bool ls, .int .u32 mid, .int .u32 pp, .slice A bs.length c]) = w5 at *
      have bM5 := Blk.fr bM0 FQ id
      have X5 := SlB.fr X0 FQ (fun _ _ _ h => h)
      have B5 := Bl.trans B2 (Bl.of_fr FQ B2.size (fun k h => False.elim h))
      have hne0 : w.heap.size ≠ w0.heap.size := by have := bM0.lt; omega
      have hX5 : w.heap.size ≤ w0.heap.size := B2.size
      generalize hG : w0.heap.size = gO at *
      clear bM0 X0 FQ B2 cM0 cM1 cM2 cM3 cM4
      obtain ⟨A3, c3, e3, h31, h32, h33, rd⟩ := X5
      injection e3 with e3 el4 e4
      subst e3; subst e4
      have own0 : (w5.alloc (.cells #[] 5)).ownsRow w5.heap.size 5 1 (.slice (some ⟨w5.heap.size, 0, none⟩) 0 0) ([] : List Int).length (byts []) :=
        ⟨rfl, .inr ⟨w5.heap.size, 0, #[], rfl, Nat.le_refl _, heap_alloc_new w5 _, Nat.le_refl _, Nat.zero_le _, rfl, rfl⟩⟩
      have rE1 := RdB.fr (S := nothing) rd ((Fr.refl _ w5).alloc (.cells #[] 5)) (fun _ _ _ h => h)
      have cM4' := (bM5.alloc (.cells #[] 5)).cell 4
      simp at cM4'
      have hapl : ([] : List Int).length + bs.length ≤ 140737488355328 := by have := H7.out; simp; omega
      have hbw : w5.heap.size ≤ (w5.alloc (.cells #[] 5)).heap.size := by simp
      have hgw := bO.lt
      obtain ⟨ib, hib, hbz0, hbz1, hbz2⟩ := info_parts info_b
      have HBM5 := Lib.hid bM5
      have HBO5 := Lib.hid bO
      have HB5 := Lib.hid B5
      have HRD := Lib.hid rd
      clear bM5 bO B5 rd
      go_upto_region 7 with (first | (at_builtin; go_loud (refine wpList_append_b _ rfl (.tmp 33) (.tmp 35) _ rfl w5.heap.size 5 ib Try.underlying24 hib hbz0 hbz1 hbz2 _ [] rfl own0 0 w.heap.size _ _ _ bs rfl rfl rE1 hapl hbw ?_; intro v1 w6 hown hg9 hat; have o1 : OwnB w6 w5.heap.size 5 v1 bs := hown; obtain ⟨B1, c1, rfl, -, -⟩ := OwnB.slice o1; have G1 : Fr (OfV (.slice (some ⟨w5.heap.size, 0, none⟩) 0 0)) _ w6 := (Fr.refl _ _).grown hg9 (fun k hk => .inl hk); have hs1 : ∀ k, OfV (.slice (some ⟨w5.heap.size, 0, none⟩) 0 0) k → k = w5.heap.size := (fun k h => (Option.some.inj h).symm); have F9 : Fr nothing w5 w6 := ((Fr.refl nothing w5).alloc (.cells #[] 5)).trans G1 (fun k h1 h2 => by have := hs1 _ h2; omega); have bO6 := Blk.fr HBO5.out F9 id; have cB := bO6.cell 4; have fB := bO6.frozen 4; simp at cB; have HBM := Lib.hid (Blk.fr HBM5.out F9 id); have HBO := Lib.hid bO6; have HR6 := Lib.hid (RdB.fr HRD.out F9 (fun _ _ _ h => h)); have HB6 := Lib.hid (Bl.trans HB5.out (Bl.of_fr F9 HB5.out.size (fun k h => False.elim h))); have HOB := Lib.hid o1; have HSZ := Lib.hid F9.size; clear hown hat G1 own0 rE1 F9 bO6 HBM5 HBO5 HRD HB5 o1 cM4' hapl hbw)))
      have bO7 : Blk (World.setCell w6 ⟨gO, 4, none⟩ (.slice B1 bs.length c1)) gO 26 #[.int .u16 st, .bool ls, .int .u32 mid, .int .u32 pp, .slice B1 bs.length c1] := HBO.out.set 4 (.slice B1 bs.length c1)
      have F7 : Fr (only gO) w6 (World.setCell w6 ⟨gO, 4, none⟩ (.slice B1 bs.length c1)) := (Fr.refl _ _).set_only 4 none _
      generalize World.setCell w6 ⟨gO, 4, none⟩ (.slice B1 bs.length c1) = w7 at *
      have bM7 := Blk.fr HBM.out F7 (fun h => hne0 h)
      have o7 := OwnB.fr HOB.out F7 (fun k h1 h2 => by have h9 : k = gO := h2; exact OwnB.ne HOB.out HBO.out (by decide) (h9 ▸ h1))
      have hgs := HSZ.out
      have X7 : SlB w7 0 w.heap.size (.slice A bs.length c) bs := ⟨A, c, rfl, h31, h32, h33, RdB.fr HR6.out F7 (fun k _ h1 h2 => by have h9 : k = gO := h2; omega)⟩
      have B7 := Bl.trans HB6.out (Bl.of_fr F7 HB6.out.size (fun k h => by have h9 : k = gO := h; omega))
      have hne1 : (Value.slice B1 bs.length c1).ownBlock ≠ some gO := OwnB.ne o7 bO7 (by decide)
      have hs67 : w6.heap.size ≤ w7.heap.size := F7.size
      clear HBM HOB HR6 HB6 HBO F7 cB fB h31 h32 h33 el4
      have cO0 := bO7.cell 0
      have cO1 := bO7.cell 1
      have cO2 := bO7.cell 2
      have cO3 := bO7.cell 3
      have cO4 := bO7.cell 4
      simp at cO0 cO1 cO2 cO3 cO4
      have CA := cut_calls _ _ st mid pp ls B1 c1 bs most inter w7 (SlB.of_own o7) (Nat.le_refl _) hmid
      unfold msg at CA
      have HCA := Lib.hid CA
      have H57 := Lib.hid (show w5.heap.size ≤ w7.heap.size by omega)
      clear CA
      go_wp2_with fail
      refine HCA.out.mono ?_
      rintro e w8 hR
      obtain ⟨B8, BA, ca, rfl, OA⟩ := cut_uni hR
      clear hR HCA
      have bO8 := Blk.fr bO7 (Fr.of_below (S := nothing) B8) id
      have bM8 := Blk.fr bM7 (Fr.of_below (S := nothing) B8) id
      have X8 := SlB.bl X7 B8 B7.size
      have o8 := OwnB.fr o7 (Fr.of_below (S := nothing) B8) (fun _ _ h => h)
      have B9 := Bl.trans B7 (Bl.low B8 B7.size)
      have hLT := fun k h => OwnB.lt o7 k h
      have hs78 := B8.size
      have hs7 := B7.size
      clear bO7 bM7 X7 o7 B7 B8 cO0 cO1 cO2 cO3 cO4
      have cM0 := bM8.cell 0
      have cM1 := bM8.cell 1
      have cM2 := bM8.cell 2
      have cM3 := bM8.cell 3
      have cM4 := bM8.cell 4
      simp at cM0 cM1 cM2 cM3 cM4
      have CA := rcut_calls _ _ st mid pp ls A c bs most inter w8 X8 B9.size hmid
      have HCA := Lib.hid CA
      clear CA
      go_wp2_with fail
      refine HCA.out.mono ?_
      rintro e w9 hR
      obtain ⟨B10, BB, cb, rfl, OB⟩ := cut_uni hR
      clear hR HCA X8
      have bO9 := Blk.fr bO8 (Fr.of_below (S := nothing) B10) id
      have o9 := OwnB.low (OwnB.fr o8 (Fr.of_below (S := nothing) B10) (fun _ _ h => h)) (Nat.le_refl _)
      have B11 := Bl.trans B9 (Bl.low B10 B9.size)
      have OA9 := OwnCk.fr OA (Fr.of_below (S := nothing) B10) (fun _ _ h => h)
      have hs89 := B10.size
      have HPL := Lib.hid (res_len st ls mid pp bs most inter)
      generalize res st ls mid pp bs most inter = ps at *
      generalize cutE most inter bs.length = E at *
      clear OA o8 bO8 bM8 B9 B10 cM0 cM1 cM2 cM3 cM4
      have cO0 := bO9.cell 0
      have cO1 := bO9.cell 1
      have cO2 := bO9.cell 2
      have cO3 := bO9.cell 3
      have cO4 := bO9.cell 4
      simp at cO0 cO1 cO2 cO3 cO4
      go_wp2_with fail
      go_loopw [55] (fun i wr => ∃ (j : Nat) (xs : List Int), j ≤ bs.length ∧ xs.length = bs.length ∧ i = .int .i64 j ∧ OwnB wr w5.heap.size 5 (.slice B1 bs.length c1) xs ∧ OwnCk wr w7.heap.size (.slice BA ps.length ca) ps ∧ OwnCk wr w8.heap.size (.slice BB ps.length cb) ps ∧ Blk wr gO 26 #[.int .u16 st, .bool ls, .int .u32 mid, .int .u32 pp, .slice B1 bs.length c1] ∧ Below w.heap.size w wr) (fun i _ => bs.length - (intOf i).toNat)
      case atStart => exact ⟨0, bs, Nat.zero_le _, rfl, rfl, o9, OA9, OB, bO9, B11⟩
      case round =>
        clear OA9 OB o9 bO9 B11 cO0 cO1 cO2 cO3 cO4
        obtain ⟨j, xs, hj, hxl, rfl, o9, OA9, OB, bO9, B11⟩ := hrel
        have cO0 := bO9.cell 0
        have cO1 := bO9.cell 1
        have cO2 := bO9.cell 2
        have cO3 := bO9.cell 3
        have cO4 := bO9.cell 4
        simp at cO0 cO1 cO2 cO3 cO4
        by_cases hlt : j < bs.length
        · have hjl : (j : Int) < bs.length := by omega
          have hjb : (j : Int) ≤ 70000 := by have := H7.out; omega
          obtain ⟨ad, rfl, ⟨x, hcx⟩, hfx, hbx, hown, hst⟩ := own_at o9 j hlt
          have hne2 : (ad.add j).block ≠ gO := fun h => hne1 (hown _ h)
          have hlt7 : (ad.add j).block < w7.heap.size := hLT _ (hown _ rfl)
          replace hown := Lib.hid hown
          replace hst := Lib.hid hst
          replace hxl := Lib.hid hxl
          go_upto_region 13 with fail
          obtain ⟨xs', o9'⟩ := hst.out (bits .xor .u8 x 255)
          have FX : Fr (OfV (.slice (some ad) bs.length c1)) wr (wr.setCell (ad.add j) (.int .u8 (bits .xor .u8 x 255))) := (Fr.refl _ _).setCell (.inl (hown.out _ rfl)) _
          generalize wr.setCell (ad.add j) (.int .u8 (bits .xor .u8 x 255)) = wn at *
          have hxl' : xs'.length = bs.length := by
            obtain ⟨A9, c9, e9, -, -⟩ := OwnB.slice o9'
            injection e9 with e91 e92 e93
            exact e92.symm
          have HR := Lib.hid (show OwnCk wn w7.heap.size (.slice BA ps.length ca) ps ∧ OwnCk wn w8.heap.size (.slice BB ps.length cb) ps ∧ Blk wn gO 26 #[.int .u16 st, .bool ls, .int .u32 mid, .int .u32 pp, .slice (some ad) bs.length c1] ∧ Below w.heap.size w wn from
            ⟨OwnCk.fr OA9 FX (fun k h1 h2 => by have := hLT k h2; omega), OwnCk.fr OB FX (fun k h1 h2 => by have := hLT k h2; omega), Blk.fr bO9 FX (fun h => hne1 h), Bl.trans B11 (Bl.of_fr FX B11.size (fun k h => by have := OwnB.ge o9 k h; omega))⟩)
          replace hxl' := Lib.hid hxl'
          replace o9' := Lib.hid o9'
          clear FX hst hown hcx hfx cO0 cO1 cO2 cO3 cO4 OA9 OB bO9 B11 o9
          go_wp2
          go_roundw
          case rel => exact ⟨j + 1, xs', by omega, hxl'.out, by go_num, o9'.out, HR.out⟩
          case measure => simp [intOf]; omega
        · have hjl : ¬ ((j : Nat) : Int) < bs.length := by omega
          clear hlt hj
          have HPB := HPL.out
          have hnn : ((ps.length : Int) != ps.length) = false := by simp
          go_wp2_with (first | (refine (rroom_calls inter _).mono ?_; rintro e wz ⟨rfl, rfl⟩) | (refine (room_calls inter _).mono ?_; rintro e wz ⟨rfl, rfl⟩))
          clear cO0 cO1 cO2 cO3 cO4
          go_loopw [85] (fun i wq => ∃ j : Nat, j ≤ ps.length ∧ i = .int .i64 j ∧ OwnCk wq w7.heap.size (.slice BA ps.length ca) ps ∧ OwnCk wq w8.heap.size (.slice BB ps.length cb) ps ∧ Below w.heap.size w wq) (fun i _ => ps.length - (intOf i).toNat)
          case atStart => exact ⟨0, Nat.zero_le _, rfl, OA9, OB, B11⟩
          case round =>
            clear OA9 OB B11
            obtain ⟨i, hi, rfl, OA9, OB, B11⟩ := hrel
            by_cases hlt : i < ps.length
            · have hjl : (i : Int) < ps.length := by omega
              have hj0 : (0 : Int) ≤ i := by omega
              obtain ⟨g1, s1, rfl, -, -, os1, hc1⟩ := FragCounts.OwnCk.cells OA9 i hlt
              obtain ⟨g2, s2, rfl, -, -, os2, hc2⟩ := FragCounts.OwnCk.cells OB i hlt
              have hs1w : w.heap.size ≤ wr.heap.size := B11.size
              obtain ⟨p, hp⟩ : ∃ p, ps[i] = p := ⟨_, rfl⟩
              rw [hp] at os1 hc1 os2 hc2
              clear hp
              obtain ⟨k, b, e, l, st1, mid1, pp1, fr, body⟩ := p
              obtain ⟨A1, k1, rfl, -, -⟩ := OwnB.slice os1
              obtain ⟨A2, k2, rfl, -, -⟩ := OwnB.slice os2
              replace hc1 : ∀ j v, ([.int .u8 k, .bool b, .bool e, .bool l, .bool false, .int .u32 0, .int .u16 st1, .int .u32 mid1, .int .u32 pp1, .int .u32 fr, .int .u32 0, .int .u32 0, .int .u16 0, .int .u16 0, .slice none 0 0, .slice none 0 0, .slice none 0 0, .slice none 0 0, .slice A1 body.length k1] : List Value)[j]? = some v → wr.cell? ((⟨g1, i * 19, none⟩ : Addr).add j) = some v := hc1
              replace hc2 : ∀ j v, ([.int .u8 k, .bool b, .bool e, .bool l, .bool false, .int .u32 0, .int .u16 st1, .int .u32 mid1, .int .u32 pp1, .int .u32 fr, .int .u32 0, .int .u32 0, .int .u16 0, .int .u16 0, .slice none 0 0, .slice none 0 0, .slice none 0 0, .slice none 0 0, .slice A2 body.length k2] : List Value)[j]? = some v → wr.cell? ((⟨g2, i * 19, none⟩ : Addr).add j) = some v := hc2
              have SX1 : SlB wr w7.heap.size wr.heap.size (.slice A1 body.length k1) body := SlB.of_own os1
              have SX2 : SlB wr w8.heap.size wr.heap.size (.slice A2 body.length k2) body := SlB.of_own os2
              have HC1 := Lib.hid hc1
              have HC2 := Lib.hid hc2
              have HSX1 := Lib.hid SX1
              have HSX2 := Lib.hid SX2
              have HOA := Lib.hid OA9
              have HOB := Lib.hid OB
              clear hc1 hc2 SX1 SX2 OA9 OB os1 os2
              have hup2 := Try.underlying42
              go_upto_region 19 with fail
              refine wp_region_still_tail 8 (by kernel_rfl) (by kernel_rfl) ?_
              simp only [List.take_succ_cons, List.take_zero, List.drop_succ_cons, List.drop_zero]
              still_step
              still_step
              still_step
              refine wpStill_step (fun K hK => ?_)
              rw [if_pos (show Region.wanted _ _ = true from rfl)]
              refine still_load_at rfl rfl (cs := [.int .u8 k, .bool b, .bool e, .bool l, .bool false, .int .u32 0, .int .u16 st1, .int .u32 mid1, .int .u32 pp1, .int .u32 fr, .int .u32 0, .int .u32 0, .int .u16 0, .int .u16 0, .slice none 0 0, .slice none 0 0, .slice none 0 0, .slice none 0 0, .slice A1 body.length k1]) HC1.out hup2 (by kernel_rfl) ?_
              refine hK _ ?_
              clear hK K
              still_step
              still_step
              still_step
              refine wpStill_step (fun K hK => ?_)
              rw [if_pos (show Region.wanted _ _ = true from rfl)]
              refine still_load_at rfl rfl (cs := [.int .u8 k, .bool b, .bool e, .bool l, .bool false, .int .u32 0, .int .u16 st1, .int .u32 mid1, .int .u32 pp1, .int .u32 fr, .int .u32 0, .int .u32 0, .int .u16 0, .int .u16 0, .slice none 0 0, .slice none 0 0, .slice none 0 0, .slice none 0 0, .slice A2 body.length k2]) HC2.out hup2 (by kernel_rfl) ?_
              refine hK _ ?_
              clear hK K
              refine wpStill_nil ?_
              change wpList _ _ _ _ _ wr.drew
              have FD : Fr nothing wr wr.drew := (Fr.refl _ wr).drew
              have HOA2 := Lib.hid (OwnCk.fr HOA.out FD (fun _ _ h => h))
              have HOB2 := Lib.hid (OwnCk.fr HOB.out FD (fun _ _ h => h))
              have S1 := SlB.fr HSX1.out FD (fun _ _ _ h => h)
              have S2 := SlB.fr HSX2.out FD (fun _ _ _ h => h)
              have BD := Bl.trans B11 (Bl.of_fr FD B11.size (fun k h => False.elim h))
              have hsz : wr.heap.size = wr.drew.heap.size := rfl
              rw [hsz] at S1 S2
              clear HOA HOB HSX1 HSX2 HC1 HC2 B11 FD hsz
              generalize wr.drew = wd at *
              have HC := Lib.hid (same_alike k st1 mid1 pp1 fr b e l A1 A2 k1 k2 body wd _ _ S1 S2)
              have HBD := Lib.hid BD
              clear S1 S2 BD
              go_wp2_with fail
              refine HC.out.mono ?_
              rintro e wk ⟨rfl, Bk⟩
              have HOA3 := Lib.hid (OwnCk.fr HOA2.out (Fr.of_below (S := nothing) Bk) (fun _ _ h => h))
              have HOB3 := Lib.hid (OwnCk.fr HOB2.out (Fr.of_below (S := nothing) Bk) (fun _ _ h => h))
              have HB3 := Lib.hid (Bl.trans HBD.out (Bl.low Bk HBD.out.size))
              clear HC HOA2 HOB2 HBD Bk
              go_wp2
              go_roundw
              case rel => exact ⟨i + 1, by omega, by go_num, HOA3.out, HOB3.out, HB3.out⟩
              case measure => simp [intOf]; omega
            · have hjl : ¬ ((i : Nat) : Int) < ps.length := by omega
              clear hlt hi OA9 OB
              go_wp2
              go_ret
              exact ⟨rfl, B11⟩
end Go.Proofs.Ytnhkmapeleomkaa.FragCuts
