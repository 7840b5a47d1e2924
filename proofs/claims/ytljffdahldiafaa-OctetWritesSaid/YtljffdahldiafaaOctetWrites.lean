/- The walk of flumelaw04.OctetWrites: true for every script. No conditions but the row's own. -/
import Derived.Test.YtljffdahldiafaaOctetBoth
import Derived.Test.YtljffdahldiafaaOctetArgs
import Derived.Deep.RegionHeldLaw
namespace Go.Proofs.Ytljffdahldiafaa.OctetWrites
open Go.RowKit Go.Proofs.Ytljffdahldiafaa.Mem Go.Proofs.Ytljffdahldiafaa.Octet Go.Proofs.Ytljffdahldiafaa.OctetBad
set_option linter.unusedVariables false
set_option linter.unusedSimpArgs false

theorem padTo_le (k : Nat) (n : Int) (h : n ≤ 1000) : padTo k n ≤ 1000 := by
  unfold padTo
  split
  · omega
  · have := Nat.mod_lt (n.toNat - k % n.toNat) (show 0 < n.toNat by omega)
    omega
theorem tk_all (xs : List Int) : tk xs xs.length = xs := by
  unfold tk
  rw [if_neg (by omega)]
  simp
set_option maxHeartbeats 2000000 in
set_option maxRecDepth 100000 in
theorem walk (a : Option Addr) (cap len : Nat) (w : World) (see : Sees Try.prog w 33 [.slice a len cap]) :
    Calls Try.prog 6 #[.slice a len cap] w fun e w' => e = .returned (.bool true) ∧ Below w.heap.size w w' := by
  obtain ⟨os, rfl, hr, hcap, hm⟩ := reads_ops see
  clear see
  go_enter Try.func6, Try.ntmps6
  go_wp2_with fail
  refine (first_calls w).mono ?_
  rintro e w0 ⟨rfl, B0⟩
  have T0 := Two.start w0
  have B1 := B0.alloc B0.size (.cells #[.slice none 0 0] 26)
  have hs0 := B0.size
  clear B0
  go_wp2_with fail
  go_loopw [4, 18] (fun x i wr => ∃ (k : Nat) (xs : List Int), k ≤ os.length ∧ i = .int .i64 k ∧ Two nothing wr w0.heap.size w0.heap.size xs x xs ∧ k ≤ 60 ∧ xs.length ≤ 2000 * k ∧ Below w.heap.size w wr) (fun _ i _ => os.length - (intOf i).toNat)
  case atStart => exact ⟨0, [], Nat.zero_le _, rfl, T0, Nat.zero_le _, Nat.zero_le _, B1⟩
  case round =>
    clear T0 B1
    obtain ⟨k, xs, hk, rfl, T, hk60, hxl, B⟩ := hrel
    obtain ⟨A, cp, rfl⟩ := T.shape
    have hlx : xs.length ≤ 140737488355328 := by omega
    by_cases hlt : k < os.length
    · obtain ⟨ad, rfl, ho⟩ := hr.at_ B k hlt
      generalize os[k] = o at ho
      obtain ⟨ki, nn, vv, oA, oc, ob⟩ := o
      obtain ⟨a0, a1, a2, a3, sl, isb, v0, v1, n0, n1⟩ := ho
      simp only at a0 a1 a2 a3 sl isb v0 v1 n0 n1
      have hwr := B.size
      have bA := Blk.new wr #[.int .i64 ki, .int .i64 nn, .int .u32 vv, .slice oA ob.length oc] 41
      have TA : Two (only wr.heap.size) (wr.alloc (.cells #[.int .i64 ki, .int .i64 nn, .int .u32 vv, .slice oA ob.length oc] 41)) w0.heap.size w0.heap.size xs (.slice A xs.length cp) xs :=
        T.held ((Below.refl _ _).alloc (Nat.le_refl _) _) (fun k hk => .inr (by have e : k = wr.heap.size := hk; omega)) (fun k hk => by have e : k = wr.heap.size := hk; simp; omega)
      have BA := B.alloc B.size (.cells #[.int .i64 ki, .int .i64 nn, .int .u32 vv, .slice oA ob.length oc] 41)
      have slA : SlB (wr.alloc (.cells #[.int .i64 ki, .int .i64 nn, .int .u32 vv, .slice oA ob.length oc] 41)) 0 w.heap.size (.slice oA ob.length oc) ob := SlB.fr sl (S := nothing) ((Fr.refl _ wr).alloc _) (fun _ _ _ h => h)
      have z0 := bA.cell 0
      have z1 := bA.cell 1
      have z2 := bA.cell 2
      have z3 := bA.cell 3
      simp at z0 z1 z2 z3
      by_cases h60 : 60 ≤ k
      · have h60' : (60 : Int) ≤ k := by omega
        clear z0 z1 z2 z3
        have z0 := bA.cell 0
        have z1 := bA.cell 1
        have z2 := bA.cell 2
        have z3 := bA.cell 3
        simp at z0 z1 z2 z3
        go_wp2_with fail
        replace T := TA.free
        replace B := BA
        have SX0 := Two.str (Two.drew T)
        go_region_held_law (fun wq => (convert 22 9 (.slice A xs.length cp)).run Try.prog wq = .ok (.string (bstr xs)) wq) (first | exact SX0 | exact SX1 | exact SX2 | exact SX3) (first
          | (go_at_call 18; refine (taken_calls gg _ _ _ _ _ _ R2).mono ?_; rintro e w3 ⟨A3, n3, c3, rfl, -, ST, -, -, f3⟩; rw [tk_all] at ST; have T3 := T2.read R2 f3; have SX3 := T3.str; have B3 := Bl.trans B2 (Bl.of_fr f3 B2.size (fun k hk => by have e : k = gg := hk; omega)))
          | (go_at_call 13; refine (new_calls _ _ _ _ w1 (SlB.of_own o1) hlx).mono ?_; rintro e w2 ⟨gg, mm, rfl, hg1, hg2, R2, Bq⟩; have T2 := T1.bl Bq (Nat.le_refl _); have SX2 := T2.str; have B2 := Bl.trans B1 (Bl.low Bq B1.size); have hs1 := B1.size)
          | (go_at_call 12; refine (outn_calls _ _ _ _ (Two.drew T).wtr hlx).mono ?_; rintro e w1 ⟨A1, n1, c1, rfl, rfl, -, o1, -, Bo⟩; have T1 := (Two.drew T).bl Bo (Nat.le_refl _); have SX1 := T1.str; have B1 := Bl.trans B.drew (Bl.low Bo B.size)))
        all_goals first
          | (rename_i hK hH; refine hK _ _ ?_; clear hK hH; first | (go_wp2; go_ret; exact ⟨rfl, B3⟩) | (go_wp2; trace_state; sorry))
          | (trace_state; sorry)
      · have h60' : ¬ (60 : Int) ≤ k := by omega
        by_cases h1000 : 1000 < ob.length
        · have h1000' : (1000 : Int) < ob.length := by omega
          clear z0 z1 z2 z3
          have z0 := bA.cell 0
          have z1 := bA.cell 1
          have z2 := bA.cell 2
          have z3 := bA.cell 3
          simp at z0 z1 z2 z3
          go_wp2_with fail
          replace T := TA.free
          replace B := BA
          have SX0 := Two.str (Two.drew T)
          go_region_held_law (fun wq => (convert 22 9 (.slice A xs.length cp)).run Try.prog wq = .ok (.string (bstr xs)) wq) (first | exact SX0 | exact SX1 | exact SX2 | exact SX3) (first
            | (go_at_call 18; refine (taken_calls gg _ _ _ _ _ _ R2).mono ?_; rintro e w3 ⟨A3, n3, c3, rfl, -, ST, -, -, f3⟩; rw [tk_all] at ST; have T3 := T2.read R2 f3; have SX3 := T3.str; have B3 := Bl.trans B2 (Bl.of_fr f3 B2.size (fun k hk => by have e : k = gg := hk; omega)))
            | (go_at_call 13; refine (new_calls _ _ _ _ w1 (SlB.of_own o1) hlx).mono ?_; rintro e w2 ⟨gg, mm, rfl, hg1, hg2, R2, Bq⟩; have T2 := T1.bl Bq (Nat.le_refl _); have SX2 := T2.str; have B2 := Bl.trans B1 (Bl.low Bq B1.size); have hs1 := B1.size)
            | (go_at_call 12; refine (outn_calls _ _ _ _ (Two.drew T).wtr hlx).mono ?_; rintro e w1 ⟨A1, n1, c1, rfl, rfl, -, o1, -, Bo⟩; have T1 := (Two.drew T).bl Bo (Nat.le_refl _); have SX1 := T1.str; have B1 := Bl.trans B.drew (Bl.low Bo B.size)))
          all_goals first
            | (rename_i hK hH; refine hK _ _ ?_; clear hK hH; first | (go_wp2; go_ret; exact ⟨rfl, B3⟩) | (go_wp2; trace_state; sorry))
            | (trace_state; sorry)
        · have h1000' : ¬ (1000 : Int) < ob.length := by omega
          clear T B sl hr
          go_upto_block 2 with fail
          clear a0 a1 a2 a3
          go_cut [4] (fun x wc => ∃ ys : List Int, Two (only wr.heap.size) wc w0.heap.size w0.heap.size ys x ys ∧ ys.length ≤ xs.length + 2000 ∧ Below w.heap.size w wc)
          case first =>
            obtain ⟨i0, hi0, hz0, hz1, hz2⟩ := info_parts info_b
            generalize hwA : wr.alloc (.cells #[.int .i64 ki, .int .i64 nn, .int .u32 vv, .slice oA ob.length oc] 41) = wA at TA BA bA slA ⊢
            rcases Bool.eq_false_or_eq_true ((IntKind.u64.wrap ki).tmod 5 == 0) with h0 | h0
            ·
              have z0 := bA.cell 0
              have z1 := bA.cell 1
              have z2 := bA.cell 2
              have z3 := bA.cell 3
              simp at z0 z1 z2 z3
              go_wp2_with fail
              refine (u8t_calls (vv % 256) TA (by omega)).mono ?_
              rintro e w1 ⟨rfl, T1, f1⟩
              have b1 := bA.fr f1 (fun h => h.2 rfl)
              have B1 := Bl.trans BA (Bl.of_fr f1 BA.size (fun k hk => by have := hk.1; omega))
              clear TA bA BA z0 z1 z2 z3 f1
              have z0 := b1.cell 0
              have z1 := b1.cell 1
              have z2 := b1.cell 2
              have z3 := b1.cell 3
              simp at z0 z1 z2 z3
              go_wp2_with fail
              refine (rtext_calls vv 1 w1 v0 v1 (by decide)).mono ?_
              rintro e w2 ⟨A2, k2, c2, rfl, rfl, o2, Bt⟩
              have T2 := T1.bl Bt (Nat.le_refl _)
              have B2 := Bl.trans B1 (Bl.low Bt B1.size)
              clear T1 b1 B1 z0 z1 z2 z3 Bt
              obtain ⟨A3, c3, e3, h31, h32, h33, rd2⟩ := SlB.of_own o2
              injection e3 with e3 el4 e4
              subst e3; subst e4
              clear h31 h32 h33 o2 el4
              have oX := OwnB.low T2.own (Nat.zero_le _)
              have hbig : xs.length + (txt vv 1).length ≤ 140737488355328 := by rw [txt_len]; omega
              go_wp2_with (at_builtin; refine wpList_append_b _ rfl (.tmp 54) (.tmp 58) _ rfl 0 5 i0 Try.underlying22 hi0 hz0 hz1 hz2 _ xs rfl oX _ _ _ _ _ (txt vv 1) rfl (by rw [txt_len]) rd2 hbig (Nat.zero_le _) ?_; intro v' w' hown hg hat; obtain ⟨T3, f3⟩ := T2.app (AppP.of_grown hown hg hat); clear hown hg hat; have B3 := Bl.trans B2 (Bl.of_fr f3 B2.size (fun k hk => by have := hk.1; omega)))
              go_meet
              case rel =>
                refine ⟨xs ++ txt vv 1, ?_, by rw [List.length_append, txt_len]; omega, B3⟩
                have e5 : [vv % 256] = txt vv 1 := by simp [txt, List.range, List.range.loop, IntKind.wrap, IntKind.bits, IntKind.signed] <;> omega
                rw [e5] at T3
                exact T3
            · rcases Bool.eq_false_or_eq_true ((IntKind.u64.wrap ki).tmod 5 == 1) with h1 | h1
              ·
                have z0 := bA.cell 0
                have z1 := bA.cell 1
                have z2 := bA.cell 2
                have z3 := bA.cell 3
                simp at z0 z1 z2 z3
                go_wp2_with fail
                refine (u16t_calls (IntKind.u16.wrap vv) TA (by omega)).mono ?_
                rintro e w1 ⟨rfl, T1, f1⟩
                have b1 := bA.fr f1 (fun h => h.2 rfl)
                have B1 := Bl.trans BA (Bl.of_fr f1 BA.size (fun k hk => by have := hk.1; omega))
                clear TA bA BA z0 z1 z2 z3 f1
                have z0 := b1.cell 0
                have z1 := b1.cell 1
                have z2 := b1.cell 2
                have z3 := b1.cell 3
                simp at z0 z1 z2 z3
                go_wp2_with fail
                refine (rtext_calls vv 2 w1 v0 v1 (by decide)).mono ?_
                rintro e w2 ⟨A2, k2, c2, rfl, rfl, o2, Bt⟩
                have T2 := T1.bl Bt (Nat.le_refl _)
                have B2 := Bl.trans B1 (Bl.low Bt B1.size)
                clear T1 b1 B1 z0 z1 z2 z3 Bt
                obtain ⟨A3, c3, e3, h31, h32, h33, rd2⟩ := SlB.of_own o2
                injection e3 with e3 el4 e4
                subst e3; subst e4
                clear h31 h32 h33 o2 el4
                have oX := OwnB.low T2.own (Nat.zero_le _)
                have hbig : xs.length + (txt vv 2).length ≤ 140737488355328 := by rw [txt_len]; omega
                go_wp2_with (at_builtin; refine wpList_append_b _ rfl (.tmp 67) (.tmp 71) _ rfl 0 5 i0 Try.underlying22 hi0 hz0 hz1 hz2 _ xs rfl oX _ _ _ _ _ (txt vv 2) rfl (by rw [txt_len]) rd2 hbig (Nat.zero_le _) ?_; intro v' w' hown hg hat; obtain ⟨T3, f3⟩ := T2.app (AppP.of_grown hown hg hat); clear hown hg hat; have B3 := Bl.trans B2 (Bl.of_fr f3 B2.size (fun k hk => by have := hk.1; omega)))
                go_meet
                case rel =>
                  refine ⟨xs ++ txt vv 2, ?_, by rw [List.length_append, txt_len]; omega, B3⟩
                  have e5 : [IntKind.u16.wrap vv / 256 % 256, IntKind.u16.wrap vv % 256] = txt vv 2 := by simp [txt, List.range, List.range.loop, IntKind.wrap, IntKind.bits, IntKind.signed] <;> omega
                  rw [e5] at T3
                  exact T3
              · rcases Bool.eq_false_or_eq_true ((IntKind.u64.wrap ki).tmod 5 == 2) with h2 | h2
                ·
                  have z0 := bA.cell 0
                  have z1 := bA.cell 1
                  have z2 := bA.cell 2
                  have z3 := bA.cell 3
                  simp at z0 z1 z2 z3
                  go_wp2_with fail
                  refine (u32t_calls vv TA (by omega)).mono ?_
                  rintro e w1 ⟨rfl, T1, f1⟩
                  have b1 := bA.fr f1 (fun h => h.2 rfl)
                  have B1 := Bl.trans BA (Bl.of_fr f1 BA.size (fun k hk => by have := hk.1; omega))
                  clear TA bA BA z0 z1 z2 z3 f1
                  have z0 := b1.cell 0
                  have z1 := b1.cell 1
                  have z2 := b1.cell 2
                  have z3 := b1.cell 3
                  simp at z0 z1 z2 z3
                  go_wp2_with fail
                  refine (rtext_calls vv 4 w1 v0 v1 (by decide)).mono ?_
                  rintro e w2 ⟨A2, k2, c2, rfl, rfl, o2, Bt⟩
                  have T2 := T1.bl Bt (Nat.le_refl _)
                  have B2 := Bl.trans B1 (Bl.low Bt B1.size)
                  clear T1 b1 B1 z0 z1 z2 z3 Bt
                  obtain ⟨A3, c3, e3, h31, h32, h33, rd2⟩ := SlB.of_own o2
                  injection e3 with e3 el4 e4
                  subst e3; subst e4
                  clear h31 h32 h33 o2 el4
                  have oX := OwnB.low T2.own (Nat.zero_le _)
                  have hbig : xs.length + (txt vv 4).length ≤ 140737488355328 := by rw [txt_len]; omega
                  go_wp2_with (at_builtin; refine wpList_append_b _ rfl (.tmp 79) (.tmp 83) _ rfl 0 5 i0 Try.underlying22 hi0 hz0 hz1 hz2 _ xs rfl oX _ _ _ _ _ (txt vv 4) rfl (by rw [txt_len]) rd2 hbig (Nat.zero_le _) ?_; intro v' w' hown hg hat; obtain ⟨T3, f3⟩ := T2.app (AppP.of_grown hown hg hat); clear hown hg hat; have B3 := Bl.trans B2 (Bl.of_fr f3 B2.size (fun k hk => by have := hk.1; omega)))
                  go_meet
                  case rel =>
                    refine ⟨xs ++ txt vv 4, ?_, by rw [List.length_append, txt_len]; omega, B3⟩
                    have e5 : [vv / 16777216 % 256, vv / 65536 % 256, vv / 256 % 256, vv % 256] = txt vv 4 := by simp [txt, List.range, List.range.loop, IntKind.wrap, IntKind.bits, IntKind.signed] <;> omega
                    rw [e5] at T3
                    exact T3
                · rcases Bool.eq_false_or_eq_true ((IntKind.u64.wrap ki).tmod 5 == 3) with h3 | h3
                  ·
                    have z0 := bA.cell 0
                    have z1 := bA.cell 1
                    have z2 := bA.cell 2
                    have z3 := bA.cell 3
                    simp at z0 z1 z2 z3
                    have own0 : (wA.alloc (.cells #[] 5)).ownsRow wA.heap.size 5 1 (.slice (some ⟨wA.heap.size, 0, none⟩) 0 0) ([] : List Int).length (byts []) :=
                      ⟨rfl, .inr ⟨wA.heap.size, 0, #[], rfl, Nat.le_refl _, heap_alloc_new wA _, Nat.le_refl _, Nat.zero_le _, rfl, rfl⟩⟩
                    have hA := bA.lt
                    obtain ⟨A3, c3, e3, h31, h32, h33, rd2⟩ := SlB.fr slA (S := nothing) ((Fr.refl _ wA).alloc (.cells #[] 5)) (fun _ _ _ h => h)
                    injection e3 with e3 el4 e4
                    subst e3; subst e4
                    clear h31 h32 h33 el4
                    have hbig : ([] : List Int).length + ob.length ≤ 140737488355328 := by simp; omega
                    go_wp2_with (at_builtin; refine wpList_append_b _ rfl (.tmp 87) (.tmp 89) _ rfl wA.heap.size 5 i0 Try.underlying22 hi0 hz0 hz1 hz2 _ [] rfl own0 _ _ _ _ _ ob rfl rfl rd2 hbig (by simp) ?_; intro v' w' hown hg hat; clear own0 rd2; have oB : OwnB w' wA.heap.size 5 v' ob := hown; have BB : Below wA.heap.size wA w' := ((Below.refl _ _).alloc (Nat.le_refl _) _).grown hg (by simp) (fun k hk => by have hk' : some wA.heap.size = some k := hk; injection hk' with hk'; omega); clear hown hg hat)
                    obtain ⟨Ab, cb, rfl, -, -⟩ := OwnB.slice oB
                    have TB : Two (fun k => k = wr.heap.size ∨ OfV (.slice Ab ob.length cb) k) w' w0.heap.size w0.heap.size xs (.slice A xs.length cp) xs := by
                      refine TA.held BB (fun k hk => ?_) (fun k hk => ?_)
                      · rcases hk with hk | hk
                        · exact .inl hk
                        · exact .inr (OwnB.ge oB k hk)
                      · rcases hk with hk | hk
                        · have := BB.size; omega
                        · exact OwnB.lt oB k hk
                    have slB := SlB.fr slA (Fr.of_below (S := nothing) BB) (fun _ _ _ h => h)
                    have bB := bA.fr (Fr.of_below (S := nothing) BB) (fun h => h)
                    have B0 := Bl.trans BA (Bl.low BB BA.size)
                    clear TA slA bA BA z0 z1 z2 z3 BB
                    refine (putt_calls _ _ _ TB (SlB.of_own oB) (by omega)).mono ?_
                    rintro e w1 ⟨rfl, T1, f1⟩
                    have b1 := bB.fr f1 (fun h => h.2 (.inl rfl))
                    have o1 := OwnB.fr oB f1 (fun k hk h => h.2 (.inr hk))
                    have B1 := Bl.trans B0 (Bl.of_fr f1 B0.size (fun k hk => by have := hk.1; omega))
                    have sl1 := SlB.fr slB f1 (fun k _ h2 h => by have := h.1; omega)
                    clear TB slB bB B0 oB f1
                    go_wp2_with fail
                    go_loopw [96] (fun i wi => ∃ (j : Nat) (bs' : List Int), j ≤ ob.length ∧ i = .int .i64 j ∧ OwnB wi wA.heap.size 5 (.slice Ab ob.length cb) bs' ∧ Fr (OfV (.slice Ab ob.length cb)) w1 wi) (fun i _ => ob.length - (intOf i).toNat)
                    case atStart => exact ⟨0, _, Nat.zero_le _, rfl, o1, Fr.refl _ _⟩
                    case round =>
                      obtain ⟨j, bs', hj, rfl, oi, fi⟩ := hrel
                      by_cases hjl : j < ob.length
                      · obtain ⟨ai, rfl, ⟨x, hcx⟩, hfx, hbx, hob, hst⟩ := own_at oi j hjl
                        clear oi T1 b1 o1 B1 sl1
                        go_wp2
                        go_roundw
                        case rel =>
                          obtain ⟨bs2, o2⟩ := hst (bits .xor .u8 x 255)
                          exact ⟨j + 1, bs2, by omega, by go_num, o2, fi.setCell (.inl (hob _ rfl)) _⟩
                        case measure => simp [intOf]; omega
                      · have T2 := T1.fr fi (fun k _ h => .inr h)
                        have b2 := b1.fr fi (fun h => by have := OwnB.ge oi _ h; omega)
                        have B2 := Bl.trans B1 (Bl.of_fr fi B1.size (fun k hk => by have := OwnB.ge oi k hk; omega))
                        have sl2 := SlB.fr sl1 fi (fun k _ h2 h => by have := OwnB.ge oi k h; omega)
                        clear T1 b1 o1 B1 sl1 oi fi
                        have z0 := b2.cell 0
                        have z1 := b2.cell 1
                        have z2 := b2.cell 2
                        have z3 := b2.cell 3
                        simp at z0 z1 z2 z3
                        obtain ⟨A3, c3, e3, h31, h32, h33, rd3⟩ := sl2
                        injection e3 with e3 el4 e4
                        subst e3; subst e4
                        clear h31 h32 h33 el4
                        have hbig2 : xs.length + ob.length ≤ 140737488355328 := by omega
                        have oX := OwnB.low T2.own (Nat.zero_le _)
                        go_wp2_with (at_builtin; refine wpList_append_b _ rfl (.tmp 106) (.tmp 108) _ rfl 0 5 i0 Try.underlying22 hi0 hz0 hz1 hz2 _ xs rfl oX _ _ _ _ _ ob rfl rfl rd3 hbig2 (Nat.zero_le _) ?_; intro v' w' hown hg hat; obtain ⟨T3, f3⟩ := T2.app (AppP.of_grown hown hg hat); clear hown hg hat; have B3 := Bl.trans B2 (Bl.of_fr f3 B2.size (fun k hk => by have := hk.1; omega)))
                        go_meet
                        case rel => exact ⟨xs ++ ob, T3.held (Below.refl _ _) (fun k hk => .inl (.inl hk)) (fun k hk => T3.1 k (.inl hk)), by rw [List.length_append]; omega, B3⟩
                  ·
                    have z0 := bA.cell 0
                    have z1 := bA.cell 1
                    have z2 := bA.cell 2
                    have z3 := bA.cell 3
                    simp at z0 z1 z2 z3
                    rcases (show nn ≤ 64 ∨ 64 < nn by omega) with hn | hn
                    · have hn' : ¬ 64 < nn := by omega
                      go_wp2_with fail
                      refine (padt_calls (nn) TA (by omega) (by omega)).mono ?_
                      rintro e w1 ⟨rfl, T1, f1⟩
                      have B1 := Bl.trans BA (Bl.of_fr f1 BA.size (fun k hk => by have := hk.1; omega))
                      clear TA bA BA z0 z1 z2 z3 f1
                      go_wp2_with fail
                      refine (rpad_calls _ xs (nn) w1 (OwnB.low T1.own (Nat.zero_le _)) (by omega) (by omega)).mono ?_
                      rintro e w2 ⟨A2, k2, c2, rfl, rfl, hap⟩
                      obtain ⟨T2, f2⟩ := T1.app hap
                      have B2 := Bl.trans B1 (Bl.of_fr f2 B1.size (fun k hk => by have := hk.1; omega))
                      have hpl := padTo_le xs.length (nn) (by omega)
                      clear hap
                      simp only [List.length_append, List.length_replicate] at T2
                      go_wp2
                      go_meet
                      case rel => exact ⟨xs ++ List.replicate (padTo xs.length (nn)) 0, T2, by rw [List.length_append, List.length_replicate]; omega, B2⟩
                    · have hn0 : (0 : Int) ≤ nn := by omega
                      have hm1 := Int.emod_lt_of_pos nn (show (0 : Int) < 64 by decide)
                      have hm0 := Int.emod_nonneg nn (show (64 : Int) ≠ 0 by decide)
                      have ht : nn.tmod 64 = nn % 64 := Int.tmod_eq_emod_of_nonneg hn0
                      go_wp2_with fail
                      refine (padt_calls (nn % 64) TA (by omega) (by omega)).mono ?_
                      rintro e w1 ⟨rfl, T1, f1⟩
                      have B1 := Bl.trans BA (Bl.of_fr f1 BA.size (fun k hk => by have := hk.1; omega))
                      clear TA bA BA z0 z1 z2 z3 f1
                      go_wp2_with fail
                      refine (rpad_calls _ xs (nn % 64) w1 (OwnB.low T1.own (Nat.zero_le _)) (by omega) (by omega)).mono ?_
                      rintro e w2 ⟨A2, k2, c2, rfl, rfl, hap⟩
                      obtain ⟨T2, f2⟩ := T1.app hap
                      have B2 := Bl.trans B1 (Bl.of_fr f2 B1.size (fun k hk => by have := hk.1; omega))
                      have hpl := padTo_le xs.length (nn % 64) (by omega)
                      clear hap
                      simp only [List.length_append, List.length_replicate] at T2
                      go_wp2
                      go_meet
                      case rel => exact ⟨xs ++ List.replicate (padTo xs.length (nn % 64)) 0, T2, by rw [List.length_append, List.length_replicate]; omega, B2⟩
          case rest =>
            obtain ⟨ys, T, hyl, B⟩ := hcut
            obtain ⟨A', cp', rfl⟩ := T.shape
            clear TA BA bA slA z0 z1 z2 z3
            replace T := T.free
            have hly : ys.length ≤ 140737488355328 := by omega
            go_wp2_with fail
            refine (outn_calls _ _ _ _ T.wtr hly).mono ?_
            rintro e w1 ⟨A1, n1, c1, rfl, rfl, SO, o1, -, Bo⟩
            have T1 := T.bl Bo (Nat.le_refl _)
            have SX := T1.str
            have B1 := Bl.trans B (Bl.low Bo B.size)
            go_wp2_with fail
            refine (lenn_calls _ _ _ _ T1.wtr).mono ?_
            rintro e w' ⟨rfl, rfl⟩
            clear SO
            have SO := slb_str (SlB.of_own o1)
            go_wp2_with fail
            go_loopw [126] (fun i wi => ∃ (j : Nat) (bs' : List Int), j ≤ ys.length ∧ i = .int .i64 j ∧ OwnB wi wc.heap.size 5 (.slice A1 ys.length c1) bs' ∧ Below wc.heap.size wc wi) (fun i _ => ys.length - (intOf i).toNat)
            case atStart => exact ⟨0, _, Nat.zero_le _, rfl, o1, Bo⟩
            case round =>
              clear o1 Bo T1 SX B1 SO
              obtain ⟨j, bs', hj, rfl, oi, Bi⟩ := hrel
              by_cases hjl : j < ys.length
              · obtain ⟨ai, rfl, ⟨x, hcx⟩, hfx, hbx, -, hst⟩ := own_at oi j hjl
                clear oi
                go_wp2
                go_roundw
                case rel =>
                  obtain ⟨bs2, o2⟩ := hst (bits .xor .u8 x 255)
                  exact ⟨j + 1, bs2, by omega, by go_num, o2, Bi.setCell hbx _⟩
                case measure => simp [intOf]; omega
              · have T2 := T.bl Bi (Nat.le_refl _)
                have B2 := Bl.trans B (Bl.low Bi B.size)
                go_wp2
                go_roundw
                case rel => exact ⟨k + 1, ys, by omega, by go_num, T2, by omega, by omega, B2⟩
                case measure => simp [intOf]; omega
    · go_wp2_with fail
      have SX0 := Two.str (Two.drew T)
      go_region_held_law (fun wq => (convert 22 9 (.slice A xs.length cp)).run Try.prog wq = .ok (.string (bstr xs)) wq) (first | exact SX0 | exact SX1 | exact SX2 | exact SX3) (first
        | (go_at_call 18; refine (taken_calls gg _ _ _ _ _ _ R2).mono ?_; rintro e w3 ⟨A3, n3, c3, rfl, -, ST, -, -, f3⟩; rw [tk_all] at ST; have T3 := T2.read R2 f3; have SX3 := T3.str; have B3 := Bl.trans B2 (Bl.of_fr f3 B2.size (fun k hk => by have e : k = gg := hk; omega)))
        | (go_at_call 13; refine (new_calls _ _ _ _ w1 (SlB.of_own o1) hlx).mono ?_; rintro e w2 ⟨gg, mm, rfl, hg1, hg2, R2, Bq⟩; have T2 := T1.bl Bq (Nat.le_refl _); have SX2 := T2.str; have B2 := Bl.trans B1 (Bl.low Bq B1.size); have hs1 := B1.size)
        | (go_at_call 12; refine (outn_calls _ _ _ _ (Two.drew T).wtr hlx).mono ?_; rintro e w1 ⟨A1, n1, c1, rfl, rfl, -, o1, -, Bo⟩; have T1 := (Two.drew T).bl Bo (Nat.le_refl _); have SX1 := T1.str; have B1 := Bl.trans B.drew (Bl.low Bo B.size)))
      all_goals first
        | (rename_i hK hH; refine hK _ _ ?_; clear hK hH; first | (go_wp2; go_ret; exact ⟨rfl, B3⟩) | (go_wp2; trace_state; sorry))
        | (trace_state; sorry)
end Go.Proofs.Ytljffdahldiafaa.OctetWrites
