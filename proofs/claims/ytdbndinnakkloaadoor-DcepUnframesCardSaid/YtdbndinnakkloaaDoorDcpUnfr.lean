/- What dcep.Unframe and flumeref20.Unframe answer for any number and bytes. Conditions: utf8's tables read as laid. -/
import Derived.Test.YtdbndinnakkloaaDoorDcpFrame
namespace Go.Proofs.YtdbndinnakkloaaDoor.Dcp
open Go Go.RowKit Go.Lib Go.Shelf Go.Proofs Go.Proofs.YtdbndinnakkloaaDoor.Mem Go.Proofs.YtdbndinnakkloaaDoor.Octet
set_option linter.unusedVariables false
set_option linter.unusedSimpArgs false
/-- A message's error, kind and bytes. -/
def unE (p : Int) (bs : List Int) : Int := if p = 56 ∨ p = 57 then (if bs = [0] then 0 else 42) else if p = 51 ∨ p = 53 then (if bs = [] then 42 else if p = 51 ∧ vl bs = false then 200 else 0) else 60
def unK (p : Int) (bs : List Int) : Int := if unE p bs = 0 then (if p = 53 ∨ p = 57 then 1 else 0) else 0
def unB (p : Int) (bs : List Int) : List Int := if unE p bs = 0 then (if p = 56 ∨ p = 57 then [] else bs) else []
theorem unK_bad {p : Int} {bs : List Int} (h : unE p bs ≠ 0) : unK p bs = 0 := by unfold unK; rw [if_neg h]
theorem unB_bad {p : Int} {bs : List Int} (h : unE p bs ≠ 0) : unB p bs = [] := by unfold unB; rw [if_neg h]
theorem un_none {p : Int} {bs : List Int} (h1 : p ≠ 51) (h3 : p ≠ 53) (h6 : p ≠ 56) (h7 : p ≠ 57) : unE p bs = 60 := by unfold unE; rw [if_neg (by omega), if_neg (by omega)]
theorem un_form {p : Int} {bs : List Int} (h : p = 56 ∨ p = 57) (hb : bs ≠ [0]) : unE p bs = 42 := by unfold unE; rw [if_pos h, if_neg hb]
theorem un_zero {p : Int} (h : p = 56 ∨ p = 57) : unE p [0] = 0 := by unfold unE; rw [if_pos h, if_pos rfl]
theorem un_nil {p : Int} (h : p = 51 ∨ p = 53) : unE p [] = 42 := by unfold unE; rw [if_neg (by omega), if_pos h, if_pos rfl]
theorem un_53 {bs : List Int} (hn : bs ≠ []) : unE 53 bs = 0 := by unfold unE; rw [if_neg (by decide), if_pos (by decide), if_neg hn, if_neg (fun h => by cases h.1)]
theorem un_51 {bs : List Int} (hn : bs ≠ []) (hv : vl bs = true) : unE 51 bs = 0 := by unfold unE; rw [if_neg (by decide), if_pos (by decide), if_neg hn, if_neg (by rw [hv]; decide)]
theorem un_text {bs : List Int} (hn : bs ≠ []) (hv : vl bs = false) : unE 51 bs = 200 := by unfold unE; rw [if_neg (by decide), if_pos (by decide), if_neg hn, if_pos ⟨rfl, hv⟩]
theorem unK_ok {p : Int} {bs : List Int} (h : unE p bs = 0) : unK p bs = if p = 53 ∨ p = 57 then 1 else 0 := by unfold unK; rw [if_pos h]
theorem unB_ok {p : Int} {bs : List Int} (h : unE p bs = 0) : unB p bs = if p = 56 ∨ p = 57 then [] else bs := by unfold unB; rw [if_pos h]
/-- What was framed is unframed again. -/
theorem un_fr {k : Int} {bs : List Int} (h : frE k bs = 0) : unE (frN k bs) (frB k bs) = 0 ∧ unK (frN k bs) (frB k bs) = k ∧ unB (frN k bs) (frB k bs) = bs := by
  have hk := fr_kinds h
  by_cases hn : bs = []
  · subst hn
    rw [frN_nil h, frB_nil h]
    have e := un_zero (p := 56 + k) (by omega)
    refine ⟨e, ?_, ?_⟩
    · rw [unK_ok e]
      split <;> omega
    · rw [unB_ok e, if_pos (by omega)]
  · rw [frN_some h hn, frB_some h hn]
    have e : unE (51 + 2 * k) bs = 0 := by
      rcases hk with rfl | rfl
      · refine un_51 hn ?_
        cases hv : vl bs with
        | true => rfl
        | false => rw [fr_text hv] at h; cases h
      · exact un_53 hn
    refine ⟨e, ?_, ?_⟩
    · rw [unK_ok e]
      split <;> omega
    · rw [unB_ok e, if_neg (by omega)]
theorem str_eqz {bs : List Int} (hB : IsB bs) : ((bstr bs).toList == [0]) = decide (bs = [0]) := by
  have h := bstr_beq hB (ys := [0]) (by intro x hx; simp at hx; omega)
  have e : (bstr [0]).toList = [0] := by kernel_rfl
  rw [← h, e]
set_option maxHeartbeats 4000000 in
set_option maxRecDepth 100000 in
theorem unframe_calls (lo hi : Nat) (p : Int) (v : Value) (bs : List Int) (w : World) (hT : Tabs w) (h : SlB w lo hi v bs) (hh : hi ≤ w.heap.size) (hB : IsB bs) (hl : bs.length ≤ 140737488355328) :
    Calls Tryd.prog 14 #[.int .u32 p, v] w fun e w' => Below w.heap.size w w' ∧ ∃ A c, e = .returned (.tuple #[.int .i64 (unK p bs), .slice A (unB p bs).length c, .int .i64 (unE p bs)]) ∧ OwnB w' w.heap.size 5 (.slice A (unB p bs).length c) (unB p bs) := by
  have HX := Lib.hid h
  have HT := Lib.hid hT
  have HB := Lib.hid hB
  have HL := Lib.hid hl
  have B1 : Below w.heap.size w (w.alloc (.cells #[.int .u8 0] 5)) := (Below.refl _ w).alloc (Nat.le_refl _) _
  have X := SlB.fr (S := nothing) h ((Fr.refl _ w).alloc (.cells #[.int .u8 0] 5)) (fun _ _ _ h => h)
  have Y := lit_slb w #[.int .u8 0] (0, 0) [0] (by simp) (by simp [maxLen]) (by intro i hi; simp at hi; subst hi; rfl)
  have CE := eq_calls _ _ _ _ _ _ bs [0] _ X Y (by omega)
  have HB1 := Lib.hid B1
  obtain ⟨A, c, rfl, q1, q2, q3, q4⟩ := h
  clear q1 q2 q3 q4 hl hT hB X Y B1
  by_cases h7 : p = 57
  · subst h7
    by_cases hz : bs = [0]
    · subst hz
      have he : unE 57 [0] = 0 := un_zero (by decide)
      rw [unK_ok he, unB_ok he, he]
      clear he
      have HC := Lib.hid CE
      clear CE
      go_enter Tryd.func14, Tryd.ntmps14
      go_wp2_with fail
      refine HC.out.mono ?_
      rintro e w2 ⟨rfl, B2⟩
      replace B2 := Lib.hid (Bl.trans HB1.out (Bl.low B2 HB1.out.size))
      go_wp2
      go_ret3
      exact ⟨B2.out, none, 0, rfl, OwnB.nil _ _ _⟩
    · have he : unE 57 bs = 42 := un_form (by decide) hz
      rw [unK_bad (by rw [he]; decide), unB_bad (by rw [he]; decide), he]
      clear he
      rw [decide_eq_false hz] at CE
      have HC := Lib.hid CE
      clear CE hz
      go_enter Tryd.func14, Tryd.ntmps14
      go_wp2_with fail
      refine HC.out.mono ?_
      rintro e w2 ⟨rfl, B2⟩
      replace B2 := Lib.hid (Bl.trans HB1.out (Bl.low B2 HB1.out.size))
      go_wp2
      go_ret3
      exact ⟨B2.out, none, 0, rfl, OwnB.nil _ _ _⟩
  by_cases h6 : p = 56
  · subst h6
    clear h7
    by_cases hz : bs = [0]
    · subst hz
      have he : unE 56 [0] = 0 := un_zero (by decide)
      rw [unK_ok he, unB_ok he, he]
      clear he
      have HC := Lib.hid CE
      clear CE
      go_enter Tryd.func14, Tryd.ntmps14
      go_wp2_with fail
      refine HC.out.mono ?_
      rintro e w2 ⟨rfl, B2⟩
      replace B2 := Lib.hid (Bl.trans HB1.out (Bl.low B2 HB1.out.size))
      go_wp2
      go_ret3
      exact ⟨B2.out, none, 0, rfl, OwnB.nil _ _ _⟩
    · have he : unE 56 bs = 42 := un_form (by decide) hz
      rw [unK_bad (by rw [he]; decide), unB_bad (by rw [he]; decide), he]
      clear he
      rw [decide_eq_false hz] at CE
      have HC := Lib.hid CE
      clear CE hz
      go_enter Tryd.func14, Tryd.ntmps14
      go_wp2_with fail
      refine HC.out.mono ?_
      rintro e w2 ⟨rfl, B2⟩
      replace B2 := Lib.hid (Bl.trans HB1.out (Bl.low B2 HB1.out.size))
      go_wp2
      go_ret3
      exact ⟨B2.out, none, 0, rfl, OwnB.nil _ _ _⟩
  by_cases h3 : p = 53
  · subst h3
    clear h7 h6
    by_cases hn : bs = []
    · skip
      subst hn
      have he : unE 53 [] = 42 := un_nil (by decide)
      rw [unK_bad (by rw [he]; decide), unB_bad (by rw [he]; decide), he]
      clear he
      have HC := Lib.hid CE
      clear CE
      go_enter Tryd.func14, Tryd.ntmps14
      go_wp2_with fail
      refine HC.out.mono ?_
      rintro e w2 ⟨rfl, B2⟩
      replace B2 := Lib.hid (Bl.trans HB1.out (Bl.low B2 HB1.out.size))
      go_wp2
      go_ret3
      exact ⟨B2.out, none, 0, rfl, OwnB.nil _ _ _⟩
    · have he := un_53 hn
      rw [unK_ok he, unB_ok he, he]
      have hz : ((bs.length : Int) == 0) = false := beq_eq_false_iff_ne.2 (fun h => hn (List.eq_nil_of_length_eq_zero (by omega)))
      generalize decide (bs = [0]) = D at CE
      have HC := Lib.hid CE
      clear CE he hn
      cases D
      · skip
        go_enter Tryd.func14, Tryd.ntmps14
        go_wp2_with fail
        refine HC.out.mono ?_
        rintro e w2 ⟨rfl, B2⟩
        replace B2 := Lib.hid (Bl.trans HB1.out (Bl.low B2 HB1.out.size))
        go_wp2_with fail
        refine (clone_calls lo hi _ bs _ (SlB.bl HX.out B2.out hh) HL.out).mono ?_
        rintro e w4 ⟨v4, rfl, o4, B4⟩
        obtain ⟨A4, c4, rfl, -, -⟩ := OwnB.slice o4
        go_wp2
        go_ret3
        exact ⟨Bl.trans B2.out (Bl.low B4 B2.out.size), A4, c4, rfl, OwnB.low o4 B2.out.size⟩
      · skip
        go_enter Tryd.func14, Tryd.ntmps14
        go_wp2_with fail
        refine HC.out.mono ?_
        rintro e w2 ⟨rfl, B2⟩
        replace B2 := Lib.hid (Bl.trans HB1.out (Bl.low B2 HB1.out.size))
        go_wp2_with fail
        refine (clone_calls lo hi _ bs _ (SlB.bl HX.out B2.out hh) HL.out).mono ?_
        rintro e w4 ⟨v4, rfl, o4, B4⟩
        obtain ⟨A4, c4, rfl, -, -⟩ := OwnB.slice o4
        go_wp2
        go_ret3
        exact ⟨Bl.trans B2.out (Bl.low B4 B2.out.size), A4, c4, rfl, OwnB.low o4 B2.out.size⟩
  by_cases h1 : p = 51
  · subst h1
    clear h7 h6 h3
    by_cases hn : bs = []
    · skip
      subst hn
      have he : unE 51 [] = 42 := un_nil (by decide)
      rw [unK_bad (by rw [he]; decide), unB_bad (by rw [he]; decide), he]
      clear he
      have HC := Lib.hid CE
      clear CE
      go_enter Tryd.func14, Tryd.ntmps14
      go_wp2_with fail
      refine HC.out.mono ?_
      rintro e w2 ⟨rfl, B2⟩
      replace B2 := Lib.hid (Bl.trans HB1.out (Bl.low B2 HB1.out.size))
      go_wp2
      go_ret3
      exact ⟨B2.out, none, 0, rfl, OwnB.nil _ _ _⟩
    · have hz : ((bs.length : Int) == 0) = false := beq_eq_false_iff_ne.2 (fun h => hn (List.eq_nil_of_length_eq_zero (by omega)))
      generalize decide (bs = [0]) = D at CE
      have HC := Lib.hid CE
      clear CE
      cases hv : vl bs with
      | false =>
        have he := un_text hn hv
        rw [unK_bad (by rw [he]; decide), unB_bad (by rw [he]; decide), he]
        clear he
        clear hn
        replace hv := Lib.hid hv
        cases D
        · skip
          go_enter Tryd.func14, Tryd.ntmps14
          go_wp2_with fail
          refine HC.out.mono ?_
          rintro e w2 ⟨rfl, B2⟩
          replace B2 := Lib.hid (Bl.trans HB1.out (Bl.low B2 HB1.out.size))
          have CV := uvalid_bytes lo hi _ bs w2 (HT.out.below B2.out) (SlB.bl HX.out B2.out hh) HB.out
          rw [hv.out] at CV
          have HV := Lib.hid CV
          clear CV
          go_wp2_with fail
          refine HV.out.mono ?_
          rintro e w3 ⟨rfl, B3⟩
          replace B2 := Lib.hid (Bl.trans B2.out (Bl.low B3 B2.out.size))
          clear B3
          go_wp2
          go_ret3
          exact ⟨B2.out, none, 0, rfl, OwnB.nil _ _ _⟩
        · skip
          go_enter Tryd.func14, Tryd.ntmps14
          go_wp2_with fail
          refine HC.out.mono ?_
          rintro e w2 ⟨rfl, B2⟩
          replace B2 := Lib.hid (Bl.trans HB1.out (Bl.low B2 HB1.out.size))
          have CV := uvalid_bytes lo hi _ bs w2 (HT.out.below B2.out) (SlB.bl HX.out B2.out hh) HB.out
          rw [hv.out] at CV
          have HV := Lib.hid CV
          clear CV
          go_wp2_with fail
          refine HV.out.mono ?_
          rintro e w3 ⟨rfl, B3⟩
          replace B2 := Lib.hid (Bl.trans B2.out (Bl.low B3 B2.out.size))
          clear B3
          go_wp2
          go_ret3
          exact ⟨B2.out, none, 0, rfl, OwnB.nil _ _ _⟩
      | true =>
        have he := un_51 hn hv
        rw [unK_ok he, unB_ok he, he]
        clear hn he
        replace hv := Lib.hid hv
        cases D
        · skip
          go_enter Tryd.func14, Tryd.ntmps14
          go_wp2_with fail
          refine HC.out.mono ?_
          rintro e w2 ⟨rfl, B2⟩
          replace B2 := Lib.hid (Bl.trans HB1.out (Bl.low B2 HB1.out.size))
          have CV := uvalid_bytes lo hi _ bs w2 (HT.out.below B2.out) (SlB.bl HX.out B2.out hh) HB.out
          rw [hv.out] at CV
          have HV := Lib.hid CV
          clear CV
          go_wp2_with fail
          refine HV.out.mono ?_
          rintro e w3 ⟨rfl, B3⟩
          replace B2 := Lib.hid (Bl.trans B2.out (Bl.low B3 B2.out.size))
          clear B3
          go_wp2_with fail
          refine (clone_calls lo hi _ bs _ (SlB.bl HX.out B2.out hh) HL.out).mono ?_
          rintro e w4 ⟨v4, rfl, o4, B4⟩
          obtain ⟨A4, c4, rfl, -, -⟩ := OwnB.slice o4
          go_wp2
          go_ret3
          exact ⟨Bl.trans B2.out (Bl.low B4 B2.out.size), A4, c4, rfl, OwnB.low o4 B2.out.size⟩
        · skip
          go_enter Tryd.func14, Tryd.ntmps14
          go_wp2_with fail
          refine HC.out.mono ?_
          rintro e w2 ⟨rfl, B2⟩
          replace B2 := Lib.hid (Bl.trans HB1.out (Bl.low B2 HB1.out.size))
          have CV := uvalid_bytes lo hi _ bs w2 (HT.out.below B2.out) (SlB.bl HX.out B2.out hh) HB.out
          rw [hv.out] at CV
          have HV := Lib.hid CV
          clear CV
          go_wp2_with fail
          refine HV.out.mono ?_
          rintro e w3 ⟨rfl, B3⟩
          replace B2 := Lib.hid (Bl.trans B2.out (Bl.low B3 B2.out.size))
          clear B3
          go_wp2_with fail
          refine (clone_calls lo hi _ bs _ (SlB.bl HX.out B2.out hh) HL.out).mono ?_
          rintro e w4 ⟨v4, rfl, o4, B4⟩
          obtain ⟨A4, c4, rfl, -, -⟩ := OwnB.slice o4
          go_wp2
          go_ret3
          exact ⟨Bl.trans B2.out (Bl.low B4 B2.out.size), A4, c4, rfl, OwnB.low o4 B2.out.size⟩
  have he := un_none (bs := bs) h1 h3 h6 h7
  rw [unK_bad (by rw [he]; decide), unB_bad (by rw [he]; decide), he]
  clear he
  have e1 : (p == 51) = false := beq_eq_false_iff_ne.2 h1
  have e3 : (p == 53) = false := beq_eq_false_iff_ne.2 h3
  have e6 : (p == 56) = false := beq_eq_false_iff_ne.2 h6
  have e7 : (p == 57) = false := beq_eq_false_iff_ne.2 h7
  clear h1 h3 h6 h7 CE
  go_enter Tryd.func14, Tryd.ntmps14
  go_wp2
  go_ret3
  exact ⟨Below.refl _ _, none, 0, rfl, OwnB.nil _ _ _⟩
set_option maxHeartbeats 4000000 in
set_option maxRecDepth 100000 in
theorem runframe_calls (lo hi : Nat) (p : Int) (v : Value) (bs : List Int) (w : World) (h : SlB w lo hi v bs) (hB : IsB bs) (hl : bs.length ≤ 140737488355328) :
    Calls Tryd.prog 15 #[.int .u32 p, v] w fun e w' => e = .returned (.tuple #[.int .i64 (unK p bs), .string (bstr (unB p bs)), .int .i64 (unE p bs)]) ∧ Below w.heap.size w w' := by
  have hsz : (bstr bs).size ≤ 9223372036854775000 := by rw [bstr_size]; omega
  have CV := fun w => rvalid_calls (bstr bs) w hsz
  rw [vl_bstr] at CV
  obtain ⟨A, c, rfl, q1, q2, q3, q4⟩ := id h
  have kt := slb_str h
  have ktn : ∀ n, (convert 22 9 (.slice A bs.length c)).run Tryd.prog (w.drewN n) = .ok (.string (bstr bs)) (w.drewN n) := fun n => slb_str (SlB.fr (S := nothing) h ((Fr.refl _ w).drewN n) (fun _ _ _ h => h))
  have hD := str_eqz hB
  clear q1 q2 q3 q4 hl hsz hB
  by_cases h7 : p = 57
  · subst h7
    clear CV
    by_cases hz : bs = [0]
    · have he : unE 57 bs = 0 := by rw [hz]; exact un_zero (by decide)
      rw [unK_ok he, unB_ok he, he]
      rw [decide_eq_true hz] at hD
      clear he hz
      go_enter Tryd.func15, Tryd.ntmps15
      go_wp2
      go_ret3
      exact ⟨by first | rfl | simp, Below.refl _ _⟩
    · have he : unE 57 bs = 42 := un_form (by decide) hz
      rw [unK_bad (by rw [he]; decide), unB_bad (by rw [he]; decide), he]
      clear he
      rw [decide_eq_false hz] at hD
      clear hz
      go_enter Tryd.func15, Tryd.ntmps15
      go_wp2
      go_ret3
      exact ⟨by first | rfl | simp, Below.refl _ _⟩
  by_cases h6 : p = 56
  · subst h6
    clear h7
    clear CV
    by_cases hz : bs = [0]
    · have he : unE 56 bs = 0 := by rw [hz]; exact un_zero (by decide)
      rw [unK_ok he, unB_ok he, he]
      rw [decide_eq_true hz] at hD
      clear he hz
      go_enter Tryd.func15, Tryd.ntmps15
      go_wp2
      go_ret3
      exact ⟨by first | rfl | simp, Below.refl _ _⟩
    · have he : unE 56 bs = 42 := un_form (by decide) hz
      rw [unK_bad (by rw [he]; decide), unB_bad (by rw [he]; decide), he]
      clear he
      rw [decide_eq_false hz] at hD
      clear hz
      go_enter Tryd.func15, Tryd.ntmps15
      go_wp2
      go_ret3
      exact ⟨by first | rfl | simp, Below.refl _ _⟩
  clear hD
  by_cases h3 : p = 53
  · subst h3
    clear h7 h6 CV
    by_cases hn : bs = []
    · skip
      subst hn
      have he : unE 53 [] = 42 := un_nil (by decide)
      rw [unK_bad (by rw [he]; decide), unB_bad (by rw [he]; decide), he]
      clear he
      go_enter Tryd.func15, Tryd.ntmps15
      go_wp2
      go_ret3
      exact ⟨by first | rfl | simp, Below.refl _ _⟩
    · have he := un_53 hn
      rw [unK_ok he, unB_ok he, he]
      have hz : ((bs.length : Int) == 0) = false := beq_eq_false_iff_ne.2 (fun h => hn (List.eq_nil_of_length_eq_zero (by omega)))
      clear he hn
      go_enter Tryd.func15, Tryd.ntmps15
      go_wp2_with fail
      go_quiet (fail)
      go_wp2
      go_ret3
      exact ⟨by first | rfl | simp, Fr.below ((Fr.refl nothing _).drewN _) (fun _ _ h => h)⟩
  by_cases h1 : p = 51
  · subst h1
    clear h7 h6 h3
    by_cases hn : bs = []
    · clear CV
      subst hn
      have he : unE 51 [] = 42 := un_nil (by decide)
      rw [unK_bad (by rw [he]; decide), unB_bad (by rw [he]; decide), he]
      clear he
      go_enter Tryd.func15, Tryd.ntmps15
      go_wp2
      go_ret3
      exact ⟨by first | rfl | simp, Below.refl _ _⟩
    · have hz : ((bs.length : Int) == 0) = false := beq_eq_false_iff_ne.2 (fun h => hn (List.eq_nil_of_length_eq_zero (by omega)))
      cases hv : vl bs with
      | false =>
        rw [hv] at CV
        have HV := Lib.hid CV
        have he := un_text hn hv
        rw [unK_bad (by rw [he]; decide), unB_bad (by rw [he]; decide), he]
        clear he
        clear hn CV hv
        go_enter Tryd.func15, Tryd.ntmps15
        go_wp2_with fail
        refine (HV.out _).mono ?_
        rintro e w3 ⟨rfl, rfl⟩
        go_wp2
        go_ret3
        exact ⟨by first | rfl | simp, Below.refl _ _⟩
      | true =>
        rw [hv] at CV
        have HV := Lib.hid CV
        have he := un_51 hn hv
        rw [unK_ok he, unB_ok he, he]
        clear hn he CV hv
        go_enter Tryd.func15, Tryd.ntmps15
        go_wp2_with fail
        refine (HV.out _).mono ?_
        rintro e w3 ⟨rfl, rfl⟩
        go_wp2_with fail
        go_quiet (fail)
        go_wp2
        go_ret3
        exact ⟨by first | rfl | simp, Fr.below ((Fr.refl nothing _).drewN _) (fun _ _ h => h)⟩
  have he := un_none (bs := bs) h1 h3 h6 h7
  rw [unK_bad (by rw [he]; decide), unB_bad (by rw [he]; decide), he]
  clear he
  have e1 : (p == 51) = false := beq_eq_false_iff_ne.2 h1
  have e3 : (p == 53) = false := beq_eq_false_iff_ne.2 h3
  have e6 : (p == 56) = false := beq_eq_false_iff_ne.2 h6
  have e7 : (p == 57) = false := beq_eq_false_iff_ne.2 h7
  clear h1 h3 h6 h7 CV
  go_enter Tryd.func15, Tryd.ntmps15
  go_wp2
  go_ret3
  exact ⟨by first | rfl | simp, Below.refl _ _⟩
end Go.Proofs.YtdbndinnakkloaaDoor.Dcp
