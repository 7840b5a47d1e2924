/- What dcep.Frame and flumeref20.Frame answer for any kind and bytes. Conditions: utf8's tables read as laid. -/
import Derived.Test.YtdbndinnakkloaaDoorDcpValid
import Derived.Deep.RegionLaw
namespace Go.Proofs.YtdbndinnakkloaaDoor.Dcp
open Go Go.RowKit Go.Lib Go.Shelf Go.Proofs Go.Proofs.YtdbndinnakkloaaDoor.Mem Go.Proofs.YtdbndinnakkloaaDoor.Octet
set_option linter.unusedVariables false
set_option linter.unusedSimpArgs false
/-- A frame's error, number and bytes. -/
def frE (k : Int) (bs : List Int) : Int := if k = 0 ∨ k = 1 then (if k = 0 ∧ vl bs = false then 200 else if 65536 < bs.length then 43 else 0) else 60
def frN (k : Int) (bs : List Int) : Int := if frE k bs = 0 then (if bs = [] then 56 + k else 51 + 2 * k) else 0
def frB (k : Int) (bs : List Int) : List Int := if frE k bs = 0 then (if bs = [] then [0] else bs) else []
theorem fr_kind {k : Int} {bs : List Int} (h0 : k ≠ 0) (h1 : k ≠ 1) : frE k bs = 60 := by unfold frE; rw [if_neg (by omega)]
theorem fr_text {bs : List Int} (h : vl bs = false) : frE 0 bs = 200 := by unfold frE; rw [if_pos (Or.inl rfl), if_pos ⟨rfl, h⟩]
theorem fr_long {k : Int} {bs : List Int} (hk : k = 0 ∧ vl bs = true ∨ k = 1) (h : 65536 < bs.length) : frE k bs = 43 := by
  unfold frE
  rw [if_pos (by omega), if_neg (fun h => by rcases hk with ⟨_, hv⟩ | hv; (rw [hv] at h; cases h.2); (omega)), if_pos h]
theorem fr_ok {k : Int} {bs : List Int} (hk : k = 0 ∧ vl bs = true ∨ k = 1) (h : ¬ 65536 < bs.length) : frE k bs = 0 := by
  unfold frE
  rw [if_pos (by omega), if_neg (fun h => by rcases hk with ⟨_, hv⟩ | hv; (rw [hv] at h; cases h.2); (omega)), if_neg h]
theorem frN_bad {k : Int} {bs : List Int} (h : frE k bs ≠ 0) : frN k bs = 0 := by unfold frN; rw [if_neg h]
theorem frB_bad {k : Int} {bs : List Int} (h : frE k bs ≠ 0) : frB k bs = [] := by unfold frB; rw [if_neg h]
theorem frN_nil {k : Int} (h : frE k [] = 0) : frN k [] = 56 + k := by unfold frN; rw [if_pos h, if_pos rfl]
theorem frB_nil {k : Int} (h : frE k [] = 0) : frB k [] = [0] := by unfold frB; rw [if_pos h, if_pos rfl]
theorem frN_nil2 {k : Int} {bs : List Int} (h : frE k bs = 0) (hn : bs = []) : frN k bs = 56 + k := by subst hn; exact frN_nil h
theorem frB_nil2 {k : Int} {bs : List Int} (h : frE k bs = 0) (hn : bs = []) : frB k bs = [0] := by subst hn; exact frB_nil h
theorem frN_some {k : Int} {bs : List Int} (h : frE k bs = 0) (hn : bs ≠ []) : frN k bs = 51 + 2 * k := by unfold frN; rw [if_pos h, if_neg hn]
theorem frB_some {k : Int} {bs : List Int} (h : frE k bs = 0) (hn : bs ≠ []) : frB k bs = bs := by unfold frB; rw [if_pos h, if_neg hn]
theorem fr_kinds {k : Int} {bs : List Int} (h : frE k bs = 0) : k = 0 ∨ k = 1 := by
  refine Classical.byContradiction fun hc => ?_
  rw [fr_kind (by omega) (by omega)] at h
  cases h
theorem own_zero (w : World) : OwnB (w.alloc (.cells #[.int .u8 0] 5)) w.heap.size 5 (.slice (some ⟨w.heap.size, 0, none⟩) ([0] : List Int).length 1) [0] :=
  ⟨rfl, .inr ⟨w.heap.size, 1, #[.int .u8 0], rfl, Nat.le_refl _, heap_alloc_new w _, Nat.le_refl _, by simp [maxLen], rfl, rfl⟩⟩
set_option maxHeartbeats 4000000 in
set_option maxRecDepth 100000 in
theorem frame_calls (lo hi : Nat) (k : Int) (v : Value) (bs : List Int) (w : World) (hT : Tabs w) (h : SlB w lo hi v bs) (hh : hi ≤ w.heap.size) (hB : IsB bs) (hl : bs.length ≤ 140737488355328) :
    Calls Tryd.prog 12 #[.int .i64 k, v] w fun e w' => Below w.heap.size w w' ∧ ∃ A c, e = .returned (.tuple #[.int .u32 (frN k bs), .slice A (frB k bs).length c, .int .i64 (frE k bs)]) ∧ OwnB w' w.heap.size 5 (.slice A (frB k bs).length c) (frB k bs) := by
  have CV := uvalid_bytes lo hi v bs w hT h hB
  have HX := Lib.hid h
  have HL := Lib.hid hl
  obtain ⟨A, c, rfl, q1, q2, q3, q4⟩ := h
  clear q1 q2 q3 q4 hl
  by_cases h0 : k = 0
  · subst h0
    cases hv : vl bs with
    | false =>
      rw [hv] at CV
      have HV := Lib.hid CV
      have he := fr_text hv
      clear CV
      rw [frN_bad (by rw [he]; decide), frB_bad (by rw [he]; decide), he]
      clear he
      clear hv
      go_enter Tryd.func12, Tryd.ntmps12
      go_wp2_with fail
      refine HV.out.mono ?_
      rintro e w1 ⟨rfl, B1⟩
      go_wp2
      go_ret3
      exact ⟨B1, none, 0, rfl, OwnB.nil _ _ _⟩
    | true =>
      rw [hv] at CV
      have HV := Lib.hid CV
      have hk : (0 : Int) = 0 ∧ vl bs = true ∨ (0 : Int) = 1 := .inl ⟨rfl, hv⟩
      clear CV hv
      by_cases h6 : 65536 < bs.length
      · have hd6 : decide ((65536 : Int) < bs.length) = true := decide_eq_true (by omega)
        have he := fr_long hk h6
        rw [frN_bad (by rw [he]; decide), frB_bad (by rw [he]; decide), he]
        clear he
        clear h6 hk
        go_enter Tryd.func12, Tryd.ntmps12
        go_wp2_with fail
        refine HV.out.mono ?_
        rintro e w1 ⟨rfl, B1⟩
        go_wp2
        go_ret3
        exact ⟨B1, none, 0, rfl, OwnB.nil _ _ _⟩
      · have hd6 : decide ((65536 : Int) < bs.length) = false := decide_eq_false (by omega)
        have he := fr_ok hk h6
        by_cases hn : bs = []
        · subst hn
          rw [frN_nil he, frB_nil he, he]
          clear he hd6 h6 hk
          go_enter Tryd.func12, Tryd.ntmps12
          go_wp2_with fail
          refine HV.out.mono ?_
          rintro e w1 ⟨rfl, B1⟩
          go_wp2
          go_ret3
          exact ⟨Bl.trans (B1) (Bl.low ((Below.refl _ _).alloc (Nat.le_refl _) (.cells #[.int .u8 0] 5)) (B1).size), _, _, rfl, OwnB.low (own_zero _) (B1).size⟩
        · rw [frN_some he hn, frB_some he hn, he]
          have hz : ((bs.length : Int) == 0) = false := beq_eq_false_iff_ne.2 (fun h => hn (List.eq_nil_of_length_eq_zero (by omega)))
          clear he h6 hn hk
          go_enter Tryd.func12, Tryd.ntmps12
          go_wp2_with fail
          refine HV.out.mono ?_
          rintro e w1 ⟨rfl, B1⟩
          have HC := Lib.hid (clone_calls lo hi _ bs w1 (SlB.bl HX.out B1 hh) HL.out)
          have HB1 := Lib.hid (B1)
          go_wp2_with fail
          refine HC.out.mono ?_
          rintro e w2 ⟨v2, rfl, o2, B2⟩
          obtain ⟨A2, c2, rfl, -, -⟩ := OwnB.slice o2
          go_wp2
          go_ret3
          exact ⟨Bl.trans HB1.out (Bl.low B2 HB1.out.size), A2, c2, rfl, OwnB.low o2 HB1.out.size⟩
  · clear CV
    by_cases h1 : k = 1
    · subst h1
      have hk : (1 : Int) = 0 ∧ vl bs = true ∨ (1 : Int) = 1 := .inr rfl
      by_cases h6 : 65536 < bs.length
      · have hd6 : decide ((65536 : Int) < bs.length) = true := decide_eq_true (by omega)
        have he := fr_long hk h6
        rw [frN_bad (by rw [he]; decide), frB_bad (by rw [he]; decide), he]
        clear he
        clear h6 hk
        go_enter Tryd.func12, Tryd.ntmps12
        go_wp2
        go_ret3
        exact ⟨Below.refl w.heap.size w, none, 0, rfl, OwnB.nil _ _ _⟩
      · have hd6 : decide ((65536 : Int) < bs.length) = false := decide_eq_false (by omega)
        have he := fr_ok hk h6
        by_cases hn : bs = []
        · subst hn
          rw [frN_nil he, frB_nil he, he]
          clear he hd6 h6 hk
          go_enter Tryd.func12, Tryd.ntmps12
          go_wp2
          go_ret3
          exact ⟨Bl.trans (Below.refl w.heap.size w) (Bl.low ((Below.refl _ _).alloc (Nat.le_refl _) (.cells #[.int .u8 0] 5)) (Below.refl w.heap.size w).size), _, _, rfl, OwnB.low (own_zero _) (Below.refl w.heap.size w).size⟩
        · rw [frN_some he hn, frB_some he hn, he]
          have hz : ((bs.length : Int) == 0) = false := beq_eq_false_iff_ne.2 (fun h => hn (List.eq_nil_of_length_eq_zero (by omega)))
          clear he h6 hn hk
          go_enter Tryd.func12, Tryd.ntmps12
          have HC := Lib.hid (clone_calls lo hi _ bs w (HX.out) HL.out)
          have HB1 := Lib.hid (Below.refl w.heap.size w)
          go_wp2_with fail
          refine HC.out.mono ?_
          rintro e w2 ⟨v2, rfl, o2, B2⟩
          obtain ⟨A2, c2, rfl, -, -⟩ := OwnB.slice o2
          go_wp2
          go_ret3
          exact ⟨Bl.trans HB1.out (Bl.low B2 HB1.out.size), A2, c2, rfl, OwnB.low o2 HB1.out.size⟩
    · have he := fr_kind (bs := bs) h0 h1
      rw [frN_bad (by rw [he]; decide), frB_bad (by rw [he]; decide), he]
      clear he
      have e0 : (k == 0) = false := beq_eq_false_iff_ne.2 h0
      have e1 : (k == 1) = false := beq_eq_false_iff_ne.2 h1
      clear h0 h1
      go_enter Tryd.func12, Tryd.ntmps12
      go_wp2
      go_ret3
      exact ⟨Below.refl _ _, none, 0, rfl, OwnB.nil _ _ _⟩
set_option maxHeartbeats 4000000 in
set_option maxRecDepth 100000 in
theorem rframe_calls (lo hi : Nat) (k : Int) (v : Value) (bs : List Int) (w : World) (h : SlB w lo hi v bs) (hl : bs.length ≤ 140737488355328) :
    Calls Tryd.prog 13 #[.int .i64 k, v] w fun e w' => e = .returned (.tuple #[.int .i64 (frN k bs), .string (bstr (frB k bs)), .int .i64 (frE k bs)]) ∧ Below w.heap.size w w' := by
  have hsz : (bstr bs).size ≤ 9223372036854775000 := by rw [bstr_size]; omega
  have CV := fun w => rvalid_calls (bstr bs) w hsz
  rw [vl_bstr] at CV
  obtain ⟨A, c, rfl, q1, q2, q3, q4⟩ := id h
  have kt := slb_str h
  have ktn : ∀ n, (convert 22 9 (.slice A bs.length c)).run Tryd.prog (w.drewN n) = .ok (.string (bstr bs)) (w.drewN n) := fun n => slb_str (SlB.fr (S := nothing) h ((Fr.refl _ w).drewN n) (fun _ _ _ h => h))
  clear q1 q2 q3 q4 hl hsz
  by_cases h0 : k = 0
  · subst h0
    cases hv : vl bs with
    | false =>
      rw [hv] at CV
      have HV := Lib.hid CV
      have he := fr_text hv
      clear CV
      rw [frN_bad (by rw [he]; decide), frB_bad (by rw [he]; decide), he]
      clear he
      clear hv
      go_enter Tryd.func13, Tryd.ntmps13
      go_wp2_with fail
      refine (HV.out _).mono ?_
      rintro e w1 ⟨rfl, rfl⟩
      go_wp2
      go_ret3
      exact ⟨rfl, Below.refl _ _⟩
    | true =>
      rw [hv] at CV
      have HV := Lib.hid CV
      have hk : (0 : Int) = 0 ∧ vl bs = true ∨ (0 : Int) = 1 := .inl ⟨rfl, hv⟩
      clear CV hv
      by_cases h6 : 65536 < bs.length
      · have hd6 : decide ((65536 : Int) < bs.length) = true := decide_eq_true (by omega)
        have he := fr_long hk h6
        rw [frN_bad (by rw [he]; decide), frB_bad (by rw [he]; decide), he]
        clear he
        clear h6 hk
        go_enter Tryd.func13, Tryd.ntmps13
        go_wp2_with fail
        refine (HV.out _).mono ?_
        rintro e w1 ⟨rfl, rfl⟩
        go_wp2
        go_ret3
        exact ⟨rfl, Below.refl _ _⟩
      · have hd6 : decide ((65536 : Int) < bs.length) = false := decide_eq_false (by omega)
        have he := fr_ok hk h6
        by_cases hn : bs = []
        · have hz : ((bs.length : Int) == 0) = true := by rw [hn]; rfl
          rw [frN_nil2 he hn, frB_nil2 he hn, he, str_nought]
          clear he h6 hk hn
          go_enter Tryd.func13, Tryd.ntmps13
          go_wp2_with fail
          refine (HV.out _).mono ?_
          rintro e w1 ⟨rfl, rfl⟩
          go_wp2
          go_ret3
          exact ⟨by first | rfl | simp, Below.refl _ _⟩
        · rw [frN_some he hn, frB_some he hn, he]
          have hz : ((bs.length : Int) == 0) = false := beq_eq_false_iff_ne.2 (fun h => hn (List.eq_nil_of_length_eq_zero (by omega)))
          clear he h6 hn hk
          go_enter Tryd.func13, Tryd.ntmps13
          go_wp2_with fail
          refine (HV.out _).mono ?_
          rintro e w1 ⟨rfl, rfl⟩
          go_wp2_with fail
          go_quiet (fail)
          go_wp2
          go_ret3
          exact ⟨by first | rfl | simp, Fr.below ((Fr.refl nothing _).drewN _) (fun _ _ h => h)⟩
  · clear CV
    by_cases h1 : k = 1
    · subst h1
      have hk : (1 : Int) = 0 ∧ vl bs = true ∨ (1 : Int) = 1 := .inr rfl
      by_cases h6 : 65536 < bs.length
      · have hd6 : decide ((65536 : Int) < bs.length) = true := decide_eq_true (by omega)
        have he := fr_long hk h6
        rw [frN_bad (by rw [he]; decide), frB_bad (by rw [he]; decide), he]
        clear he
        clear h6 hk
        go_enter Tryd.func13, Tryd.ntmps13
        go_wp2
        go_ret3
        exact ⟨rfl, Below.refl _ _⟩
      · have hd6 : decide ((65536 : Int) < bs.length) = false := decide_eq_false (by omega)
        have he := fr_ok hk h6
        by_cases hn : bs = []
        · have hz : ((bs.length : Int) == 0) = true := by rw [hn]; rfl
          rw [frN_nil2 he hn, frB_nil2 he hn, he, str_nought]
          clear he h6 hk hn
          go_enter Tryd.func13, Tryd.ntmps13
          go_wp2
          go_ret3
          exact ⟨by first | rfl | simp, Below.refl _ _⟩
        · rw [frN_some he hn, frB_some he hn, he]
          have hz : ((bs.length : Int) == 0) = false := beq_eq_false_iff_ne.2 (fun h => hn (List.eq_nil_of_length_eq_zero (by omega)))
          clear he h6 hn hk
          go_enter Tryd.func13, Tryd.ntmps13
          go_wp2_with fail
          go_quiet (fail)
          go_wp2
          go_ret3
          exact ⟨by first | rfl | simp, Fr.below ((Fr.refl nothing _).drewN _) (fun _ _ h => h)⟩
    · have he := fr_kind (bs := bs) h0 h1
      rw [frN_bad (by rw [he]; decide), frB_bad (by rw [he]; decide), he]
      clear he
      have e0 : (k == 0) = false := beq_eq_false_iff_ne.2 h0
      have e1 : (k == 1) = false := beq_eq_false_iff_ne.2 h1
      have n0 : (k != 0) = true := by simpa using h0
      have n1 : (k != 1) = true := by simpa using h1
      clear h0 h1
      go_enter Tryd.func13, Tryd.ntmps13
      go_wp2
      go_ret3
      exact ⟨rfl, Below.refl _ _⟩
end Go.Proofs.YtdbndinnakkloaaDoor.Dcp
