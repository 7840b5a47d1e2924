/- The walk of flumelaw05.ParamCuts: true for all parameters and places. No conditions but the row's own. -/
import Derived.Test.YtoknjnaianhjaaaPrmSee
namespace Go.Proofs.Ytoknjnaianhjaaa.ParamCuts
open Go.RowKit Go.Proofs.Ytoknjnaianhjaaa.Mem Go.Proofs.Ytoknjnaianhjaaa.Octet Go.Proofs.Ytoknjnaianhjaaa.Prm
set_option linter.unusedVariables false
set_option linter.unusedSimpArgs false
/-- Was it cut between two of the first j parameters, or ahead of them? -/
def btw (ps : List Pm) (k : Nat) : Nat → Bool
  | 0 => k == 0
  | j + 1 => btw ps k j || pend ps (j + 1) == k
/-- How many of the first j parameters are whole. -/
def cnt (ps : List Pm) (k : Nat) : Nat → Nat
  | 0 => 0
  | j + 1 => if pend ps (j + 1) ≤ k then j + 1 else cnt ps k j
theorem cnt_all (ps : List Pm) (k j : Nat) (hj : j ≤ ps.length) : pend ps (cnt ps k j) ≤ k ∧ cnt ps k j ≤ j ∧ (cnt ps k j < j → k < pend ps (cnt ps k j + 1)) ∧ btw ps k j = decide (k = pend ps (cnt ps k j)) := by
  induction j with
  | zero =>
    have e : pend ps (cnt ps k 0) = 0 := rfl
    rw [e]
    refine ⟨Nat.zero_le _, Nat.le_refl _, (fun h => absurd h (Nat.lt_irrefl _)), ?_⟩
    show (k == 0) = decide (k = 0)
    rfl
  | succ j ih =>
    obtain ⟨h1, h2, h3, h4⟩ := ih (by omega)
    have hm : pend ps (cnt ps k j) < pend ps (j + 1) := pend_mono ps (by omega) hj
    have eb : btw ps k (j + 1) = (btw ps k j || pend ps (j + 1) == k) := rfl
    by_cases h : pend ps (j + 1) ≤ k
    · have ec : cnt ps k (j + 1) = j + 1 := if_pos h
      rw [ec, eb]
      refine ⟨h, Nat.le_refl _, (fun h => absurd h (Nat.lt_irrefl _)), ?_⟩
      rw [h4, decide_eq_false (show ¬ k = pend ps (cnt ps k j) by omega), Bool.false_or]
      by_cases e : pend ps (j + 1) = k
      · simp [e]
      · rw [beq_eq_false_iff_ne.2 e, decide_eq_false (by omega)]
    · have ec : cnt ps k (j + 1) = cnt ps k j := if_neg h
      rw [ec, eb]
      refine ⟨h1, by omega, fun h5 => ?_, ?_⟩
      · by_cases h6 : cnt ps k j < j
        · exact h3 h6
        · have : cnt ps k j = j := by omega
          rw [this]; omega
      · rw [beq_eq_false_iff_ne.2 (show pend ps (j + 1) ≠ k by omega), Bool.or_false, h4]
theorem SlB.take {w : World} {lo hi : Nat} {A : Option Addr} {n c k : Nat} {xs : List Int} (h : SlB w lo hi (.slice A n c) xs) (hk : k ≤ xs.length) : SlB w lo hi (.slice A k c) (xs.take k) := by
  obtain ⟨A', c', e, h1, h2, h3, h4⟩ := h
  injection e with e1 _ e3
  subst e1; subst e3
  have e : (xs.take k).length = k := by simp; omega
  exact ⟨A, c, by rw [e], by omega, h2, h3, h4.take k⟩
theorem PmC.take {w : World} {lo hi : Nat} {A : Option Addr} {ps : List Pm} (h : PmC w lo hi A ps) (n : Nat) : PmC w lo hi A (ps.take n) := by
  intro i hi'
  have : i < ps.length := by simp at hi'; omega
  have := h i this
  simpa using this
set_option maxHeartbeats 4000000 in
set_option maxRecDepth 100000 in
theorem walk (a : Option Addr) (cap len : Nat) (p : Int) (w : World) (hsee : Sees Try.prog w 22 [.slice a len cap]) (hp : (Lit.int .i64 p).wf = true) :
    Calls Try.prog 6 #[.slice a len cap, .int .i64 p] w fun e w' => e = .returned (.bool true) ∧ Below w.heap.size w w' := by
  obtain ⟨ps, rfl, P, hb, hlc, hcm⟩ := pm_of_see hsee
  have hup := Try.underlying43
  have hpl : ps.length ≤ 9223372036854775807 := by unfold maxLen at hcm; omega
  have HLC := Lib.hid hlc
  clear hsee hp hcm hlc
  by_cases hbig : 20000 < szF ps 0
  · have hd : decide (20000 < szF ps 0) = true := decide_eq_true hbig
    clear hbig
    go_enter Try.func6, Try.ntmps6
    go_wp2_with fail
    refine (first_calls w).mono ?_
    rintro e w0 ⟨rfl, B0⟩
    replace P := P.bl B0 (Nat.le_refl _)
    have hs0 := B0.size
    go_wp2_with fail
    refine (size_calls _ _ a cap ps w0 P hs0 hpl).mono ?_
    rintro e w1 ⟨rfl, B1⟩
    replace P := P.bl B1 hs0
    replace B0 := Bl.trans B0 (Bl.low B1 hs0)
    clear B1
    go_wp2
    go_ret
    exact ⟨rfl, B0⟩
  · have hd : decide (20000 < szF ps 0) = false := decide_eq_false hbig
    by_cases h0 : 200 < ps.length
    · have hd2 : decide (200 < (ps.length : Int)) = true := decide_eq_true (by omega)
      clear h0 hbig
      go_enter Try.func6, Try.ntmps6
      go_wp2_with fail
      refine (first_calls w).mono ?_
      rintro e w0 ⟨rfl, B0⟩
      replace P := P.bl B0 (Nat.le_refl _)
      have hs0 := B0.size
      go_wp2_with fail
      refine (size_calls _ _ a cap ps w0 P hs0 hpl).mono ?_
      rintro e w1 ⟨rfl, B1⟩
      replace P := P.bl B1 hs0
      replace B0 := Bl.trans B0 (Bl.low B1 hs0)
      clear B1
      go_wp2
      go_ret
      exact ⟨rfl, B0⟩
    · have hd2 : decide (200 < (ps.length : Int)) = false := decide_eq_false (by omega)
      have hsz := szF_tot ps 0 (by omega)
      have htot : tot ps ≤ 20000 := by omega
      have hel := tot_enc ps
      have hp200 : ps.length ≤ 200 := by omega
      clear h0 hbig hsz hpl
      have hpl : ps.length ≤ 9223372036854775807 := by omega
      go_enter Try.func6, Try.ntmps6
      go_wp2_with fail
      refine (first_calls w).mono ?_
      rintro e w0 ⟨rfl, B0⟩
      replace P := P.bl B0 (Nat.le_refl _)
      have hs0 := B0.size
      go_wp2_with fail
      refine (size_calls _ _ a cap ps w0 P hs0 hpl).mono ?_
      rintro e w1 ⟨rfl, B1⟩
      replace P := P.bl B1 hs0
      replace B0 := Bl.trans B0 (Bl.low B1 hs0)
      clear B1
      go_wp2_with fail
      refine (put_calls _ _ a cap ps w1 P B0.size hb (by omega) (by omega)).mono ?_
      rintro e w2 ⟨B2, hr⟩
      have hs1 := B0.size
      replace P := P.bl B2 B0.size
      replace B0 := Bl.trans B0 (Bl.low B2 B0.size)
      clear hpl hd hd2
      by_cases hfit : allFit ps = true
      · rw [if_pos hfit] at hr
        obtain ⟨Bs, cs, rfl, o⟩ := hr
        have hF := fit_of hb hfit
        have hib : IsB (enc ps) := isb_enc hF
        have hall := pend_all ps
        have HK1 := Lib.hid (um_range p (((enc ps).length : Int) + 1) (by omega) (by omega))
        obtain ⟨k, hk, HKV⟩ : ∃ k : Nat, k ≤ (enc ps).length ∧ RowKit.Hid (wrap64 ((IntKind.u64.wrap p).tmod (((enc ps).length : Int) + 1)) = (k : Int)) := by
          have := HK1.out
          unfold um at this
          exact ⟨(wrap64 ((IntKind.u64.wrap p).tmod (((enc ps).length : Int) + 1))).toNat, by omega, Lib.hid (by omega)⟩
        have HCUT := Lib.hid (dec_cut hF (n := cnt ps k ps.length) (k := k) (cnt_all ps k ps.length (Nat.le_refl _)).2.1 (cnt_all ps k ps.length (Nat.le_refl _)).1 (cnt_all ps k ps.length (Nat.le_refl _)).2.2.1 hk)
        have HBTW := Lib.hid (cnt_all ps k ps.length (Nat.le_refl _)).2.2.2
        have HCL := Lib.hid (cnt_all ps k ps.length (Nat.le_refl _)).2.1
        have HEND := Lib.hid (fun j (h : j < ps.length) => pend_succ ps j h)
        have HELE := Lib.hid (fun j (h : j ≤ ps.length) => show pend ps j ≤ 40000 by have := enc_take_le ps j; unfold pend; omega)
        generalize enc ps = bs at *
        have hbl : bs.length ≤ 40000 := by omega
        clear hel hall htot HK1
        go_upto_region 9 with fail
        rw [HKV.out]
        clear HKV
        have hkb : ((k : Int) == 0) = btw ps k 0 := by
          by_cases h : k = 0
          · subst h; rfl
          · rw [beq_eq_false_iff_ne.2 (by omega)]; exact (beq_eq_false_iff_ne.2 h).symm
        generalize hb0 : btw ps k 0 = b0 at hkb
        have HB0 := Lib.hid hb0
        clear hb0
        go_wp2_with fail
        go_loopw [8, 9, 10, 46] (fun bt en nn i wr => ∃ j : Nat, j ≤ ps.length ∧ i = .int .i64 j ∧ bt = .bool (btw ps k j) ∧ en = .int .i64 (pend ps j : Nat) ∧ nn = .int .i64 (cnt ps k j : Nat) ∧ PmC wr 0 w.heap.size a ps ∧ OwnB wr w1.heap.size 5 (.slice Bs bs.length cs) bs ∧ Below w.heap.size w wr) (fun _ _ _ i _ => ps.length - (intOf i).toNat)
        case atStart => exact ⟨0, Nat.zero_le _, rfl, by rw [HB0.out], rfl, rfl, P, o, B0⟩
        case round =>
          clear P o B0
          obtain ⟨j, hj, rfl, rfl, rfl, rfl, P, o, B0⟩ := hrel
          by_cases hlt : j < ps.length
          · obtain ⟨ad, s, rfl, h1, h2, h3, h4, h5⟩ := P j hlt
            have hE := HEND.out j hlt
            have hle := HELE.out (j + 1) hlt
            generalize hpj : ps[j] = q at h3 h5 hE
            clear hpj
            obtain ⟨kk, xs⟩ := q
            obtain ⟨As, cs2, rfl⟩ := sl_shape h5
            rw [add_add_ _ _ _ (by decide)] at h4
            have h3' : wr.cell? (ad.add (j * 2)) = some (.int .u16 kk) := h3
            have hjl : (j : Int) < ps.length := by omega
            have P2 := P.fr (S := nothing) ((Fr.refl _ wr).alloc (.cells #[.int .u16 kk, .slice As xs.length cs2] 43)) (fun _ _ _ h => h)
            have o2 := OwnB.fr o (S := nothing) ((Fr.refl _ wr).alloc (.cells #[.int .u16 kk, .slice As xs.length cs2] 43)) (fun _ _ h => h)
            have B2 := B0.alloc B0.size (.cells #[.int .u16 kk, .slice As xs.length cs2] 43)
            have HP2 := Lib.hid P2
            have HO2 := Lib.hid o2
            have HB2 := Lib.hid B2
            have hxl : xs.length ≤ 65535 := by have : all (xs.length + 4) = xs.length + pz xs.length + 4 := all_add _; have hE' : pend ps (j + 1) = pend ps j + all (xs.length + 4) := hE; omega
            have HBS := Lib.hid (show btw ps k (j + 1) = (btw ps k j || pend ps (j + 1) == k) from rfl)
            have HCS := Lib.hid (show cnt ps k (j + 1) = if pend ps (j + 1) ≤ k then j + 1 else cnt ps k j from rfl)
            have HE2 := Lib.hid (show ((pend ps (j + 1) : Nat) : Int) = (pend ps j : Nat) + (4 + ((xs.length : Int) + 3) / 4 * 4) by
              have hE' : pend ps (j + 1) = pend ps j + all (xs.length + 4) := hE
              rw [hE']; unfold all; omega)
            have hend : (pend ps j : Int) ≤ 40000 := by have := HELE.out j hj; omega
            clear h3 h5 P o B0 P2 o2 B2 hE hle
            generalize btw ps k j = bj at *
            generalize cnt ps k j = cj at *
            generalize hej : pend ps j = ej at *
            clear hej
            generalize hek : pend ps (j + 1) = ek at *
            have HEK := Lib.hid hek
            clear hek
            go_upto_region 15 with fail
            rw [← HE2.out]
            clear HE2 hend h4 h3' hxl
            by_cases he : ek = k
            · subst he
              have HBN := Lib.hid (show btw ps ek (j + 1) = true by rw [HBS.out]; simp)
              have HCN := Lib.hid (show cnt ps ek (j + 1) = j + 1 by rw [HCS.out, if_pos (Nat.le_refl _)])
              have d1 : ((ek : Int) == (ek : Int)) = true := by simp
              have d2 : decide ((ek : Int) ≤ (ek : Int)) = true := by simp
              clear HBS HCS
              go_wp2
              go_roundw
              case rel => exact ⟨j + 1, by omega, by go_num, by rw [HBN.out], by rw [HEK.out], by rw [HCN.out] <;> go_num, HP2.out, HO2.out, HB2.out⟩
              case measure => simp [intOf]; omega
            · have d1 : ((ek : Int) == (k : Int)) = false := beq_eq_false_iff_ne.2 (by omega)
              have HBN := Lib.hid (show btw ps k (j + 1) = bj by rw [HBS.out, beq_eq_false_iff_ne.2 he, Bool.or_false])
              by_cases hle : ek ≤ k
              · have HCN := Lib.hid (show cnt ps k (j + 1) = j + 1 by rw [HCS.out, if_pos hle])
                have d2 : decide ((ek : Int) ≤ (k : Int)) = true := decide_eq_true (by omega)
                have hgt : ek < k := by omega
                clear HBS HCS he
                go_wp2
                go_roundw
                case rel => exact ⟨j + 1, by omega, by go_num, by rw [HBN.out], by rw [HEK.out], by rw [HCN.out] <;> go_num, HP2.out, HO2.out, HB2.out⟩
                case measure => simp [intOf]; omega
              · have HCN := Lib.hid (show cnt ps k (j + 1) = cj by rw [HCS.out, if_neg hle])
                have d2 : decide ((ek : Int) ≤ (k : Int)) = false := decide_eq_false (by omega)
                have hgt : k < ek := by omega
                clear HBS HCS he hle
                go_wp2
                go_roundw
                case rel => exact ⟨j + 1, by omega, by go_num, by rw [HBN.out], by rw [HEK.out], by rw [HCN.out] , HP2.out, HO2.out, HB2.out⟩
                case measure => simp [intOf]; omega
          · obtain rfl : j = ps.length := by omega
            rw [HBTW.out]
            have hcut := HCUT.out
            have hcl := HCL.out
            generalize cnt ps k ps.length = n at *
            have S2 := SlB.take (SlB.of_own o) hk
            have hkc : k ≤ cs := by
              obtain ⟨A', c', e, q1, q2, q3⟩ := SlB.of_own o
              injection e with e1 _ e3
              subst e3
              omega
            have hnc : n ≤ cap := by have := HLC.out; omega
            have hjl : ¬ ((ps.length : Nat) : Int) < ps.length := by omega
            have hlt2 : (bs.take k).length = k := by simp; omega
            have C := get_calls _ _ _ (bs.take k) wr S2 (isb_take hib k) (by omega)
            have HC := Lib.hid C
            clear C hib o
            generalize hen : pend ps n = en at *
            clear hen
            go_wp2_with fail
            refine HC.out.mono ?_
            rintro e w5 ⟨B5, Bq, cq, rfl, oq⟩
            have B6 := Bl.trans B0 (Bl.low B5 B0.size)
            by_cases hke : k = en
            · rw [if_pos hke] at hcut
              rw [hcut] at oq ⊢
              rw [decide_eq_true hke]
              have Pq := OwnPm.pms oq
              obtain ⟨A1, c1, e, Pc⟩ := Pq
              injection e with e1 e2 e3
              subst e1; subst e3
              have P5 := PmC.take (P.bl B5 B0.size) n
              have hbt : ∀ q ∈ ps.take n, InB q := fun q hq => hb q (List.mem_of_mem_take hq)
              have hnl : (ps.take n).length = n := by simp; omega
              have C := same_calls _ _ _ _ _ a cq cap (ps.take n) (ps.take n) w5 Pc P5 hbt hbt (by omega)
              rw [decide_eq_true rfl, hnl] at C
              rw [hnl]
              have HC2 := Lib.hid C
              have hni : (n : Int) ≤ cap := by omega
              clear C P5 Pc oq hcut hke hbt hnl HC
              go_wp2_with fail
              refine HC2.out.mono ?_
              rintro e w6 ⟨rfl, B7⟩
              go_wp2
              go_ret
              exact ⟨rfl, Bl.trans B6 (Bl.low B7 B6.size)⟩
            · rw [if_neg hke] at hcut
              rw [hcut, decide_eq_false hke]
              clear hcut hke oq HC
              go_wp2
              go_ret
              exact ⟨rfl, B6⟩
      · rw [if_neg hfit] at hr
        subst hr
        go_wp2
        go_ret
        exact ⟨rfl, B0⟩
end Go.Proofs.Ytoknjnaianhjaaa.ParamCuts
