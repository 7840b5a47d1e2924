/- The walk of flumelaw05.ParamFinds: true for all parameters and kinds. No conditions but the row's own. -/
import Derived.Test.YtoknjnaianhjaaaPrmSee
import Derived.Test.YtoknjnaianhjaaaPrmCopy
import Derived.Test.YtoknjnaianhjaaaOwnUp
namespace Go.Proofs.Ytoknjnaianhjaaa.ParamFinds
open Go.RowKit Go.Proofs.Ytoknjnaianhjaaa.Mem Go.Proofs.Ytoknjnaianhjaaa.Octet Go.Proofs.Ytoknjnaianhjaaa.Prm
set_option linter.unusedVariables false
set_option linter.unusedSimpArgs false
/-- The bytes of the first parameter of a kind, and whether there is one. -/
def fnd (k : Int) : List Pm → List Int × Bool
  | [] => ([], false)
  | p :: ps => if p.1 = k then (p.2, true) else fnd k ps
theorem fnd_len (k : Int) (ps : List Pm) : (fnd k ps).1.length ≤ tot ps := by
  induction ps with
  | nil => simp [fnd, tot]
  | cons p ps ih =>
    unfold fnd
    split
    · simp only [tot]; omega
    · simp only [tot]; omega
set_option maxHeartbeats 2000000 in
theorem find_calls (lo hi : Nat) (A : Option Addr) (c : Nat) (ps : List Pm) (kk : Int) (w : World) (h : PmC w lo hi A ps) (hhi : hi ≤ w.heap.size) (hn : ps.length ≤ 1000000) (hx : ∀ p ∈ ps, p.2.length ≤ 1000000) :
    Calls Try.prog 17 #[.slice A ps.length c, .int .u16 kk] w fun e w' => ∃ B c', e = .returned (.tuple #[.slice B (fnd kk ps).1.length c', .bool (fnd kk ps).2]) ∧ OwnB w' w.heap.size 5 (.slice B (fnd kk ps).1.length c') (fnd kk ps).1 ∧ Below w.heap.size w w' := by
  have hup := Try.underlying43
  go_enter Try.func17, Try.ntmps17
  go_wp2_with fail
  go_loopw [10] (fun i wr => ∃ k : Nat, k ≤ ps.length ∧ i = .int .i64 k ∧ fnd kk ps = fnd kk (ps.drop k) ∧ PmC wr lo hi A ps ∧ Below w.heap.size w wr) (fun i _ => ps.length - (intOf i).toNat)
  case atStart => exact ⟨0, Nat.zero_le _, rfl, rfl, h, Below.refl _ _⟩
  case round =>
    clear h
    obtain ⟨k, hk, rfl, hf, P, B⟩ := hrel
    have HF := Lib.hid hf
    clear hf
    by_cases hlt : k < ps.length
    · obtain ⟨ad, s, rfl, h1, h2, h3, h4, h5⟩ := P k hlt
      have hxl := hx _ (List.getElem_mem hlt)
      have HD := Lib.hid (show fnd kk ps = fnd kk (ps[k] :: ps.drop (k + 1)) by rw [HF.out, List.drop_eq_getElem_cons hlt])
      generalize ps[k] = p at h3 h5 HD hxl
      obtain ⟨uu, xs⟩ := p
      replace hxl : xs.length ≤ 1000000 := hxl
      obtain ⟨As, cs, rfl⟩ := sl_shape h5
      rw [add_add_ _ _ _ (by decide)] at h4
      have h3' : wr.cell? (ad.add (k * 2)) = some (.int .u16 uu) := h3
      have hkl : (k : Int) < ps.length := by omega
      have S2 := SlB.fr h5 (S := nothing) ((Fr.refl _ wr).alloc (.cells #[.int .u16 uu, .slice As xs.length cs] 43)) (fun _ _ _ h => h)
      have P2 := P.fr (S := nothing) ((Fr.refl _ wr).alloc (.cells #[.int .u16 uu, .slice As xs.length cs] 43)) (fun _ _ _ h => h)
      have B2 := B.alloc B.size (.cells #[.int .u16 uu, .slice As xs.length cs] 43)
      have HP2 := Lib.hid P2
      have HB2 := Lib.hid B2
      have HS2 := Lib.hid S2
      have HWS := Lib.hid B.size
      clear h3 h5 P2 B2 P B HF S2
      by_cases hu : uu = kk
      · have hd : (uu == kk) = true := by simpa using hu
        have HX := Lib.hid (show fnd kk ps = (xs, true) by rw [HD.out, fnd, if_pos hu])
        clear hu HD
        go_wp2_with fail
        refine (clone_calls _ _ _ xs _ HS2.out (by omega)).mono ?_
        rintro e w2 ⟨v', rfl, o, B3⟩
        obtain ⟨Bc, cc, rfl, -, -⟩ := OwnB.slice o
        go_wp2
        go_ret2
        rw [HX.out]
        exact ⟨Bc, cc, rfl, OwnB.low o (by have := HWS.out; simp; omega), Bl.trans HB2.out (Bl.low B3 HB2.out.size)⟩
      · have hd : (uu == kk) = false := by simpa using hu
        have HX := Lib.hid (show fnd kk ps = fnd kk (ps.drop (k + 1)) by rw [HD.out, fnd, if_neg hu])
        clear hu HD
        go_wp2
        go_roundw
        case rel => exact ⟨k + 1, by omega, by go_num, HX.out, HP2.out, HB2.out⟩
        case measure => simp [intOf]; omega
    · obtain rfl : k = ps.length := by omega
      have HX := Lib.hid (show fnd kk ps = ([], false) by rw [HF.out, List.drop_length]; rfl)
      have hkl : ¬ ((ps.length : Nat) : Int) < ps.length := by omega
      go_wp2
      go_ret2
      rw [HX.out]
      exact ⟨none, 0, rfl, OwnB.nil _ _ _, B⟩
set_option maxHeartbeats 4000000 in
set_option maxRecDepth 100000 in
theorem walk (a : Option Addr) (cap len : Nat) (kk : Int) (w : World) (hsee : Sees Try.prog w 22 [.slice a len cap]) (hp : (Lit.int .u16 kk).wf = true) :
    Calls Try.prog 8 #[.slice a len cap, .int .u16 kk] w fun e w' => e = .returned (.bool true) ∧ Below w.heap.size w w' := by
  obtain ⟨ps, rfl, P, hb, hlc, hcm⟩ := pm_of_see hsee
  have hup := Try.underlying43
  have hpl : ps.length ≤ 9223372036854775807 := by unfold maxLen at hcm; omega
  clear hsee hp hcm hlc
  by_cases hbig : 100000 < szF ps 0
  · have hd : decide (100000 < szF ps 0) = true := decide_eq_true hbig
    clear hbig
    go_enter Try.func8, Try.ntmps8
    go_wp2_with fail
    refine (first_calls w).mono ?_
    rintro e w0 ⟨rfl, B0⟩
    replace P := P.bl B0 (Nat.le_refl _)
    have hs0 := B0.size
    go_wp2_with fail
    refine (size_calls _ _ a cap ps w0 P hs0 hpl).mono ?_
    rintro e w1 ⟨rfl, B1⟩
    replace P := P.bl B1 hs0
    replace B0 := Bl.trans B0 (Bl.low B1 hs0)
    clear B1
    go_wp2
    go_ret
    exact ⟨rfl, B0⟩
  · have hd : decide (100000 < szF ps 0) = false := decide_eq_false hbig
    have hsz := szF_tot ps 0 (by omega)
    have htot : tot ps ≤ 100000 := by omega
    have hel := tot_len ps
    have hxl : ∀ p ∈ ps, p.2.length ≤ 1000000 := fun p hp => by have := tot_mem hp; omega
    clear hbig hsz
    go_enter Try.func8, Try.ntmps8
    go_wp2_with fail
    refine (first_calls w).mono ?_
    rintro e w0 ⟨rfl, B0⟩
    replace P := P.bl B0 (Nat.le_refl _)
    have hs0 := B0.size
    go_wp2_with fail
    refine (size_calls _ _ a cap ps w0 P hs0 hpl).mono ?_
    rintro e w1 ⟨rfl, B1⟩
    replace P := P.bl B1 hs0
    replace B0 := Bl.trans B0 (Bl.low B1 hs0)
    clear B1
    have hn : ps.length ≤ 25000 := by omega
    go_wp2_with fail
    refine (copy_calls _ _ a cap ps w1 P B0.size (by omega) hxl).mono ?_
    rintro e w2 ⟨Bo, co, rfl, O, B2⟩
    replace P := P.bl B2 B0.size
    have hs1 := B0.size
    replace B0 := Bl.trans B0 (Bl.low B2 B0.size)
    obtain ⟨A1, c1, e1, PO⟩ := O.pms
    injection e1 with e11 _ e13
    subst e11; subst e13
    go_wp2_with fail
    refine (find_calls _ _ Bo co ps kk w2 PO (Nat.le_refl _) (by omega) hxl).mono ?_
    rintro e w3 ⟨Bf, cf, rfl, of_, B3⟩
    have hs2 := B0.size
    have hfl := fnd_len kk ps
    replace P := P.bl B3 B0.size
    replace PO := PO.bl B3 (Nat.le_refl _)
    replace B0 := Bl.trans B0 (Bl.low B3 B0.size)
    have HTOT := Lib.hid htot
    clear O B2 B3 hpl hd hxl hel htot
    go_wp2_with fail
    go_loopw [8, 9, 10] (fun sv bv i wr => ∃ m : Nat, m ≤ ps.length ∧ i = .int .i64 ((m : Int) - 1) ∧ sv = .string (bstr (fnd kk (ps.drop m)).1) ∧ bv = .bool (fnd kk (ps.drop m)).2 ∧ wr = w3) (fun _ _ i _ => (intOf i + 1).toNat)
    case atStart => exact ⟨ps.length, Nat.le_refl _, rfl, by rw [List.drop_length]; rfl, by rw [List.drop_length]; rfl, rfl⟩
    case round =>
      obtain ⟨m, hm, rfl, rfl, rfl, rfl⟩ := hrel
      rcases m with _ | j
      · have HX := Lib.hid (show fnd kk (ps.drop 0) = fnd kk ps from rfl)
        rw [HX.out]
        generalize fnd kk ps = fx at *
        obtain ⟨xs, b⟩ := fx
        replace hfl : xs.length ≤ tot ps := hfl
        have hxs : xs.length ≤ 200000 := by have := HTOT.out; omega
        clear HX hfl
        have tx := slb_str (SlB.of_own of_)
        rw [show (((0 : Nat) : Int) - 1) = -1 by decide]
        go_wp2_with fail
        go_loopw [56] (fun i wi => ∃ (k : Nat) (ys : List Int), k ≤ xs.length ∧ i = .int .i64 k ∧ OwnB wi w2.heap.size 5 (.slice Bf xs.length cf) ys ∧ PmC wi 0 w.heap.size a ps ∧ PmC wi w1.heap.size w2.heap.size Bo ps ∧ Below w.heap.size w wi) (fun i _ => xs.length - (intOf i).toNat)
        case atStart => exact ⟨0, xs, Nat.zero_le _, rfl, of_, P, PO, B0⟩
        case round =>
          clear of_ P PO B0
          obtain ⟨k, ys, hk, rfl, oi, P, PO, B0⟩ := hrel
          by_cases hlt : k < xs.length
          · obtain ⟨ad, rfl, hcx, hfx, hbx, hst⟩ := own_upd oi k hlt
            have hbx' := hbx
            rw [add_block] at hbx'
            have HST := Lib.hid hst
            have HFR := Lib.hid (fun y => show Fr (OfV (.slice (some ad) xs.length cf)) wr (wr.setCell (ad.add k) (.int .u8 y)) from (Fr.refl _ _).setCell (.inl (by show some ad.block = some (ad.add k).block; rw [add_block])) _)
            have hkl : (k : Int) < xs.length := by omega
            have HP := Lib.hid P
            have HPO := Lib.hid PO
            have HB0 := Lib.hid B0
            clear hst oi P PO B0 tx
            go_wp2
            go_roundw
            case rel =>
              have f := HFR.out (bits .xor .u8 (ys.getD k 0) 255)
              exact ⟨k + 1, _, by omega, by go_num, HST.out _, HP.out.fr f (fun b _ h2 h => by have e : ad.block = b := Option.some.inj h; omega), HPO.out.fr f (fun b _ h2 h => by have e : ad.block = b := Option.some.inj h; omega),
                Bl.trans HB0.out (Bl.of_fr f HB0.out.size (fun b h => by have e : ad.block = b := Option.some.inj h; omega))⟩
            case measure => simp [intOf]; omega
          · have hkl : ¬ (k : Int) < xs.length := by omega
            have CS := same_calls _ _ _ _ Bo a co cap ps ps wr PO P hb hb (by omega)
            rw [decide_eq_true rfl] at CS
            have HCS := Lib.hid CS
            clear CS tx
            go_wp2_with fail
            refine HCS.out.mono ?_
            rintro e w6 ⟨rfl, B6⟩
            go_wp2
            go_ret
            exact ⟨rfl, Bl.trans B0 (Bl.low B6 B0.size)⟩
      · have hlt : j < ps.length := by omega
        obtain ⟨ad, s, rfl, h1, h2, h3, h4, h5⟩ := P j hlt
        have HD := Lib.hid (show fnd kk (ps.drop j) = fnd kk (ps[j] :: ps.drop (j + 1)) by rw [List.drop_eq_getElem_cons hlt])
        generalize ps[j] = q at h3 h5 HD
        obtain ⟨uu, xs⟩ := q
        obtain ⟨As, cs, rfl⟩ := sl_shape h5
        rw [add_add_ _ _ _ (by decide)] at h4
        have h3' : wr.cell? (ad.add (j * 2)) = some (.int .u16 uu) := h3
        have tx := slb_str h5
        replace tx : (convert 26 9 (.slice As xs.length cs)).run Try.prog wr = .ok (.string (bstr xs)) wr := tx
        rw [show (((j + 1 : Nat) : Int) - 1) = (j : Int) by omega]
        have hjl : (j : Int) < ps.length := by omega
        have hjn : (j : Int) ≤ 25000 := by omega
        generalize hfx : fnd kk (ps.drop (j + 1)) = fx at *
        have HFX := Lib.hid hfx
        clear hfx
        clear h3 h5 P PO of_ B0
        by_cases hu : uu = kk
        · have hd : (uu == kk) = true := by simpa using hu
          have HX := Lib.hid (show fnd kk (ps.drop j) = (xs, true) by rw [HD.out, fnd, if_pos hu])
          clear hu HD
          go_wp2
          go_roundw
          case rel => exact ⟨j, by omega, rfl, by rw [HX.out], by rw [HX.out], by first | rfl | trivial⟩
          case measure => (simp [intOf]) <;> omega
        · have hd : (uu == kk) = false := by simpa using hu
          have HX := Lib.hid (show fnd kk (ps.drop j) = fx by rw [HD.out, fnd, if_neg hu, HFX.out])
          clear hu HD
          go_wp2
          go_roundw
          case rel => exact ⟨j, by omega, rfl, by rw [HX.out], by rw [HX.out], by first | rfl | trivial⟩
          case measure => (simp [intOf]) <;> omega
end Go.Proofs.Ytoknjnaianhjaaa.ParamFinds
