/- The walk of flumelaw05.ParamPuts: true for all parameters. No conditions but the row's own. -/
import Derived.Test.YtoknjnaianhjaaaPrmRPut
import Derived.Test.YtoknjnaianhjaaaPrmSee
import Derived.Test.YtoknjnaianhjaaaOwnUp
namespace Go.Proofs.Ytoknjnaianhjaaa.ParamPuts
open Go.RowKit Go.Proofs.Ytoknjnaianhjaaa.Mem Go.Proofs.Ytoknjnaianhjaaa.Octet Go.Proofs.Ytoknjnaianhjaaa.Prm
set_option linter.unusedVariables false
set_option linter.unusedSimpArgs false
set_option maxHeartbeats 4000000 in
set_option maxRecDepth 100000 in
theorem walk (a : Option Addr) (cap len : Nat) (w : World) (hsee : Sees Try.prog w 22 [.slice a len cap]) :
    Calls Try.prog 3 #[.slice a len cap] w fun e w' => e = .returned (.bool true) ∧ Below w.heap.size w w' := by
  obtain ⟨ps, rfl, P, hb, hlc, hcm⟩ := pm_of_see hsee
  have hpl : ps.length ≤ 9223372036854775807 := by unfold maxLen at hcm; omega
  clear hsee hcm hlc
  by_cases hbig : 100000 < szF ps 0
  · have hd : decide (100000 < szF ps 0) = true := decide_eq_true hbig
    clear hbig
    go_enter Try.func3, Try.ntmps3
    go_wp2_with fail
    refine (first_calls w).mono ?_
    rintro e w0 ⟨rfl, B0⟩
    replace P := P.bl B0 (Nat.le_refl _)
    have hs0 := B0.size
    go_wp2_with fail
    refine (size_calls _ _ a cap ps w0 P hs0 hpl).mono ?_
    rintro e w1 ⟨rfl, B1⟩
    replace P := P.bl B1 hs0
    replace B0 := Bl.trans B0 (Bl.low B1 hs0)
    clear B1
    go_wp2
    go_ret
    exact ⟨rfl, B0⟩
  · have hd : decide (100000 < szF ps 0) = false := decide_eq_false hbig
    have hsz := szF_tot ps 0 (by omega)
    have htot : tot ps ≤ 100000 := by omega
    have hel := tot_len ps
    have hen := tot_enc ps
    have hxl : ∀ p ∈ ps, p.2.length ≤ 1000000 := fun p hp => by have := tot_mem hp; omega
    clear hbig hsz
    go_enter Try.func3, Try.ntmps3
    go_wp2_with fail
    refine (first_calls w).mono ?_
    rintro e w0 ⟨rfl, B0⟩
    replace P := P.bl B0 (Nat.le_refl _)
    have hs0 := B0.size
    go_wp2_with fail
    refine (size_calls _ _ a cap ps w0 P hs0 hpl).mono ?_
    rintro e w1 ⟨rfl, B1⟩
    replace P := P.bl B1 hs0
    replace B0 := Bl.trans B0 (Bl.low B1 hs0)
    clear B1
    have hn : ps.length ≤ 25000 := by omega
    have henl : (enc ps).length ≤ 200000 := by omega
    go_wp2_with fail
    refine (copy_calls _ _ a cap ps w1 P B0.size (by omega) hxl).mono ?_
    rintro e w2 ⟨Bo, co, rfl, O, B2⟩
    replace P := P.bl B2 B0.size
    have hs1 := B0.size
    replace B0 := Bl.trans B0 (Bl.low B2 B0.size)
    obtain ⟨A1, c1, e1, PO⟩ := O.pms
    injection e1 with e11 _ e13
    subst e11; subst e13
    clear O B2 htot hel hen hxl
    have hs2 := B0.size
    by_cases hall : allFit ps = true
    · have CP := put_calls _ _ Bo co ps w2 PO (Nat.le_refl _) hb (by omega) (by omega)
      unfold PutR at CP
      simp only [hall, if_true] at CP
      have HCP := Lib.hid CP
      clear CP
      go_wp2_with fail
      refine HCP.out.mono ?_
      rintro e w3 ⟨B3, Bb, cb, rfl, ob⟩
      clear HCP
      replace P := P.bl B3 hs2
      replace PO := PO.bl B3 (Nat.le_refl _)
      replace B0 := Bl.trans B0 (Bl.low B3 hs2)
      have hs3 := B3.size
      clear B3
      have CR := rput_calls _ _ a cap ps w3 P B0.size hb (by omega) (by omega)
      unfold RPutR at CR
      simp only [hall, if_true] at CR
      have HCR := Lib.hid CR
      clear CR
      go_wp2_with fail
      refine HCR.out.mono ?_
      rintro e w4 ⟨B4, Bw, cw, rfl, ow⟩
      clear HCR
      have hs4 := B4.size
      replace P := P.bl B4 B0.size
      replace PO := PO.bl B4 (by omega)
      replace ob := OwnB.fr ob (S := nothing) (Fr.of_below B4) (fun _ _ h => h)
      replace B0 := Bl.trans B0 (Bl.low B4 B0.size)
      clear B4
      have CS := same_calls _ _ _ _ Bo a co cap ps ps w4 PO P hb hb (by omega)
      rw [decide_eq_true rfl] at CS
      have HCS := Lib.hid CS
      clear CS
      go_wp2_with fail
      refine HCS.out.mono ?_
      rintro e w5 ⟨rfl, B5⟩
      clear HCS PO
      have hs5 := B5.size
      replace P := P.bl B5 B0.size
      replace ob := OwnB.fr ob (S := nothing) (Fr.of_below B5) (fun _ _ h => h)
      replace ow := OwnB.fr ow (S := nothing) (Fr.of_below B5) (fun _ _ h => h)
      replace B0 := Bl.trans B0 (Bl.low B5 B0.size)
      have hfit := fit_of hb hall
      have hie := isb_enc hfit
      have hda := dec_all hfit
      have hblt : ∀ k, (Value.slice Bb (enc ps).length cb).ownBlock = some k → k < w5.heap.size := fun k hk => OwnB.lt ob k hk
      have CG := get_calls _ _ _ (enc ps) w5 (SlB.of_own ob) hie (by omega)
      unfold GetR at CG
      rw [hda] at CG
      have tb := slb_str (SlB.of_own ob)
      have tw := slb_str (SlB.of_own ow)
      have HCG := Lib.hid CG
      have HBL := Lib.hid hblt
      clear CG B5 ow hda hie hfit hblt hall
      generalize enc ps = bs at *
      go_wp2_with fail
      refine HCG.out.mono ?_
      rintro e w6 ⟨B6, Bq, cq, rfl, Oq⟩
      clear HCG tb tw
      have hs6 := B6.size
      replace P := P.bl B6 B0.size
      replace ob := OwnB.fr ob (S := nothing) (Fr.of_below B6) (fun _ _ h => h)
      have hs05 := B0.size
      replace B0 := Bl.trans B0 (Bl.low B6 B0.size)
      obtain ⟨A8, c8, e8, PQ⟩ := Oq.pms
      injection e8 with e81 _ e83
      subst e81; subst e83
      clear Oq B6
      go_wp2_with fail
      go_loopw [57] (fun i wi => ∃ (k : Nat) (ys : List Int), k ≤ bs.length ∧ i = .int .i64 k ∧ OwnB wi w2.heap.size 5 (.slice Bb bs.length cb) ys ∧ PmC wi 0 w.heap.size a ps ∧ PmC wi w5.heap.size w6.heap.size Bq ps ∧ Below w.heap.size w wi) (fun i _ => bs.length - (intOf i).toNat)
      case atStart => exact ⟨0, bs, Nat.zero_le _, rfl, ob, P, PQ, B0⟩
      case round =>
        clear ob P PQ B0
        obtain ⟨k, ys, hk, rfl, oi, P, PQ, B0⟩ := hrel
        by_cases hlt : k < bs.length
        · obtain ⟨ad, rfl, hcx, hfx, hbx, hst⟩ := own_upd oi k hlt
          have hbx' := hbx
          rw [add_block] at hbx'
          have hb5 : ad.block < w5.heap.size := HBL.out _ rfl
          have HST := Lib.hid hst
          have HFR := Lib.hid (fun y => show Fr (OfV (.slice (some ad) bs.length cb)) wr (wr.setCell (ad.add k) (.int .u8 y)) from (Fr.refl _ _).setCell (.inl (by show some ad.block = some (ad.add k).block; rw [add_block])) _)
          have hkl : (k : Int) < bs.length := by omega
          have HP := Lib.hid P
          have HPO := Lib.hid PQ
          have HB0 := Lib.hid B0
          clear hst oi P PQ B0
          go_wp2
          go_roundw
          case rel =>
            have f := HFR.out (bits .xor .u8 (ys.getD k 0) 255)
            exact ⟨k + 1, _, by omega, by go_num, HST.out _, HP.out.fr f (fun b _ h2 h => by have e : ad.block = b := Option.some.inj h; omega), HPO.out.fr f (fun b h1 h2 h => by have e : ad.block = b := Option.some.inj h; omega),
              Bl.trans HB0.out (Bl.of_fr f HB0.out.size (fun b h => by have e : ad.block = b := Option.some.inj h; omega))⟩
          case measure => simp [intOf]; omega
        · have hkl : ¬ (k : Int) < bs.length := by omega
          have CS := same_calls _ _ _ _ Bq a cq cap ps ps wr PQ P hb hb (by omega)
          rw [decide_eq_true rfl] at CS
          have HCS := Lib.hid CS
          clear CS
          go_wp2_with fail
          refine HCS.out.mono ?_
          rintro e w7 ⟨rfl, B7⟩
          go_wp2
          go_ret
          exact ⟨rfl, Bl.trans B0 (Bl.low B7 B0.size)⟩
    · have hall' : allFit ps = false := by simpa using hall
      have CP := put_calls _ _ Bo co ps w2 PO (Nat.le_refl _) hb (by omega) (by omega)
      unfold PutR at CP
      simp only [hall', Bool.false_eq_true, if_false] at CP
      have HCP := Lib.hid CP
      clear CP hall
      go_wp2_with fail
      refine HCP.out.mono ?_
      rintro e w3 ⟨B3, rfl⟩
      clear HCP
      replace P := P.bl B3 hs2
      replace PO := PO.bl B3 (Nat.le_refl _)
      replace B0 := Bl.trans B0 (Bl.low B3 hs2)
      have hs3 := B3.size
      clear B3
      have CR := rput_calls _ _ a cap ps w3 P B0.size hb (by omega) (by omega)
      unfold RPutR at CR
      simp only [hall', Bool.false_eq_true, if_false] at CR
      have HCR := Lib.hid CR
      clear CR
      go_wp2_with fail
      refine HCR.out.mono ?_
      rintro e w4 ⟨B4, rfl⟩
      clear HCR
      replace P := P.bl B4 B0.size
      replace PO := PO.bl B4 hs3
      replace B0 := Bl.trans B0 (Bl.low B4 B0.size)
      clear B4
      have CS := same_calls _ _ _ _ Bo a co cap ps ps w4 PO P hb hb (by omega)
      rw [decide_eq_true rfl] at CS
      have HCS := Lib.hid CS
      clear CS
      go_wp2_with fail
      refine HCS.out.mono ?_
      rintro e w5 ⟨rfl, B5⟩
      go_wp2
      go_ret
      exact ⟨rfl, Bl.trans B0 (Bl.low B5 B0.size)⟩
end Go.Proofs.Ytoknjnaianhjaaa.ParamPuts
