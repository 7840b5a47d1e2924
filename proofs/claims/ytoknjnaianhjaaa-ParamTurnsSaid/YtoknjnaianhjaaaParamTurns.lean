/- The walk of flumelaw05.ParamTurns: true for all parameters, places and bytes. No conditions but the row's own. -/
import Derived.Test.YtoknjnaianhjaaaPrmSee
import Derived.Test.YtoknjnaianhjaaaOwnUp
namespace Go.Proofs.Ytoknjnaianhjaaa.ParamTurns
open Go.RowKit Go.Proofs.Ytoknjnaianhjaaa.Mem Go.Proofs.Ytoknjnaianhjaaa.Octet Go.Proofs.Ytoknjnaianhjaaa.Prm
set_option linter.unusedVariables false
set_option linter.unusedSimpArgs false
set_option maxHeartbeats 4000000 in
set_option maxRecDepth 100000 in
theorem walk (a : Option Addr) (cap len : Nat) (p : Int) (t : Int) (w : World) (hsee : Sees Try.prog w 22 [.slice a len cap]) (hp : (Lit.int .i64 p).wf = true) (ht : (Lit.int .u8 t).wf = true) :
    Calls Try.prog 7 #[.slice a len cap, .int .i64 p, .int .u8 t] w fun e w' => e = .returned (.bool true) ∧ Below w.heap.size w w' := by
  obtain ⟨ps, rfl, P, hb, hlc, hcm⟩ := pm_of_see hsee
  have htr := range_u8 t ht
  have hpl : ps.length ≤ 9223372036854775807 := by unfold maxLen at hcm; omega
  clear hsee hp ht hlc hcm
  by_cases hbig : 20000 < szF ps 0
  · have hd : decide (20000 < szF ps 0) = true := decide_eq_true hbig
    clear hbig
    go_enter Try.func7, Try.ntmps7
    go_wp2_with fail
    refine (first_calls w).mono ?_
    rintro e w0 ⟨rfl, B0⟩
    replace P := P.bl B0 (Nat.le_refl _)
    have hs0 := B0.size
    go_wp2_with fail
    refine (size_calls _ _ a cap ps w0 P hs0 hpl).mono ?_
    rintro e w1 ⟨rfl, B1⟩
    replace P := P.bl B1 hs0
    replace B0 := Bl.trans B0 (Bl.low B1 hs0)
    clear B1
    go_wp2
    go_ret
    exact ⟨rfl, B0⟩
  · have hd : decide (20000 < szF ps 0) = false := decide_eq_false hbig
    by_cases h0 : t = 0
    · have hd2 : (t == 0) = true := by simp [h0]
      clear h0 hbig
      go_enter Try.func7, Try.ntmps7
      go_wp2_with fail
      refine (first_calls w).mono ?_
      rintro e w0 ⟨rfl, B0⟩
      replace P := P.bl B0 (Nat.le_refl _)
      have hs0 := B0.size
      go_wp2_with fail
      refine (size_calls _ _ a cap ps w0 P hs0 hpl).mono ?_
      rintro e w1 ⟨rfl, B1⟩
      replace P := P.bl B1 hs0
      replace B0 := Bl.trans B0 (Bl.low B1 hs0)
      clear B1
      go_wp2
      go_ret
      exact ⟨rfl, B0⟩
    · have hd2 : (t == 0) = false := by simp [h0]
      have hsz := szF_tot ps 0 (by omega)
      have htot : tot ps ≤ 20000 := by omega
      have hpn := tot_len ps
      have hel := tot_enc ps
      have HT0 := Lib.hid h0
      clear h0 hbig hsz
      go_enter Try.func7, Try.ntmps7
      go_wp2_with fail
      refine (first_calls w).mono ?_
      rintro e w0 ⟨rfl, B0⟩
      replace P := P.bl B0 (Nat.le_refl _)
      have hs0 := B0.size
      go_wp2_with fail
      refine (size_calls _ _ a cap ps w0 P hs0 hpl).mono ?_
      rintro e w1 ⟨rfl, B1⟩
      replace P := P.bl B1 hs0
      replace B0 := Bl.trans B0 (Bl.low B1 hs0)
      clear B1
      go_wp2_with fail
      refine (put_calls _ _ a cap ps w1 P B0.size hb (by omega) (by omega)).mono ?_
      rintro e w2 ⟨B2, hr⟩
      have hs1 := B0.size
      replace P := P.bl B2 B0.size
      replace B0 := Bl.trans B0 (Bl.low B2 B0.size)
      by_cases hfit : allFit ps = true
      · rw [if_pos hfit] at hr
        obtain ⟨Bs, cs, rfl, o⟩ := hr
        have hib : IsB (enc ps) := isb_enc (fit_of hb hfit)
        have HP := Lib.hid (fun bs (h1 : IsB bs) (h2 : bs ≠ enc ps) (h3 : (dec bs).2 = 0) => show decide ((dec bs).1 = ps) = false from decide_eq_false (fun e => h2 (by
          have := (enc_dec bs.length bs (Nat.le_refl _) h1 h3).2
          rw [e] at this
          exact this.symm)))
        generalize enc ps = bs at *
        by_cases hz : bs.length = 0
        · have hz2 : ((bs.length : Int) == 0) = true := by simp [hz]
          clear hz hel
          go_wp2
          go_ret
          exact ⟨rfl, B0⟩
        · have hz2 : ((bs.length : Int) == 0) = false := beq_eq_false_iff_ne.2 (by omega)
          obtain ⟨k, hkl, hkv⟩ : ∃ k : Nat, k < bs.length ∧ wrap64 ((IntKind.u64.wrap p).tmod (bs.length : Int)) = (k : Int) := by
            have := um_range p (bs.length : Int) (by omega) (by omega)
            unfold um at this
            exact ⟨(wrap64 ((IntKind.u64.wrap p).tmod (bs.length : Int))).toNat, by omega, by omega⟩
          obtain ⟨ad, rfl, hcx, hfx, hbx, hst⟩ := own_upd o k hkl
          have hx := isb_getD hib k
          have hX := xor_b (bs.getD k 0) t hx htr
          have HI := Lib.hid (isb_xor hib k t htr)
          have HNE := Lib.hid (set_xor_ne hib hkl htr.1 HT0.out)
          have HST := Lib.hid (hst (((bs.getD k 0).toNat ^^^ t.toNat : Nat) : Int))
          have hkd : (k : Int) < bs.length := by omega
          have hf : Fr (OfV (.slice (some ad) bs.length cs)) w2 (w2.setCell (ad.add k) (.int .u8 (((bs.getD k 0).toNat ^^^ t.toNat : Nat) : Int))) := (Fr.refl _ _).setCell (.inl (by show some ad.block = some (ad.add k).block; rw [add_block])) _
          have HF := Lib.hid hf
          have hbl : bs.length ≤ 1000000 := by omega
          have HOG := Lib.hid (fun k hk => OwnB.ge o k hk)
          clear hst hf o hel hz htot hpn hx htr
          generalize (((bs.getD k 0).toNat ^^^ t.toNat : Nat) : Int) = y at *
          generalize bs.getD k 0 = x at *
          go_wp2_with fail
          have f3 := HF.out
          have o3 := HST.out
          generalize w2.setCell (ad.add k) (.int .u8 y) = w3 at f3 o3 ⊢
          have hsep : ∀ b, 0 ≤ b → b < w.heap.size → ¬ OfV (.slice (some ad) bs.length cs) b := fun b _ h3 h4 => by
            have := HOG.out b h4
            omega
          replace P := P.fr f3 hsep
          replace B0 := Bl.trans B0 (Bl.of_fr f3 B0.size (fun b h4 => by have := HOG.out b h4; omega))
          have S3 := SlB.of_own o3
          have hl3 : (bs.set k y).length = bs.length := by simp
          have HX := HP.out (bs.set k y) HI.out HNE.out
          clear HF HST f3
          generalize bs.set k y = zs at *
          rw [← hl3]
          rw [← hl3] at S3
          refine (get_calls _ _ _ zs w3 S3 HI.out (by omega)).mono ?_
          rintro e w4 ⟨B4, Bq, cq, rfl, oq⟩
          by_cases he : (dec zs).2 = 0
          · have HS := HX he
            have Pq := OwnPm.pms oq
            obtain ⟨A1, c1, e, Pc⟩ := Pq
            injection e with e1 e2 e3
            subst e1; subst e3
            have hbq : ∀ q ∈ (dec zs).1, InB q := fun q hq => by
              have := (enc_dec zs.length zs (Nat.le_refl _) HI.out he).1 q hq
              exact ⟨this.1, this.2.1, this.2.2.1⟩
            have hql : (dec zs).1.length ≤ 9223372036854775807 := by
              have h1 := (enc_dec zs.length zs (Nat.le_refl _) HI.out he).2
              have h2 := enc_len_le (dec zs).1
              rw [h1] at h2
              omega
            rw [he]
            have P4 := P.bl B4 B0.size
            have C := same_calls _ _ _ _ _ a cq cap (dec zs).1 ps w4 Pc P4 hbq hb hql
            rw [HS] at C
            have HC := Lib.hid C
            have B5 := Bl.trans B0 (Bl.low B4 B0.size)
            clear C HS hbq hql P4 Pc oq he HX hl3 S3 hkv
            generalize (dec zs).1.length = nq at *
            go_wp2_with fail
            refine HC.out.mono ?_
            rintro e w5 ⟨rfl, B6⟩
            go_wp2
            go_ret
            exact ⟨rfl, Bl.trans B5 (Bl.low B6 B5.size)⟩
          · have hb2 := dec_bad he
            rw [hb2]
            have he2 : ((dec zs).2 != 0) = true := by simpa using he
            have B5 := Bl.trans B0 (Bl.low B4 B0.size)
            clear HX he hb2 oq S3 hl3 hkv
            generalize (dec zs).2 = ee at *
            go_wp2
            go_ret
            exact ⟨rfl, B5⟩
      · rw [if_neg hfit] at hr
        subst hr
        go_wp2
        go_ret
        exact ⟨rfl, B0⟩
end Go.Proofs.Ytoknjnaianhjaaa.ParamTurns
