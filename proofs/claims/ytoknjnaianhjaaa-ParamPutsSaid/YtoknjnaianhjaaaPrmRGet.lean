/- Contract of flumeref05.Get. Conditions: each names its blocks and the bounds. -/
import Derived.Test.YtoknjnaianhjaaaPrmCopy
namespace Go.Proofs.Ytoknjnaianhjaaa.Prm
open Go.RowKit Go.Proofs.Ytoknjnaianhjaaa.Mem Go.Proofs.Ytoknjnaianhjaaa.Octet
set_option linter.unusedVariables false
set_option linter.unusedSimpArgs false
theorem at_drop (bs : List Int) (p i : Nat) : at_ (bs.drop p) i = at_ bs (p + i) := by
  unfold at_
  simp [List.getD, List.getElem?_drop]
theorem at_get (bs : List Int) (i : Nat) (h : i < bs.length) : at_ bs i = bs[i] := by
  unfold at_
  simp [h]
theorem addr_suc (a : Addr) (i j : Nat) (hj : 0 < j := by decide) : a.add (i + j) = ⟨a.block, a.off + (i + j), none⟩ := by
  unfold Addr.add
  rw [if_neg (by omega)]
theorem add_name (p n : Nat) (h : p + n < 9223372036854775808) : ∃ z : Nat, wrap64 ((p : Int) + (n : Int)) = (z : Int) ∧ z = p + n := ⟨p + n, by unfold wrap64; omega, rfl⟩
theorem Fr.cell_ {w w' : World} (f : Fr nothing w w') {p : Addr} (hp : p.block < w.heap.size) : w'.cell? p = w.cell? p := World.cell?_of_block (f.block _ hp id)
theorem meas_ (d k : Nat) (h : k < d) : d - (intOf (.int .i64 ((k : Int) + 1))).toNat < d - (intOf (.int .i64 (k : Int))).toNat := by
  show d - ((k : Int) + 1).toNat < d - (k : Int).toNat
  omega
theorem meas2_ (d k h : Nat) (e : d - h < d - k) : d - (intOf (.int .i64 (h : Int))).toNat < d - (intOf (.int .i64 (k : Int))).toNat := e
theorem wr64 (x : Int) (h : 0 ≤ x ∧ x < 9223372036854775808) : IntKind.i64.wrap x = x := by rw [IntKind.wrap_i64]; omega
set_option maxHeartbeats 4000000 in
set_option maxRecDepth 100000 in
theorem rget_calls (lo hi : Nat) (A : Option Addr) (c : Nat) (bs : List Int) (w : World) (h : SlB w lo hi (.slice A bs.length c) bs) (hhi : hi ≤ w.heap.size) (hb : IsB bs) (hlen : bs.length ≤ 1000000) :
    Calls Try.prog 16 #[.slice A bs.length c] w fun e w' => ∃ B c', e = .returned (.tuple #[.slice B (dec bs).1.length c', .int .i64 (dec bs).2]) ∧ OwnPm w' w.heap.size (.slice B (dec bs).1.length c') (dec bs).1 ∧ Below w.heap.size w w' := by
  have hup := Try.underlying43
  obtain ⟨ib, hib, hbz0, hbz1, hbz2⟩ := info_parts info_b
  obtain ⟨i0, hi0, hz0, hz1, hz2⟩ := info_parts info_p
  go_enter Try.func16, Try.ntmps16
  go_wp2_with fail
  go_loopw [4, 5] (fun v i wr => ∃ (p : Nat) (ps : List Pm), p ≤ bs.length ∧ i = .int .i64 p ∧ dec bs = comb ps (dec (bs.drop p)) ∧ ps.length * 4 ≤ p ∧ OwnPm wr w.heap.size v ps ∧ SlB wr lo hi (.slice A bs.length c) bs ∧ Below w.heap.size w wr) (fun _ i _ => bs.length - (intOf i).toNat)
  case atStart => exact ⟨0, [], Nat.zero_le _, rfl, (comb_nil _ dec_bad).symm, Nat.zero_le _, OwnPm.nil _ _, h, Below.refl _ _⟩
  case round =>
    clear h
    obtain ⟨p, ps, hp, rfl, hdec, hpl, O, X, B⟩ := hrel
    have HDEC := Lib.hid hdec
    clear hdec
    by_cases hlt : p < bs.length
    · have hpl1 : (p : Int) < bs.length := by omega
      have hne : bs.drop p ≠ [] := by intro e; have := congrArg List.length e; rw [List.length_drop] at this; simp at this; omega
      have hdl : (bs.drop p).length = bs.length - p := by simp
      by_cases h4 : bs.length - p < 4
      · have HD := Lib.hid (show dec bs = ([], 40) by rw [HDEC.out, dec_err hne (show one (bs.drop p) = .error 40 by unfold one; rw [if_pos (by omega)]), comb_err _ _ (by decide)])
        have hd4 : (bs.length : Int) - p < 4 := by omega
        clear h4 hne hdl
        go_wp2
        go_ret2
        rw [HD.out]
        exact ⟨none, 0, rfl, OwnPm.nil _ _, B⟩
      · have hd4 : ¬ (bs.length : Int) - p < 4 := by omega
        obtain ⟨A', c', e5, g1, g2, g3, g4⟩ := X
        injection e5 with e5 elen e6
        clear elen
        subst e5; subst e6
        obtain ⟨ad, rfl, c0⟩ := g4.at_ p hlt
        obtain ⟨ad1, e1, c1⟩ := g4.at_ (p + 1) (by omega)
        obtain ⟨ad2, e2, c2⟩ := g4.at_ (p + 2) (by omega)
        obtain ⟨ad3, e3, c3⟩ := g4.at_ (p + 3) (by omega)
        injection e1 with e1
        injection e2 with e2
        injection e3 with e3
        subst e1; subst e2; subst e3
        have r0 := hb _ (List.getElem_mem hlt)
        have r1 := hb _ (List.getElem_mem (show p + 1 < bs.length by omega))
        have r2 := hb _ (List.getElem_mem (show p + 2 < bs.length by omega))
        have r3 := hb _ (List.getElem_mem (show p + 3 < bs.length by omega))
        have a0 := at_drop bs p 0
        have a1 := at_drop bs p 1
        have a2 := at_drop bs p 2
        have a3 := at_drop bs p 3
        rw [at_get bs _ (by omega)] at a0 a1 a2 a3
        rw [addr_suc ad p 1] at c1
        rw [addr_suc ad p 2] at c2
        rw [addr_suc ad p 3] at c3
        have d1 : (0 : Int) ≤ (p : Int) + 1 := by omega
        have d2 : (0 : Int) ≤ (p : Int) + 2 := by omega
        have d3 : (0 : Int) ≤ (p : Int) + 3 := by omega
        have n1 : ((p : Int) + 1).toNat = p + 1 := by omega
        have n2 : ((p : Int) + 2).toNat = p + 2 := by omega
        have n3 : ((p : Int) + 3).toNat = p + 3 := by omega
        have b1 : (p : Int) + 1 < bs.length := by omega
        have b2 : (p : Int) + 2 < bs.length := by omega
        have b3 : (p : Int) + 3 < bs.length := by omega
        rw [show bs[p + 0]'(by omega) = bs[p] from rfl] at a0
        generalize bs[p] = x0 at *
        generalize bs[p + 1]'(by omega) = x1 at *
        generalize bs[p + 2]'(by omega) = x2 at *
        generalize bs[p + 3]'(by omega) = x3 at *
        have HA0 := Lib.hid a0
        have HA1 := Lib.hid a1
        have HA2 := Lib.hid a2
        have HA3 := Lib.hid a3
        clear a0 a1 a2 a3
        go_upto_region 6 with fail
        go_cut [6] (fun v wz => v = .int .i64 (256 * x0 + x1) ∧ Fr nothing wr wz)
        case first =>
          have w0_ := wr64 x0 (by omega)
          have w1_ := wr64 x1 (by omega)
          have w2_ := wr64 (256 * x0) (by omega)
          have w3_ := wr64 (256 * x0 + x1) (by omega)
          have w4_ := wr64 ((p : Int) + 1) (by omega)
          have w5_ := wr64 ((p : Int) + 2) (by omega)
          have w6_ := wr64 ((p : Int) + 3) (by omega)
          go_quiet (fail)
          go_wp2
          go_meet
          case rel => exact ⟨rfl, (Fr.refl _ _).drewN _⟩
        case rest =>
        rename World => wq
        obtain ⟨rfl, fq⟩ := hcut
        replace c2 : wq.cell? ⟨ad.block, ad.off + (p + 2), none⟩ = some (.int .u8 x2) := (Fr.cell_ fq (World.block_lt_of_cell? _ _ c2)).trans c2
        replace c3 : wq.cell? ⟨ad.block, ad.off + (p + 3), none⟩ = some (.int .u8 x3) := (Fr.cell_ fq (World.block_lt_of_cell? _ _ c3)).trans c3
        replace O := O.fr fq (fun _ _ h => h)
        replace g4 := RdB.fr g4 fq (fun _ _ _ h => h)
        replace B := Bl.trans B (Bl.of_fr fq B.size (fun k h => h.elim))
        clear fq c0 c1
        go_upto_region 7 with fail
        go_cut [7] (fun v wz => v = .int .i64 (256 * x2 + x3) ∧ Fr nothing wq wz)
        case first =>
          have w0_ := wr64 x2 (by omega)
          have w1_ := wr64 x3 (by omega)
          have w2_ := wr64 (256 * x2) (by omega)
          have w3_ := wr64 (256 * x2 + x3) (by omega)
          have w4_ := wr64 ((p : Int) + 1) (by omega)
          have w5_ := wr64 ((p : Int) + 2) (by omega)
          have w6_ := wr64 ((p : Int) + 3) (by omega)
          go_quiet (fail)
          go_wp2
          go_meet
          case rel => exact ⟨rfl, (Fr.refl _ _).drewN _⟩
        case rest =>
        rename World => wp
        obtain ⟨rfl, fq⟩ := hcut
        replace O := O.fr fq (fun _ _ h => h)
        replace g4 := RdB.fr g4 fq (fun _ _ _ h => h)
        replace B := Bl.trans B (Bl.of_fr fq B.size (fun k h => h.elim))
        clear fq c2 c3
        obtain ⟨n, hn⟩ : ∃ n : Nat, 256 * x2 + x3 = n := ⟨(256 * x2 + x3).toNat, by omega⟩
        rw [hn]
        have hkk0 : 0 ≤ 256 * x0 + x1 ∧ 256 * x0 + x1 < 65536 := by omega
        have HN0 := Lib.hid (show 256 * at_ (bs.drop p) 2 + at_ (bs.drop p) 3 = (n : Int) by rw [HA2.out, HA3.out, hn])
        have HK0 := Lib.hid (show 256 * at_ (bs.drop p) 0 + at_ (bs.drop p) 1 = 256 * x0 + x1 by rw [HA0.out, HA1.out])
        have hn16 : (n : Int) < 65536 := by omega
        generalize 256 * x0 + x1 = kk at *
        have h4' : 4 ≤ (bs.drop p).length := by omega
        clear hn r0 r1 r2 r3 HA0 HA1 HA2 HA3 b1 b2 b3 d1 d2 d3 n1 n2 n3 hd4
        by_cases hn4 : n < 4
        · have HD := Lib.hid (show dec bs = ([], 42) by rw [HDEC.out, dec_err hne (show one (bs.drop p) = .error 42 by unfold one; rw [if_neg (by omega), if_pos (by rw [HN0.out]; omega)]), comb_err _ _ (by decide)])
          have hd : decide ((n : Int) < 4) = true := decide_eq_true (by omega)
          clear hn4 hne
          go_wp2
          go_ret2
          rw [HD.out]
          exact ⟨none, 0, rfl, OwnPm.nil _ _, B⟩
        · have hd : decide ((n : Int) < 4) = false := decide_eq_false (by omega)
          have hn4' : 4 ≤ n := by omega
          clear hn4
          go_upto_region 11 with fail
          rw [show ((n : Int) + 3) / 4 * 4 = ((all n : Nat) : Int) by unfold all; omega]
          have hal : n ≤ all n ∧ all n < n + 4 := by unfold all; omega
          by_cases h5 : bs.length - p < all n
          · have HD := Lib.hid (show dec bs = ([], 40) by rw [HDEC.out, dec_err hne (show one (bs.drop p) = .error 40 by unfold one; rw [if_neg (by omega), HN0.out, Int.toNat_natCast, if_neg (by omega), if_pos (by omega)]), comb_err _ _ (by decide)])
            have hd5 : (bs.length : Int) - p < (all n : Nat) := by omega
            clear h5 hne hal
            go_wp2
            go_ret2
            rw [HD.out]
            exact ⟨none, 0, rfl, OwnPm.nil _ _, B⟩
          · have hd5 : ¬ (bs.length : Int) - p < (all n : Nat) := by omega
            have h5' : all n ≤ (bs.drop p).length := by omega
            have HONE := Lib.hid (one_ok h4' HN0.out hn4' h5')
            rw [HK0.out] at HONE
            have q1 : (p : Int) + n ≤ (p : Int) + (all n : Nat) := by omega
            have q2 : (p : Int) + (all n : Nat) ≤ c := by omega
            have q3 : (0 : Int) ≤ (p : Int) + n := by omega
            have q4 : (p : Int) + n ≤ c := by omega
            have q5 : (0 : Int) ≤ (p : Int) + (all n : Nat) := by omega
            have q6 : (p : Int) + (all n : Nat) ≤ 2000000 := by omega
            have HAL := Lib.hid hal
            have HN4 := Lib.hid hn4'
            generalize all n = an at *
            have HN16 := Lib.hid hn16
            have hn16d : decide ((n : Int) < 65536) = true := decide_eq_true hn16
            have hnn : n ≤ 65535 := by omega
            have han : an ≤ 65540 := by omega
            have hpb : p ≤ 1000000 := by omega
            have hd5' : decide ((bs.length : Int) - p < (an : Int)) = false := decide_eq_false hd5
            clear hal hd hn16 hn16d q6 hd5 q3 q5
            go_upto_region 13 with fail
            obtain ⟨lo1, hw1, hlo⟩ := add_name p n (by omega)
            obtain ⟨hi1, hw2, hhi1⟩ := add_name p an (by omega)
            have l0 : lo1 ≤ hi1 := by have := HAL.out.1; omega
            have l1 : (lo1 : Int) ≤ hi1 := by omega
            have l2 : (hi1 : Int) ≤ c := by omega
            have l3 : (lo1 : Int) ≤ c := by omega
            have HG1 := Lib.hid g1
            have HNN := Lib.hid hnn
            have HAN := Lib.hid han
            have HPB := Lib.hid hpb
            have HLEN := Lib.hid hlen
            have HP := Lib.hid hp
            have HLO := Lib.hid hlo
            have HHI := Lib.hid hhi1
            have HPL := Lib.hid hpl
            have HLT := Lib.hid hlt
            have H4 := Lib.hid h4'
            have H5 := Lib.hid h5'
            have HDL := Lib.hid hdl
            have HNE := Lib.hid hne
            clear hd5' hnn han hpb hlen hp hlo hhi1 hpl hpl1 hlt h4 h4' h5 h5' hdl hne q1 q2 q4 g1 hn4'
            obtain ⟨E, hE⟩ : ∃ E, (if c = lo1 then some ad else some (ad.add lo1)) = E := ⟨_, rfl⟩
            have rP : RdB wp lo hi E ((bs.drop lo1).take (hi1 - lo1)) := by
              rw [← hE]
              exact (g4.drop (n := lo1) (by have := HLO.out; have := HHI.out; have := HLEN.out; have := H5.out; have := HDL.out; have := HAL.out.1; have := HP.out; omega) HG1.out).take _
            have hpad : ((bs.drop p).take an).drop n = (bs.drop lo1).take (hi1 - lo1) := by
              rw [List.drop_take, List.drop_drop, HLO.out, HHI.out, show p + an - (p + n) = an - n by omega]
            have hpl2 : ((bs.drop lo1).take (hi1 - lo1)).length = hi1 - lo1 := by
              rw [List.length_take, List.length_drop]
              have := HLO.out; have := HHI.out; have := H5.out; have := HDL.out; have := HAL.out.1; have := HP.out; omega
            rw [hpad] at HONE
            generalize (bs.drop lo1).take (hi1 - lo1) = pad at rP hpl2 HONE
            have HE := Lib.hid hE
            have HW1 := Lib.hid hw1
            have HW2 := Lib.hid hw2
            go_wp2_with fail
            clear hE hw1 hw2 hpad
            go_loopw [68] (fun i wr => ∃ k : Nat, k ≤ hi1 - lo1 ∧ i = .int .i64 k ∧ (∀ j (h : j < pad.length), j < k → pad[j] = 0) ∧ wr = wp) (fun i _ => (hi1 - lo1) - (intOf i).toNat)
            case atStart => exact ⟨0, Nat.zero_le _, rfl, (fun j _ h => by omega), rfl⟩
            case round =>
              obtain ⟨k, hk, rfl, hz, rfl⟩ := hrel
              by_cases hkl : k < hi1 - lo1
              · obtain ⟨ae, eE, hc⟩ := rP.at_ k (by omega)
                subst eE
                have hkd : (k : Int) < ((hi1 - lo1 : Nat) : Int) := by omega
                have HZ := Lib.hid hz
                have hkb : k ≤ 10 := by have := HLO.out; have := HHI.out; have := HAL.out.2; omega
                by_cases hx : pad[k]'(by omega) = 0
                · have hx2 : (pad[k]'(by omega) != 0) = false := by simp [hx]
                  have HX := Lib.hid hx
                  clear hx hz
                  generalize hxk : pad[k]'(by omega) = x at hc hx2
                  have HXK := Lib.hid hxk
                  clear hxk
                  go_wp2
                  go_roundw
                  case rel =>
                    refine ⟨k + 1, hkl, by go_num, fun j h1 hj => ?_, by first | rfl | trivial⟩
                    rcases Nat.lt_succ_iff_lt_or_eq.1 hj with hj | rfl
                    · exact HZ.out j h1 hj
                    · exact HX.out
                  case measure => exact meas_ _ _ hkl
                · have hx2 : (pad[k]'(by omega) != 0) = true := by simpa using hx
                  have hany : pad.any (fun x => x != 0) = true := List.any_eq_true.2 ⟨_, List.getElem_mem (by omega), hx2⟩
                  have HD := Lib.hid (show dec bs = ([], 42) by rw [HDEC.out, dec_err HNE.out (show one (bs.drop p) = .error 42 by rw [HONE.out, hany, if_pos rfl]), comb_err _ _ (by decide)])
                  clear hx hz hany
                  generalize pad[k]'(by omega) = x at hc hx2
                  go_wp2
                  go_ret2
                  rw [HD.out]
                  exact ⟨none, 0, rfl, OwnPm.nil _ _, B⟩
              · rename World => wz
                have hany : pad.any (fun x => x != 0) = false := by
                  rw [List.any_eq_false]
                  intro x hx
                  obtain ⟨j, hj, rfl⟩ := List.mem_iff_getElem.1 hx
                  simp [hz j hj (by omega)]
                have hkd : ¬ (k : Int) < ((hi1 - lo1 : Nat) : Int) := by omega
                obtain ⟨lo2, hw3, hlo2⟩ := add_name p 4 (by have := HPB.out; omega)
                have HW3 := Lib.hid (show wrap64 ((p : Int) + 4) = (lo2 : Int) from hw3)
                clear hw3
                have hxe : ((bs.drop p).take n).drop 4 = (bs.drop lo2).take (lo1 - lo2) := by
                  rw [List.drop_take, List.drop_drop, hlo2, HLO.out, show p + n - (p + 4) = n - 4 by omega]
                have hxl : ((bs.drop lo2).take (lo1 - lo2)).length = lo1 - lo2 := by
                  rw [List.length_take, List.length_drop]
                  have := HLO.out; have := H5.out; have := HDL.out; have := HAL.out.1; have := HP.out; have := HG1.out; have := HHI.out; omega
                have m0 : lo2 ≤ lo1 := by have := HLO.out; have := HN4.out; omega
                have m1 : (lo2 : Int) ≤ lo1 := by omega
                have m2 : (lo1 : Int) ≤ c := by omega
                have m3 : (lo2 : Int) ≤ c := by omega
                have hxb : lo1 - lo2 ≤ 65535 := by have := HLO.out; have := HNN.out; omega
                obtain ⟨E2, hE2⟩ : ∃ E2, (if c = lo2 then some ad else some (ad.add lo2)) = E2 := ⟨_, rfl⟩
                have rX : RdB wz lo hi E2 ((bs.drop lo2).take (lo1 - lo2)) := by
                  rw [← hE2]
                  exact (g4.drop (n := lo2) (by have := HLO.out; have := HHI.out; have := H5.out; have := HDL.out; have := HAL.out.1; have := HP.out; have := HLT.out; have := H4.out; omega) HG1.out).take _
                rw [hxe] at HONE
                generalize (bs.drop lo2).take (lo1 - lo2) = xs at rX hxl HONE
                have HD := Lib.hid (show dec bs = comb (ps ++ [(kk, xs)]) (dec (bs.drop hi1)) by rw [HDEC.out, dec_ok (show one (bs.drop p) = .ok ((kk, xs), an) by rw [HONE.out, hany, if_neg (by decide)]), comb_comb, List.drop_drop, HHI.out])
                have HXL := Lib.hid hxl
                have hapl : ([] : List Int).length + xs.length ≤ 140737488355328 := by simp; omega
                clear hany hz hk hkl hxe hlo2 hxl rP hpl2
                obtain ⟨W1, hW1⟩ : ∃ W1, (wz.alloc (.cells #[] 5)) = W1 := ⟨_, rfl⟩
                have B1 : Below wz.heap.size wz W1 := by rw [← hW1]; exact (Below.refl _ wz).alloc (Nat.le_refl _) _
                have own0 : W1.ownsRow wz.heap.size 5 1 (.slice (some ⟨wz.heap.size, 0, none⟩) 0 0) ([] : List Int).length (byts []) := by
                  rw [← hW1]
                  exact ⟨rfl, .inr ⟨wz.heap.size, 0, #[], rfl, Nat.le_refl _, heap_alloc_new wz (.cells #[] 5), Nat.le_refl _, Nat.zero_le _, rfl, rfl⟩⟩
                have hW1s : wz.heap.size ≤ W1.heap.size := B1.size
                have rX1 : RdB W1 lo hi E2 xs := RdB.fr rX (Fr.of_below (S := nothing) B1) (fun _ _ _ h => h)
                have hws := B.size
                obtain ⟨AO, cO, eO⟩ := O.shape
                subst eO
                have HO5 := Lib.hid (fun k hk => (O.lt k hk).2)
                have HB5 := Lib.hid (fun k hk => (O.lt k hk).1)
                have HR4 := Lib.hid g4
                have HG2 := Lib.hid g2
                have HG3 := Lib.hid g3
                have HWS := Lib.hid hws
                have HB := Lib.hid B
                have HO := Lib.hid O
                have HB1 := Lib.hid B1
                have HKK := Lib.hid hkk0
                have HQB := Lib.hid (show ps.length ≤ 250000 by have := HPL.out; have := HPB.out; omega)
                have hkd2 : decide (kk < 65536) = true := decide_eq_true hkk0.2
                have hw1 := HW1.out
                have hw3 := HW3.out
                subst hW1
                clear rX g4 hws B O B1 hxb
                go_upto_region 19 with fail
                clear hkd
                go_wp2_with (first | (at_builtin; refine wpList_append_c _ rfl (.tmp 75) (.tmp 88) _ rfl w.heap.size 43 i0 _ 2 32 Try.underlying22 hi0 hz0 hz1 hz2 rfl (by decide) _ qs.length (pcells qs) rfl hrow2 ⟨w2.heap.size, 0, none⟩ 1 1 [.int .u16 kk, .slice B1s xs.length c1s] rfl rfl hnews (by intro u hu; simp at hu; rcases hu with rfl | rfl <;> rfl) hin hby hgb ?_; intro v' w' hown hg hat; have O2 := OwnPm.more HPS.out hel2 o1' hne1 hown hg hat; have fG : Fr (OfV (.slice AO ps.length cO)) (w2.alloc (.cells #[.int .u16 kk, .slice B1s xs.length c1s] 43)) w' := (Fr.refl _ _).grown hg (fun k hk => .inl hk); have HO2 := Lib.hid O2; have HFG := Lib.hid fG; clear hown hg hat O2 fG hel2 o1' hnews hrow2) | (at_builtin; refine wpList_append_b _ rfl (.tmp 78) (.tmp 85) _ rfl wz.heap.size 5 ib Try.underlying26 hib hbz0 hbz1 hbz2 _ [] rfl own0 lo hi _ _ _ xs rfl HXL.out.symm rX1 hapl hW1s ?_; intro v1 w2 hown hg hat; clear hw1 hw3 hE2; have o1 : OwnB w2 wz.heap.size 5 v1 xs := hown; obtain ⟨B1s, c1s, rfl, -, -⟩ := OwnB.slice o1; have G1 : Fr (OfV (.slice (some ⟨wz.heap.size, 0, none⟩) 0 0)) _ w2 := (Fr.refl _ _).grown hg (fun k hk => .inl hk); have FW : Below wz.heap.size wz w2 := Bl.trans HB1.out (Bl.of_fr G1 hW1s (fun k h => by have h2 := Option.some.inj h; simp at h2; omega)); have hws := HWS.out; have hws3 := FW.size; have O3 := OwnPm.fr (S := nothing) HO.out (Fr.of_below FW) (fun _ _ h => h); have P3 := RdB.fr HR4.out (Fr.of_below (S := nothing) FW) (fun _ _ _ h => h); have B3 := Bl.trans HB.out (Bl.low FW hws); obtain ⟨qs, hps, hql, hrow, hel⟩ := O3.split; have hqb : qs.length + 1 ≤ 1000001 := (by have := HQB.out; omega); have hrow2 := row_fr (S := nothing) hrow ((Fr.refl _ w2).alloc (.cells #[.int .u16 kk, .slice B1s xs.length c1s] 43)) (fun _ _ h => h); have hel2 : ∀ q ∈ qs, OwnB (w2.alloc (.cells #[.int .u16 kk, .slice B1s xs.length c1s] 43)) w.heap.size 5 q.2 q.1.2 ∧ ∀ j, q.2.ownBlock = some j → (Value.slice AO ps.length cO).ownBlock ≠ some j := (fun q hq => ⟨OwnB.fr (hel q hq).1 (S := nothing) ((Fr.refl _ w2).alloc _) (fun _ _ h => h), (hel q hq).2⟩); have o1' : OwnB (w2.alloc (.cells #[.int .u16 kk, .slice B1s xs.length c1s] 43)) w.heap.size 5 (.slice B1s xs.length c1s) xs := OwnB.low (OwnB.fr o1 (S := nothing) ((Fr.refl _ w2).alloc _) (fun _ _ h => h)) hws; have hne1 : ∀ j, (Value.slice B1s xs.length c1s).ownBlock = some j → (Value.slice AO ps.length cO).ownBlock ≠ some j := (fun j h1 h2 => by have := OwnB.ge o1 j h1; have := HO5.out j h2; omega); have P4 := RdB.fr P3 (S := nothing) ((Fr.refl _ w2).alloc (.cells #[.int .u16 kk, .slice B1s xs.length c1s] 43)) (fun _ _ _ h => h); have B4 := B3.alloc B3.size (.cells #[.int .u16 kk, .slice B1s xs.length c1s] 43); have hnews := new_two w2 (.int .u16 kk) (.slice B1s xs.length c1s) 43; have hgb : w.heap.size ≤ (w2.alloc (.cells #[.int .u16 kk, .slice B1s xs.length c1s] 43)).heap.size := (by simp; omega); have HPS := Lib.hid hps; have hin : qs.length + 1 ≤ maxLen := (by unfold maxLen; omega); have hby : (qs.length + 1) * 32 ≤ 140737488355328 := (by omega); have HP4 := Lib.hid P4; have HB4 := Lib.hid B4; clear hown hg hat hrow hel o1 P3 B3 hps O3 G1 FW own0 rX1 hapl hW1s hws hws3 hqb P4 B4 hql))
                go_roundw
                case rel =>
                  have fG := HFG.out
                  refine ⟨hi1, ps ++ [(kk, xs)], ?_, by rw [HW2.out], HD.out, ?_, HO2.out, ⟨some ad, c, rfl, HG1.out, g2, g3, HP4.out.fr fG (fun b _ h2 h => ?_)⟩, Bl.trans HB4.out (Bl.of_fr fG HB4.out.size (fun b h => HB5.out _ h))⟩
                  · have := HHI.out; have := H5.out; have := HDL.out; have := HP.out; omega
                  · have := HHI.out; have := HPL.out; have := HAL.out; have := HN4.out; rw [List.length_append]; simp; omega
                  · have := HB5.out _ h; omega
                case measure =>
                  rw [HW2.out]
                  exact meas2_ _ _ _ (by have := HHI.out; have := HAL.out; have := HN4.out; have := HLT.out; omega)
    · obtain rfl : p = bs.length := by omega
      have HD := Lib.hid (show dec bs = (ps, 0) by rw [HDEC.out, List.drop_length, dec_nil]; simp [comb])
      obtain ⟨A5, c5, rfl⟩ := O.shape
      have hpl1 : ¬ ((bs.length : Nat) : Int) < bs.length := by omega
      go_wp2
      go_ret2
      rw [HD.out]
      exact ⟨_, _, rfl, O, B⟩
end Go.Proofs.Ytoknjnaianhjaaa.Prm
